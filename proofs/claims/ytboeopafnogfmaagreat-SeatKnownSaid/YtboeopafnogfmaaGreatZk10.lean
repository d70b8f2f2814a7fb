/-
  Texts of mine, put together by program (wip/slim.py), for law_seatKnown: part 10.
-/
import Derived.Test.YtboeopafnogfmaaGreatZk9
import Derived.Defers
import Derived.Laws.Pointers
import Derived.Laws.LoneSync
noncomputable section
set_option linter.unusedVariables false
set_option linter.unusedSimpArgs false
set_option linter.defProp false
set_option maxRecDepth 100000
/- Once1 -/
namespace Go.Ax
open Go.Proofs
theorem zqt(w:World):(callFunc 286 #[]).run Tryz.prog w = .ok (.value (.tuple #[])) w:=run_call_mark0 Tryz.func286 (by kernel_rfl) (by kernel_rfl) (by kernel_rfl) .disable (by kernel_rfl) w
theorem zst(w:World):(callFunc 288 #[]).run Tryz.prog w = .ok (.value (.tuple #[])) w:=run_call_mark0 Tryz.func288 (by kernel_rfl) (by kernel_rfl) (by kernel_rfl) .enable (by kernel_rfl) w
theorem zvL(a:Addr)(w:World):(callFunc 289 #[.pointer (some a)]).run Tryz.prog w = .ok (.value (.tuple #[])) w:=run_call_marked Tryz.func289 (by kernel_rfl) (by kernel_rfl) (by kernel_rfl) .acquire (by kernel_rfl) a w
theorem zvK(a:Addr)(w:World):(callFunc 291 #[.pointer (some a)]).run Tryz.prog w = .ok (.value (.tuple #[])) w:=run_call_marked Tryz.func291 (by kernel_rfl) (by kernel_rfl) (by kernel_rfl) .releaseMerge (by kernel_rfl) a w
set_option maxRecDepth 100000 in
set_option maxHeartbeats 1600000 in
theorem o_store(a:Addr)(x:Value)(u:FrameMode)(w:World)(hc:w.cell? a=some x)(hz:w.frozen? a=false) :
  CallsD Tryz.prog 276 #[.pointer (some a),.bool true] u w λe u' w'=>u'=u∧(e = .returned (.tuple #[])∧w'=w.drew.setCell a (.int .u32 1)):=by
 have hc':w.drew.cell? a=some x:=by go_simp
 have hz':w.drew.frozen? a=false:=by go_simp
 have hst:=run_call_store (P:=Tryz.prog) Tryz.func281 (by kernel_rfl) (by kernel_rfl) (by kernel_rfl) (by kernel_rfl) (k:=.u32) (y:=1) hc' hz'
 go_enter_d Tryz.func276,Tryz.ntmps276
 go_wp2
 go_region_calls
 all_goals (go_end0; exact⟨rfl,rfl⟩)
set_option maxRecDepth 100000 in
set_option maxHeartbeats 1600000 in
theorem o_unlock(a:Addr)(u:FrameMode)(w:World) (hc:w.cell? a=some (.int .i32 1)) (hz:w.frozen? a=false) :
  CallsD Tryz.prog 275 #[.pointer (some a)] u w λe u' w'=>u'=u∧(e = .returned (.tuple #[])∧w'=w.setCell a (.int .i32 0)):=by
 have hd:=zqt;have he:=zst;have hr:=zvK;have hadd:=run_call_add (P:=Tryz.prog) Tryz.func292 (by kernel_rfl) (by kernel_rfl) (by kernel_rfl) .i32 (by kernel_rfl) (y:=-1) (s:=0) hc hz (by simp[go_sem]; rfl);have hcv:=run_convert_to_unsafe (P:=Tryz.prog) (src:=414) (dst:=418) Tryz.underlying414 Tryz.underlying418 (by kernel_rfl) hc
 go_enter_d Tryz.func275,Tryz.ntmps275
 go_wp2
 go_end0
 go_wp2
 go_end0
 exact⟨rfl,rfl⟩
set_option maxRecDepth 100000 in
set_option maxHeartbeats 1600000 in
theorem o_lock(a:Addr)(w:World) (hc:w.cell? a=some (.int .i32 0)) (hz:w.frozen? a=false) :
  Calls Tryz.prog 274 #[.pointer (some a)] w λe w'=>e = .returned (.tuple #[])∧w'=w.setCell a (.int .i32 1):=by
 have hd:=zqt;have he:=zst;have ha:=zvL;have hcas:=run_call_cas_hit (P:=Tryz.prog) Tryz.func287 (by kernel_rfl) (by kernel_rfl) (by kernel_rfl) .i32 (by kernel_rfl) (y:=1) hc hz;have hc':(w.setCell a (.int .i32 1)).cell? a=some (.int .i32 1):=World.cell?_setCell_same w a _ hc;have hcv:=run_convert_to_unsafe (P:=Tryz.prog) (src:=414) (dst:=418) Tryz.underlying414 Tryz.underlying418 (by kernel_rfl) hc'
 go_enter Tryz.func274,Tryz.ntmps274
 go_wp2
 first|go_end0|(simp only[Exit.inBlock,Exit.then]; refine bodyPost_ret (results_none rfl _ _ _) rfl ?_)|refine bodyPost_ret (results_none rfl _ _ _) rfl ?_
 go_wp2
 go_end0
 exact⟨rfl,rfl⟩
set_option maxRecDepth 100000 in
set_option maxHeartbeats 1600000 in
theorem o_slow (g:FuncId) (gfn:Func) (hg:Tryz.prog.funcs[g]? = some gfn) (hgb:gfn.body.isSome = true) (hgn:(gfn.name == "runtime.NumGoroutine") = false) (caps:Array Value) (b off:Nat) (w:World) (R:World → Prop)
  (h0:w.cell? ⟨b,off,none⟩ = some (.int .u32 0)) (h1:w.cell? ⟨b,off + 1,none⟩ = some (.int .i32 0)) (f1:w.frozen? ⟨b,off + 1,none⟩ = false)
  (hR:Calls Tryz.prog g caps (w.setCell ⟨b,off + 1,none⟩ (.int .i32 1)) fun e w'=>∃ x,e = .returned x ∧ R w')
  (hR0:∀ w',R w' → w'.cell? ⟨b,off,none⟩ = some (.int .u32 0) ∧ w'.cell? ⟨b,off + 1,none⟩ = some (.int .i32 1) ∧ w'.frozen? ⟨b,off,none⟩ = false ∧ w'.frozen? ⟨b,off + 1,none⟩ = false) :
  Calls Tryz.prog 267 #[.pointer (some ⟨b,off,none⟩),.func (.func g) #[] caps] w fun e w'=>e = .returned (.tuple #[]) ∧
   ∃ w1,R w1 ∧ w' = (w1.drew.setCell ⟨b,off,none⟩ (.int .u32 1)).setCell ⟨b,off + 1,none⟩ (.int .i32 0):=by
 have hl:=run_call_load (P:=Tryz.prog) Tryz.func273 (by kernel_rfl) (by kernel_rfl) (by kernel_rfl) .u32 (by kernel_rfl) (w:=w.setCell ⟨b,off + 1,none⟩ (.int .i32 1)) (a:=⟨b,off,none⟩) (x:=0) ((World.cell?_setCell_other _ ⟨b,off + 1,none⟩ ⟨b,off,none⟩ _ (by simp)).trans h0);have hnot:∀ (x:Bool) (w:World),(Op.unary .not (.bool x)).run Tryz.prog w = .ok (.bool (!x)) w:=fun _ _=>rfl;have hgn':gfn.name ≠ "runtime.NumGoroutine":=by simpa using hgn
 have hgb':gfn.body ≠ none:=by intro h; rw [h] at hgb; cases hgb
 have hcf:∀ w:World,(callFunc g caps).run Tryz.prog w = .ok (.enter g caps) w:=fun w=>by simp [callFunc,hg,hgn',hgb']
 go_enter_defers Tryz.func267,Tryz.ntmps267
 go_wp2_with (first | (go_at_call 266; go_in) | (go_at_call 274; refine (o_lock ⟨b,off + 1,none⟩ _ (by go_simp) (by go_simp)).mono ?_; rintro e w' ⟨rfl,rfl⟩) | (refine Calls.mono hR ?_; rintro e w1 ⟨x,rfl,hRw⟩; obtain ⟨k0,k1,z0,z1⟩:=hR0 _ hRw))
 refine leaves_cons (f:=276) (args:=#[.pointer (some ⟨b,off,none⟩),.bool true]) (by simp) (by simp [go_sem]) ?_;refine (o_store ⟨b,off,none⟩ (.int .u32 0) .returning w1 k0 z0).mono ?_;rintro e u' w'' ⟨rfl,rfl,rfl⟩;have c1:(w1.drew.setCell ⟨b,off,none⟩ (.int .u32 1)).cell? ⟨b,off + 1,none⟩ = some (.int .i32 1):=(World.cell?_setCell_other _ ⟨b,off,none⟩ ⟨b,off + 1,none⟩ _ (by simp)).trans (by rw [World.cell?_drew]; exact k1);refine leaves_cons (f:=275) (args:=#[.pointer (some ⟨b,off + 1,none⟩)]) (by simp [settle]) (by simp [go_sem]) ?_;refine (o_unlock ⟨b,off + 1,none⟩ _ _ c1 (by simp [z1])).mono ?_;rintro e u' w'' ⟨rfl,rfl,rfl⟩;refine ⟨.tuple #[],by simp [Go.results,Tryz.results267],rfl,w1,hRw,rfl⟩
end Go.Ax
/- Once -/
namespace Go.Ax
open Go.Proofs
set_option maxRecDepth 100000 in
set_option maxHeartbeats 1600000 in
theorem o_first (g:FuncId) (gfn:Func) (hg:Tryz.prog.funcs[g]? = some gfn) (hgb:gfn.body.isSome = true) (hgn:(gfn.name == "runtime.NumGoroutine") = false) (caps:Array Value) (b off:Nat) (w:World) (R:World → Prop)
  (h0:w.cell? ⟨b,off,none⟩ = some (.int .u32 0)) (h1:w.cell? ⟨b,off + 1,none⟩ = some (.int .i32 0)) (f1:w.frozen? ⟨b,off + 1,none⟩ = false)
  (hR:Calls Tryz.prog g caps (w.setCell ⟨b,off + 1,none⟩ (.int .i32 1)) fun e w'=>∃ x,e = .returned x ∧ R w')
  (hR0:∀ w',R w' → w'.cell? ⟨b,off,none⟩ = some (.int .u32 0) ∧ w'.cell? ⟨b,off + 1,none⟩ = some (.int .i32 1) ∧ w'.frozen? ⟨b,off,none⟩ = false ∧ w'.frozen? ⟨b,off + 1,none⟩ = false) :
  Calls Tryz.prog 259 #[.pointer (some ⟨b,off,none⟩),.func (.func g) #[] caps] w fun e w'=>e = .returned (.tuple #[]) ∧
   ∃ w1,R w1 ∧ w' = (w1.drew.setCell ⟨b,off,none⟩ (.int .u32 1)).setCell ⟨b,off + 1,none⟩ (.int .i32 0):=by
 have hl:=run_call_load (P:=Tryz.prog) Tryz.func273 (by kernel_rfl) (by kernel_rfl) (by kernel_rfl) .u32 (by kernel_rfl) h0;have hnot:∀ (x:Bool) (w:World),(Op.unary .not (.bool x)).run Tryz.prog w = .ok (.bool (!x)) w:=fun _ _=>rfl
 go_enter Tryz.func259,Tryz.ntmps259
 go_wp2_with (first | (go_at_call 267; refine (o_slow g gfn hg hgb hgn caps b off _ R h0 h1 f1 hR hR0).mono ?_; rintro e w' ⟨rfl,w1,hw1,rfl⟩) | (go_at_call 266; go_in))
 go_end0
 exact ⟨rfl,_,hw1,rfl⟩
theorem o_done(a:Addr)(d:Int)(hd:¬d=0)(fv:Value)(w:World) (h0:w.cell? a=some (.int .u32 d)) :
  Calls Tryz.prog 259 #[.pointer (some a),fv] w λe w'=>e = .returned (.tuple #[])∧w'=w:=by
 have hl:=run_call_load (P:=Tryz.prog) Tryz.func273 (by kernel_rfl) (by kernel_rfl) (by kernel_rfl) .u32 (by kernel_rfl) h0;have hnot:∀(x:Bool) (w:World),(Op.unary .not (.bool x)).run Tryz.prog w = .ok (.bool (!x)) w:=λ_ _=>rfl;have hd':(d != 0)=true:=by simp[hd]
 go_enter Tryz.func259,Tryz.ntmps259
 go_wp2
 go_end0
 exact⟨rfl,rfl⟩
theorem once_fn:FnOk Tryz.prog 259 zlg:=by
 intro G args H v H' hG hl h;obtain⟨p,g,rfl,rfl,d,hld,hcase⟩:=once_run hl h;refine⟨?_,?_,_,Tryz.func259,by kernel_rfl,by kernel_rfl⟩
 ·rcases hcase with⟨_,rfl⟩|⟨_,id,off,b,_,hb,_,_,f,caps,x,H2,b2,_,hcall,hb2,_,_,rfl⟩
  ·exact le_refl _
  ·exact le_trans (zhv hb _) (le_trans (hG _ _ _ _ _ hcall).1 (le_trans (zhv hb2 _) (zhv (b:={ b2 with cells:=splice b2.cells off [.int .u32 1] }) (by simp[Heap.set]) _)))
 ·intro m Z w xs hr hf hxs;obtain⟨X,Y,rfl⟩:∃X Y,xs=[X,Y]:=by
   have:=hxs.1
   match xs,this with
   | [X,Y],_=>exact⟨X,Y,rfl⟩
  have hX:Rep m Z w p X:=hxs.2 0 p X rfl rfl;have hY:Rep m Z w g Y:=hxs.2 1 g Y rfl rfl;obtain⟨_,a,x,rfl,hc,hx⟩:=ztI hld hX hr;have hx:=hx.inv_int;subst hx;rcases hcase with⟨hd,rfl⟩|⟨rfl,id,off,b,rfl,hb,hc0,hc1,f,caps,x,H2,b2,rfl,hcall,hb2,hc2,hc3,rfl⟩
  ·refine(o_done a d hd Y w hc).mono ?_;rintro e w' ⟨rfl,rfl⟩;exact⟨m,Z,.tuple #[],rfl,.tup rfl λj v x hv=>by simp at hv,hr,.refl _ _ _ _⟩
  ·obtain⟨l,hm,hXe⟩:=hX.inv_ptr;injection hXe with hXe
   injection hXe with hXe
   subst hXe;obtain⟨⟨x1,hx1,hr1⟩,f1⟩:=zh4 hr hb hm hc1;have hr1:=hr1.inv_int;subst hr1;obtain⟨cv,rfl,hcl,hcr⟩:∃cv:Array Value,Y = .func (.func f) #[] cv∧cv.size=caps.length∧∀(j:Nat) (v:V) (x:Value),caps[j]?=some v→cv[j]?=some x→Rep m Z w v x:=by
    cases hY with
    | fn hl h=>exact⟨_,rfl,hl,h⟩
   have eo:off+1+l.bo=off+l.bo+1:=by omega
   have hlen:off+1+1≤b.cells.length:=by
    have:=(List.getElem?_eq_some_iff.1 hc1).1;omega
   obtain⟨r1,e1⟩:=zjU Tryz.prog (v:=.int .i32 1) (x:=.int .i32 1) hr hb hm (.int _ _) rfl hlen;rw[eo]at r1 e1 hx1 f1;obtain⟨_,hcalls,gfn,hgfn,hgb,hgn⟩:=hG _ _ _ _ _ hcall;have hcv:=hcalls m Z _ cv.toList r1 (λi h1 h2=>hf i (by simpa [Heap.set]using h1) (by simpa [Heap.set]using h2))
    ⟨by simpa using hcl,λj v x hv hx=>(hcr j v x hv (by simpa using hx)).ext hr e1⟩
   refine(o_first f gfn hgfn hgb hgn cv l.blk (off+l.bo) w (λw2=>∃m2 Z2,RelH m2 Z2 H2 w2∧Ext m Z (H.set id (some { b with cells:=splice b.cells (off+1) [.int .i32 1] })) (w.setCell ⟨l.blk,off+l.bo+1,none⟩ (.int .i32 1)) m2 Z2 H2 w2) hc hx1 f1 (hcv.mono ?_) ?_).mono ?_
   ·rintro e w2 ⟨m2,Z2,x2,rfl,_,r2,e2⟩;exact⟨x2,rfl,m2,Z2,r2,e2⟩
   ·rintro w2 ⟨m2,Z2,r2,e2⟩;have hm2:AtC m2 id l:=⟨e2.map id l hm.1,hm.2⟩;obtain⟨⟨y0,hy0,q0⟩,z0⟩:=zh4 r2 hb2 hm2 hc2;obtain⟨⟨y1,hy1,q1⟩,z1⟩:=zh4 r2 hb2 hm2 hc3;have q0:=q0.inv_int;have q1:=q1.inv_int;subst q0 q1;rw[eo]at hy1 z1;exact⟨hy0,hy1,z0,z1⟩
   ·rintro e w' ⟨rfl,w1,⟨m2,Z2,r2,e2⟩,rfl⟩;have hm2:AtC m2 id l:=⟨e2.map id l hm.1,hm.2⟩;have hl2:off+1+1≤b2.cells.length:=by
     have:=(List.getElem?_eq_some_iff.1 hc3).1;omega
    obtain⟨r3,e3⟩:=zjU Tryz.prog (v:=.int .u32 1) (x:=.int .u32 1) r2.drew hb2 hm2 (.int _ _) rfl (by omega:off+1≤b2.cells.length);have hb3:(H2.set id (some { b2 with cells:=splice b2.cells off [.int .u32 1] })).get id=some { b2 with cells:=splice b2.cells off [.int .u32 1] }:=by simp[Heap.set]
    obtain⟨r4,e4⟩:=zjU Tryz.prog (off:=off+1) (v:=.int .i32 0) (x:=.int .i32 0) r3 hb3 hm2 (.int _ _) rfl (by
     show off+1+1≤(splice b2.cells off [.int .u32 1]).length;rw[zdI _ _ _ (by simpa using (by omega:off+1≤b2.cells.length))];exact hl2)
    rw[eo]at r4 e4;exact⟨m2,Z2,.tuple #[],rfl,.tup rfl λj v x hv=>by simp at hv,r4,(e1.trans e2).trans ((Ext.drew m2 Z2 H2 w1).trans (e3.trans e4))⟩
theorem ztA:((List.range Tryz.prog.funcs.size).all fun i=>i == 259 || (match Tryz.prog.funcs[i]? with | some fn=>!(fn.name == "(*sync.Once).Do") | none=>true)) = true:=by kernel_rfl
set_option maxRecDepth 100000 in
theorem once_ok (f:FuncId) (fn:Func) (hf:Tryz.prog.funcs[f]? = some fn) (hn:(fn.name == "(*sync.Once).Do") = true):FnOk Tryz.prog f zlg:=by
 have h1:f < Tryz.prog.funcs.size:=(Array.getElem?_eq_some_iff.1 hf).1;have h2:=List.all_eq_true.1 ztA f (List.mem_range.2 h1);rw [hf] at h2;simp only [hn,Bool.not_true,Bool.or_false,beq_iff_eq] at h2;subst h2;exact once_fn
end Go.Ax
/- Drop -/
namespace Go.Ax
open Go.Proofs
def DropR(m:Map)(Z:Nat→Prop)(H:Heap)(w:World)(H1 H2 H3:Heap)(i:Nat)(w':World):Prop :=
 RelH m Z (if i=0 then H else if i=1 then H1 else if i=2 then H2 else H3) w'∧Ext m Z H w m Z (if i=0 then H else if i=1 then H1 else if i=2 then H2 else H3) w'
theorem zmm{m:Map}{Z:Nat→Prop}{Ha Hb:Heap}{w':World}{p:Bool}{id off:Nat}{n:Int}{l:Loc}(s:zlE p id off n Ha Hb)(hm:AtC m id l)(r:RelH m Z Ha w') :
  ∃bm es clock,w'.cell? ⟨l.blk,off+l.bo,none⟩=some (.map (some bm))∧w'.heap[bm]?=some (.map es clock)∧Goes p es.toList clock∧l.blk≠bm ∧
   ∀rr seen c0 w'',Drp w' bm rr clock (es.toList.filter λe=>za2 p n e.key) seen c0 w''→RelH m Z Hb w''∧Ext m Z Ha w' m Z Hb w'':=by
 obtain⟨b0,i,b,cs,h0,hc,hb,hf,rfl⟩:=s;obtain⟨⟨x,hx,hr⟩,_⟩:=zh4 r h0 hm hc;obtain⟨li,hmi,rfl⟩:=hr.inv_mp;obtain⟨es,clock,L⟩:=r.atM hb hmi;obtain⟨g,he⟩:=goes_of L hf;refine⟨li.blk,es,clock,hx,L.heap,g,λe=>?_,λrr seen c0 w'' d=>drp_rel r hb hmi L List.filter_sublist he d⟩;obtain⟨cur,fz,hL⟩:=r.at_ h0 hm;have h1:=hL.heap;rw[e,L.heap]at h1;cases h1
theorem drop_fn:FnOk Tryz.prog 142 zlx:=by
 intro G args H v H' hG hl h;obtain⟨id,off,n,H1,H2,rfl,rfl,s1,s2,s3⟩:=drop_run hl h;refine⟨le_trans s1.le (le_trans s2.le s3.le),?_,_,Tryz.func142,by kernel_rfl,by kernel_rfl⟩;intro m Z w xs hr hf hxs;obtain⟨X,Y,rfl⟩:∃X Y,xs=[X,Y]:=by
  have:=hxs.1
  match xs,this with
  | [X,Y],_=>exact⟨X,Y,rfl⟩
 have hX:Rep m Z w (.ptr id off) X:=hxs.2 0 _ X rfl rfl;have hY:Rep m Z w (.int .i64 n) Y:=hxs.2 1 _ Y rfl rfl;have hY:=hY.inv_int;subst hY;obtain⟨l,hm,rfl⟩:=hX.inv_ptr;refine(d_drop l.blk (off+l.bo) n w (DropR m Z H w H1 H2 H') ⟨hr,.refl _ _ _ _⟩ ?_).mono ?_
 ·rintro i w' hi ⟨r,e⟩
  match i,hi with
  | 0,_ =>
   obtain⟨bm,es,clock,h1,h2,h3,h4,h5⟩:=zmm s1 hm r;rw[show off+1+l.bo=off+l.bo+(0+1) by omega]at h1;exact⟨bm,es,clock,h1,h2,h3,h4,λrr seen c0 w'' d=>⟨(h5 rr seen c0 w'' d).1,e.trans (h5 rr seen c0 w'' d).2⟩⟩
  | 1,_ =>
   obtain⟨bm,es,clock,h1,h2,h3,h4,h5⟩:=zmm s2 hm r;rw[show off+2+l.bo=off+l.bo+(1+1) by omega]at h1;exact⟨bm,es,clock,h1,h2,h3,h4,λrr seen c0 w'' d=>⟨(h5 rr seen c0 w'' d).1,e.trans (h5 rr seen c0 w'' d).2⟩⟩
  | 2,_ =>
   obtain⟨bm,es,clock,h1,h2,h3,h4,h5⟩:=zmm s3 hm r;rw[show off+3+l.bo=off+l.bo+(2+1) by omega]at h1;exact⟨bm,es,clock,h1,h2,h3,h4,λrr seen c0 w'' d=>⟨(h5 rr seen c0 w'' d).1,e.trans (h5 rr seen c0 w'' d).2⟩⟩
 ·rintro e w' ⟨rfl,r,ee⟩;exact⟨m,Z,.tuple #[],rfl,.tup rfl λj v x hv=>by simp at hv,r,ee⟩
theorem zt7:((List.range Tryz.prog.funcs.size).all fun i=>i == 142 || (match Tryz.prog.funcs[i]? with | some fn=>!(fn.name == "(*palanquin/lock.Receiver).Drop") | none=>true)) = true:=by kernel_rfl
set_option maxRecDepth 100000 in
theorem drop_ok (f:FuncId) (fn:Func) (hf:Tryz.prog.funcs[f]? = some fn) (hn:(fn.name == "(*palanquin/lock.Receiver).Drop") = true):FnOk Tryz.prog f zlx:=by
 have h1:f < Tryz.prog.funcs.size:=(Array.getElem?_eq_some_iff.1 hf).1;have h2:=List.all_eq_true.1 zt7 f (List.mem_range.2 h1);rw [hf] at h2;simp only [hn,Bool.not_true,Bool.or_false,beq_iff_eq] at h2;subst h2;exact drop_fn
end Go.Ax
/- FnS0 -/
namespace Go.Ax
open Go.Proofs
def zdf:TypeId:=3
def zaa:TypeId:=5
def zal:TypeId:=31
def zmi:TypeId:=33
def ziN:TypeId:=102
def zac:TypeId:=138
def zaL:TypeId:=145
def zcG:TypeId:=151
def zbh:TypeId:=154
def zdC:TypeId:=159
def zak:TypeId:=170
def zfL:TypeId:=216
def zaH:TypeId:=221
def zb7:TypeId:=243
def zcU:TypeId:=244
def zde:TypeId:=245
def zb4:TypeId:=247
def zav:TypeId:=294
def zad:TypeId:=296
def zaU:TypeId:=304
def zcD:TypeId:=319
def zbM:TypeId:=354
def zct:TypeId:=355
def zaY:TypeId:=383
def za5:TypeId:=390
def zay:TypeId:=392
def zao:TypeId:=394
def zbm:TypeId:=395
def zcu:TypeId:=397
def zbk:FuncId:=3
def zbE:FuncId:=9
def zby:FuncId:=10
def zcf:FuncId:=42
def zn6:FuncId:=43
def zbT:FuncId:=16
def zaS:FuncId:=15
def zaG:FuncId:=14
def zg6:FuncId:=61
def zhK:FuncId:=93
def zgz:FuncId:=162
def ziX:FuncId:=163
def zim:FuncId:=164
def zg4:FuncId:=165
def zkc:FuncId:=72
def zaK:FuncId:=13
def zcx:FuncId:=53
def zm2:FuncId:=128
def zqH:FuncId:=129
def zt2:FuncId:=194
def zn0:FuncId:=195
def zm1:FuncId:=196
def zch:FuncId:=55
def zbp:FuncId:=60
def zdc:FuncId:=131
def zcz:FuncId:=132
def zcE:FuncId:=134
def zdo:FuncId:=200
def zfR:FuncId:=199
def zdp:FuncId:=232
def zgt:FuncId:=225
def zel:FuncId:=244
def zdO:FuncId:=245
def za4:FuncId:=246
def za7:FuncId:=257
def zci:FuncId:=263
def zbW:FuncId:=269
def zbu:FuncId:=270
def zbI:FuncId:=271
def zdE:FuncId:=277
def zb6:FuncId:=283
def zdD:FuncId:=284
def zda:FuncId:=294
def zdb:FuncId:=295
def zd4:FuncId:=305
def zbU:FuncId:=278
def zbl:FuncId:=285
def zcn:FuncId:=259
def zeb:FuncId:=264
def zau:FuncId:=265
def zbr:FuncId:=272
def zbC:FuncId:=248
def zca:FuncId:=258
def zgs:FuncId:=247
def zcA:FuncId:=233
def zcP:FuncId:=133
def zke:FuncId:=197
def zhe:FuncId:=198
def zco:FuncId:=192
def zbj:FuncId:=222
def zfU:FuncId:=234
def zbc:FuncId:=250
def zcb:FuncId:=260
def zbK:FuncId:=261
def zba:FuncId:=251
def zbJ:FuncId:=262
def zaX:FuncId:=268
def zbS:FuncId:=135
def zhx:FuncId:=136
def zk0:FuncId:=140
def zjA:FuncId:=203
def zb9:FuncId:=104
def zdN:FuncId:=172
def zcY:FuncId:=221
def zcw:FuncId:=173
def zbQ:FuncId:=174
def zdK:FuncId:=223
def zdn:FuncId:=243
def zdm:FuncId:=256
def zcc:FuncId:=242
def zcF:FuncId:=253
def zcQ:FuncId:=254
def zec:FuncId:=255
def zcg:FuncId:=176
def zeY:FuncId:=175
def zfc:FuncId:=137
def zdq:FuncId:=138
def zeH:FuncId:=201
def zcX:FuncId:=54
def zpn:FuncId:=130
def zgw:FuncId:=56
def zlL:FuncId:=139
def zk1:FuncId:=191
def zm0:FuncId:=202
def zgu:FuncId:=57
def zgv:FuncId:=58
def zka:FuncId:=126
def zm3:FuncId:=120
def zn1:FuncId:=188
def zlM:FuncId:=189
def zrM:FuncId:=193
def ziZ:FuncId:=141
def znZ:FuncId:=204
def zhw:FuncId:=59
def zir:FuncId:=142
def zaJ:FuncId:=18
def zb5:FuncId:=44
def zbB:FuncId:=17
def zaE:FuncId:=11
def zbA:FuncId:=45
def zbL:FuncId:=49
def zdF:FuncId:=103
def zm4:FuncId:=111
def zn5:FuncId:=170
def zlN:FuncId:=178
def zkf:FuncId:=227
def zeg:FuncId:=226
def zfb:FuncId:=249
def zlO:FuncId:=215
def zn3:FuncId:=182
def zk2:FuncId:=216
def zlQ:FuncId:=218
def zgC:FuncId:=219
def zm5:FuncId:=180
def zbz:FuncId:=217
def zbR:FuncId:=240
def zkg:FuncId:=171
def zlP:FuncId:=220
def zgY:FuncId:=241
def zd9:FuncId:=46
def zcy:FuncId:=47
def zaZ:FuncId:=48
def zn4:FuncId:=105
def zn2:FuncId:=177
def zgX:FuncId:=179
def zrO:FuncId:=106
def zi2:FuncId:=107
def zi1:FuncId:=108
def zkh:FuncId:=181
def zkd:FuncId:=228
def zi3:FuncId:=109
def zfK:FuncId:=110
def zis:FuncId:=112
def zi4:FuncId:=183
def zpo:FuncId:=229
def zi0:FuncId:=113
def zfT:FuncId:=50
def zgZ:FuncId:=114
def zc9:FuncId:=185
def zea:FuncId:=186
def zaD:FuncId:=184
def zaQ:FuncId:=230
def zfS:FuncId:=116
def zc8:FuncId:=115
def zdL:FuncId:=117
def zbq:FuncId:=12
def zqG:FuncId:=51
def zt1:FuncId:=118
def zlK:FuncId:=119
def zrN:FuncId:=187
def znY:FuncId:=231
def ziq:FuncId:=52
def zqI:FuncId:=121
def zia:FuncId:=122
def zpm:FuncId:=123
def znX:FuncId:=190
def zjB:FuncId:=124
def ziY:FuncId:=125
def znW:FuncId:=127
def zfm:FuncId:=4
def zhO:FuncId:=19
def zhP:FuncId:=22
def zg5:FuncId:=34
def zil:FuncId:=92
def zhd:FuncId:=21
def zhc:FuncId:=20
def zih:FuncId:=23
def zfo:FuncId:=5
def zfn:FuncId:=6
def zeX:FuncId:=7
def zie:FuncId:=24
def zg9:FuncId:=62
def zfj:FuncId:=25
def zej:FuncId:=63
def zfF:FuncId:=68
def zgy:FuncId:=70
def zik:FuncId:=146
def ziV:FuncId:=205
def zg3:FuncId:=235
def zhI:FuncId:=236
def za6:FuncId:=252
def zg2:FuncId:=71
def zeT:FuncId:=67
def zio:FuncId:=36
def zhN:FuncId:=145
def zgB:FuncId:=37
def zg1:FuncId:=95
def ziW:FuncId:=166
def zbo:FuncId:=167
def zig:FuncId:=212
def zfH:FuncId:=35
def zfh:FuncId:=94
def zfk:FuncId:=38
def zgA:FuncId:=96
def zg8:FuncId:=168
def zeU:FuncId:=97
def zeV:FuncId:=98
def zhJ:FuncId:=169
def zii:FuncId:=214
def zfI:FuncId:=213
def zif:FuncId:=238
def zgx:FuncId:=239
def zfJ:FuncId:=100
def zij:FuncId:=99
def zfG:FuncId:=143
def zeu:FuncId:=84
def zfi:FuncId:=64
def zhb:FuncId:=86
def zfg:FuncId:=65
def zeS:FuncId:=66
def zfl:FuncId:=87
def zev:FuncId:=82
def zhL:FuncId:=154
def zg7:FuncId:=155
def zek:FuncId:=144
def zd3:FuncId:=69
def zhQ:FuncId:=26
def zhG:FuncId:=27
def zkb:FuncId:=73
def zgb:FuncId:=74
def zid:FuncId:=28
def zhF:FuncId:=29
def zga:FuncId:=75
def zeQ:FuncId:=147
def zeR:FuncId:=81
def zff:FuncId:=206
def zdM:FuncId:=76
def zeh:FuncId:=148
def zfe:FuncId:=78
def zfE:FuncId:=149
def zei:FuncId:=207
def zhH:FuncId:=237
def ziU:FuncId:=150
def zic:FuncId:=77
def zib:FuncId:=151
def zg0:FuncId:=152
def zjC:FuncId:=79
def zhE:FuncId:=153
def zfd:FuncId:=80
def zd2:FuncId:=30
def zha:FuncId:=83
def zhM:FuncId:=85
def zin:FuncId:=156
def zeW:FuncId:=208
def hintRows:List (Nat×List (List Nat)):=[
 (zbk,[]),
 (zbE,[]),
 (zby,[]),
 (zcf,[[]]),
 (zn6,[]),
 (zbT,[[0,1,2,3,4,5,6,7,8,9,10,11,12,13,14,15]]),
 (zaS,[[],[12],[],[]]),
 (zaG,[]),
 (zg6,[[0,1,2,3,4,6,7,5,8,9,10]]),
 (zhK,[[],[139],[4]]),
 (zgz,[[],[20],[17],[10],[6],[6]]),
 (ziX,[]),
 (zim,[[],[5],[]]),
 (zg4,[[],[3],[]]),
 (zkc,[[7],[7,8],[7]]),
 (zaK,[[],[],[]]),
 (zcx,[[],[0,2,3,1,4,5],[0,1,2,3,4,5,6,7,8,9,10,11,12,14,16,13,15,17,18,19,20]]),
 (zm2,[[0,1,2,3,4,5,6,7,8,9,10,11,12,13]]),
 (zqH,[[]]),
 (zt2,[[],[27],[23],[13],[8],[8]]),
 (zn0,[]),
 (zm1,[[],[9],[]]),
 (zch,[[7],[7,124],[7],[0,1,2,3,4,5,6,7,8,9,10,11,12,13,14,15],[0,1,2,3,4,5,6,7,8,9,10,11,12,13,14],[],[96],[],[0,1,2,3,4,5,6,7,8,9,10,11,13,14,15,12],[],[40],[],[],[0,1,2,3,4,5,6,7,8,9,10,11],[0,1,2,3,4,5,6,7,8,9,10,11],[0,1,2,3,4,5,6,7,8,9,10,11,12,13,14,15,16,17,18,19,20,21]]),
 (zbp,[]),
 (zdc,[]),
 (zcz,[]),
 (zcE,[[0,1,2,3,4,5,6,7,9,8,10,11,12,13]]),
 (zdo,[[5],[5,6],[5]]),
 (zfR,[]),
 (zdp,[]),
 (zgt,[[0,2,1,3,4,5],[],[24],[],[0]]),
 (zel,[[],[9],[]]),
 (zdO,[]),
 (za4,[[1],[1],[],[1],[0,1,2,3,4,5,6,7,8,9,10,11]]),
 (za7,[[],[157],[],[0,1,2,3,4,5,6,7,8,9,10,11,12,13],[],[75],[],[0,2,5,8,9,10,11,12,13,14,15,16,17,18,19,20,21,22,1,3,6,4,7,23,24],[0,1,2,4,7,11,12,13,14,15,16,17,18,19,20,22,23,24,25,26,28,29,30,3,5,8,6,9,10,21,27,31,32],[0,1,2,3,4,5],[],[21],[],[0,1,2,3,4,5,7,10,11,14,15,16,17,19,21,24,25,6,8,20,22,9,12,13,18,23,26,27,28,29],[0,1,2,3,4,5,6,7,8,9]]),
 (zci,[]),
 (zbW,[[],[1,3],[1],[0,1,2,3,5,6,4,7,8],[1],[1],[1]]),
 (zbu,[[],[3],[]]),
 (zbI,[[3],[3],[3],[3],[3],[3]]),
 (zdE,[]),
 (zb6,[]),
 (zdD,[[4],[4],[0,3],[]]),
 (zda,[]),
 (zdb,[[0],[0]]),
 (zd4,[]),
 (zbU,[]),
 (zbl,[]),
 (zcn,[[]]),
 (zeb,[[0,1,2,3,4,5,6,7,8,9,10,11,12,13,14,15,16,17,18,19,20,21,22]]),
 (zau,[]),
 (zbr,[]),
 (zbC,[[],[50],[],[5],[5,6],[5],[5],[5],[5]]),
 (zca,[]),
 (zgs,[[],[13],[]]),
 (zcA,[[8],[8,9,10],[8,9],[]]),
 (zcP,[[]]),
 (zke,[]),
 (zhe,[]),
 (zco,[[0,3,1,2,4,5,6,7,8,9,10],[0,3,5,6,1,2,4,7,8,9,10,11,12]]),
 (zbj,[[5],[5,6],[5]]),
 (zfU,[[],[8,9],[8],[0,1,2,3,4,5,6,7,8,9,10],[],[134],[],[0,1,2,3,4,5,6,7,8,9,10,11,12,13,14,15,16],[8],[8],[0,1,2,3,4,5,6,7,8,9,10,11,12,13,14,15,16,17,18,19,20,21,22,23,24,25,26,27],[],[0,1,2,3,4,5,6,7,8,9,10,11,12,13,14,15,16,17,18,19,20,21,22,23,24,25],[],[30],[],[0,1,2,3,4,5,6,7,8,9,10,11,12,13,14,15]]),
 (zbc,[]),
 (zcb,[[0,2,3,1,4,5],[],[16],[],[0,1,2,3,4,5,6,8,9,7,10,11],[],[2,6],[2]]),
 (zbK,[[5],[0,1,5],[0,5],[5]]),
 (zba,[]),
 (zbJ,[[3],[3,4],[3]]),
 (zaX,[]),
 (zbS,[[3],[3,5],[3],[3]]),
 (zhx,[[0,1,2,3,4,5,6,7,8,9,10,11,13,12,14,15,16,17,18,19]]),
 (zk0,[[0,1,2,3,4,5,6,7,8,9,10,11,12]]),
 (zjA,[[0,1,2,3,4,5,6,7,8,9,10,11,12,13,14,15,16,17,18,19,20]]),
 (zb9,[]),
 (zdN,[]),
 (zcY,[[4],[0,4],[4]]),
 (zcw,[[],[11],[],[0,1,2,3,4,5,6,7,8,9,10,11,12,13]]),
 (zbQ,[[0,1,2,3,4,5,6,7,8,9,10,11]]),
 (zdK,[[],[24],[],[0,1,2,3,4,5,6,7,8,9,10,11,12,13,14],[]]),
 (zdn,[[],[22],[],[0,1,2,3,4,5,6,7,8,9,10,11,12,13,14,15,16,17,18],[5],[0,2,1,3,4,5]]),
 (zdm,[[3],[3,8],[3]]),
 (zcc,[[],[6],[],[]]),
 (zcF,[[],[8],[],[0,1,2,3,4,5,6,7,8,9,10,11,12,13,14,15,16,17,18,19]]),
 (zcQ,[[],[12],[],[0,1,2,3,4,5,6,7,8,9,10,11,12,13,14]]),
 (zec,[[],[8],[],[0,1,3,6,8,9,10,11,12,13,14,16,17,18,19,20,21,22,2,4,5,7,15,23,24,25],[0,1,2,3,4,5,6,7,8,9,10,11]]),
 (zcg,[[0,1,2,3,4,5,6,7,8,9,11,12,13,14,10,15,16,17,18]]),
 (zeY,[[],[9,72],[9],[5],[5,44],[5],[],[5],[]]),
 (zfc,[[0,1,2,3,4,5,6,7,8,9,10,11,12,13],[0,1,2,3,4,5,6,7,8]]),
 (zdq,[[],[28],[],[0,1,2,3,4,5,6,7,8,9,10],[0,1,2,3,4,5,6,7,8,9,10,11,12,13,14,15,16,17,18,19]]),
 (zeH,[]),
 (zcX,[[3],[3,10],[3],[3]]),
 (zpn,[[4],[4,31],[4]]),
 (zgw,[[0,1,2,3,4,5,6,7,8,9,10,11,13,14,15,12,16,17,18],[0,1,2,3,4,6,7,8,9,5,10,11,12,13,14,15],[],[0,1,2,3,4,5,6,7,8,9,10,11,12,13],[0,1,2,3,4,6,7,8,9,5,10,11,12,13,14,15],[0,1,2,3,4,5,6,7,8],[0,1,2,3,4,5,6,7,8,9,10],[0,1,2,3,4,5,6]]),
 (zlL,[[6],[6,13],[6]]),
 (zk1,[]),
 (zm0,[]),
 (zgu,[[5],[5],[5,57],[5],[0,1,2,3,4,5,6],[0,1,2,3,4,5,6],[0,1,2,3,4,5,6,7,8,9,10],[0,1,2,3,4,5,6,7,8,9,10,11,12,13,14,15,16,17]]),
 (zgv,[[0,1,2,3,4,5,6],[],[0,1,2,3,4,5,6,7,8,9,10,11],[0,1,2,3,4,5,6,7,8,9,10,11,12,13,14,15,16,17,18],[0,1,2,3,4,5,6,7],[0,1,2,3,4,5,6,7,8,9,10,11,12,13,14,15,16,17]]),
 (zka,[[0,1,2,3,4,6,7,8,9,10,5,11,12],[0,1,2,3,4,5,6,7,8,9,10,11,12,13,14],[7]]),
 (zm3,[[0,1,2,3,4,5,6,7,8,9]]),
 (zn1,[]),
 (zlM,[[6],[6,16],[6]]),
 (zrM,[[5],[5,14],[5],[0,1,2,3,4,5,6,7,8,9,10,11]]),
 (ziZ,[[],[]]),
 (znZ,[]),
 (zhw,[[0,1,2,3,4,5,6,7,8]]),
 (zir,[[],[],[],[],[],[],[],[],[],[],[],[],[0,1,2,3,4,5]]),
 (zaJ,[]),
 (zb5,[]),
 (zbB,[]),
 (zaE,[[14],[14,62],[14],[0,1,2,3,4,5,6,7,8,10,11,13,9,12,14,15,16],[0,1,2,3,4,5,6,7],[],[]]),
 (zbA,[[0,1,2,3,4,5,6,7,8,9,10,11],[0,1,2,3,4,6,7,5,8],[],[],[]]),
 (zbL,[]),
 (zdF,[]),
 (zm4,[]),
 (zn5,[[],[71],[],[3]]),
 (zlN,[]),
 (zkf,[]),
 (zeg,[]),
 (zfb,[[],[8],[]]),
 (zlO,[[],[12],[]]),
 (zn3,[[]]),
 (zk2,[[3],[3,9],[3]]),
 (zlQ,[]),
 (zgC,[]),
 (zm5,[]),
 (zbz,[]),
 (zbR,[[],[8],[]]),
 (zkg,[]),
 (zlP,[[0,1,3,4,6,7,2,5,8,9,10,11,12,13,14]]),
 (zgY,[]),
 (zd9,[[0,3],[0,3],[0,3]]),
 (zcy,[[],[0,1,2,3,4,5,6,7,8,9,10,11,12,13,14,15]]),
 (zaZ,[[],[],[],[],[0,1,2,3,4,5,6,7,8],[],[],[70],[]]),
 (zn4,[[]]),
 (zn2,[]),
 (zgX,[[],[13],[],[0,1,2,3,4,5,6,7,8]]),
 (zrO,[]),
 (zi2,[[4]]),
 (zi1,[]),
 (zkh,[[],[7],[],[],[0,1,2,3,4,5,6,7,8,9,10,11,12,13,14,15,16,17,18,19],[]]),
 (zkd,[[0,2],[0,2],[0,2]]),
 (zi3,[]),
 (zfK,[[],[144],[],[],[],[126],[],[],[110],[],[],[73],[],[],[80],[],[],[61],[],[],[30],[],[5],[0,1,2,3,4,5,6,7,8,9,10,11,12,13,14,15]]),
 (zis,[[],[10],[]]),
 (zi4,[]),
 (zpo,[[0,1,2,3,4,5,6]]),
 (zi0,[[],[9],[],[6],[6],[6]]),
 (zfT,[[4],[4],[4],[4,27],[4],[0,1,2,4,5,3,6,7],[0,2,3,4,1,5,6]]),
 (zgZ,[[]]),
 (zc9,[]),
 (zea,[]),
 (zaD,[]),
 (zaQ,[[],[8],[]]),
 (zfS,[[4],[3],[3],[0,1,2,3,4,5,6,7,8,9]]),
 (zc8,[[0],[0,7],[0]]),
 (zdL,[[3],[3],[3],[3],[3,9],[3],[3]]),
 (zbq,[[0,1,2,3,4,5,6,7,8,9,10],[]]),
 (zqG,[[],[5],[],[6],[],[0,1,2,3,4,5,6,7,8,9,10,11],[0,1,2,3,4,5,6,7,8,9,10,11,14,15,17,18,12,16,19,13,20,21,22],[]]),
 (zt1,[[3],[3,8],[3]]),
 (zlK,[[0,1,2,3,4,5,6,7,8,9,10,11,12]]),
 (zrN,[[6],[1,6],[1,6]]),
 (znY,[[8,9],[9]]),
 (ziq,[[0,1,2,3,4,5,6,7,8,9,11,10]]),
 (zqI,[]),
 (zia,[]),
 (zpm,[[]]),
 (znX,[[0,1,2,3,4,5,6,10,11,7,8,9,12,13,14]]),
 (zjB,[[0,1,2,3,4,5,6,7,8,9,10,11,12,13,14],[]]),
 (ziY,[[]]),
 (znW,[[]]),
 (zfm,[]),
 (zhO,[]),
 (zhP,[[7],[7,8],[7],[7]]),
 (zg5,[[],[0,1,2,3,4,5,6,7,8,9,10,11,12,14,16,13,15,17,18,19,20]]),
 (zil,[[0,1,2,3,4,5,6,7,8,9,10,11,12,13]]),
 (zhd,[[5],[5,6],[5]]),
 (zhc,[[9],[9,10],[9]]),
 (zih,[]),
 (zfo,[[],[23],[]]),
 (zfn,[[],[21],[],[],[15],[]]),
 (zeX,[[],[13,15],[13],[13,18],[13,18,19],[13,18],[]]),
 (zie,[]),
 (zg9,[[]]),
 (zfj,[[],[],[],[0,1,2,3,4,5,6,7,8],[0,1,2,3,4,5,6,7,8,9,10,11,12,13],[0,1,2,3,4,5,6,7,8,9,10,11,12,13,14,15,16,17,18,19,20],[0,1,2,3,4,5,6],[]]),
 (zej,[[7],[7,8],[7],[7],[7],[0,1,2,3,4,5,6,7,8,9,10,11,12,13,14,15,16],[0,1,2,3,4,5,6,7,8],[0,1,2,3,4,5,6,7,8,9,10,11,12,13,14,15,16],[0,1,2,3,4,5,6,7,8,9,10,11,12,13],[],[6],[],[0,1,2,3,4,5,6,7,8,9,10,11,12,13,14,15,16,17,18,19,20,21],[],[5],[],[],[0,1,2,3,4,5,6,7,8,9,10,11,12,14,15,13,16,17],[0,1,2,3,4,5,6,7,8,9,10,11,12,13,14,15,16,17,18,19,20,21,22,23,24,25,26,27,28,29,30,31,32,33,34,35]]),
 (zfF,[]),
 (zgy,[]),
 (zik,[[],[9],[],[10],[0,1,2,3],[5]]),
 (ziV,[[],[8],[],[],[6],[],[0,1,2,3,4,5,6,7,8],[3],[3],[3]]),
 (zg3,[]),
 (zhI,[[],[19],[],[0,1,2,3,4,5,6,7,8,9],[],[13],[],[0,1,3,4,7,8,2,5,9,6,10,11],[0,1,2,3,4,5,6,7,8,9,10,11,12,13,14],[0,1,3,4,7,8,2,5,9,6,10,11],[],[9],[],[0,1,2,3,4,5,6,7,8,9,10,11,12,13,14,15],[0,1,2,3,5,6,7,8,11,12,13,14,15,4,9,10,16,17],[0,1,2,3,5,6,7,8,11,12,13,14,15,4,9,10,16,17],[],[8],[],[0,1,2,3,4,5,6,7,8,9,10,11,12,13,14,15,16,17,18,19,20,21,22,23,24,25,26,27,28,29,30,31,32,33,34,35]]),
 (za6,[]),
 (zg2,[[8],[8,9,10],[8,9]]),
 (zeT,[]),
 (zio,[]),
 (zhN,[]),
 (zgB,[[0,1,2,3,4,5,6,7,8,9],[0,3,1,2,4,5,6,7,8,9,10],[0,3,5,6,1,2,4,7,8,9,10,11,12]]),
 (zg1,[[],[11],[],[0,1,2,3,4,5,6],[6],[6,7,8],[6,7],[6],[6,10],[6],[0,1,2,3,4,5,6,7,8,9,10,11,12,13,14,15,16],[7],[0,1,2,3,4,5,6,7,8,9,10,11,12,13,14,15,16,17,18,19,20,21,22,23],[],[0,1,2,3,4,5,6,7,8,9,10,11,12,13,14,15,16,17,18,19,20,21],[0,1,2,3,4,5,6,7,8,9,10,11,12,13,14,15,16,17,18,19,20,21,22,23,24,25,26]]),
 (ziW,[[],[2,3,4],[2,3]]),
 (zbo,[[5],[5,6,7],[5,6],[5]]),
 (zig,[]),
 (zfH,[[0,1,2,3,4,5,6,7,8,9,10,11,12,13,14,15,16,18,17,19,20,21,22,23,24],[0,1,2,3,4,5,6,7,8,9,10,11,12,13,14,15,17,18,16,19]]),
 (zfh,[[0,1,2,3,4,5,6,7,8,9,10,11,12,13,14,15,16,17,18,19,20,21]]),
 (zfk,[[0,1,2,4,5,3,6,7,8]]),
 (zgA,[]),
 (zg8,[[4],[4],[4]]),
 (zeU,[[],[6],[]]),
 (zeV,[]),
 (zhJ,[[],[12],[],[0,1,2,3,4,5,6,7,8,9,10,11],[],[0,1,2,3,4,5,6,7,8,9]]),
 (zii,[[],[1,5,6],[1,5]]),
 (zfI,[[],[6],[],[0,1,2,3,4,5,6,7],[],[],[8],[],[0,1,2,3,4,5,6,7]]),
 (zif,[[],[5],[],[0,1,2,3,4,5,6,7,8,9]]),
 (zgx,[[],[4],[],[],[5],[],[0,1,2,3,4,5,6,7,9,10,11,12,13,14,15,18,19,20,21,22,23,24,26,27,28,29,30,31,32,8,16,17,25,33,34,35]]),
 (zfJ,[[0,1,2,3,4,5,6,7,8,9,10,11]]),
 (zij,[[3],[3,4],[3]]),
 (zfG,[[],[3],[],[0,1,2,3,4,5,6,7,8,9,10,11,12,13,14,15,16,17,18,19,20,21,22,23,24,25],[0,1,2,3,4,5,6,7,8,9,10,11,12,13,14,15,16,17,18,19]]),
 (zeu,[[],[7],[]]),
 (zfi,[[9],[0,1,2,3,4,5,6,7,8,9,10,11,12,13,14,15,16,17],[0,1,2,3,4,5,6,7,8],[0,1,2,3,4,5,6,7,8,9,10,11,12,13,14],[0,1,2,3,4,6,7,8,9,5,10,11,12,13,14,15],[],[0,1,2,3,4,5,6,7,8,9,10,11,12],[0,1,2,3,4,6,7,8,9,5,10,11,12,13,14,15],[0,1,2,3,4,5,6,7,8,9,10,12,13,11,14,15],[0,1,2,3,4,5,6]]),
 (zhb,[[6],[6,7],[6]]),
 (zfg,[[5],[5],[5,6],[5],[5],[0,1,2,3,4,5,6,7,8,9,10,11,12,13,14,15,16],[0,1,2,3,4,5,6],[0,1,2,3,4,5,6,7,8,10,11,9,12,13],[0,1,2,3,4,5,6,7,8,9,10,11,12,13,14,15,16]]),
 (zeS,[[0,1,2,3,4,5,6],[0,1,2,3,4,5,6,7,8,9,10],[0,1,2,3,4,5,6,7,8,9,10,11,12,13,14,15,16,17,18,19,20,21,22,23,24],[0,1,2,3,4,5,6,7,8,9,10,11,12,13,14,15,16,18,19,17,20],[0,1,2,3,4,5,6,7,8,9,10,11,12,13,14,15,16]]),
 (zfl,[[0,1,2,3,4,5,6,9,10,11,12,13,14,15,16,7,8,17]]),
 (zev,[[0,1,2,3,4,5,6,7,8,9,10,11,12,13,14,15,16,17],[0,1,2,3,4,5,6,7,8,9,10,11,12,13],[0,1,2,3,5,6,7,8,4,9,10,11]]),
 (zhL,[]),
 (zg7,[[6],[6,7],[6]]),
 (zek,[[]]),
 (zd3,[[4],[4,5],[4],[4]]),
 (zhQ,[[0,1,2,3,4,5,7,8,9,10,11,6,12,13,14,15,16,17,18]]),
 (zhG,[[11],[6],[0,1,2,3,4,5,6,7,8,9,10,11,12,13,14],[],[7],[],[0,1,2,3,4,5,6,7,8,9,10,11],[0,1,2,3,4,5,6,7,8,9,12,15,10,13,16,11,14,17,18,19,20]]),
 (zkb,[[7],[7,8],[7]]),
 (zgb,[[6],[6,7],[6,7],[8,9,10],[0,1,2,3,4,5,6,7,8,9,10,11,12,13,14,15,16,17],[9]]),
 (zid,[[],[6],[]]),
 (zhF,[[0,1,2,3,4,5,6],[],[],[],[],[0,1,2,3,4,5,6],[],[],[],[]]),
 (zga,[]),
 (zeQ,[[6],[6,7],[6]]),
 (zeR,[[0,1,2,3,4,5,6,7,8,9,10,11]]),
 (zff,[[0,1,2,3,4,5,6,7,8,9,10,11,12,13,14,15,16,17,18,19,20]]),
 (zdM,[[],[],[10],[],[],[],[8],[],[],[9],[],[0,1,2,3,4,5,6,7,8,9,10,11,12,13,14,15],[],[7],[],[0,1,2,3,4,5,6,7,8,9],[],[6],[],[],[],[],[0,1,2,3,4,5,6,7,8,9,10,11,12,13,14,15,16],[],[4],[],[],[5],[],[0,1,2,3,4,5,6,7,8,9,10,11,12,13,14,15]]),
 (zeh,[[3],[3],[3],[],[],[0,1,2,3,4,5,6,7,8,9,10,11,12,13,14,15,16]]),
 (zfe,[[]]),
 (zfE,[]),
 (zei,[]),
 (zhH,[[4],[4,5],[4]]),
 (ziU,[[3],[3,4],[3]]),
 (zic,[[],[7],[],[0,1,2,3,4,5,6,7,8,9,10,11,12,13,14],[0,1,2,3,4,5,6,7,8,9,10,11,12,13,17,18,14,15,16,19,20,21,22],[6],[],[4],[],[0,1,2,3,4,5,6,7,8,9,10,11,12]]),
 (zib,[[]]),
 (zg0,[[],[9],[]]),
 (zjC,[]),
 (zhE,[]),
 (zfd,[[],[],[10],[],[0,1,2,3,4,5,6,7,8,9,10,11],[],[],[9],[],[0,1,2,3,4,5,6,7,8,9,10,11,12,13,14],[],[],[8],[],[0,1,2,3,4,5,6,7,8,9,10,11],[0,1,2,4,5,8,9,12,13,3,6,7,10,11,14,15,16,17,18,19,20,21,22,23]]),
 (zd2,[[0,1,2,3,4,5,6,7,8,9,10],[0,1,2,3,4,5,6,7,8,9,10,11,12,13,14,15,16,17,18,19,20,21,22,23]]),
 (zha,[]),
 (zhM,[[8]]),
 (zin,[]),
 (zeW,[])]
def hintOf:List (Nat×List (List Nat))→FuncId→List (List Nat)
 | [],_=>[]
 | (g,h)::l,f=>if g=f then h else hintOf l f
noncomputable def T:FuncId→Option Fn':=zod Tryz.prog (hintOf hintRows)
noncomputable def irOf(f:FuncId):Fn':=(T f).getD ⟨0,[],.bad⟩
theorem sound:ziC Tryz.prog (sem T):=sem_okX _ _ once_ok drop_ok
end Go.Ax
/- Su3 -/
namespace Go.Ax.SU
open Go.Ax
theorem be_lt(l:List Nat)(h:∀x∈l,x<256):be l<256 ^ l.length:=by
 have key:∀(l:List Nat),(∀x∈l,x<256)→∀l':List Nat,l=l'.reverse→be l<256 ^ l.length:=by
  intro l hl l' e;subst e
  induction l' with
  | nil=>simp[be]
  | cons b l' ih =>
   rw[List.reverse_cons,zw4,List.length_append,List.length_singleton,Nat.pow_succ];have h1:=ih λx hx=>hl x (by rw[List.reverse_cons]; exact List.mem_append_left _ hx);have h2:=hl b (by simp);omega
 exact key l h l.reverse (by simp)
theorem or256(a b:Nat)(h:b<256):a*256 ||| b=a*256+b:=by
 have:=Nat.shiftLeft_add_eq_or_of_lt (i:=8) (b:=b) h a;rw[Nat.shiftLeft_eq]at this;exact this.symm
abbrev By(lo:Nat)(H:Heap)(v:V)(l:List Nat):Prop:=Lc 1 lo H v (l.map by8) l.length
theorem zpK{lo:Nat}{H:Heap}{v:V}{l:List Nat}(h:By lo H v l){i:Int}(h0:0≤i)(h1:i<l.length):∃p,(∀{k:IntKind},Ax.iaddr none 1 v (.int k i)=some p)∧LdR none H p (.int .u8 (l.getD i.toNat 0:Nat))∧p.pid=v.pid:=by
 obtain⟨p,hp,hl⟩:=h.at h0 h1;have hi:i.toNat<l.length:=by omega
 have e:((l.map by8).drop (i.toNat*1)).take 1=[by8 l[i.toNat]]:=by
  rw[Nat.mul_one,←List.map_drop,List.drop_eq_getElem_cons hi]; rfl
 rw[e]at hl;refine⟨p,hp,λf Q=>?_,hl.pid.1⟩;rw[hl.ld0 (by simp)];have hg:l.getD i.toNat 0=l[i.toNat]:=by rw[List.getD_eq_getElem?_getD,List.getElem?_eq_getElem hi]; rfl
 rw[hg]; exact zq6
theorem zdd{lo:Nat}{H:Heap}{v:V}{l:List Nat}(h:By lo H v l){x y:Int}(h0:0≤x)(h1:x≤y)(h2:y≤l.length) :
  ∃v',(∀{k k':IntKind},zaA .sl 1 v (some (.int k x)) (some (.int k' y)) none=some v')∧(x=0→∀{k':IntKind},zaA .sl 1 v none (some (.int k' y)) none=some v')∧(y=l.length→∀{k:IntKind},zaA .sl 1 v (some (.int k x)) none none=some v') ∧
   By lo H v' ((l.drop x.toNat).take (y.toNat-x.toNat))∧v'.pid=v.pid:=by
 obtain⟨v',a,b,c,d,e⟩:=h.slice h0 h1 h2;refine⟨v',a,b,c,?_,e⟩;have hl:((l.drop x.toNat).take (y.toNat-x.toNat)).length=y.toNat-x.toNat:=by rw[List.length_take,List.length_drop]; omega
 have:=d;rw[Nat.mul_one,Nat.mul_one,←List.map_drop,←List.map_take]at this;unfold By;rw[hl]; exact this
theorem getD_take{l:List Nat}{i n:Nat}(h:i<n):(l.take n).getD i 0=l.getD i 0:=by
 simp only[List.getD_eq_getElem?_getD,List.getElem?_take_of_lt h]
theorem getD_drop{l:List Nat}{i n:Nat}:(l.drop n).getD i 0=l.getD (n+i) 0:=by
 simp only[List.getD_eq_getElem?_getD,List.getElem?_drop]
theorem getD_lt{l:List Nat}(h:Ok8 l)(i:Nat):l.getD i 0<256:=by
 rw[List.getD_eq_getElem?_getD];cases e:l[i]? with
 | none=>simp
 | some x=>exact h x (List.mem_of_getElem? e)
theorem take_snoc{l:List Nat}{i:Nat}(h:i<l.length):l.take (i+1)=l.take i++[l.getD i 0]:=by
 rw[List.take_add_one,List.getElem?_eq_getElem h,List.getD_eq_getElem?_getD,List.getElem?_eq_getElem h]; rfl
theorem zle{l:List Nat}(h:Ok8 l){i n:Nat}(hi:i≤n):be (l.take i)<256 ^ n:=by
 have h1:=be_lt _ (h.take i);have h2:256 ^ (l.take i).length≤256 ^ n:=Nat.pow_le_pow_right (by decide) (by rw[List.length_take]; omega);omega
theorem App.keep{ty e lo n:Nat}{H H':Heap}{v:V}{cells:List V}(h:App ty e lo H v cells n)(k:Keep lo H H'):App ty e lo H' v cells n:=by
 cases h with
 | opn h ho=>exact .opn (h.to λi hi=>k.same i (ho i hi).1 (ho i hi).2) λi hi=>⟨(ho i hi).1,Nat.lt_of_lt_of_le (ho i hi).2 k.next⟩
 | lit h h0 h1=>exact .lit (by rw[k.same _ h0 h1,h]) h0 (Nat.lt_of_lt_of_le h1 k.next)
inductive Apf (ty e lo:Nat) (H:Heap):V→List V→Nat→Prop
 | app {v:V} {cells:List V} {n:Nat} (h:App ty e lo H v cells n):Apf ty e lo H v cells n
 | full {id n:Nat} {cells:List V} (h:H.get id=some ⟨ty,cells,none⟩) (hl:cells.length=n*e) (h0:lo≤id) (h1:id<H.next):Apf ty e lo H (.sl id 0 n (.fix n)) cells n
theorem Apf.lc{ty e lo n:Nat}{H:Heap}{v:V}{cells:List V}(h:Apf ty e lo H v cells n):Lc e lo H v cells n:=by
 cases h with
 | app h=>exact h.lc
 | full h hl h0 h1 =>
  refine⟨?_,λid hi=>by simp only[V.pid,Option.some.injEq]at hi; subst hi; exact⟨h0,h1⟩,Nat.le_refl _⟩;simp only[rcells,h,Option.bind_some];rw[if_pos (by omega),List.drop_zero,List.take_of_length_le (by omega)]
theorem Apf.keep{ty e lo n:Nat}{H H':Heap}{v:V}{cells:List V}(h:Apf ty e lo H v cells n)(k:Keep lo H H'):Apf ty e lo H' v cells n:=by
 cases h with
 | app h=>exact .app (App.keep h k)
 | full h hl h0 h1=>exact .full (by rw[k.same _ h0 h1,h]) hl h0 (Nat.lt_of_lt_of_le h1 k.next)
structure Bel (lo:Nat) (H H':Heap):Prop where
 next:H.next≤H'.next
 same:∀i,i<lo→H'.get i=H.get i
theorem Bel.refl(lo:Nat)(H:Heap):Bel lo H H:=⟨Nat.le_refl _,λ_ _=>rfl⟩
theorem Bel.trans{lo:Nat}{H H1 H2:Heap}(h:Bel lo H H1)(k:Bel lo H1 H2):Bel lo H H2:=⟨Nat.le_trans h.next k.next,λi hi=>by rw[k.same i hi,h.same i hi]⟩
theorem Bel.low{lo lo':Nat}{H H':Heap}(h:Bel lo H H')(hl:lo'≤lo):Bel lo' H H':=⟨h.next,λi hi=>h.same i (by omega)⟩
theorem _root_.Go.Ax.Grow.bel{H H':Heap}(h:Grow H H'){lo:Nat}(hl:lo≤H.next):Bel lo H H':=⟨h.next,λi hi=>h.same i (by omega)⟩
theorem Bel.grow{H H':Heap}(h:Bel H.next H H'):Grow H H':=⟨h.next,λi hi=>h.same i hi⟩
theorem _root_.Go.Ax.Grow.bel'{H0 H H':Heap}{lo:Nat}(h0:Grow H0 H)(hl:H0.next≤lo)(h:Bel lo H H'):Grow H0 H':=⟨Nat.le_trans h0.next h.next,λi hi=>by rw[h.same i (by omega),h0.same i hi]⟩
theorem okb_apf{β:Type}{ty e bytes lo n m:Nat}{H:Heap}{x y:V}{cells q:List V}{f:V→M β}{Q:β→Heap→Prop}(hx:Apf ty e lo H x cells n)(hlo:lo≤H.next) (hy:acells e H y=some (q,m)) (hq:q.length=m*e)
  (hb:(n+m)*bytes≤140737488355328) (hm:n+m≤140737488355328)
  (k:∀x' H',Apf ty e lo H' x' (cells++q) (n+m)→Bel lo H H'→Step H H' x.pid.toList x'.pid.toList→Ok (f x') H' Q):Ok ((mappend ty e bytes x y).bind f) H Q:=by
 cases hx with
 | app h =>
  refine zo7 h hlo hy hq hb hm λx' H' h1 hs=>k x' H' (.app h1) ⟨hs.next,λi hi=>hs.same i (by omega) λe=>?_⟩ hs;have:=(h.lc.own i (by simpa [zcK]using e)).1;omega
 | full h hl h0 h1 =>
  rename_i id;have hml:n+m≤maxLen:=Nat.le_trans hm zgK;by_cases hz:m=0
  ·subst hz;have hq0:q=[]:=List.eq_nil_of_length_eq_zero (by omega);subst hq0;refine zaB ⟨.sl id 0 n (.fix n),H.set id (some ⟨ty,cells,none⟩),?_,k _ _ ?_ ⟨by rw[zan]; exact Nat.le_refl _,λi hi=>zaj _ _ (by omega)⟩ (Step.set _ (by simp[V.pid]))⟩
   ·simp only[mappend,hy,Option.bind_some,mappendq,h];rw[if_pos ⟨by omega,trivial⟩];simp only[Nat.add_zero,Nat.le_refl,if_true];rw[if_pos (by omega)];simp[splice]
   ·rw[List.append_nil];exact .full (zai _ _ _) hl h0 h1
  ·refine zaB ⟨.sl H.next 0 (n+m) (.opn e),H.new ⟨ty,cells++q,some e⟩,?_,?_⟩
   ·simp only[mappend,hy,Option.bind_some,mappendq,h];rw[if_pos ⟨by omega,trivial⟩,if_neg (by omega),if_pos ⟨hb,hml⟩,List.drop_zero,List.take_of_length_le (by omega)]
   ·refine k _ _ (.app (.opn (.inr ⟨H.next,rfl,zag _ _,by simp[hl,hq,Nat.add_mul]⟩) λi hi=>?_)) ⟨by rw[zaf]; omega,λi hi=>zaM _ _ (by omega)⟩ ⟨by rw[zaf]; omega,λi hi _=>zaM _ _ (by omega),λi hi=>.inr (by simp only[V.pid,Option.toList_some,List.mem_singleton]at hi; subst hi; exact⟨Nat.le_refl _,by rw[zaf]; omega⟩)⟩;simp only[V.pid,Option.some.injEq]at hi;subst hi;exact⟨hlo,by rw[zaf]; omega⟩
def bn(k n:Nat):List Nat:=(List.range k).map λi=>n/256 ^ (k-1-i)%256
theorem bn_len(k n:Nat):(bn k n).length=k:=by simp[bn]
theorem bn_8(k n:Nat):Ok8 (bn k n):=by
 intro x hx;obtain⟨i,_,rfl⟩:=List.mem_map.1 hx;omega
theorem bn_get(k n i:Nat)(h:i<k):(bn k n).getD i 0=n/256 ^ (k-1-i)%256:=by
 rw[List.getD_eq_getElem?_getD,List.getElem?_eq_getElem (by rw[bn_len]; exact h)]; simp[bn]
abbrev Ab(lo:Nat)(H:Heap)(v:V)(l:List Nat):Prop:=Apf zaa 1 lo H v (l.map by8) l.length
theorem Ab.by{lo:Nat}{H:Heap}{v:V}{l:List Nat}(h:Ab lo H v l):By lo H v l:=h.lc
theorem okb_ab'{β:Type}{lo:Nat}{H:Heap}{x y:V}{l m:List Nat}{f:V→M β}{Q:β→Heap→Prop}(hx:Ab lo H x l)(hlo:lo≤H.next) (hy:acells 1 H y=some (m.map by8,m.length)) (hm:l.length+m.length≤1099511627776)
  (k:∀x' H',Ab lo H' x' (l++m)→Bel lo H H'→Step H H' x.pid.toList x'.pid.toList→Ok (f x') H' Q):Ok ((mappend zaa 1 1 x y).bind f) H Q:=by
 refine okb_apf hx hlo hy (by simp) (by omega) (by omega) λx' H' h1 h2=>k x' H' ?_ h2;show Apf zaa 1 lo H' x' ((l++m).map by8) (l++m).length;rw[List.map_append,List.length_append]; exact h1
theorem okb_ab{β:Type}{lo:Nat}{H:Heap}{x y:V}{l m:List Nat}{f:V→M β}{Q:β→Heap→Prop}(hx:Ab lo H x l)(hlo:lo≤H.next) (hy:acells 1 H y=some (m.map by8,m.length)) (hm:l.length+m.length≤1099511627776)
  (k:∀x' H',Ab lo H' x' (l++m)→Bel lo H H'→Ok (f x') H' Q):Ok ((mappend zaa 1 1 x y).bind f) H Q :=
 okb_ab' hx hlo hy hm λx' H' h1 h2 _=>k x' H' h1 h2
end Go.Ax.SU
/- Su4 -/
namespace Go.Ax.SU
open Go.Ax
inductive Buf (H:Heap):V→List Nat→List Nat→Prop
 | nil:Buf H .nils [] []
 | blk {id:Nat} {l:List Nat} {rest:List V} (hg:H.get id=some ⟨zaa,l.map by8++rest,some 1⟩) (hr:rest=[]∨l.length+rest.length=64) (hi:id<H.next):Buf H (.sl id 0 l.length (.opn 1)) l [id]
theorem Buf.vlen{H:Heap}{v:V}{l F:List Nat}(h:Buf H v l F):Ax.vlen v=some (.int .i64 (l.length:Nat)):=by cases h<;>rfl
theorem Buf.cells1{H:Heap}{v:V}{l F:List Nat}(h:Buf H v l F):v.cells=[v]:=by cases h<;>rfl
theorem Buf.okc{H:Heap}{v:V}{l F:List Nat}(h:Buf H v l F):v.okc=true:=by cases h<;>rfl
theorem Buf.low{H:Heap}{v:V}{l F:List Nat}(h:Buf H v l F):∀i∈F,i<H.next:=by
 cases h with
 | nil=>exact λi hi=>by cases hi
 | blk hg hr hi=>exact λi h=>by rw[List.mem_singleton.1 h]; exact hi
theorem Buf.to{H H':Heap}{v:V}{l F:List Nat}(h:Buf H v l F)(hn:H.next≤H'.next)(hs:∀i∈F,H'.get i=H.get i):Buf H' v l F:=by
 cases h with
 | nil=>exact .nil
 | blk hg hr hi=>exact .blk (by rw[hs _ (List.mem_singleton.2 rfl)]; exact hg) hr (by omega)
theorem Buf.by{H:Heap}{v:V}{l F:List Nat}(h:Buf H v l F):By 0 H v l:=by
 cases h with
 | nil=>exact Lc.nil
 | blk hg hr hi =>
  refine⟨?_,λi h=>⟨Nat.zero_le _,by simp only[V.pid,Option.some.injEq]at h; omega⟩,rfl⟩;simp only[rcells,hg,Option.bind_some];rw[if_pos (by simp),List.drop_zero,List.take_append_of_le_length (by simp),List.take_of_length_le (by simp)]
theorem Buf.pid{H:Heap}{v:V}{l F:List Nat}(h:Buf H v l F):∀i,v.pid=some i→i∈F:=by
 cases h with
 | nil=>intro i hi; cases hi
 | blk hg hr hi=>intro i h; simp only[V.pid,Option.some.injEq]at h; simp[h]
theorem zvB{β:Type}{H:Heap}{x y:V}{l m F:List Nat}{f:V→M β}{Q:β→Heap→Prop}(hx:Buf H x l F) (hy:acells 1 H y=some (m.map by8,m.length)) (hm:l.length+m.length≤64)
  (k:∀x' H' F',Buf H' x' (l++m) F'→Step H H' F F'→Ok (f x') H' Q):Ok ((mappend zaa 1 1 x y).bind f) H Q:=by
 have hml:l.length+m.length≤maxLen:=Nat.le_trans (by omega:l.length+m.length≤140737488355328) zgK;have hmb:m.length≤maxLen:=by omega
 refine zaB ?_;cases hx with
 | nil =>
  by_cases h0:m.length=0
  ·have:m=[]:=List.eq_nil_of_length_eq_zero h0;subst this;refine⟨.nils,H,?_,k _ _ _ (by simpa using Buf.nil) (Step.refl _ _)⟩;simp only[mappend,hy,Option.bind_some,mappendq];rw[if_pos (show([]:List Nat).length=0 from rfl)]
  ·refine⟨.sl H.next 0 m.length (.opn 1),H.new ⟨zaa,m.map by8,some 1⟩,?_,k _ _ [H.next] ?_ (Step.newo _ _ _)⟩
   ·simp only[mappend,hy,Option.bind_some,mappendq];rw[if_neg h0,if_pos ⟨by omega,hmb⟩]
   ·rw[List.nil_append];exact .blk (rest:=[]) (by rw[List.append_nil]; exact zag _ _) (.inl rfl) (by rw[zaf]; omega)
 | blk hg hr hi =>
  rename_i id rest;have hl:(l.map by8++rest).length=l.length+rest.length:=by simp
  by_cases h0:m.length=0
  ·have:m=[]:=List.eq_nil_of_length_eq_zero h0;subst this;refine⟨.sl id 0 l.length (.opn 1),H,?_,k _ _ _ (by simpa using Buf.blk hg hr hi) (Step.refl _ _)⟩;simp only[mappend,hy,Option.bind_some,mappendq,hg];rw[if_pos ⟨by omega,trivial⟩];by_cases hc:(l.map by8++rest).length=0+l.length*1
   ·rw[if_pos ⟨trivial,trivial,hc⟩,if_pos (show([]:List Nat).length=0 from rfl)]
   ·rw[if_neg (λh=>hc h.2.2),if_pos ⟨trivial,rfl⟩]
  ·by_cases hc:rest.length=0
   ·have hre:rest=[]:=List.eq_nil_of_length_eq_zero hc;subst hre;refine⟨.sl H.next 0 (l.length+m.length) (.opn 1),(H.set id none).new ⟨zaa,l.map by8++m.map by8,some 1⟩,?_,k _ _ [H.next] ?_ ⟨by rw[zaf,zan]; omega,λi hi' hF=>?_,λi hi'=>.inr ?_⟩⟩
    ·simp only[mappend,hy,Option.bind_some,mappendq,hg];rw[if_pos ⟨by omega,trivial⟩,if_pos ⟨trivial,trivial,by omega⟩,if_neg h0,if_pos ⟨by omega,hml⟩,List.append_nil,List.drop_zero]
    ·have:=Buf.blk (H:=(H.set id none).new ⟨zaa,l.map by8++m.map by8,some 1⟩) (id:=H.next) (l:=l++m) (rest:=[]) (by rw[List.append_nil,List.map_append]; exact zag (H.set id none) _) (.inl rfl) (by rw[zaf,zan]; omega);rw[List.length_append]at this;exact this
    ·rw[zaM _ _ (by rw[zan]; omega),zaj _ _ (λe=>hF (by simp[e]))]
    ·rw[List.mem_singleton.1 hi'];exact⟨Nat.le_refl _,by rw[zaf,zan]; omega⟩
   ·have hr64:l.length+rest.length=64:=hr.resolve_left λe=>hc (by rw[e]; rfl);refine⟨.sl id 0 (l.length+m.length) (.opn 1),H.set id (some ⟨zaa,splice (l.map by8++rest) (0+l.length*1) (m.map by8),some 1⟩),?_,k _ _ [id] ?_ (Step.set _ (by simp))⟩
    ·simp only[mappend,hy,Option.bind_some,mappendq,hg];rw[if_pos ⟨by omega,trivial⟩,if_neg (λh=>hc (by have:=h.2.2; omega)),if_neg (λh=>h0 h.2),if_pos ⟨trivial,trivial,by omega⟩]
    ·have:=Buf.blk (H:=H.set id (some ⟨zaa,splice (l.map by8++rest) (0+l.length*1) (m.map by8),some 1⟩)) (id:=id) (l:=l++m) (rest:=rest.drop m.length) (by
      rw[zai];congr 2;unfold splice;rw[Nat.mul_one,Nat.zero_add,List.length_map,List.take_append_of_le_length (by simp),List.take_of_length_le (by simp),List.map_append,List.drop_append,List.drop_of_length_le (by simp),List.nil_append,List.length_map];congr 2;omega) (.inr (by rw[List.length_append,List.length_drop]; omega)) (by rw[zan]; omega)
     rw[List.length_append]at this;exact this
theorem Buf.cut{H:Heap}{v:V}{l F:List Nat}(h:Buf H v l F)(hl:l.length=64):∃v',(∀{k:IntKind},zaA .sl 1 v none (some (.int k 0)) none=some v')∧Buf H v' [] F:=by
 cases h with
 | nil=>cases hl
 | blk hg hr hi =>
  rename_i id rest;refine⟨.sl id 0 0 (.opn 1),λ{k}=>?_,?_⟩
  ·simp only[zaA,zcv,vint,Option.map_some,Option.bind_some,Option.getD_some,Option.getD_none];rw[if_neg (by simp),if_pos ⟨trivial,by omega,by omega,by omega⟩];rfl
  ·have hre:rest=[]:=by
    rcases hr with hr|hr
    ·exact hr
    ·exact List.eq_nil_of_length_eq_zero (by omega)
   subst hre;exact Buf.blk (l:=[]) (rest:=l.map by8) (by simpa using hg) (.inr (by simp[hl])) hi
end Go.Ax.SU
/- Ax26 -/
namespace Go.Ax
def gv(b w:Bool)(v:V):V:=if b=w then v else .undef
section
variable {b w:Bool} {v x y:V} {α β:Type} {H:Heap} {f:V→M β} {Q:β→Heap→Prop}
theorem gv_tt:gv true true v=v:=rfl
theorem gv_ff:gv false false v=v:=rfl
theorem gv_tf:gv true false v = .undef:=rfl
theorem gv_ft:gv false true v = .undef:=rfl
theorem zdh{x y:M V}(h:b=w→x=y):guarded [(0,.bool b)] (some (0,w)) x=guarded [(0,.bool b)] (some (0,w)) y:=by
 show(if b=w then x else M.pure .undef)=(if b=w then y else M.pure .undef);by_cases e:b=w
 ·rw[if_pos e,if_pos e,h e]
 ·rw[if_neg e,if_neg e]
theorem zjz(h:b=w):gv b w v=v:=if_pos h
theorem zwj:guarded [(0,.bool b)] (some (0,w)) (M.pure v)=M.pure (gv b w v):=by
 show(if b=w then M.pure v else M.pure .undef) = _;unfold gv;split<;>rfl
theorem g_lift:guarded [(0,.bool b)] (some (0,w)) (M.lift (some v))=M.pure (gv b w v):=zwj
theorem g_pgv:guarded [(0,.bool b)] (some (0,w)) (M.pure (gv b w v))=M.pure (gv b w v):=by
 rw[zwj]; unfold gv; split<;>rfl
theorem g_load{n:Option Nat}:guarded [(0,.bool b)] (some (0,w)) (mload n (gv b w x))=guarded [(0,.bool b)] (some (0,w)) (mload n x):=zdh λh=>by rw[zjz h]
theorem g_nilck:guarded [(0,.bool b)] (some (0,w)) (M.lift (Ax.nilck (gv b w x)))=guarded [(0,.bool b)] (some (0,w)) (M.lift (Ax.nilck x)):=zdh λh=>by rw[zjz h]
theorem g_faddr{o:Nat}:guarded [(0,.bool b)] (some (0,w)) (M.lift (Ax.faddr o (gv b w x)))=guarded [(0,.bool b)] (some (0,w)) (M.lift (Ax.faddr o x)):=zdh λh=>by rw[zjz h]
theorem g_un{op:UnOp}:guarded [(0,.bool b)] (some (0,w)) (M.lift (Ax.un op (gv b w x)))=guarded [(0,.bool b)] (some (0,w)) (M.lift (Ax.un op x)):=zdh λh=>by rw[zjz h]
theorem g_cint{k:IntKind}:guarded [(0,.bool b)] (some (0,w)) (M.lift (Ax.cint k (gv b w x)))=guarded [(0,.bool b)] (some (0,w)) (M.lift (Ax.cint k x)):=zdh λh=>by rw[zjz h]
theorem g_vlen:guarded [(0,.bool b)] (some (0,w)) (M.lift (Ax.vlen (gv b w x)))=guarded [(0,.bool b)] (some (0,w)) (M.lift (Ax.vlen x)):=zdh λh=>by rw[zjz h]
theorem g_slen:guarded [(0,.bool b)] (some (0,w)) (M.lift (Ax.slen (gv b w x)))=guarded [(0,.bool b)] (some (0,w)) (M.lift (Ax.slen x)):=zdh λh=>by rw[zjz h]
theorem g_ext{i:Nat}:guarded [(0,.bool b)] (some (0,w)) (M.lift (Ax.ext i (gv b w x)))=guarded [(0,.bool b)] (some (0,w)) (M.lift (Ax.ext i x)):=zdh λh=>by rw[zjz h]
theorem g_field{o:Nat}{n:Option Nat}:guarded [(0,.bool b)] (some (0,w)) (M.lift (Ax.field o n (gv b w x)))=guarded [(0,.bool b)] (some (0,w)) (M.lift (Ax.field o n x)):=zdh λh=>by rw[zjz h]
theorem g_bin1{op:BinOp}:guarded [(0,.bool b)] (some (0,w)) (M.lift (Ax.bin op (gv b w x) y))=guarded [(0,.bool b)] (some (0,w)) (M.lift (Ax.bin op x y)):=zdh λh=>by rw[zjz h]
theorem g_bin2{op:BinOp}:guarded [(0,.bool b)] (some (0,w)) (M.lift (Ax.bin op x (gv b w y)))=guarded [(0,.bool b)] (some (0,w)) (M.lift (Ax.bin op x y)):=zdh λh=>by rw[zjz h]
theorem g_eqr1{k:EK}{n:Bool}:guarded [(0,.bool b)] (some (0,w)) (M.lift (eqr k n (gv b w x) y))=guarded [(0,.bool b)] (some (0,w)) (M.lift (eqr k n x y)):=zdh λh=>by rw[zjz h]
theorem g_eqr2{k:EK}{n:Bool}:guarded [(0,.bool b)] (some (0,w)) (M.lift (eqr k n x (gv b w y)))=guarded [(0,.bool b)] (some (0,w)) (M.lift (eqr k n x y)):=zdh λh=>by rw[zjz h]
theorem g_iaddr1{a:Option Nat}{e:Nat}:guarded [(0,.bool b)] (some (0,w)) (M.lift (Ax.iaddr a e (gv b w x) y))=guarded [(0,.bool b)] (some (0,w)) (M.lift (Ax.iaddr a e x y)):=zdh λh=>by rw[zjz h]
theorem g_iaddr2{a:Option Nat}{e:Nat}:guarded [(0,.bool b)] (some (0,w)) (M.lift (Ax.iaddr a e x (gv b w y)))=guarded [(0,.bool b)] (some (0,w)) (M.lift (Ax.iaddr a e x y)):=zdh λh=>by rw[zjz h]
theorem g_heap{x y:M V}(h:x H=y H):@OkB V β (guarded [(0,.bool b)] (some (0,w)) x) H ⟨f⟩ ⟨Q⟩↔@OkB V β (guarded [(0,.bool b)] (some (0,w)) y) H ⟨f⟩ ⟨Q⟩:=by
 have e:(guarded [(0,.bool b)] (some (0,w)) x) H=(guarded [(0,.bool b)] (some (0,w)) y) H:=by
  show(if b=w then x else M.pure .undef) H=(if b=w then y else M.pure .undef) H;by_cases e:b=w
  ·rw[if_pos e,if_pos e,h]
  ·rw[if_neg e,if_neg e]
 show Ok (M.bind _ _) _ _↔Ok (M.bind _ _) _ _;unfold Ok;simp only[M.bind,e]
theorem g_loadp{n:Option Nat}{id off:Nat}:@OkB V β (guarded [(0,.bool b)] (some (0,w)) (mload n (.ptr id off))) H ⟨f⟩ ⟨Q⟩↔@OkB V β (guarded [(0,.bool b)] (some (0,w)) (M.lift ((H.get id).bind λb=>ldc n b.cells off))) H ⟨f⟩ ⟨Q⟩ :=
 g_heap (by
  simp only[mload,M.lift];cases H.get id with
  | none=>rfl
  | some b=>rfl)
theorem g_loadr{n:Option Nat}{cells:List V}{off:Nat}:guarded [(0,.bool b)] (some (0,w)) (mload n (.rp cells off))=guarded [(0,.bool b)] (some (0,w)) (M.lift (ldc n cells off)):=zdh λ_=>rfl
theorem pick_gt{c:Bool}:Ax.pick (.bool b) (gv b true (.bool c)) (.bool false)=some (.bool (b&&c)):=by cases b<;>rfl
theorem pick_gf{c:Bool}:Ax.pick (.bool b) (.bool true) (gv b false (.bool c))=some (.bool (b||c)):=by cases b<;>rfl
end
def RG:=And.intro @gv_tt<|And.intro @gv_ff<|And.intro @gv_tf<|And.intro @gv_ft<|And.intro @g_pgv<|And.intro @zwj<|And.intro @g_lift<|And.intro @g_load<|And.intro @g_nilck<|And.intro @g_faddr<|And.intro @g_un<|And.intro @g_cint<|And.intro @g_vlen<|And.intro @g_slen<|And.intro @g_ext<|And.intro @g_field<|And.intro @g_bin1<|And.intro @g_bin2<|And.intro @g_eqr1<|And.intro @g_eqr2<|And.intro @g_iaddr1<|And.intro @g_iaddr2<|And.intro @g_loadp<|And.intro @g_loadr<|And.intro @pick_gt @pick_gf
theorem zaT{α β:Type}{x:M α}{H:Heap}{f:α→M β}{Q:β→Heap→Prop}:@OkB α β x H ⟨f⟩ ⟨Q⟩=Ok (x.bind f) H Q:=rfl
end Go.Ax
/- FnS1 -/
namespace Go.Ax
open Go.Proofs
def zdg(G:Sem'):M Res :=
 let o:=V.int .u8 0
 (G zbE []).bind λt27 =>
 uL (Ax.un .not t27) λt28 =>
 M.ite t28
 (M.pure (.ret [(V.bool false)]))
 ((G zby [(uc 64),(uc 1),V.nils,V.nils]).bind λt30 =>
 uE 0 t30 λt31 =>
 uE 1 t30 λt32 =>
 (G zby [(uc 0),(uc 5),V.nils,V.nils]).bind λt34 =>
 uE 0 t34 λt35 =>
 uE 1 t34 λt36 =>
 (G zby [(uc 3),(uc 2),V.nils,V.nils]).bind λt38 =>
 uE 0 t38 λt39 =>
 uE 1 t38 λt40 =>
 uL (eqr .ptr false t39 V.nilp) λt42 =>
 M.ite t42
 (M.pure (.ret [(V.bool false)]))
 ((G zaE [t39,(uc 0),(V.bool true),V.nils]).bind λt45 =>
 uE 0 t45 λt46 =>
 uE 1 t45 λt47 =>
 (mslit zaa 12 [o] [(0,1,(ub 128)),(1,1,(ub 96)),(2,1,o),(3,1,o),(4,1,o),(5,1,o),(6,1,o),(7,1,o),(8,1,o),(9,1,o),(10,1,o),(11,1,o)]).bind λt50 =>
 (G zbq [t39,t50]).bind λt51 =>
 uE 0 t51 λt52 =>
 uE 1 t51 λt53 =>
 uO zmi (V.agg [(uc 0),(uc 0),(uc 0),(uq 0),V.nils]) λt9 =>
 uT 5 t9 t52 λ_ =>
 (G zbq [t39,V.nils]).bind λt56 =>
 uE 0 t56 λt57 =>
 uE 1 t56 λt58 =>
 uO zmi (V.agg [(uc 0),(uc 0),(uc 0),(uq 0),V.nils]) λt11 =>
 uT 5 t11 t57 λ_ =>
 (mslit zaa 1 [o] [(0,1,(ub 120))]).bind λt60 =>
 (mremark zaa t60).bind λt61 =>
 (G zaK [t39,t61]).bind λt62 =>
 uL (Ax.build [(uc 0),(uc 0),(uc 0),(uc 0),(uc 0),(uc 0),V.nils] [(0,1,(uc 22)),(3,1,(uc 4))]) λt64 =>
 (G zaG [t64]).bind λt65 =>
 (G zaK [t39,t65]).bind λt66 =>
 uL (Ax.build [o,o,o,o,o,o,o,o] [(0,1,o),(1,1,o),(2,1,(ub 3))]) λt68 =>
 (G zaS [(uc 2),(uc 0),(uc 4),(uc 0),t68]).bind λt69 =>
 (G zaG [t69]).bind λt70 =>
 (G zaK [t39,t70]).bind λt71 =>
 (G zaE [t39,(uc 3),(V.bool true),V.nils]).bind λt74 =>
 uE 0 t74 λt75 =>
 uE 1 t74 λt76 =>
 (mmkslice zaa 1 [o] (uc 801) (uc 801)).bind λt79 =>
 (G zaE [t39,(uc 0),(V.bool true),t79]).bind λt80 =>
 uE 0 t80 λt81 =>
 uE 1 t80 λt82 =>
 (mmkslice zaa 1 [o] (uc 250) (uc 250)).bind λt85 =>
 (G zaE [t39,(uc 0),(V.bool false),t85]).bind λt86 =>
 uE 0 t86 λt87 =>
 uE 1 t86 λt88 =>
 (G zaE [t39,(uc 0),(V.bool false),V.nils]).bind λt91 =>
 uE 0 t91 λt92 =>
 uE 1 t91 λt93 =>
 uL (Ax.build [(uc 0),(uc 0),(uc 0),(uc 0),(uc 0),(uc 0),V.nils] [(0,1,(uc 23))]) λt95 =>
 (G zaG [t95]).bind λt96 =>
 (G zaK [t39,t96]).bind λt97 =>
 (G zbT [t39]).bind λt100 =>
 uE 0 t100 λt101 =>
 uE 1 t100 λt102 =>
 uE 2 t100 λt103 =>
 uE 3 t100 λt104 =>
 uL (eqr .ptr false t31 V.nilp) λt106 =>
 uG t106 true (M.pure t32) λt108 =>
 uH t106 true (Ax.bin .eql t108 (uc 1)) λt109 =>
 uL (Ax.pick t106 t109 (V.bool false)) λt110 =>
 uG t110 true (M.pure t36) λt112 =>
 uH t110 true (Ax.bin .eql t112 (uc 1)) λt113 =>
 uL (Ax.pick t110 t113 (V.bool false)) λt114 =>
 uG t114 true (M.pure t47) λt116 =>
 uH t114 true (Ax.bin .eql t116 (uc 12)) λt117 =>
 uL (Ax.pick t114 t117 (V.bool false)) λt118 =>
 uG t118 true (M.pure t53) λt120 =>
 uH t118 true (Ax.bin .eql t120 (uc 12)) λt121 =>
 uL (Ax.pick t118 t121 (V.bool false)) λt122 =>
 uG t122 true (M.pure t58) λt124 =>
 uH t122 true (Ax.bin .eql t124 (uc 3)) λt125 =>
 uL (Ax.pick t122 t125 (V.bool false)) λt126 =>
 uG t126 true (M.pure t62) λt128 =>
 uH t126 true (vlen t128) λt129 =>
 uH t126 true (Ax.bin .eql t129 (uc 0)) λt130 =>
 uL (Ax.pick t126 t130 (V.bool false)) λt131 =>
 uG t131 true (M.pure t66) λt133 =>
 uH t131 true (vlen t133) λt134 =>
 uH t131 true (Ax.bin .eql t134 (uc 0)) λt135 =>
 uL (Ax.pick t131 t135 (V.bool false)) λt136 =>
 uG t136 true (M.pure t76) λt138 =>
 uH t136 true (Ax.bin .eql t138 (uc 1)) λt139 =>
 uL (Ax.pick t136 t139 (V.bool false)) λt140 =>
 uG t140 true (M.pure t82) λt142 =>
 uH t140 true (Ax.bin .eql t142 (uc 4)) λt143 =>
 uL (Ax.pick t140 t143 (V.bool false)) λt144 =>
 uG t144 true (M.pure t88) λt146 =>
 uH t144 true (Ax.bin .eql t146 (uc 0)) λt147 =>
 uL (Ax.pick t144 t147 (V.bool false)) λt148 =>
 uG t148 true (M.pure t87) λt150 =>
 uH t148 true (vlen t150) λt151 =>
 uH t148 true (Ax.bin .eql t151 (uc 3)) λt152 =>
 uL (Ax.pick t148 t152 (V.bool false)) λt153 =>
 uG t153 true (M.pure t93) λt155 =>
 uH t153 true (Ax.bin .eql t155 (uc 0)) λt156 =>
 uL (Ax.pick t153 t156 (V.bool false)) λt157 =>
 uG t157 true (M.pure t92) λt159 =>
 uH t157 true (vlen t159) λt160 =>
 uH t157 true (Ax.bin .eql t160 (uc 1)) λt161 =>
 uL (Ax.pick t157 t161 (V.bool false)) λt162 =>
 uG t162 true (M.pure t104) λt164 =>
 uH t162 true (Ax.un .not t164) λt165 =>
 uL (Ax.pick t162 t165 (V.bool false)) λt166 =>
 uG t166 true (M.pure t39) λt168 =>
 uG t166 true (G zbB [t168]) λt169 =>
 uH t166 true (Ax.bin .eql t169 (uc 0)) λt170 =>
 uL (Ax.pick t166 t170 (V.bool false)) λt171 =>
 uG t171 true (M.pure t39) λt173 =>
 uG t171 true (G zaJ [t173,(uc (-1))]) λt174 =>
 uH t171 true (Ax.bin .eql t174 (V.int .u32 0)) λt175 =>
 uL (Ax.pick t171 t175 (V.bool false)) λt176 =>
 uG t176 true (M.pure t39) λt178 =>
 uG t176 true (G zaJ [t178,(uc 2)]) λt179 =>
 uH t176 true (Ax.bin .eql t179 (V.int .u32 1332)) λt180 =>
 uL (Ax.pick t176 t180 (V.bool false)) λt181 =>
 M.pure (.ret [t181])))
abbrev OkT(f:FuncId)(us:List V)(x:M Res):Prop:=∀{H:Heap} {Q:V→Heap→Prop},Ok x H (λr H'=>∃L,r = .ret L∧Q (zdW L) H')→Ok (sem T f us) H Q
theorem okT{f:FuncId}{us:List V}{x:M Res} (hT:T f=some (irOf f)) (hl:Nat.ble us.length (irOf f).ntmps=true) (hx:execK (sem T) (irOf f).rv (irOf f).body [] [] (params 0 us)=x):OkT f us x:=λh=>ok_sem hT (Nat.le_of_ble_eq_true hl) hx h
theorem ze6:OkT zbk [] (zdg (sem T)):=okT (by kernel_rfl) (by kernel_rfl) (by kernel_rfl)
def zdY(G:Sem'):M Res :=
 let o:=V.int .u8 0
 (mslit zaa 1 [o] [(0,1,(ub 115))]).bind λt13 =>
 (mremark zaa t13).bind λt14 =>
 (mslit zaa 1 [o] [(0,1,(ub 114))]).bind λt15 =>
 (mremark zaa t15).bind λt16 =>
 (G zby [(uc 5),(uc 1),t14,t16]).bind λt17 =>
 uE 0 t17 λt18 =>
 uE 1 t17 λt19 =>
 uB .neq t19 (uc 0) λt21 =>
 uG t21 false (M.pure t18) λt23 =>
 uH t21 false (eqr .ptr false t23 V.nilp) λt24 =>
 uL (Ax.pick t21 (V.bool true) t24) λt25 =>
 M.ite t25
 (M.pure (.ret [(V.bool false)]))
 ((G zbT [t18]).bind λt28 =>
 uE 0 t28 λt29 =>
 uE 1 t28 λt30 =>
 uE 2 t28 λt31 =>
 uE 3 t28 λt32 =>
 uL (Ax.build [o,o,o,o,o,o,o,o] [(0,1,(ub 5))]) λt34 =>
 (G zaS [(uc 0),(uc 3),(uc 1),(uc 3),t34]).bind λt35 =>
 (G zaG [t35]).bind λt36 =>
 (G zaK [t18,t36]).bind λt37 =>
 uL (vlen t37) λt38 =>
 (G zbT [t18]).bind λt41 =>
 uE 0 t41 λt42 =>
 uE 1 t41 λt43 =>
 uE 2 t41 λt44 =>
 uE 3 t41 λt45 =>
 uL (Ax.un .not t32) λt47 =>
 uG t47 true (M.pure t18) λt49 =>
 uG t47 true (G zaJ [t49,(uc 1)]) λt50 =>
 uH t47 true (Ax.bin .eql t50 (V.int .u32 1516)) λt51 =>
 uL (Ax.pick t47 t51 (V.bool false)) λt52 =>
 uG t52 true (M.pure t38) λt54 =>
 uH t52 true (Ax.bin .eql t54 (uc 0)) λt55 =>
 uL (Ax.pick t52 t55 (V.bool false)) λt56 =>
 uG t56 true (M.pure t45) λt58 =>
 uL (Ax.pick t56 t58 (V.bool false)) λt59 =>
 uG t59 true (M.pure t42) λt61 =>
 uH t59 true (Ax.bin .eql t61 (uc 0)) λt62 =>
 uL (Ax.pick t59 t62 (V.bool false)) λt63 =>
 uG t63 true (M.pure t43) λt65 =>
 uH t63 true (Ax.bin .eql t65 (uc 0)) λt66 =>
 uL (Ax.pick t63 t66 (V.bool false)) λt67 =>
 uG t67 true (M.pure t44) λt69 =>
 uH t67 true (Ax.bin .eql t69 (uc 3)) λt70 =>
 uL (Ax.pick t67 t70 (V.bool false)) λt71 =>
 uG t71 true (M.pure t18) λt73 =>
 uG t71 true (G zbB [t73]) λt74 =>
 uH t71 true (Ax.bin .eql t74 (uc 1)) λt75 =>
 uL (Ax.pick t71 t75 (V.bool false)) λt76 =>
 M.pure (.ret [t76]))
theorem zgR:OkT zbE [] (zdY (sem T)):=okT (by kernel_rfl) (by kernel_rfl) (by kernel_rfl)
def zkm(G:Sem')(t0:V):M Res :=
 M.blk 0 (
 uB .eql t0 (uc 1) λt7 =>
 M.ite t7
 (M.pure (.ret [(uc 16),(uc 10),(V.bool true)]))
 (uB .eql t0 (uc 2) λt9 =>
 M.ite t9
 (M.pure (.ret [(uc 16),(uc 8),(V.bool true)]))
 (uB .eql t0 (uc 3) λt11 =>
 M.ite t11
 (M.pure (.ret [(uc 16),(uc 4),(V.bool true)]))
 (uB .eql t0 (uc 16) λt13 =>
 M.ite t13
 (M.pure (.ret [(uc 32),(uc 10),(V.bool true)]))
 (M.pure (.nrm [])))))) λ_ =>
 M.pure (.ret [(uc 0),(uc 0),(V.bool false)])
theorem znI{t0:V}:OkT zcf [t0] (zkm (sem T) t0):=okT (by kernel_rfl) (by kernel_rfl) (by kernel_rfl)
def zgd(G:Sem')(t0:V):M Res :=
 uNFM 6 t0 λt9 =>
 uL (Ax.un .not t9) λt10 =>
 M.ite t10
 (M.pure (.ret [(uc 0),(uc 0),(uc 0),(V.bool false)]))
 (uNFM 7 t0 λt14 =>
 uNFM 8 t0 λt18 =>
 uNFM 18 t0 λt22 =>
 M.pure (.ret [t14,t18,t22,(V.bool true)]))
theorem zhZ{t0:V}:OkT zbT [t0] (zgd (sem T) t0):=okT (by kernel_rfl) (by kernel_rfl) (by kernel_rfl)
def zez(G:Sem')(t0 t1:V):M Res :=
 (G zcx [t1]).bind λt9 =>
 uE 0 t9 λt10 =>
 uE 1 t9 λt11 =>
 uO zdC (V.agg [(uc 0),(uc 0),(uc 0),(uc 0),(uc 0),(uc 0),V.nils]) λt5 =>
 uT 7 t5 t10 λ_ =>
 uB .neq t11 (uc 0) λt13 =>
 M.ite t13
 (M.pure (.ret [V.nils]))
 (uFM 0 t5 λt15 =>
 uB .eql t15 (uc 17) λt16 =>
 M.ite t16
 (uS 7 t5 λt18 =>
 (G zch [t0,t18]).bind λt19 =>
 (G zcX [t19]).bind λt20 =>
 M.pure (.ret [t20]))
 (uNFM 6 t0 λt24 =>
 uL (Ax.un .not t24) λt25 =>
 M.ite t25
 (M.pure (.ret [V.nils]))
 (uFM 0 t5 λt27 =>
 M.blk 0 (
 uB .eql t27 (uc 19) λt29 =>
 M.ite t29
 (uS 7 t5 λt31 =>
 (G zgw [t0,t31]).bind λt32 =>
 (G zcX [t32]).bind λt33 =>
 M.pure (.ret [t33]))
 (uB .eql t27 (uc 20) λt35 =>
 M.ite t35
 (uS 7 t5 λt37 =>
 (G zgu [t0,t37]).bind λt38 =>
 (G zcX [t38]).bind λt39 =>
 M.pure (.ret [t39]))
 (uB .eql t27 (uc 21) λt41 =>
 M.ite t41
 (uS 7 t5 λt43 =>
 (G zgv [t0,t43]).bind λt44 =>
 (G zcX [t44]).bind λt45 =>
 M.pure (.ret [t45]))
 (uB .eql t27 (uc 22) λt47 =>
 M.join (M.ite t47
 (uFM 3 t5 λt50 =>
 (G zhw [t0,t50]).bind λt51 =>
 M.pure (.nrm []))
 (uB .eql t27 (uc 23) λt53 =>
 M.join (M.ite t53
 ((G zbp [t0]).bind λt55 =>
 M.pure (.nrm []))
 (M.pure (.nrm []))) λ_ =>
 M.pure (.nrm []))) λ_ =>
 M.pure (.nrm []))))) λ_ =>
 M.pure (.ret [V.nils]))))
theorem zgo{t0 t1:V}:OkT zaK [t0,t1] (zez (sem T) t0 t1):=okT (by kernel_rfl) (by kernel_rfl) (by kernel_rfl)
end Go.Ax
/- FnS2 -/
namespace Go.Ax
open Go.Proofs
def zc1(G:Sem')(t0 t3 t4:V)(L:List V):M Res :=
 uB .lss (ug L 0) (uc 8) λt41 =>
 M.ite t41
 (M.blk 1 (
 uNFM 9 t0 λt46 =>
 uB .shr t46 (ug L 0) λt48 =>
 uB .and t48 (uc 1) λt49 =>
 uB .eql t49 (uc 1) λt50 =>
 M.join (M.ite t50
 (uFM 6 t3 λt54 =>
 uIM none 1 t54 (ug L 0) λt57 =>
 uL (Ax.cint .i64 t57) λt58 =>
 uNF 10 t0 λt60 =>
 uI (some 8) 1 t60 (ug L 0) λt61 =>
 uT 1 t61 t58 λ_ =>
 M.pure (.nrm []))
 (M.pure (.nrm []))) λ_ =>
 M.pure (.nrm [])) λ_ =>
 uB .add (ug L 0) (uc 1) λt62 =>
 M.pure (.nrm [t62]))
 (M.pure (.ex 0 []))
def zc0(G:Sem')(t0 t4:V)(L:List V):M Res :=
 uB .lss (ug L 0) (uc 3) λt97 =>
 M.ite t97
 (M.blk 3 (
 uNF 24 t0 λt102 =>
 uI (some 3) 4 t102 (ug L 0) λt103 =>
 uF 2 t103 λt104 =>
 (mstore 1 t104 (V.bool false)).bind λ_ =>
 M.pure (.nrm [])) λ_ =>
 uB .add (ug L 0) (uc 1) λt105 =>
 M.pure (.nrm [t105]))
 (M.pure (.ex 2 []))
def zcZ(G:Sem')(t123 t122 t0 t4:V)(L:List V):M Res :=
 uB .lss (ug L 1) t123 λt125 =>
 M.ite t125
 (M.blk 5 (
 uIM none 1 t122 (ug L 1) λt127 =>
 uNF 18 t0 λt133 =>
 uM t133 λt134 =>
 uNFM 18 t0 λt139 =>
 M.getH.bind λh5 =>
 (G zcE [t0,t139]).bind λt140 =>
 M.getH.bind λh5' =>
 uU t133 h5 h5' λ_ =>
 (G zhx [t0,t127,t134,(uc 0),t140]).bind λt141 =>
 (mappend zdC 7 72 (ug L 0) t141).bind λt142 =>
 (G zfc [t0,t127]).bind λt146 =>
 (mappend zdC 7 72 t142 t146).bind λt147 =>
 M.pure (.nrm [t147])) λL5 =>
 uB .add (ug L 1) (uc 1) λt148 =>
 M.pure (.nrm [(ug L5 0),t148]))
 (M.pure (.ex 4 [(ug L 0)]))
def zft(G:Sem')(t0 t1:V):M Res :=
 uO zdC t1 λt3 =>
 (G zbp [t0]).bind λt11 =>
 uF 1 t3 λt16 =>
 uM t16 λt17 =>
 uF 2 t3 λt18 =>
 uM t18 λt19 =>
 uF 4 t3 λt20 =>
 uM t20 λt21 =>
 uNF 6 t0 λt23 =>
 M.getH.bind λh0 =>
 (mstore 1 t23 (V.bool true)).bind λ_ =>
 M.getH.bind λh0' =>
 uU t20 h0 h0' λ_ =>
 uU t18 h0 h0' λ_ =>
 uU t16 h0 h0' λ_ =>
 uNF 7 t0 λt25 =>
 M.getH.bind λh1 =>
 uT 1 t25 t17 λ_ =>
 M.getH.bind λh1' =>
 uU t20 h1 h1' λ_ =>
 uU t18 h1 h1' λ_ =>
 uNF 8 t0 λt27 =>
 M.getH.bind λh2 =>
 uT 1 t27 t19 λ_ =>
 M.getH.bind λh2' =>
 uU t20 h2 h2' λ_ =>
 uNF 9 t0 λt29 =>
 uT 1 t29 t21 λ_ =>
 uFM 3 t3 λt33 =>
 uF 5 t3 λt34 =>
 uM t34 λt35 =>
 uNF 18 t0 λt37 =>
 M.getH.bind λh3 =>
 uT 1 t37 t33 λ_ =>
 M.getH.bind λh3' =>
 uU t34 h3 h3' λ_ =>
 uNF 19 t0 λt39 =>
 uT 1 t39 t35 λ_ =>
 M.blk 0 (
 M.iter (zc1 G t0 t3 V.nils) [(uc 0)]) λ_ =>
 uNFM 4 t0 λt66 =>
 uB .add t66 (uc 1) λt67 =>
 uNF 4 t0 λt69 =>
 uT 1 t69 t67 λ_ =>
 uNFM 1 t0 λt75 =>
 uNFM 8 t0 λt79 =>
 (G zdc [t75,t79]).bind λt80 =>
 uE 0 t80 λt81 =>
 uNF 22 t0 λt84 =>
 uT 1 t84 t81 λ_ =>
 uE 1 t80 λt82 =>
 uNFM 1 t0 λt90 =>
 (G zcz [t90]).bind λt91 =>
 uE 0 t91 λt92 =>
 uE 1 t91 λt93 =>
 uNF 23 t0 λt95 =>
 uT 1 t95 t92 λ_ =>
 M.blk 2 (
 M.iter (zc0 G t0 V.nils) [(uc 0)]) λ_ =>
 uNF 22 t0 λt108 =>
 uM t108 λt109 =>
 uNF 18 t0 λt112 =>
 uM t112 λt113 =>
 uNFM 18 t0 λt118 =>
 M.getH.bind λh4 =>
 (G zcE [t0,t118]).bind λt119 =>
 M.getH.bind λh4' =>
 uU t112 h4 h4' λ_ =>
 uU t108 h4 h4' λ_ =>
 (G zcP [t109,t113,(uc 0),t119]).bind λt120 =>
 (G zbS [t0]).bind λt122 =>
 uL (vlen t122) λt123 =>
 M.blk 4 (
 M.iter (zcZ G t123 t122 t0 V.nils) [V.nils,(uc 0)]) λL6 =>
 (G zdq [t0]).bind λt151 =>
 (mappend zdC 7 72 (ug L6 0) t151).bind λt152 =>
 M.pure (.ret [t152])
theorem ziP{t0 t1:V}:OkT zch [t0,t1] (zft (sem T) t0 t1):=okT (by kernel_rfl) (by kernel_rfl) (by kernel_rfl)
def zdQ(G:Sem')(t0:V):M Res :=
 uL (Ax.build [(uc 0),(uc 0),(uc 0),(uc 0),(uc 0),(uc 0),(uc 0),(uc 0)] []) λt7 =>
 uNF 6 t0 λt9 =>
 (mstore 1 t9 (V.bool false)).bind λ_ =>
 uNF 7 t0 λt11 =>
 (mstore 1 t11 (uc 0)).bind λ_ =>
 uNF 8 t0 λt13 =>
 (mstore 1 t13 (uc 0)).bind λ_ =>
 uNF 9 t0 λt15 =>
 (mstore 1 t15 (uc 0)).bind λ_ =>
 uNF 10 t0 λt17 =>
 uT 8 t17 t7 λ_ =>
 uNF 18 t0 λt23 =>
 (mstore 1 t23 (uc 0)).bind λ_ =>
 uNF 19 t0 λt25 =>
 (mstore 1 t25 (uc 0)).bind λ_ =>
 uNF 20 t0 λt27 =>
 (mstore 1 t27 (uc 0)).bind λ_ =>
 uNF 21 t0 λt29 =>
 (mstore 1 t29 (uc (-1))).bind λ_ =>
 uNF 22 t0 λt33 =>
 (mstore 1 t33 V.nilp).bind λ_ =>
 uNF 23 t0 λt35 =>
 (mstore 1 t35 V.nilp).bind λ_ =>
 M.pure (.ret [])
theorem ze5{t0:V}:OkT zbp [t0] (zdQ (sem T) t0):=okT (by kernel_rfl) (by kernel_rfl) (by kernel_rfl)
def zhy(G:Sem')(t0 t1:V):M Res :=
 (G zcf [t0]).bind λt11 =>
 uE 0 t11 λt12 =>
 uE 1 t11 λt13 =>
 uE 2 t11 λt14 =>
 uL (Ax.un .not t14) λt16 =>
 uG t16 false (M.pure t1) λt18 =>
 uH t16 false (Ax.bin .lss t18 (uc 0)) λt19 =>
 uL (Ax.pick t16 (V.bool true) t19) λt20 =>
 uG t20 false (M.pure t1) λt22 =>
 uH t20 false (Ax.bin .geq t22 (uc 8)) λt23 =>
 uL (Ax.pick t20 (V.bool true) t23) λt24 =>
 M.ite t24
 (M.pure (.ret [V.nilp,(uc 1)]))
 (uL (Ax.build [(uc 0),(uc 0),V.nilp,(uc 0),(uc 0),(uq 0),(uq 0)] [(0,1,t0),(1,1,t1)]) λt27 =>
 uO zaH t27 λt28 =>
 M.pure (.ret [t28,(uc 0)]))
theorem zkV{t0 t1:V}:OkT zdc [t0,t1] (zhy (sem T) t0 t1):=okT (by kernel_rfl) (by kernel_rfl) (by kernel_rfl)
def zfZ(G:Sem')(t0:V):M Res :=
 (G zcf [t0]).bind λt9 =>
 uE 0 t9 λt10 =>
 uE 1 t9 λt11 =>
 uE 2 t9 λt12 =>
 uL (Ax.un .not t12) λt14 =>
 M.ite t14
 (M.pure (.ret [V.nilp,(uc 1)]))
 ((mmkmap zb7).bind λt16 =>
 (mmkmap zcU).bind λt17 =>
 (mmkmap zde).bind λt18 =>
 uL (Ax.build [(uc 0),(V.lit (.map none)),(V.lit (.map none)),(V.lit (.map none))] [(0,1,t0),(1,1,t16),(2,1,t17),(3,1,t18)]) λt19 =>
 uO zb4 t19 λt20 =>
 M.pure (.ret [t20,(uc 0)]))
theorem zjv{t0:V}:OkT zcz [t0] (zfZ (sem T) t0):=okT (by kernel_rfl) (by kernel_rfl) (by kernel_rfl)
def ziu(G:Sem')(t0 t1:V):M Res :=
 uNF 2 t0 λt7 =>
 uM t7 λt8 =>
 uNFM 4 t0 λt12 =>
 M.getH.bind λh0 =>
 (G zdo [t12,(uc 4)]).bind λt13 =>
 M.getH.bind λh0' =>
 uU t7 h0 h0' λ_ =>
 M.getH.bind λh1 =>
 (G zdo [t1,(uc 2)]).bind λt15 =>
 M.getH.bind λh1' =>
 uU t7 h1 h1' λ_ =>
 M.getH.bind λh2 =>
 (mappend zaa 1 1 t13 t15).bind λt16 =>
 M.getH.bind λh2' =>
 uU t7 h2 h2' λ_ =>
 (G zfR [(V.str ⟨#[111,119,110]⟩),t8,t16]).bind λt17 =>
 M.pure (.ret [t17])
theorem zlH{t0 t1:V}:OkT zcE [t0,t1] (ziu (sem T) t0 t1):=okT (by kernel_rfl) (by kernel_rfl) (by kernel_rfl)
def zm6(G:Sem')(t0 t1 t2:V):M Res :=
 let o:=V.int .u8 0
 (mtobytes zaa t0).bind λt11 =>
 (G zdp [t11,t1]).bind λt13 =>
 uO zak (V.agg [o,o,o,o,o,o,o,o,o,o,o,o,o,o,o,o,o,o,o,o,o,o,o,o,o,o,o,o,o,o,o,o]) λt7 =>
 uT 32 t7 t13 λ_ =>
 uL (zaA (.arr 32) 1 t7 none none none) λt15 =>
 (G zcA [t15,t2,(uc 32)]).bind λt17 =>
 uE 0 t17 λt18 =>
 uE 1 t17 λt19 =>
 M.pure (.ret [t18])
theorem zqn{t0 t1 t2:V}:OkT zfR [t0,t1,t2] (zm6 (sem T) t0 t1 t2):=okT (by kernel_rfl) (by kernel_rfl) (by kernel_rfl)
def zkr(G:Sem')(t0 t1:V):M Res :=
 let o:=V.int .u8 0
 uO zak (V.agg [o,o,o,o,o,o,o,o,o,o,o,o,o,o,o,o,o,o,o,o,o,o,o,o,o,o,o,o,o,o,o,o]) λt4 =>
 (mslit zal 1 [V.nils] [(0,1,t1)]).bind λt7 =>
 (G zgt [t0,t7]).bind λt8 =>
 uT 32 t4 t8 λ_ =>
 uS 32 t4 λr0 =>
 M.pure (.ret [r0])
theorem znN{t0 t1:V}:OkT zdp [t0,t1] (zkr (sem T) t0 t1):=okT (by kernel_rfl) (by kernel_rfl) (by kernel_rfl)
def zk3(G:Sem')(t23 t22 t6 t4:V)(L:List V):M Res :=
 uB .lss (ug L 0) t23 λt25 =>
 M.ite t25
 (M.blk 1 (
 uIM none 1 t22 (ug L 0) λt27 =>
 (G za4 [t6,t27]).bind λt30 =>
 M.pure (.nrm [])) λ_ =>
 uB .add (ug L 0) (uc 1) λt31 =>
 M.pure (.nrm [t31]))
 (M.pure (.ex 0 []))
def zsG(G:Sem')(t0 t1:V):M Res :=
 let o:=V.int .u8 0
 uO zak (V.agg [o,o,o,o,o,o,o,o,o,o,o,o,o,o,o,o,o,o,o,o,o,o,o,o,o,o,o,o,o,o,o,o]) λt4 =>
 uL (vlen t0) λt11 =>
 uB .gtr t11 (uc 64) λt12 =>
 M.join (M.ite t12
 ((mslit zal 1 [V.nils] [(0,1,t0)]).bind λt14 =>
 (G zel [t14]).bind λt15 =>
 uO zak (V.agg [o,o,o,o,o,o,o,o,o,o,o,o,o,o,o,o,o,o,o,o,o,o,o,o,o,o,o,o,o,o,o,o]) λt5 =>
 uT 32 t5 t15 λ_ =>
 uL (zaA (.arr 32) 1 t5 none none none) λt16 =>
 M.pure (.nrm [t16]))
 (M.pure (.nrm [t0]))) λL0 =>
 (G zdO []).bind λt17 =>
 (G zgs [(ug L0 0),(ub 54)]).bind λt20 =>
 (G za4 [t17,t20]).bind λt21 =>
 uL (vlen t1) λt23 =>
 M.blk 0 (
 M.iter (zk3 G t23 t1 t17 t4) [(uc 0)]) λ_ =>
 (G zbC [t17]).bind λt33 =>
 uO zak (V.agg [o,o,o,o,o,o,o,o,o,o,o,o,o,o,o,o,o,o,o,o,o,o,o,o,o,o,o,o,o,o,o,o]) λt9 =>
 uT 32 t9 t33 λ_ =>
 uL (zaA (.arr 32) 1 t9 none none none) λt36 =>
 (G zgs [(ug L0 0),(ub 92)]).bind λt35 =>
 (mslit zal 2 [V.nils] [(0,1,t35),(1,1,t36)]).bind λt37 =>
 (G zel [t37]).bind λt38 =>
 uT 32 t4 t38 λ_ =>
 uS 32 t4 λr0 =>
 M.pure (.ret [r0])
theorem zvD{t0 t1:V}:OkT zgt [t0,t1] (zsG (sem T) t0 t1):=okT (by kernel_rfl) (by kernel_rfl) (by kernel_rfl)
def zhh(G:Sem')(t8 t7 t3 t2:V)(L:List V):M Res :=
 uB .lss (ug L 0) t8 λt10 =>
 M.ite t10
 (M.blk 1 (
 uIM none 1 t7 (ug L 0) λt12 =>
 (G za4 [t3,t12]).bind λt15 =>
 M.pure (.nrm [])) λ_ =>
 uB .add (ug L 0) (uc 1) λt16 =>
 M.pure (.nrm [t16]))
 (M.pure (.ex 0 []))
def znd(G:Sem')(t0:V):M Res :=
 let o:=V.int .u8 0
 uO zak (V.agg [o,o,o,o,o,o,o,o,o,o,o,o,o,o,o,o,o,o,o,o,o,o,o,o,o,o,o,o,o,o,o,o]) λt2 =>
 (G zdO []).bind λt6 =>
 uL (vlen t0) λt8 =>
 M.blk 0 (
 M.iter (zhh G t8 t0 t6 t2) [(uc 0)]) λ_ =>
 (G zbC [t6]).bind λt18 =>
 uT 32 t2 t18 λ_ =>
 uS 32 t2 λr0 =>
 M.pure (.ret [r0])
theorem zqq{t0:V}:OkT zel [t0] (znd (sem T) t0):=okT (by kernel_rfl) (by kernel_rfl) (by kernel_rfl)
def zlv(G:Sem'):M Res :=
 let p:=V.int .u32 0
 uL (Ax.build [p,p,p,p,p,p,p,p] [(0,1,(V.int .u32 1779033703)),(1,1,(V.int .u32 3144134277)),(2,1,(V.int .u32 1013904242)),(3,1,(V.int .u32 2773480762)),(4,1,(V.int .u32 1359893119)),(5,1,(V.int .u32 2600822924)),(6,1,(V.int .u32 528734635)),(7,1,(V.int .u32 1541459225))]) λt1 =>
 uL (Ax.build [p,(V.int .i32 0),p,p,p,p,p,p,p,p,p,p,p,p,p,p,p,p,p,p,p,p,p,p,p,p,p,p,p,p,p,p,p,p,p,p,p,p,p,p,p,p,p,p,p,p,p,p,p,p,p,p,p,p,p,p,p,p,p,p,p,p,p,p,p,p,p] []) λt2 =>
 uO zay t2 λt3 =>
 uL (Ax.build [p,p,p,p,p,p,p,p,V.nils,(uq 0),V.nilp] [(0,8,t1),(10,1,t3)]) λt4 =>
 uO zao t4 λt5 =>
 M.pure (.ret [t5])
theorem zpb:OkT zdO [] (zlv (sem T)):=okT (by kernel_rfl) (by kernel_rfl) (by kernel_rfl)
def zce(G:Sem')(t0:V)(L:List V):M Res :=
 uL (vlen (ug L 0)) λt65 =>
 uB .geq t65 (uc 64) λt66 =>
 M.ite t66
 (M.blk 1 (
 uL (zaA .sl 1 (ug L 0) none (some (uc 64)) none) λt71 =>
 (G za7 [t0,t71]).bind λt72 =>
 M.pure (.nrm [])) λ_ =>
 uL (zaA .sl 1 (ug L 0) (some (uc 64)) none none) λt68 =>
 M.pure (.nrm [t68]))
 (M.pure (.ex 0 [(ug L 0)]))
def zfx(G:Sem')(t0 t1:V):M Res :=
 uNFM 9 t0 λt8 =>
 uL (vlen t1) λt10 =>
 uL (Ax.cint .u64 t10) λt11 =>
 uB .add t8 t11 λt12 =>
 uNF 9 t0 λt14 =>
 uT 1 t14 t12 λ_ =>
 uNFM 8 t0 λt18 =>
 uL (vlen t18) λt19 =>
 uB .gtr t19 (uc 0) λt20 =>
 M.join (M.ite t20
 (uNFM 8 t0 λt24 =>
 uL (vlen t24) λt25 =>
 uB .sub (uc 64) t25 λt26 =>
 uL (vlen t1) λt28 =>
 uL (Ax.minmax false t26 [t28]) λt29 =>
 uNFM 8 t0 λt34 =>
 uL (zaA .sl 1 t1 none (some t29) none) λt37 =>
 (mappend zaa 1 1 t34 t37).bind λt38 =>
 uNF 8 t0 λt40 =>
 uT 1 t40 t38 λ_ =>
 uL (zaA .sl 1 t1 (some t29) none none) λt43 =>
 uNFM 8 t0 λt47 =>
 uL (vlen t47) λt48 =>
 uB .lss t48 (uc 64) λt49 =>
 M.ite t49
 (M.pure (.ret []))
 (uNFM 8 t0 λt54 =>
 (G za7 [t0,t54]).bind λt55 =>
 uNFM 8 t0 λt60 =>
 uL (zaA .sl 1 t60 none (some (uc 0)) none) λt61 =>
 uNF 8 t0 λt63 =>
 uT 1 t63 t61 λ_ =>
 M.pure (.nrm [t43])))
 (M.pure (.nrm [t1]))) λL0 =>
 M.blk 0 (
 M.iter (zce G t0) [(ug L0 0)]) λL2 =>
 uNFM 8 t0 λt77 =>
 (mappend zaa 1 1 t77 (ug L2 0)).bind λt79 =>
 uNF 8 t0 λt81 =>
 uT 1 t81 t79 λ_ =>
 M.pure (.ret [])
theorem ziT{t0 t1:V}:OkT za4 [t0,t1] (zfx (sem T) t0 t1):=okT (by kernel_rfl) (by kernel_rfl) (by kernel_rfl)
def zbH(G:Sem')(t1 t5:V)(L:List V):M Res :=
 uB .lss (ug L 0) (uc 64) λt22 =>
 M.ite t22
 (M.blk 1 (
 uB .lss (ug L 0) (uc 16) λt25 =>
 M.ite t25
 (uB .mul (uc 4) (ug L 0) λt29 =>
 uL (zaA .sl 1 t1 (some t29) none none) λt30 =>
 (G zeb [t30]).bind λt31 =>
 uI (some 64) 1 t5 (ug L 0) λt32 =>
 uT 1 t32 t31 λ_ =>
 M.pure (.ex 1 []))
 (uB .sub (ug L 0) (uc 15) λt34 =>
 uIM (some 64) 1 t5 t34 λt36 =>
 uB .sub (ug L 0) (uc 2) λt38 =>
 uIM (some 64) 1 t5 t38 λt40 =>
 uB .sub (ug L 0) (uc 16) λt43 =>
 uI (some 64) 1 t5 t43 λt44 =>
 uM t44 λt45 =>
 uB .shr t36 (uq 3) λt52 =>
 uB .sub (ug L 0) (uc 7) λt56 =>
 uI (some 64) 1 t5 t56 λt57 =>
 uM t57 λt58 =>
 uB .shr t40 (uq 10) λt66 =>
 M.getH.bind λh0 =>
 (G zau [t36,(uc 7)]).bind λt47 =>
 M.getH.bind λh0' =>
 uU t57 h0 h0' λ_ =>
 uU t44 h0 h0' λ_ =>
 M.getH.bind λh1 =>
 (G zau [t36,(uc 18)]).bind λt49 =>
 M.getH.bind λh1' =>
 uU t57 h1 h1' λ_ =>
 uU t44 h1 h1' λ_ =>
 M.getH.bind λh2 =>
 (G zau [t40,(uc 17)]).bind λt61 =>
 M.getH.bind λh2' =>
 uU t57 h2 h2' λ_ =>
 uU t44 h2 h2' λ_ =>
 M.getH.bind λh3 =>
 (G zau [t40,(uc 19)]).bind λt63 =>
 M.getH.bind λh3' =>
 uU t57 h3 h3' λ_ =>
 uU t44 h3 h3' λ_ =>
 uB .xor t47 t49 λt50 =>
 uB .xor t50 t52 λt53 =>
 uB .add t45 t53 λt54 =>
 uB .add t54 t58 λt59 =>
 uB .xor t61 t63 λt64 =>
 uB .xor t64 t66 λt67 =>
 uB .add t59 t67 λt68 =>
 uI (some 64) 1 t5 (ug L 0) λt69 =>
 uT 1 t69 t68 λ_ =>
 M.pure (.nrm []))) λ_ =>
 uB .add (ug L 0) (uc 1) λt70 =>
 M.pure (.nrm [t70]))
 (M.pure (.ex 0 []))
def zbG(G:Sem')(t4 t5 t9:V)(L:List V):M Res :=
 let p:=V.int .u32 0
 uB .lss (ug L 0) (uc 64) λt76 =>
 M.ite t76
 (M.blk 3 (
 uIM (some 8) 1 t9 (uc 0) λt79 =>
 uIM (some 8) 1 t9 (uc 4) λt81 =>
 uI (some 8) 1 t9 (uc 7) λt82 =>
 uM t82 λt83 =>
 uI (some 8) 1 t9 (uc 5) λt94 =>
 uM t94 λt95 =>
 uB .and t81 t95 λt96 =>
 uL (Ax.un .xor t81) λt98 =>
 uI (some 8) 1 t9 (uc 6) λt99 =>
 uM t99 λt100 =>
 uB .and t98 t100 λt101 =>
 uB .xor t96 t101 λt102 =>
 uN t4 λt106 =>
 uI (some 64) 1 t106 (ug L 0) λt107 =>
 uM t107 λt108 =>
 uI (some 64) 1 t5 (ug L 0) λt111 =>
 uM t111 λt112 =>
 M.getH.bind λh4 =>
 (G zau [t81,(uc 6)]).bind λt85 =>
 M.getH.bind λh4' =>
 uU t111 h4 h4' λ_ =>
 uU t107 h4 h4' λ_ =>
 uU t99 h4 h4' λ_ =>
 uU t94 h4 h4' λ_ =>
 uU t82 h4 h4' λ_ =>
 M.getH.bind λh5 =>
 (G zau [t81,(uc 11)]).bind λt87 =>
 M.getH.bind λh5' =>
 uU t111 h5 h5' λ_ =>
 uU t107 h5 h5' λ_ =>
 uU t99 h5 h5' λ_ =>
 uU t94 h5 h5' λ_ =>
 uU t82 h5 h5' λ_ =>
 M.getH.bind λh6 =>
 (G zau [t81,(uc 25)]).bind λt90 =>
 M.getH.bind λh6' =>
 uU t111 h6 h6' λ_ =>
 uU t107 h6 h6' λ_ =>
 uU t99 h6 h6' λ_ =>
 uU t94 h6 h6' λ_ =>
 uU t82 h6 h6' λ_ =>
 uB .xor t85 t87 λt88 =>
 uB .xor t88 t90 λt91 =>
 uB .add t83 t91 λt92 =>
 uB .add t92 t102 λt103 =>
 uB .add t103 t108 λt109 =>
 uB .add t109 t112 λt113 =>
 uI (some 8) 1 t9 (uc 1) λt123 =>
 uM t123 λt124 =>
 uB .and t79 t124 λt125 =>
 uI (some 8) 1 t9 (uc 2) λt127 =>
 uM t127 λt128 =>
 uB .and t79 t128 λt129 =>
 uB .xor t125 t129 λt130 =>
 uI (some 8) 1 t9 (uc 1) λt131 =>
 uM t131 λt132 =>
 uI (some 8) 1 t9 (uc 2) λt133 =>
 uM t133 λt134 =>
 uB .and t132 t134 λt135 =>
 uB .xor t130 t135 λt136 =>
 M.getH.bind λh7 =>
 (G zau [t79,(uc 2)]).bind λt115 =>
 M.getH.bind λh7' =>
 uU t133 h7 h7' λ_ =>
 uU t131 h7 h7' λ_ =>
 uU t127 h7 h7' λ_ =>
 uU t123 h7 h7' λ_ =>
 M.getH.bind λh8 =>
 (G zau [t79,(uc 13)]).bind λt117 =>
 M.getH.bind λh8' =>
 uU t133 h8 h8' λ_ =>
 uU t131 h8 h8' λ_ =>
 uU t127 h8 h8' λ_ =>
 uU t123 h8 h8' λ_ =>
 M.getH.bind λh9 =>
 (G zau [t79,(uc 22)]).bind λt120 =>
 M.getH.bind λh9' =>
 uU t133 h9 h9' λ_ =>
 uU t131 h9 h9' λ_ =>
 uU t127 h9 h9' λ_ =>
 uU t123 h9 h9' λ_ =>
 uB .xor t115 t117 λt118 =>
 uB .xor t118 t120 λt121 =>
 uB .add t121 t136 λt137 =>
 uB .add t113 t137 λt140 =>
 uIM (some 8) 1 t9 (uc 1) λt143 =>
 uIM (some 8) 1 t9 (uc 2) λt145 =>
 uIM (some 8) 1 t9 (uc 3) λt147 =>
 uB .add t147 t113 λt149 =>
 uIM (some 8) 1 t9 (uc 5) λt152 =>
 uIM (some 8) 1 t9 (uc 6) λt154 =>
 uL (Ax.build [p,p,p,p,p,p,p,p] [(0,1,t140),(1,1,t79),(2,1,t143),(3,1,t145),(4,1,t149),(5,1,t81),(6,1,t152),(7,1,t154)]) λt155 =>
 uT 8 t9 t155 λ_ =>
 M.pure (.nrm [])) λ_ =>
 uB .add (ug L 0) (uc 1) λt156 =>
 M.pure (.nrm [t156]))
 (M.pure (.ex 2 []))
def zbF(G:Sem')(t0 t9:V)(L:List V):M Res :=
 uB .lss (ug L 0) (uc 8) λt158 =>
 M.ite t158
 (M.blk 5 (
 uNF 0 t0 λt163 =>
 uIM (some 8) 1 t163 (ug L 0) λt165 =>
 uIM (some 8) 1 t9 (ug L 0) λt168 =>
 uB .add t165 t168 λt169 =>
 uNF 0 t0 λt171 =>
 uI (some 8) 1 t171 (ug L 0) λt172 =>
 uT 1 t172 t169 λ_ =>
 M.pure (.nrm [])) λ_ =>
 uB .add (ug L 0) (uc 1) λt173 =>
 M.pure (.nrm [t173]))
 (M.pure (.ex 4 []))
def zeq(G:Sem')(t0 t1:V):M Res :=
 let p:=V.int .u32 0
 uNFM 10 t0 λt19 =>
 (G zci [t19]).bind λt20 =>
 uO zct (V.agg [p,p,p,p,p,p,p,p,p,p,p,p,p,p,p,p,p,p,p,p,p,p,p,p,p,p,p,p,p,p,p,p,p,p,p,p,p,p,p,p,p,p,p,p,p,p,p,p,p,p,p,p,p,p,p,p,p,p,p,p,p,p,p,p]) λt5 =>
 M.blk 0 (
 M.iter (zbH G t1 t5) [(uc 0)]) λ_ =>
 uNF 0 t0 λt73 =>
 uS 8 t73 λt74 =>
 uO zbM (V.agg [p,p,p,p,p,p,p,p]) λt9 =>
 uT 8 t9 t74 λ_ =>
 M.blk 2 (
 M.iter (zbG G t20 t5 t9) [(uc 0)]) λ_ =>
 M.blk 4 (
 M.iter (zbF G t0 t9) [(uc 0)]) λ_ =>
 M.pure (.ret [])
theorem zhD{t0 t1:V}:OkT za7 [t0,t1] (zeq (sem T) t0 t1):=okT (by kernel_rfl) (by kernel_rfl) (by kernel_rfl)
def zfv(G:Sem')(t0:V):M Res :=
 uO za5 t0 λt1 =>
 uM t1 λt3 =>
 uNF 0 t3 λt5 =>
 (M.pure (.fn zbW [t1])).bind λt6 =>
 (G zcn [t5,t6]).bind λt7 =>
 uM t1 λt8 =>
 uNF 3 t8 λt10 =>
 M.pure (.ret [t10])
theorem ziR{t0:V}:OkT zci [t0] (zfv (sem T) t0):=okT (by kernel_rfl) (by kernel_rfl) (by kernel_rfl)
def zdS(G:Sem')(L:List V):M Res :=
 (G zbu [(ug L 0)]).bind λt9 =>
 uL (Ax.un .not t9) λt10 =>
 M.ite t10
 (M.blk 3 (
 uB .add (ug L 0) (uc 1) λt12 =>
 M.pure (.nrm [t12])) λL0 =>
 M.pure (.nrm [(ug L0 0)]))
 (M.pure (.ex 2 [(ug L 0)]))
def zcB(G:Sem')(t0:V)(L:List V):M Res :=
 uB .lss (ug L 1) (uc 64) λt4 =>
 M.ite t4
 (M.blk 1 (
 uB .add (ug L 0) (uc 1) λt7 =>
 M.blk 2 (
 M.iter (zdS G) [t7]) λL1 =>
 uM t0 λt13 =>
 uL (Ax.cint .u64 (ug L1 0)) λt16 =>
 uNF 3 t13 λt19 =>
 M.getH.bind λh0 =>
 (G zbI [t16]).bind λt17 =>
 M.getH.bind λh0' =>
 uU t0 h0 h0' λ_ =>
 uI (some 64) 1 t19 (ug L 1) λt20 =>
 uT 1 t20 t17 λ_ =>
 M.pure (.nrm [(ug L1 0)])) λL2 =>
 uB .add (ug L 1) (uc 1) λt21 =>
 M.pure (.nrm [(ug L2 0),t21]))
 (M.pure (.ex 0 []))
def zep(G:Sem')(t0:V):M Res :=
 M.blk 0 (
 M.iter (zcB G t0) [(uc 0),(uc 0)]) λ_ =>
 M.pure (.ret [])
theorem zhC{t0:V}:OkT zbW [t0] (zep (sem T) t0):=okT (by kernel_rfl) (by kernel_rfl) (by kernel_rfl)
def ze8:Fn':=irOf zbu
theorem zmj:T zbu=some ze8:=by kernel_rfl
def zf8:Fn':=irOf zbI
theorem znC:T zbI=some zf8:=by kernel_rfl
def zh6:Fn':=irOf zdE
theorem zpV:T zdE=some zh6:=by kernel_rfl
def zet:Fn':=irOf zb6
theorem zlG:T zb6=some zet:=by kernel_rfl
def zh5:Fn':=irOf zdD
theorem zpU:T zdD=some zh5:=by kernel_rfl
def zgT:Fn':=irOf zda
theorem zoR:T zda=some zgT:=by kernel_rfl
def zgU:Fn':=irOf zdb
theorem zoS:T zdb=some zgU:=by kernel_rfl
def zjy:Fn':=irOf zd4
theorem zrf:T zd4=some zjy:=by kernel_rfl
def ze9:Fn':=irOf zbU
theorem zmk:T zbU=some ze9:=by kernel_rfl
def zdJ:Fn':=irOf zbl
theorem zjP:T zbl=some zdJ:=by kernel_rfl
def zgc(G:Sem')(t0 t1:V):M Res :=
 uM t0 λt2 =>
 uB .eql t2 (V.int .u32 0) λt3 =>
 M.ite t3
 (uF 1 t0 λt4 =>
 uM t4 λt5 =>
 uB .eql t5 (V.int .i32 0) λt6 =>
 M.ite t6
 ((mstore 1 t4 (V.int .i32 1)).bind λ_ =>
 (callv G t1 []).bind λ_ =>
 uM t4 λt7 =>
 uB .eql t7 (V.int .i32 1) λt8 =>
 uM t0 λt9 =>
 uB .eql t9 (V.int .u32 0) λt10 =>
 M.ite t8
 (M.ite t10
 ((mstore 1 t0 (V.int .u32 1)).bind λ_ =>
 (mstore 1 t4 (V.int .i32 0)).bind λ_ =>
 M.pure (.ret []))
 (M.fail))
 (M.fail))
 (M.fail))
 (M.pure (.ret []))
theorem zhY{t0 t1:V}:OkT zcn [t0,t1] (zgc (sem T) t0 t1):=okT (by kernel_rfl) (by kernel_rfl) (by kernel_rfl)
def zks(G:Sem')(t0:V):M Res :=
 uIM none 1 t0 (uc 0) λt5 =>
 uL (Ax.cint .u32 t5) λt6 =>
 uB .shl t6 (uq 24) λt7 =>
 uIM none 1 t0 (uc 1) λt10 =>
 uL (Ax.cint .u32 t10) λt11 =>
 uB .shl t11 (uq 16) λt12 =>
 uB .or t7 t12 λt13 =>
 uIM none 1 t0 (uc 2) λt16 =>
 uL (Ax.cint .u32 t16) λt17 =>
 uB .shl t17 (uq 8) λt18 =>
 uB .or t13 t18 λt19 =>
 uIM none 1 t0 (uc 3) λt22 =>
 uL (Ax.cint .u32 t22) λt23 =>
 uB .or t19 t23 λt24 =>
 M.pure (.ret [t24])
theorem znO{t0:V}:OkT zeb [t0] (zks (sem T) t0):=okT (by kernel_rfl) (by kernel_rfl) (by kernel_rfl)
def zkt(G:Sem')(t0 t1:V):M Res :=
 uL (Ax.un .neg t1) λt7 =>
 (G zbr [t0,t7]).bind λt8 =>
 M.pure (.ret [t8])
theorem znP{t0 t1:V}:OkT zau [t0,t1] (zkt (sem T) t0 t1):=okT (by kernel_rfl) (by kernel_rfl) (by kernel_rfl)
def zdG(G:Sem')(t0 t1:V):M Res :=
 uL (Ax.cint .u64 t1) λt7 =>
 uB .and t7 (uq 31) λt8 =>
 uB .shl t0 t8 λt11 =>
 uB .sub (uq 32) t8 λt14 =>
 uB .shr t0 t14 λt15 =>
 uB .or t11 t15 λt16 =>
 M.pure (.ret [t16])
theorem zf7{t0 t1:V}:OkT zbr [t0,t1] (zdG (sem T) t0 t1):=okT (by kernel_rfl) (by kernel_rfl) (by kernel_rfl)
def zc3(G:Sem')(t3 t2:V)(L:List V):M Res :=
 uNFM 8 t3 λt21 =>
 uL (vlen t21) λt22 =>
 uL (vlen (ug L 0)) λt24 =>
 uB .add t22 t24 λt25 =>
 uB .rem t25 (uc 64) λt26 =>
 uB .neq t26 (uc 56) λt27 =>
 M.ite t27
 (M.blk 1 (
 (mslit zaa 1 [(ub 0)] [(0,1,(ub 0))]).bind λt29 =>
 (mappend zaa 1 1 (ug L 0) t29).bind λt30 =>
 M.pure (.nrm [t30])) λL0 =>
 M.pure (.nrm [(ug L0 0)]))
 (M.pure (.ex 0 [(ug L 0)]))
def zc2(G:Sem')(t4 t2:V)(L:List V):M Res :=
 uB .geq (ug L 1) (uc 0) λt32 =>
 M.ite t32
 (M.blk 3 (
 uB .mul (uc 8) (ug L 1) λt38 =>
 uB .shr t4 t38 λt39 =>
 uL (Ax.cint .u8 t39) λt40 =>
 (mslit zaa 1 [(ub 0)] [(0,1,t40)]).bind λt41 =>
 (mappend zaa 1 1 (ug L 0) t41).bind λt42 =>
 M.pure (.nrm [t42])) λL2 =>
 uB .sub (ug L 1) (uc 1) λt34 =>
 M.pure (.nrm [(ug L2 0),t34]))
 (M.pure (.ex 2 [(ug L 0)]))
def zcd(G:Sem')(t49 t7 t2:V)(L:List V):M Res :=
 uB .lss (ug L 0) (uc 8) λt51 =>
 M.ite t51
 (M.blk 5 (
 uL (Ax.index 8 1 none t49 (ug L 0)) λt53 =>
 uB .mul (uc 4) (ug L 0) λt55 =>
 uB .mul (uc 4) (ug L 0) λt57 =>
 uB .add t57 (uc 1) λt58 =>
 uB .mul (uc 4) (ug L 0) λt60 =>
 uB .add t60 (uc 2) λt61 =>
 uB .mul (uc 4) (ug L 0) λt63 =>
 uB .add t63 (uc 3) λt64 =>
 uB .shr t53 (uq 24) λt66 =>
 uL (Ax.cint .u8 t66) λt67 =>
 uB .shr t53 (uq 16) λt69 =>
 uL (Ax.cint .u8 t69) λt70 =>
 uB .shr t53 (uq 8) λt72 =>
 uL (Ax.cint .u8 t72) λt73 =>
 uL (Ax.cint .u8 t53) λt75 =>
 uI (some 32) 1 t7 t55 λt76 =>
 uT 1 t76 t67 λ_ =>
 uI (some 32) 1 t7 t58 λt77 =>
 uT 1 t77 t70 λ_ =>
 uI (some 32) 1 t7 t61 λt78 =>
 uT 1 t78 t73 λ_ =>
 uI (some 32) 1 t7 t64 λt79 =>
 uT 1 t79 t75 λ_ =>
 M.pure (.nrm [])) λ_ =>
 uB .add (ug L 0) (uc 1) λt80 =>
 M.pure (.nrm [t80]))
 (M.pure (.ex 4 []))
def zfw(G:Sem')(t0:V):M Res :=
 let o:=V.int .u8 0
 uO zak (V.agg [o,o,o,o,o,o,o,o,o,o,o,o,o,o,o,o,o,o,o,o,o,o,o,o,o,o,o,o,o,o,o,o]) λt2 =>
 (G zca [t0]).bind λt11 =>
 uNFM 9 t11 λt15 =>
 uB .mul t15 (uq 8) λt16 =>
 (mslit zaa 1 [o] [(0,1,(ub 128))]).bind λt17 =>
 M.blk 0 (
 M.iter (zc3 G t11 t2) [t17]) λL1 =>
 M.blk 2 (
 M.iter (zc2 G t16 t2) [(ug L1 0),(uc 7)]) λL3 =>
 (G za4 [t11,(ug L3 0)]).bind λt45 =>
 uO zak (V.agg [o,o,o,o,o,o,o,o,o,o,o,o,o,o,o,o,o,o,o,o,o,o,o,o,o,o,o,o,o,o,o,o]) λt7 =>
 uNF 0 t11 λt48 =>
 uS 8 t48 λt49 =>
 M.blk 4 (
 M.iter (zcd G t49 t7 t2) [(uc 0)]) λ_ =>
 uS 32 t7 λt81 =>
 uT 32 t2 t81 λ_ =>
 uS 32 t2 λr0 =>
 M.pure (.ret [r0])
theorem ziS{t0:V}:OkT zbC [t0] (zfw (sem T) t0):=okT (by kernel_rfl) (by kernel_rfl) (by kernel_rfl)
end Go.Ax
/- FnS3 -/
namespace Go.Ax
open Go.Proofs
def zeJ(G:Sem')(t0:V):M Res :=
 let p:=V.int .u32 0
 uN t0 λt5 =>
 uS 11 t5 λt6 =>
 uO zao (V.agg [p,p,p,p,p,p,p,p,V.nils,(uq 0),V.nilp]) λt3 =>
 uT 11 t3 t6 λ_ =>
 uNFM 8 t0 λt10 =>
 (mappend zaa 1 1 V.nils t10).bind λt11 =>
 uF 8 t3 λt12 =>
 uT 1 t12 t11 λ_ =>
 M.pure (.ret [t3])
theorem zh2{t0:V}:OkT zca [t0] (zeJ (sem T) t0):=okT (by kernel_rfl) (by kernel_rfl) (by kernel_rfl)
def zjE(G:Sem')(t12 t5 t1 t4:V)(L:List V):M Res :=
 uB .lss (ug L 0) t12 λt14 =>
 M.ite t14
 (M.blk 1 (
 uIM none 1 t5 (ug L 0) λt19 =>
 uB .xor t19 t1 λt21 =>
 uI none 1 t5 (ug L 0) λt22 =>
 uT 1 t22 t21 λ_ =>
 M.pure (.nrm [])) λ_ =>
 uB .add (ug L 0) (uc 1) λt23 =>
 M.pure (.nrm [t23]))
 (M.pure (.ex 0 []))
def zqL(G:Sem')(t0 t1:V):M Res :=
 (mmkslice zaa 1 [(ub 0)] (uc 64) (uc 64)).bind λt7 =>
 (mcopy 1 t7 t0).bind λt10 =>
 uL (vlen t7) λt12 =>
 M.blk 0 (
 M.iter (zjE G t12 t7 t1 V.nils) [(uc 0)]) λ_ =>
 M.pure (.ret [t7])
theorem ztB{t0 t1:V}:OkT zgs [t0,t1] (zqL (sem T) t0 t1):=okT (by kernel_rfl) (by kernel_rfl) (by kernel_rfl)
def zge(G:Sem')(t2 t0 t1:V)(L:List V):M Res :=
 let o:=V.int .u8 0
 uL (vlen (ug L 0)) λt19 =>
 uB .lss t19 t2 λt21 =>
 M.ite t21
 (M.blk 2 (
 (mslit zaa 1 [o] [(0,1,(ug L 2))]).bind λt28 =>
 (mslit zal 3 [V.nils] [(0,1,(ug L 1)),(1,1,t1),(2,1,t28)]).bind λt29 =>
 (G zgt [t0,t29]).bind λt30 =>
 uO zak (V.agg [o,o,o,o,o,o,o,o,o,o,o,o,o,o,o,o,o,o,o,o,o,o,o,o,o,o,o,o,o,o,o,o]) λt11 =>
 uT 32 t11 t30 λ_ =>
 uL (zaA (.arr 32) 1 t11 none none none) λt31 =>
 (mappend zaa 1 1 (ug L 0) t31).bind λt34 =>
 M.pure (.nrm [t34,t31])) λL1 =>
 uB .add (ug L 2) (ub 1) λt23 =>
 M.pure (.nrm [(ug L1 0),(ug L1 1),t23]))
 (M.pure (.ex 1 [(ug L 0)]))
def zlu(G:Sem')(t0 t1 t2:V):M Res :=
 M.blk 0 (
 uB .lss t2 (uc 0) λt14 =>
 M.ite t14
 (M.pure (.ret [V.nils,(uc 1)]))
 (uB .gtr t2 (uc 8160) λt17 =>
 M.ite t17
 (M.pure (.ret [V.nils,(uc 4)]))
 (M.pure (.nrm [])))) λ_ =>
 M.blk 1 (
 M.iter (zge G t2 t0 t1) [V.nils,V.nils,(ub 1)]) λL2 =>
 uL (zaA .sl 1 (ug L2 0) none (some t2) none) λt37 =>
 (mappend zaa 1 1 V.nils t37).bind λt38 =>
 M.pure (.ret [t38,(uc 0)])
theorem zpa{t0 t1 t2:V}:OkT zcA [t0,t1,t2] (zlu (sem T) t0 t1 t2):=okT (by kernel_rfl) (by kernel_rfl) (by kernel_rfl)
def zgF(G:Sem')(t0 t1 t2 t3:V):M Res :=
 uNFM 1 t0 λt18 =>
 (G zke [t1,t2,t18]).bind λt19 =>
 uE 0 t19 λt20 =>
 uE 1 t19 λt21 =>
 M.blk 0 (
 uB .neq t21 (uc 0) λt24 =>
 M.ite t24
 (M.pure (.ret [t21]))
 (uNFM 2 t0 λt30 =>
 uL (eqr .ptr true t30 V.nilp) λt31 =>
 uG t31 true (M.pure t0) λt33 =>
 uH t31 true (Ax.nilck t33) λt34 =>
 uH t31 true (Ax.faddr 5 t34) λt35 =>
 uG t31 true (mload none t35) λt36 =>
 uG t31 true (M.pure t20) λt37 =>
 uG t31 true (G zhe [t36,t37]) λt38 =>
 uH t31 true (Ax.un .not t38) λt39 =>
 uL (Ax.pick t31 t39 (V.bool false)) λt40 =>
 M.ite t40
 (M.pure (.ret [(uc 9)]))
 (M.pure (.nrm [])))) λ_ =>
 uNFM 0 t0 λt45 =>
 (G zco [t45,t20,t3]).bind λt48 =>
 uE 0 t48 λt49 =>
 uE 1 t48 λt50 =>
 uB .neq t50 (uc 0) λt52 =>
 M.ite t52
 (M.pure (.ret [t50]))
 (uNF 2 t0 λt64 =>
 uT 1 t64 t49 λ_ =>
 uNF 3 t0 λt66 =>
 uT 1 t66 t1 λ_ =>
 uNF 4 t0 λt68 =>
 uT 1 t68 t2 λ_ =>
 uNF 5 t0 λt70 =>
 uT 1 t70 t20 λ_ =>
 uNF 6 t0 λt72 =>
 (mstore 1 t72 (uq 0)).bind λ_ =>
 M.pure (.ret [(uc 0)]))
theorem zjY{t0 t1 t2 t3:V}:OkT zcP [t0,t1,t2,t3] (zgF (sem T) t0 t1 t2 t3):=okT (by kernel_rfl) (by kernel_rfl) (by kernel_rfl)
def zsH(G:Sem')(t0 t1 t2:V):M Res :=
 uB .lss t0 (uc 0) λt9 =>
 uG t9 false (M.pure t0) λt11 =>
 uH t9 false (Ax.bin .gtr t11 (uc 65535)) λt12 =>
 uL (Ax.pick t9 (V.bool true) t12) λt13 =>
 uG t13 false (M.pure t1) λt15 =>
 uH t13 false (Ax.bin .lss t15 (uc 0)) λt16 =>
 uL (Ax.pick t13 (V.bool true) t16) λt17 =>
 uG t17 false (M.pure t1) λt19 =>
 uH t17 false (Ax.bin .gtr t19 (uc 31)) λt20 =>
 uL (Ax.pick t17 (V.bool true) t20) λt21 =>
 uG t21 false (M.pure t2) λt23 =>
 uH t21 false (Ax.bin .lss t23 (uc 0)) λt24 =>
 uL (Ax.pick t21 (V.bool true) t24) λt25 =>
 uG t25 false (M.pure t2) λt27 =>
 uH t25 false (Ax.bin .geq t27 (uc 8)) λt28 =>
 uL (Ax.pick t25 (V.bool true) t28) λt29 =>
 M.ite t29
 (M.pure (.ret [(uq 0),(uc 1)]))
 (uB .mul (uc 256) t0 λt31 =>
 uB .mul (uc 8) t1 λt33 =>
 uB .add t31 t33 λt34 =>
 uB .add t34 t2 λt36 =>
 uL (Ax.cint .u64 t36) λt37 =>
 M.pure (.ret [t37,(uc 0)]))
theorem zvE{t0 t1 t2:V}:OkT zke [t0,t1,t2] (zsH (sem T) t0 t1 t2):=okT (by kernel_rfl) (by kernel_rfl) (by kernel_rfl)
def zoB(G:Sem')(t0 t1:V):M Res :=
 uB .lss t0 (uq 16777216) λt6 =>
 uG t6 true (M.pure t1) λt8 =>
 uH t6 true (Ax.bin .lss t8 (uq 16777216)) λt9 =>
 uL (Ax.pick t6 t9 (V.bool false)) λt10 =>
 uG t10 true (M.pure t0) λt12 =>
 uH t10 true (Ax.bin .quo t12 (uq 8)) λt13 =>
 uG t10 true (M.pure t1) λt14 =>
 uH t10 true (Ax.bin .quo t14 (uq 8)) λt15 =>
 uH t10 true (Ax.bin .lss t13 t15) λt16 =>
 uL (Ax.pick t10 t16 (V.bool false)) λt17 =>
 M.pure (.ret [t17])
theorem zrC{t0 t1:V}:OkT zhe [t0,t1] (zoB (sem T) t0 t1):=okT (by kernel_rfl) (by kernel_rfl) (by kernel_rfl)
def zja(G:Sem')(t0 t1 t2:V):M Res :=
 let o:=V.int .u8 0
 (G zcf [t0]).bind λt21 =>
 uE 0 t21 λt22 =>
 uE 1 t21 λt23 =>
 uE 2 t21 λt24 =>
 uL (Ax.un .not t24) λt26 =>
 M.ite t26
 (M.pure (.ret [V.nilp,(uc 1)]))
 ((G zdp [V.nils,t2]).bind λt28 =>
 uO zak (V.agg [o,o,o,o,o,o,o,o,o,o,o,o,o,o,o,o,o,o,o,o,o,o,o,o,o,o,o,o,o,o,o,o]) λt11 =>
 uT 32 t11 t28 λ_ =>
 (G zbj [t1,(uc 8)]).bind λt30 =>
 uL (Ax.cint .u64 t0) λt32 =>
 (G zbj [t32,(uc 2)]).bind λt33 =>
 (mappend zaa 1 1 t30 t33).bind λt34 =>
 uL (zaA (.arr 32) 1 t11 none none none) λt36 =>
 uB .add t22 (uc 32) λt42 =>
 (mslit zaa 22 [o] [(0,1,(ub 83)),(1,1,(ub 70)),(2,1,(ub 114)),(3,1,(ub 97)),(4,1,(ub 109)),(5,1,(ub 101)),(6,1,(ub 32)),(7,1,(ub 49)),(8,1,(ub 46)),(9,1,(ub 48)),(10,1,(ub 32)),(11,1,(ub 83)),(12,1,(ub 101)),(13,1,(ub 99)),(14,1,(ub 114)),(15,1,(ub 101)),(16,1,(ub 116)),(17,1,(ub 32)),(18,1,(ub 107)),(19,1,(ub 101)),(20,1,(ub 121)),(21,1,(ub 32))]).bind λt37 =>
 (mremark zaa t37).bind λt38 =>
 (mappend zaa 1 1 t38 t34).bind λt40 =>
 (G zcA [t36,t40,t42]).bind λt43 =>
 uE 0 t43 λt44 =>
 uE 1 t43 λt45 =>
 uL (zaA (.arr 32) 1 t11 none none none) λt47 =>
 (mslit zaa 23 [o] [(0,1,(ub 83)),(1,1,(ub 70)),(2,1,(ub 114)),(3,1,(ub 97)),(4,1,(ub 109)),(5,1,(ub 101)),(6,1,(ub 32)),(7,1,(ub 49)),(8,1,(ub 46)),(9,1,(ub 48)),(10,1,(ub 32)),(11,1,(ub 83)),(12,1,(ub 101)),(13,1,(ub 99)),(14,1,(ub 114)),(15,1,(ub 101)),(16,1,(ub 116)),(17,1,(ub 32)),(18,1,(ub 115)),(19,1,(ub 97)),(20,1,(ub 108)),(21,1,(ub 116)),(22,1,(ub 32))]).bind λt48 =>
 (mremark zaa t48).bind λt49 =>
 (mappend zaa 1 1 t49 t34).bind λt51 =>
 (G zcA [t47,t51,(uc 12)]).bind λt52 =>
 uE 0 t52 λt53 =>
 uE 1 t52 λt54 =>
 uL (zaA .sl 1 t44 none (some t22) none) λt58 =>
 (G zfU [t58]).bind λt59 =>
 uE 0 t59 λt60 =>
 uE 1 t59 λt61 =>
 uB .neq t61 (uc 0) λt63 =>
 M.ite t63
 (M.pure (.ret [V.nilp,t61]))
 (uL (zaA .sl 1 t44 (some t22) none none) λt70 =>
 uL (Ax.build [(uq 0),(uc 0),V.nilp,V.nils,V.nils] [(0,1,t1),(1,1,t23),(2,1,t60),(3,1,t70),(4,1,t53)]) λt72 =>
 uO zaU t72 λt73 =>
 M.pure (.ret [t73,(uc 0)])))
theorem zmH{t0 t1 t2:V}:OkT zco [t0,t1,t2] (zja (sem T) t0 t1 t2):=okT (by kernel_rfl) (by kernel_rfl) (by kernel_rfl)
def zew(G:Sem')(t0 t4:V)(L:List V):M Res :=
 uB .geq (ug L 1) (uc 0) λt10 =>
 M.ite t10
 (M.blk 1 (
 uB .mul (uc 8) (ug L 1) λt16 =>
 uB .shr t0 t16 λt17 =>
 uL (Ax.cint .u8 t17) λt18 =>
 (mslit zaa 1 [(ub 0)] [(0,1,t18)]).bind λt19 =>
 (mappend zaa 1 1 (ug L 0) t19).bind λt20 =>
 M.pure (.nrm [t20])) λL0 =>
 uB .sub (ug L 1) (uc 1) λt12 =>
 M.pure (.nrm [(ug L0 0),t12]))
 (M.pure (.ex 0 [(ug L 0)]))
def zi9(G:Sem')(t0 t1:V):M Res :=
 uB .sub t1 (uc 1) λt8 =>
 M.blk 0 (
 M.iter (zew G t0 V.nils) [V.nils,t8]) λL1 =>
 M.pure (.ret [(ug L1 0)])
theorem zmG{t0 t1:V}:OkT zbj [t0,t1] (zi9 (sem T) t0 t1):=okT (by kernel_rfl) (by kernel_rfl) (by kernel_rfl)
def zdU(G:Sem')(t29 t4 t0 t2 t3:V)(L:List V):M Res :=
 uB .lss (ug L 0) t29 λt31 =>
 M.ite t31
 (M.blk 1 (
 uNFM 259 t4 λt37 =>
 uB .mul (uc 4) (ug L 0) λt40 =>
 uL (zaA .sl 1 t0 (some t40) none none) λt41 =>
 uL (Ax.op1 (.s2a 4) t41) λt42 =>
 uS 4 t42 λt43 =>
 (mslit zav 1 [(ub 0),(ub 0),(ub 0),(ub 0)] [(0,4,t43)]).bind λt44 =>
 (mappend zav 4 4 t37 t44).bind λt45 =>
 uNF 259 t4 λt47 =>
 uT 1 t47 t45 λ_ =>
 M.pure (.nrm [])) λ_ =>
 uB .add (ug L 0) (uc 1) λt48 =>
 M.pure (.nrm [t48]))
 (M.pure (.ex 0 []))
def zeZ(G:Sem')(t4 t9 t6 t10 t2 t3 t8:V)(L:List V):M Res :=
 uB .lss (ug L 0) (uc 4) λt135 =>
 M.ite t135
 (M.blk 6 (
 uIM (some 4) 1 t10 (ug L 0) λt139 =>
 uNFM 259 t4 λt143 =>
 uB .sub t9 t6 λt146 =>
 uI none 4 t143 t146 λt148 =>
 uIM (some 4) 1 t148 (ug L 0) λt150 =>
 uB .xor t139 t150 λt151 =>
 uI (some 4) 1 t10 (ug L 0) λt152 =>
 uT 1 t152 t151 λ_ =>
 M.pure (.nrm [])) λ_ =>
 uB .add (ug L 0) (uc 1) λt153 =>
 M.pure (.nrm [t153]))
 (M.pure (.ex 5 []))
def zdT(G:Sem')(t5 t6 t4 t2 t3:V)(L:List V):M Res :=
 let o:=V.int .u8 0
 uB .add t6 (uc 6) λt52 =>
 uB .add t52 (uc 1) λt53 =>
 uB .mul (uc 4) t53 λt54 =>
 uB .lss (ug L 1) t54 λt55 =>
 M.ite t55
 (M.blk 3 (
 uNFM 259 t4 λt61 =>
 uB .sub (ug L 1) (uc 1) λt63 =>
 uI none 4 t61 t63 λt64 =>
 uS 4 t64 λt65 =>
 uO zav (V.agg [o,o,o,o]) λt10 =>
 uT 4 t10 t65 λ_ =>
 M.blk 4 (
 uB .rem (ug L 1) t6 λt69 =>
 uB .eql t69 (uc 0) λt70 =>
 M.join (M.ite t70
 (uIM (some 4) 1 t10 (uc 1) λt73 =>
 uN t5 λt74 =>
 uIM (some 256) 1 t74 t73 λt76 =>
 uB .xor t76 (ug L 0) λt78 =>
 uIM (some 4) 1 t10 (uc 2) λt81 =>
 uN t5 λt82 =>
 uIM (some 256) 1 t82 t81 λt84 =>
 uIM (some 4) 1 t10 (uc 3) λt87 =>
 uN t5 λt88 =>
 uIM (some 256) 1 t88 t87 λt90 =>
 uIM (some 4) 1 t10 (uc 0) λt93 =>
 uN t5 λt94 =>
 uIM (some 256) 1 t94 t93 λt96 =>
 uL (Ax.build [o,o,o,o] [(0,1,t78),(1,1,t84),(2,1,t90),(3,1,t96)]) λt97 =>
 uT 4 t10 t97 λ_ =>
 (G zba [(ug L 0)]).bind λt99 =>
 M.pure (.nrm [t99]))
 (uB .gtr t6 (uc 6) λt102 =>
 uG t102 true (M.pure (ug L 1)) λt104 =>
 uG t102 true (M.pure t6) λt105 =>
 uH t102 true (Ax.bin .rem t104 t105) λt106 =>
 uH t102 true (Ax.bin .eql t106 (uc 4)) λt107 =>
 uL (Ax.pick t102 t107 (V.bool false)) λt108 =>
 M.join (M.ite t108
 (uIM (some 4) 1 t10 (uc 0) λt111 =>
 uN t5 λt112 =>
 uIM (some 256) 1 t112 t111 λt114 =>
 uIM (some 4) 1 t10 (uc 1) λt117 =>
 uN t5 λt118 =>
 uIM (some 256) 1 t118 t117 λt120 =>
 uIM (some 4) 1 t10 (uc 2) λt123 =>
 uN t5 λt124 =>
 uIM (some 256) 1 t124 t123 λt126 =>
 uIM (some 4) 1 t10 (uc 3) λt129 =>
 uN t5 λt130 =>
 uIM (some 256) 1 t130 t129 λt132 =>
 uL (Ax.build [o,o,o,o] [(0,1,t114),(1,1,t120),(2,1,t126),(3,1,t132)]) λt133 =>
 uT 4 t10 t133 λ_ =>
 M.pure (.nrm []))
 (M.pure (.nrm []))) λ_ =>
 M.pure (.nrm [(ug L 0)]))) λL3 =>
 M.pure (.nrm [(ug L3 0)])) λL4 =>
 M.blk 5 (
 M.iter (zeZ G t4 (ug L 1) t6 t10 t2 t3 (ug L4 0)) [(uc 0)]) λ_ =>
 uNFM 259 t4 λt158 =>
 uS 4 t10 λt159 =>
 (mslit zav 1 [o,o,o,o] [(0,4,t159)]).bind λt160 =>
 (mappend zav 4 4 t158 t160).bind λt161 =>
 uNF 259 t4 λt163 =>
 uT 1 t163 t161 λ_ =>
 M.pure (.nrm [(ug L4 0)])) λL7 =>
 uB .add (ug L 1) (uc 1) λt57 =>
 M.pure (.nrm [(ug L7 0),t57]))
 (M.pure (.ex 2 []))
def zng(G:Sem')(t0:V):M Res :=
 let o:=V.int .u8 0
 uL (vlen t0) λt13 =>
 uB .neq t13 (uc 16) λt14 =>
 uG t14 true (M.pure t0) λt16 =>
 uH t14 true (vlen t16) λt17 =>
 uH t14 true (Ax.bin .neq t17 (uc 32)) λt18 =>
 uL (Ax.pick t14 t18 (V.bool false)) λt19 =>
 M.ite t19
 (M.pure (.ret [V.nilp,(uc 1)]))
 (uL (Ax.build [(V.int .u32 0),(V.int .i32 0),(V.int .u32 0),o,o,o,o,o,o,o,o,o,o,o,o,o,o,o,o,o,o,o,o,o,o,o,o,o,o,o,o,o,o,o,o,o,o,o,o,o,o,o,o,o,o,o,o,o,o,o,o,o,o,o,o,o,o,o,o,o,o,o,o,o,o,o,o,o,o,o,o,o,o,o,o,o,o,o,o,o,o,o,o,o,o,o,o,o,o,o,o,o,o,o,o,o,o,o,o,o,o,o,o,o,o,o,o,o,o,o,o,o,o,o,o,o,o,o,o,o,o,o,o,o,o,o,o,o,o,o,o,o,o,o,o,o,o,o,o,o,o,o,o,o,o,o,o,o,o,o,o,o,o,o,o,o,o,o,o,o,o,o,o,o,o,o,o,o,o,o,o,o,o,o,o,o,o,o,o,o,o,o,o,o,o,o,o,o,o,o,o,o,o,o,o,o,o,o,o,o,o,o,o,o,o,o,o,o,o,o,o,o,o,o,o,o,o,o,o,o,o,o,o,o,o,o,o,o,o,o,o,o,o,o,o,o,o,o,o,o,o,o,o,o,o,o,o,o,o,o,o,o,o,o,o,o,o,o,o,V.nils] []) λt20 =>
 uO zaY t20 λt21 =>
 uNF 0 t21 λt24 =>
 (G zbc [t24]).bind λt25 =>
 uL (vlen t0) λt27 =>
 uB .quo t27 (uc 4) λt28 =>
 M.blk 0 (
 M.iter (zdU G t28 t21 t0 V.nilp (uc 0)) [(uc 0)]) λ_ =>
 M.blk 2 (
 M.iter (zdT G t25 t28 t21 V.nilp (uc 0)) [(ub 1),t28]) λ_ =>
 M.pure (.ret [t21,(uc 0)]))
theorem zqr{t0:V}:OkT zfU [t0] (zng (sem T) t0):=okT (by kernel_rfl) (by kernel_rfl) (by kernel_rfl)
def zf0(G:Sem')(t0:V):M Res :=
 uO zbm t0 λt1 =>
 uM t1 λt3 =>
 uNF 0 t3 λt5 =>
 (M.pure (.fn zcb [t1])).bind λt6 =>
 (G zcn [t5,t6]).bind λt7 =>
 uM t1 λt8 =>
 uNF 3 t8 λt10 =>
 M.pure (.ret [t10])
theorem zjw{t0:V}:OkT zbc [t0] (zf0 (sem T) t0):=okT (by kernel_rfl) (by kernel_rfl) (by kernel_rfl)
def zcN(G:Sem')(t1:V)(L:List V):M Res :=
 uB .lss (ug L 1) (uc 255) λt7 =>
 M.ite t7
 (M.blk 1 (
 uI (some 255) 1 t1 (ug L 1) λt11 =>
 (mstore 1 t11 (ug L 0)).bind λ_ =>
 (G zbK [(ug L 0),(ub 3)]).bind λt13 =>
 M.pure (.nrm [t13])) λL0 =>
 uB .add (ug L 1) (uc 1) λt14 =>
 M.pure (.nrm [(ug L0 0),t14]))
 (M.pure (.ex 0 []))
def zcM(G:Sem')(t15 t0 t1:V)(L:List V):M Res :=
 uB .lss (ug L 0) (uc 255) λt17 =>
 M.ite t17
 (M.blk 3 (
 uL (Ax.index 255 1 none t15 (ug L 0)) λt19 =>
 uM t0 λt20 =>
 uB .sub (uc 255) (ug L 0) λt23 =>
 uB .rem t23 (uc 255) λt24 =>
 uIM (some 255) 1 t1 t24 λt26 =>
 uNF 3 t20 λt29 =>
 M.getH.bind λh0 =>
 (G zbJ [t26]).bind λt27 =>
 M.getH.bind λh0' =>
 uU t0 h0 h0' λ_ =>
 uI (some 256) 1 t29 t19 λt30 =>
 uT 1 t30 t27 λ_ =>
 M.pure (.nrm [])) λ_ =>
 uB .add (ug L 0) (uc 1) λt31 =>
 M.pure (.nrm [t31]))
 (M.pure (.ex 2 []))
def zeK(G:Sem')(t0:V):M Res :=
 let o:=V.int .u8 0
 uO zcu (V.agg [o,o,o,o,o,o,o,o,o,o,o,o,o,o,o,o,o,o,o,o,o,o,o,o,o,o,o,o,o,o,o,o,o,o,o,o,o,o,o,o,o,o,o,o,o,o,o,o,o,o,o,o,o,o,o,o,o,o,o,o,o,o,o,o,o,o,o,o,o,o,o,o,o,o,o,o,o,o,o,o,o,o,o,o,o,o,o,o,o,o,o,o,o,o,o,o,o,o,o,o,o,o,o,o,o,o,o,o,o,o,o,o,o,o,o,o,o,o,o,o,o,o,o,o,o,o,o,o,o,o,o,o,o,o,o,o,o,o,o,o,o,o,o,o,o,o,o,o,o,o,o,o,o,o,o,o,o,o,o,o,o,o,o,o,o,o,o,o,o,o,o,o,o,o,o,o,o,o,o,o,o,o,o,o,o,o,o,o,o,o,o,o,o,o,o,o,o,o,o,o,o,o,o,o,o,o,o,o,o,o,o,o,o,o,o,o,o,o,o,o,o,o,o,o,o,o,o,o,o,o,o,o,o,o,o,o,o,o,o,o,o,o,o,o,o,o,o,o,o,o,o,o,o,o,o]) λt1 =>
 M.blk 0 (
 M.iter (zcN G t1) [(ub 1),(uc 0)]) λ_ =>
 uS 255 t1 λt15 =>
 M.blk 2 (
 M.iter (zcM G t15 t0 t1) [(uc 0)]) λ_ =>
 uM t0 λt32 =>
 uNF 3 t32 λt35 =>
 M.getH.bind λh1 =>
 (G zbJ [o]).bind λt33 =>
 M.getH.bind λh1' =>
 uU t0 h1 h1' λ_ =>
 uI (some 256) 1 t35 (uc 0) λt36 =>
 uT 1 t36 t33 λ_ =>
 M.pure (.ret [])
theorem zh3{t0:V}:OkT zcb [t0] (zeK (sem T) t0):=okT (by kernel_rfl) (by kernel_rfl) (by kernel_rfl)
def zf9:Fn':=irOf zbK
theorem znE:T zbK=some zf9:=by kernel_rfl
def zdl:Fn':=irOf zba
def f_block_twice(G:Sem')(t0:V):M Res :=
 uB .geq t0 (ub 128) λt4 =>
 M.ite t4
 (uB .shl t0 (uq 1) λt6 =>
 uB .xor t6 (ub 27) λt7 =>
 M.pure (.ret [t7]))
 (uB .shl t0 (uq 1) λt9 =>
 M.pure (.ret [t9]))
theorem eq_block_twice(G:Sem')(t0:V):execK G zdl.rv zdl.body [] [] (params 0 [t0])=f_block_twice G t0:=by kernel_rfl
theorem znD:T zba=some zdl:=by kernel_rfl
theorem znQ{t0:V}:OkT zba [t0] (f_block_twice (sem T) t0):=okT (by kernel_rfl) (by kernel_rfl) (by kernel_rfl)
def zh7:Fn':=irOf zbJ
theorem zpW:T zbJ=some zh7:=by kernel_rfl
def zcl:Fn':=irOf zaX
theorem zgj:T zaX=some zcl:=by kernel_rfl
def zeI(G:Sem')(t0 t2:V)(L:List V):M Res :=
 uB .lss (ug L 1) (uc 8) λt6 =>
 M.ite t6
 (M.blk 1 (
 uNFM 8 t0 λt12 =>
 uB .neq (ug L 1) t12 λt13 =>
 uG t13 true (M.pure t0) λt15 =>
 uH t13 true (Ax.nilck t15) λt16 =>
 uH t13 true (Ax.faddr 9 t16) λt17 =>
 uG t13 true (mload none t17) λt18 =>
 uG t13 true (M.pure (ug L 1)) λt19 =>
 uH t13 true (Ax.bin .shr t18 t19) λt20 =>
 uH t13 true (Ax.bin .and t20 (uc 1)) λt21 =>
 uH t13 true (Ax.bin .eql t21 (uc 1)) λt22 =>
 uL (Ax.pick t13 t22 (V.bool false)) λt23 =>
 M.join (M.ite t23
 ((mslit zdf 1 [(uc 0)] [(0,1,(ug L 1))]).bind λt26 =>
 (mappend zdf 1 8 (ug L 0) t26).bind λt27 =>
 M.pure (.nrm [t27]))
 (M.pure (.nrm [(ug L 0)]))) λL0 =>
 M.pure (.nrm [(ug L0 0)])) λL1 =>
 uB .add (ug L 1) (uc 1) λt28 =>
 M.pure (.nrm [(ug L1 0),t28]))
 (M.pure (.ex 0 [(ug L 0)]))
def zfX(G:Sem')(t0:V):M Res :=
 M.blk 0 (
 M.iter (zeI G t0 V.nils) [V.nils,(uc 0)]) λL2 =>
 M.pure (.ret [(ug L2 0)])
theorem zjt{t0:V}:OkT zbS [t0] (zfX (sem T) t0):=okT (by kernel_rfl) (by kernel_rfl) (by kernel_rfl)
def zgD(G:Sem')(t0 t1 t2 t3:V):M Res :=
 uL (vlen t3) λt14 =>
 uB .gtr t14 (uc 1000) λt15 =>
 M.ite t15
 (M.pure (.ret [V.nils,(uc 4)]))
 (uNFM 0 t0 λt19 =>
 (G zdN [t19,t1]).bind λt21 =>
 (G zcw [t0,t1]).bind λt24 =>
 (G zbQ [t0,t24,t3]).bind λt28 =>
 (G zcg [t0,t24,t21,t2,t28]).bind λt36 =>
 (mslit zal 3 [V.nils] [(0,1,t21),(1,1,t28),(2,1,t36)]).bind λt37 =>
 (G zeY [t37,V.nils]).bind λt38 =>
 M.pure (.ret [t38,(uc 0)]))
theorem zjX{t0 t1 t2 t3:V}:OkT zb9 [t0,t1,t2,t3] (zgD (sem T) t0 t1 t2 t3):=okT (by kernel_rfl) (by kernel_rfl) (by kernel_rfl)
def zje(G:Sem')(t0 t1:V):M Res :=
 (G zcY [t0]).bind λt11 =>
 uE 0 t11 λt12 =>
 uE 1 t11 λt13 =>
 (G zcY [t1]).bind λt16 =>
 uE 0 t16 λt17 =>
 uE 1 t16 λt18 =>
 uB .shl t12 (uq 4) λt20 =>
 uB .or t20 t17 λt22 =>
 (mslit zaa 1 [(ub 0)] [(0,1,t22)]).bind λt23 =>
 (mappend zaa 1 1 t23 t13).bind λt25 =>
 (mappend zaa 1 1 t25 t18).bind λt27 =>
 M.pure (.ret [t27])
theorem zmL{t0 t1:V}:OkT zdN [t0,t1] (zje (sem T) t0 t1):=okT (by kernel_rfl) (by kernel_rfl) (by kernel_rfl)
def zeB(G:Sem')(t2 t3:V)(L:List V):M Res :=
 uB .gtr (ug L 0) (uq 0) λt10 =>
 M.ite t10
 (M.blk 1 (
 uL (Ax.cint .u8 (ug L 0)) λt14 =>
 (mslit zaa 1 [(ub 0)] [(0,1,t14)]).bind λt15 =>
 (mappend zaa 1 1 t15 (ug L 1)).bind λt17 =>
 M.pure (.nrm [t17])) λL0 =>
 uB .shr (ug L 0) (uq 8) λt12 =>
 M.pure (.nrm [t12,(ug L0 0)]))
 (M.pure (.ex 0 [(ug L 1)]))
def zjd(G:Sem')(t0:V):M Res :=
 uB .lss t0 (uq 8) λt6 =>
 M.ite t6
 (uL (Ax.cint .u8 t0) λt8 =>
 M.pure (.ret [t8,V.nils]))
 (M.blk 0 (
 M.iter (zeB G (ub 0) V.nils) [t0,V.nils]) λL1 =>
 uL (vlen (ug L1 0)) λt19 =>
 uB .sub t19 (uc 1) λt20 =>
 uL (Ax.cint .u8 t20) λt21 =>
 uB .or (ub 8) t21 λt22 =>
 M.pure (.ret [t22,(ug L1 0)]))
theorem zmK{t0:V}:OkT zcY [t0] (zjd (sem T) t0):=okT (by kernel_rfl) (by kernel_rfl) (by kernel_rfl)
def zdi(G:Sem')(t10 t5 t0 t4:V)(L:List V):M Res :=
 uB .lss (ug L 0) t10 λt12 =>
 M.ite t12
 (M.blk 1 (
 uIM none 1 t5 (ug L 0) λt17 =>
 uNFM 4 t0 λt21 =>
 uIM none 1 t21 (ug L 0) λt24 =>
 uB .xor t17 t24 λt25 =>
 uI none 1 t5 (ug L 0) λt26 =>
 uT 1 t26 t25 λ_ =>
 M.pure (.nrm [])) λ_ =>
 uB .add (ug L 0) (uc 1) λt27 =>
 M.pure (.nrm [t27]))
 (M.pure (.ex 0 []))
def zfV(G:Sem')(t0 t1:V):M Res :=
 (G zbj [t1,(uc 12)]).bind λt8 =>
 uL (vlen t8) λt10 =>
 M.blk 0 (
 M.iter (zdi G t10 t8 t0 V.nils) [(uc 0)]) λ_ =>
 M.pure (.ret [t8])
theorem zjr{t0 t1:V}:OkT zcw [t0,t1] (zfV (sem T) t0 t1):=okT (by kernel_rfl) (by kernel_rfl) (by kernel_rfl)
def zfW(G:Sem')(t0 t1 t2:V):M Res :=
 let o:=V.int .u8 0
 uO zad (V.agg [o,o,o,o,o,o,o,o,o,o,o,o,o,o,o,o]) λt7 =>
 uL (zaA (.arr 16) 1 t7 none none none) λt10 =>
 (mcopy 1 t10 t1).bind λt12 =>
 uNFM 2 t0 λt17 =>
 uS 16 t7 λt18 =>
 (G zdK [t17,t18,(uc 0),t2]).bind λt20 =>
 uE 0 t20 λt21 =>
 uE 1 t20 λt22 =>
 M.pure (.ret [t21])
theorem zjs{t0 t1 t2:V}:OkT zbQ [t0,t1,t2] (zfW (sem T) t0 t1 t2):=okT (by kernel_rfl) (by kernel_rfl) (by kernel_rfl)
def zex(G:Sem')(t23 t0 t5 t10 t3 t2 t11 t8 t9:V)(L:List V):M Res :=
 uB .lss (ug L 0) t23 λt25 =>
 M.ite t25
 (M.blk 1 (
 uB .eql (ug L 0) (uc 0) λt28 =>
 uG t28 false (M.pure t2) λt30 =>
 uG t28 false (M.pure (ug L 0)) λt31 =>
 uH t28 false (Ax.bin .add t30 t31) λt32 =>
 uH t28 false (Ax.bin .rem t32 (uc 16)) λt33 =>
 uH t28 false (Ax.bin .eql t33 (uc 0)) λt34 =>
 uL (Ax.pick t28 (V.bool true) t34) λt35 =>
 M.join (M.ite t35
 (uS 16 t5 λt37 =>
 uB .add t2 (ug L 0) λt40 =>
 uB .quo t40 (uc 16) λt41 =>
 uL (Ax.cint .u64 t41) λt42 =>
 (G zdn [t37,t42]).bind λt43 =>
 (G zcc [t0,t43]).bind λt44 =>
 uT 16 t11 t44 λ_ =>
 M.pure (.nrm []))
 (M.pure (.nrm []))) λ_ =>
 uIM none 1 t3 (ug L 0) λt50 =>
 uB .add t2 (ug L 0) λt53 =>
 uB .rem t53 (uc 16) λt54 =>
 uIM (some 16) 1 t11 t54 λt56 =>
 uB .xor t50 t56 λt57 =>
 uI none 1 t10 (ug L 0) λt58 =>
 uT 1 t58 t57 λ_ =>
 M.pure (.nrm [])) λ_ =>
 uB .add (ug L 0) (uc 1) λt59 =>
 M.pure (.nrm [t59]))
 (M.pure (.ex 0 []))
def zjb(G:Sem')(t0 t1 t2 t3:V):M Res :=
 let o:=V.int .u8 0
 uO zad t1 λt5 =>
 uB .lss t2 (uc 0) λt14 =>
 uG t14 false (M.pure t2) λt16 =>
 uH t14 false (Ax.bin .gtr t16 (uc 1099511627776)) λt17 =>
 uL (Ax.pick t14 (V.bool true) t17) λt18 =>
 M.ite t18
 (M.pure (.ret [V.nils,(uc 1)]))
 (uL (vlen t3) λt20 =>
 (mmkslice zaa 1 [o] t20 t20).bind λt21 =>
 uO zad (V.agg [o,o,o,o,o,o,o,o,o,o,o,o,o,o,o,o]) λt11 =>
 uL (vlen t21) λt23 =>
 M.blk 0 (
 M.iter (zex G t23 t0 t5 t21 t3 t2 t11 V.nils (uc 0)) [(uc 0)]) λ_ =>
 M.pure (.ret [t21,(uc 0)]))
theorem zmI{t0 t1 t2 t3:V}:OkT zdK [t0,t1,t2,t3] (zjb (sem T) t0 t1 t2 t3):=okT (by kernel_rfl) (by kernel_rfl) (by kernel_rfl)
def zfr(G:Sem')(t5 t6 t2 t4:V)(L:List V):M Res :=
 uB .lss (ug L 0) (uc 8) λt23 =>
 M.ite t23
 (M.blk 1 (
 uB .add (uc 8) (ug L 0) λt27 =>
 uB .mul (uc 8) (ug L 0) λt30 =>
 uB .sub (uc 56) t30 λt31 =>
 uB .shr t5 t31 λt32 =>
 uL (Ax.cint .u8 t32) λt33 =>
 uB .mul (uc 8) (ug L 0) λt36 =>
 uB .sub (uc 56) t36 λt37 =>
 uB .shr t6 t37 λt38 =>
 uL (Ax.cint .u8 t38) λt39 =>
 uI (some 16) 1 t2 (ug L 0) λt40 =>
 uT 1 t40 t33 λ_ =>
 uI (some 16) 1 t2 t27 λt41 =>
 uT 1 t41 t39 λ_ =>
 M.pure (.nrm [])) λ_ =>
 uB .add (ug L 0) (uc 1) λt42 =>
 M.pure (.nrm [t42]))
 (M.pure (.ex 0 []))
def zko(G:Sem')(t0 t1:V):M Res :=
 let o:=V.int .u8 0
 uO zad t0 λt2 =>
 uO zad (V.agg [o,o,o,o,o,o,o,o,o,o,o,o,o,o,o,o]) λt4 =>
 uL (zaA (.arr 16) 1 t2 none (some (uc 8)) none) λt8 =>
 uL (zaA (.arr 16) 1 t2 (some (uc 8)) none none) λt10 =>
 (G zdm [t8]).bind λt9 =>
 (G zdm [t10]).bind λt11 =>
 uB .add t11 t1 λt14 =>
 uB .lss t14 t11 λt16 =>
 M.join (M.ite t16
 (uB .add t9 (uq 1) λt18 =>
 M.pure (.nrm [t18]))
 (M.pure (.nrm [t9]))) λL0 =>
 uB .add t11 t1 λt21 =>
 M.blk 0 (
 M.iter (zfr G (ug L0 0) t21 t2 t4) [(uc 0)]) λ_ =>
 uS 16 t2 λt43 =>
 uT 16 t4 t43 λ_ =>
 uS 16 t4 λr0 =>
 M.pure (.ret [r0])
theorem znK{t0 t1:V}:OkT zdn [t0,t1] (zko (sem T) t0 t1):=okT (by kernel_rfl) (by kernel_rfl) (by kernel_rfl)
def zfq(G:Sem')(t7 t6 t2:V)(L:List V):M Res :=
 uB .lss (ug L 1) t7 λt9 =>
 M.ite t9
 (M.blk 1 (
 uIM none 1 t6 (ug L 1) λt11 =>
 uB .shl (ug L 0) (uq 8) λt13 =>
 uL (Ax.cint .u64 t11) λt15 =>
 uB .or t13 t15 λt16 =>
 M.pure (.nrm [t16])) λL0 =>
 uB .add (ug L 1) (uc 1) λt17 =>
 M.pure (.nrm [(ug L0 0),t17]))
 (M.pure (.ex 0 [(ug L 0)]))
def zkn(G:Sem')(t0:V):M Res :=
 uL (vlen t0) λt7 =>
 M.blk 0 (
 M.iter (zfq G t7 t0 (uq 0)) [(uq 0),(uc 0)]) λL1 =>
 M.pure (.ret [(ug L1 0)])
theorem znJ{t0:V}:OkT zdm [t0] (zkn (sem T) t0):=okT (by kernel_rfl) (by kernel_rfl) (by kernel_rfl)
def zdy(G:Sem')(t5 t0 t3 t4:V)(L:List V):M Res :=
 uB .leq (ug L 0) t5 λt19 =>
 M.ite t19
 (M.blk 1 (
 uS 16 t3 λt23 =>
 (G zcQ [t0,t23]).bind λt24 =>
 uT 16 t3 t24 λ_ =>
 uB .lss (ug L 0) t5 λt27 =>
 M.join (M.ite t27
 (uS 16 t3 λt28 =>
 (G zec [t28]).bind λt29 =>
 uT 16 t3 t29 λ_ =>
 M.pure (.nrm []))
 (M.pure (.nrm []))) λ_ =>
 uS 16 t3 λt31 =>
 (G zcF [t0,t31,(ug L 0)]).bind λt33 =>
 uT 16 t3 t33 λ_ =>
 M.pure (.nrm [])) λ_ =>
 uB .add (ug L 0) (uc 1) λt21 =>
 M.pure (.nrm [t21]))
 (M.pure (.ex 0 []))
def zgH(G:Sem')(t0 t1:V):M Res :=
 let o:=V.int .u8 0
 uO zad t1 λt3 =>
 uO zad (V.agg [o,o,o,o,o,o,o,o,o,o,o,o,o,o,o,o]) λt4 =>
 uNFM 259 t0 λt10 =>
 uL (vlen t10) λt11 =>
 uB .quo t11 (uc 4) λt12 =>
 uB .sub t12 (uc 1) λt13 =>
 uS 16 t3 λt15 =>
 (G zcF [t0,t15,(uc 0)]).bind λt16 =>
 uT 16 t3 t16 λ_ =>
 M.blk 0 (
 M.iter (zdy G t13 t0 t3 t4) [(uc 1)]) λ_ =>
 uS 16 t3 λt34 =>
 uT 16 t4 t34 λ_ =>
 uS 16 t4 λr0 =>
 M.pure (.ret [r0])
theorem zj0{t0 t1:V}:OkT zcc [t0,t1] (zgH (sem T) t0 t1):=okT (by kernel_rfl) (by kernel_rfl) (by kernel_rfl)
end Go.Ax
/- FnS4 -/
namespace Go.Ax
open Go.Proofs
def zd5(G:Sem')(t0 t2 t4 t6:V)(L:List V):M Res :=
 uB .lss (ug L 0) (uc 16) λt9 =>
 M.ite t9
 (M.blk 1 (
 uIM (some 16) 1 t4 (ug L 0) λt13 =>
 uNFM 259 t0 λt17 =>
 uB .mul (uc 4) t2 λt19 =>
 uB .quo (ug L 0) (uc 4) λt21 =>
 uB .add t19 t21 λt22 =>
 uB .rem (ug L 0) (uc 4) λt24 =>
 uI none 4 t17 t22 λt25 =>
 uIM (some 4) 1 t25 t24 λt27 =>
 uB .xor t13 t27 λt28 =>
 uI (some 16) 1 t4 (ug L 0) λt29 =>
 uT 1 t29 t28 λ_ =>
 M.pure (.nrm [])) λ_ =>
 uB .add (ug L 0) (uc 1) λt30 =>
 M.pure (.nrm [t30]))
 (M.pure (.ex 0 []))
def zix(G:Sem')(t0 t1 t2:V):M Res :=
 let o:=V.int .u8 0
 uO zad t1 λt4 =>
 uO zad (V.agg [o,o,o,o,o,o,o,o,o,o,o,o,o,o,o,o]) λt6 =>
 M.blk 0 (
 M.iter (zd5 G t0 t2 t4 t6) [(uc 0)]) λ_ =>
 uS 16 t4 λt31 =>
 uT 16 t6 t31 λ_ =>
 uS 16 t6 λr0 =>
 M.pure (.ret [r0])
theorem zlJ{t0 t1 t2:V}:OkT zcF [t0,t1,t2] (zix (sem T) t0 t1 t2):=okT (by kernel_rfl) (by kernel_rfl) (by kernel_rfl)
def zdx(G:Sem')(t5 t3 t6 t4:V)(L:List V):M Res :=
 uB .lss (ug L 0) (uc 16) λt13 =>
 M.ite t13
 (M.blk 1 (
 uB .rem (ug L 0) (uc 4) λt19 =>
 uB .mul (uc 4) t19 λt20 =>
 uB .add (ug L 0) t20 λt21 =>
 uB .rem t21 (uc 16) λt22 =>
 uIM (some 16) 1 t3 t22 λt24 =>
 uN t5 λt25 =>
 uIM (some 256) 1 t25 t24 λt27 =>
 uI (some 16) 1 t6 (ug L 0) λt28 =>
 uT 1 t28 t27 λ_ =>
 M.pure (.nrm [])) λ_ =>
 uB .add (ug L 0) (uc 1) λt29 =>
 M.pure (.nrm [t29]))
 (M.pure (.ex 0 []))
def zgG(G:Sem')(t0 t1:V):M Res :=
 let o:=V.int .u8 0
 uO zad t1 λt3 =>
 uO zad (V.agg [o,o,o,o,o,o,o,o,o,o,o,o,o,o,o,o]) λt4 =>
 uNF 0 t0 λt10 =>
 (G zbc [t10]).bind λt11 =>
 uO zad (V.agg [o,o,o,o,o,o,o,o,o,o,o,o,o,o,o,o]) λt6 =>
 M.blk 0 (
 M.iter (zdx G t11 t3 t6 t4) [(uc 0)]) λ_ =>
 uS 16 t6 λt30 =>
 uT 16 t4 t30 λ_ =>
 uS 16 t4 λr0 =>
 M.pure (.ret [r0])
theorem zjZ{t0 t1:V}:OkT zcQ [t0,t1] (zgG (sem T) t0 t1):=okT (by kernel_rfl) (by kernel_rfl) (by kernel_rfl)
def zfy(G:Sem')(t1 t3 t2:V)(L:List V):M Res :=
 uB .lss (ug L 0) (uc 16) λt9 =>
 M.ite t9
 (M.blk 1 (
 uB .rem (ug L 0) (uc 4) λt13 =>
 uB .sub (ug L 0) t13 λt14 =>
 uIM (some 16) 1 t1 (ug L 0) λt17 =>
 uB .add (ug L 0) (uc 1) λt20 =>
 uB .rem t20 (uc 4) λt21 =>
 uB .add t14 t21 λt22 =>
 uIM (some 16) 1 t1 t22 λt24 =>
 uB .add (ug L 0) (uc 2) λt35 =>
 uB .rem t35 (uc 4) λt36 =>
 uB .add t14 t36 λt37 =>
 uI (some 16) 1 t1 t37 λt38 =>
 uM t38 λt39 =>
 uB .add (ug L 0) (uc 3) λt43 =>
 uB .rem t43 (uc 4) λt44 =>
 uB .add t14 t44 λt45 =>
 uI (some 16) 1 t1 t45 λt46 =>
 uM t46 λt47 =>
 M.getH.bind λh0 =>
 (G zba [t17]).bind λt27 =>
 M.getH.bind λh0' =>
 uU t46 h0 h0' λ_ =>
 uU t38 h0 h0' λ_ =>
 M.getH.bind λh1 =>
 (G zba [t24]).bind λt29 =>
 M.getH.bind λh1' =>
 uU t46 h1 h1' λ_ =>
 uU t38 h1 h1' λ_ =>
 uB .xor t27 t29 λt30 =>
 uB .xor t30 t24 λt32 =>
 uB .xor t32 t39 λt40 =>
 uB .xor t40 t47 λt48 =>
 uI (some 16) 1 t3 (ug L 0) λt49 =>
 uT 1 t49 t48 λ_ =>
 M.pure (.nrm [])) λ_ =>
 uB .add (ug L 0) (uc 1) λt50 =>
 M.pure (.nrm [t50]))
 (M.pure (.ex 0 []))
def zkv(G:Sem')(t0:V):M Res :=
 let o:=V.int .u8 0
 uO zad t0 λt1 =>
 uO zad (V.agg [o,o,o,o,o,o,o,o,o,o,o,o,o,o,o,o]) λt2 =>
 uO zad (V.agg [o,o,o,o,o,o,o,o,o,o,o,o,o,o,o,o]) λt3 =>
 M.blk 0 (
 M.iter (zfy G t1 t3 t2) [(uc 0)]) λ_ =>
 uS 16 t3 λt51 =>
 uT 16 t2 t51 λ_ =>
 uS 16 t2 λr0 =>
 M.pure (.ret [r0])
theorem znR{t0:V}:OkT zec [t0] (zkv (sem T) t0):=okT (by kernel_rfl) (by kernel_rfl) (by kernel_rfl)
def zfp(G:Sem')(t0 t1 t2 t3 t4:V):M Res :=
 let o:=V.int .u8 0
 uL (vlen t2) λt14 =>
 uL (vlen t3) λt16 =>
 uB .add t14 t16 λt17 =>
 uL (Ax.cint .u64 t17) λt18 =>
 (G zbj [t18,(uc 8)]).bind λt19 =>
 uL (vlen t4) λt21 =>
 uL (Ax.cint .u64 t21) λt22 =>
 (G zbj [t22,(uc 8)]).bind λt23 =>
 (mappend zaa 1 1 t19 t23).bind λt24 =>
 uNF 3 t0 λt27 =>
 uM t27 λt28 =>
 uNFM 1 t0 λt33 =>
 uL (Ax.cint .u64 t33) λt34 =>
 M.getH.bind λh0 =>
 (G zbj [t34,(uc 8)]).bind λt35 =>
 M.getH.bind λh0' =>
 uU t27 h0 h0' λ_ =>
 (mslit zal 6 [V.nils] [(0,1,t24),(1,1,t35),(2,1,t1),(3,1,t2),(4,1,t3),(5,1,t4)]).bind λt40 =>
 (G zgt [t28,t40]).bind λt41 =>
 uO zak (V.agg [o,o,o,o,o,o,o,o,o,o,o,o,o,o,o,o,o,o,o,o,o,o,o,o,o,o,o,o,o,o,o,o]) λt12 =>
 uT 32 t12 t41 λ_ =>
 uNFM 1 t0 λt45 =>
 uL (zaA (.arr 32) 1 t12 none (some t45) none) λt46 =>
 M.pure (.ret [t46])
theorem ziO{t0 t1 t2 t3 t4:V}:OkT zcg [t0,t1,t2,t3,t4] (zfp (sem T) t0 t1 t2 t3 t4):=okT (by kernel_rfl) (by kernel_rfl) (by kernel_rfl)
def zgg(G:Sem')(t43 t42 t4:V)(L:List V):M Res :=
 uB .lss (ug L 1) t43 λt45 =>
 M.ite t45
 (M.blk 1 (
 uIM none 1 t42 (ug L 1) λt47 =>
 uL (vlen t47) λt49 =>
 uB .sub (uc 9223372036854775807) (ug L 0) λt51 =>
 uB .gtr t49 t51 λt52 =>
 M.join (M.ite t52
 (M.fail)
 (M.pure (.nrm []))) λ_ =>
 uL (vlen t47) λt56 =>
 uB .add (ug L 0) t56 λt57 =>
 M.pure (.nrm [t57])) λL3 =>
 uB .add (ug L 1) (uc 1) λt58 =>
 M.pure (.nrm [(ug L3 0),t58]))
 (M.pure (.ex 0 [(ug L 0)]))
def zgf(G:Sem')(t71 t70 t1 t8 t4:V)(L:List V):M Res :=
 uB .lss (ug L 1) t71 λt73 =>
 M.ite t73
 (M.blk 3 (
 uIM none 1 t70 (ug L 1) λt75 =>
 uL (zaA .sl 1 t8 (some (ug L 0)) none none) λt79 =>
 (mcopy 1 t79 t1).bind λt81 =>
 uB .add (ug L 0) t81 λt82 =>
 uL (zaA .sl 1 t8 (some t82) none none) λt86 =>
 (mcopy 1 t86 t75).bind λt88 =>
 uB .add t82 t88 λt89 =>
 M.pure (.nrm [t89])) λL5 =>
 uB .add (ug L 1) (uc 1) λt90 =>
 M.pure (.nrm [(ug L5 0),t90]))
 (M.pure (.ex 2 []))
def zlw(G:Sem')(t0 t1:V):M Res :=
 uL (vlen t0) λt13 =>
 uB .eql t13 (uc 0) λt14 =>
 M.ite t14
 ((mslit zaa 0 [(ub 0)] []).bind λt15 =>
 M.pure (.ret [t15]))
 (uL (vlen t0) λt17 =>
 uB .eql t17 (uc 1) λt18 =>
 M.ite t18
 (uIM none 1 t0 (uc 0) λt21 =>
 (mappend zaa 1 1 V.nils t21).bind λt22 =>
 M.pure (.ret [t22]))
 (uL (vlen t1) λt24 =>
 uB .gtr t24 (uc 0) λt25 =>
 M.join (M.ite t25
 (uL (vlen t1) λt27 =>
 uL (vlen t0) λt29 =>
 uB .sub t29 (uc 1) λt30 =>
 uB .quo (uc 9223372036854775807) t30 λt31 =>
 uB .geq t27 t31 λt32 =>
 M.join (M.ite t32
 (M.fail)
 (M.pure (.nrm []))) λ_ =>
 uL (vlen t1) λt36 =>
 uL (vlen t0) λt38 =>
 uB .sub t38 (uc 1) λt39 =>
 uB .mul t36 t39 λt40 =>
 uB .add (uc 0) t40 λt41 =>
 M.pure (.nrm [t41]))
 (M.pure (.nrm [(uc 0)]))) λL1 =>
 uL (vlen t0) λt43 =>
 M.blk 0 (
 M.iter (zgg G t43 t0 V.nils) [(ug L1 0),(uc 0)]) λL4 =>
 (mmknz zaa (ug L4 0)).bind λt60 =>
 uL (zaA .sl 1 t60 none (some (ug L4 0)) (some (ug L4 0))) λt63 =>
 uIM none 1 t0 (uc 0) λt67 =>
 (mcopy 1 t63 t67).bind λt68 =>
 uL (zaA .sl 1 t0 (some (uc 1)) none none) λt70 =>
 uL (vlen t70) λt71 =>
 M.blk 2 (
 M.iter (zgf G t71 t70 t1 t63 V.nils) [t68,(uc 0)]) λ_ =>
 M.pure (.ret [t63])))
theorem zpc{t0 t1:V}:OkT zeY [t0,t1] (zlw (sem T) t0 t1):=okT (by kernel_rfl) (by kernel_rfl) (by kernel_rfl)
def zk4(G:Sem')(t27 t26 t0:V)(L:List V):M Res :=
 uB .lss (ug L 0) t27 λt29 =>
 M.ite t29
 (M.blk 1 (
 uIM none 1 t26 (ug L 0) λt31 =>
 uNFM 23 t0 λt35 =>
 uNFM 19 t0 λt39 =>
 (G zeH [t35,t39,t31]).bind λt41 =>
 uL (Ax.un .not t41) λt42 =>
 M.ite t42
 (M.pure (.ret [V.nils]))
 (M.pure (.nrm []))) λ_ =>
 uB .add (ug L 0) (uc 1) λt43 =>
 M.pure (.nrm [t43]))
 (M.pure (.ex 0 []))
def ziv(G:Sem')(t0:V):M Res :=
 uNFM 19 t0 λt8 =>
 uNFM 18 t0 λt12 =>
 uB .leq t8 t12 λt13 =>
 uG t13 false (M.pure t0) λt15 =>
 uH t13 false (Ax.nilck t15) λt16 =>
 uH t13 false (Ax.faddr 21 t16) λt17 =>
 uG t13 false (mload none t17) λt18 =>
 uG t13 false (M.pure t0) λt19 =>
 uH t13 false (Ax.nilck t19) λt20 =>
 uH t13 false (Ax.faddr 19 t20) λt21 =>
 uG t13 false (mload none t21) λt22 =>
 uH t13 false (Ax.bin .eql t18 t22) λt23 =>
 uL (Ax.pick t13 (V.bool true) t23) λt24 =>
 M.ite t24
 (M.pure (.ret [V.nils]))
 ((G zbS [t0]).bind λt26 =>
 uL (vlen t26) λt27 =>
 M.blk 0 (
 M.iter (zk4 G t27 t26 t0) [(uc 0)]) λ_ =>
 uNFM 19 t0 λt48 =>
 uNF 21 t0 λt50 =>
 uT 1 t50 t48 λ_ =>
 uNFM 19 t0 λt54 =>
 uL (Ax.build [(uc 0),(uc 0),(uc 0),(uc 0),(uc 0),(uc 0),V.nils] [(0,1,(uc 8)),(3,1,t54)]) λt55 =>
 (mslit zdC 1 [(uc 0),(uc 0),(uc 0),(uc 0),(uc 0),(uc 0),V.nils] [(0,7,t55)]).bind λt56 =>
 M.pure (.ret [t56]))
theorem zlI{t0:V}:OkT zdq [t0] (ziv (sem T) t0):=okT (by kernel_rfl) (by kernel_rfl) (by kernel_rfl)
def zey(G:Sem')(t0 t1:V):M Res :=
 (G zb5 [t1]).bind λt6 =>
 uL (Ax.un .not t6) λt7 =>
 M.ite t7
 (M.pure (.ret [(V.int .u32 0)]))
 (uNFM 0 t0 λt11 =>
 uB .mul (uc 100) t11 λt12 =>
 uB .mul (uc 16) t1 λt14 =>
 uB .add t12 t14 λt15 =>
 uB .add t15 (uc 1000) λt16 =>
 uL (Ax.cint .u32 t16) λt17 =>
 M.pure (.ret [t17]))
theorem zgn{t0 t1:V}:OkT zaJ [t0,t1] (zey (sem T) t0 t1):=okT (by kernel_rfl) (by kernel_rfl) (by kernel_rfl)
def zfs(G:Sem')(t0:V):M Res :=
 uB .geq t0 (uc 0) λt4 =>
 uG t4 true (M.pure t0) λt6 =>
 uH t4 true (Ax.bin .lss t6 (uc 3)) λt7 =>
 uL (Ax.pick t4 t7 (V.bool false)) λt8 =>
 M.pure (.ret [t8])
theorem zhu{t0:V}:OkT zb5 [t0] (zfs (sem T) t0):=okT (by kernel_rfl) (by kernel_rfl) (by kernel_rfl)
def zfu(G:Sem')(t0:V):M Res :=
 uNFM 9 t0 λt6 =>
 M.pure (.ret [t6])
theorem ziQ{t0:V}:OkT zbB [t0] (zfu (sem T) t0):=okT (by kernel_rfl) (by kernel_rfl) (by kernel_rfl)
def zbV(G:Sem')(t61 t60 t13 t11 t12 t0 t1 t10:V)(L:List V):M Res :=
 uB .lss (ug L 1) t61 λt63 =>
 M.ite t63
 (M.blk 2 (
 uIM none 1 t60 (ug L 1) λt66 =>
 uNFM 22 t0 λt71 =>
 (G zcy [t71,V.nils,t66]).bind λt73 =>
 uE 0 t73 λt74 =>
 uE 1 t73 λt75 =>
 uB .neq t75 (uc 0) λt77 =>
 M.ite t77
 (M.pure (.ret [V.nils,t75]))
 (uB .eql (ug L 1) (uc 0) λt80 =>
 uL (vlen t13) λt83 =>
 uB .sub t83 (uc 1) λt84 =>
 uB .eql (ug L 1) t84 λt85 =>
 uF 0 t11 λt86 =>
 uT 1 t86 t80 λ_ =>
 uF 1 t11 λt87 =>
 uT 1 t87 t85 λ_ =>
 uB .gtr (ug L 1) (uc 0) λt89 =>
 M.join (M.ite t89
 (uL (Ax.build [(uc 0),(uc 0),V.nils,(uc 0),V.nils,V.nils] []) λt90 =>
 uF 4 t11 λt91 =>
 (mstore 1 t91 (V.bool false)).bind λ_ =>
 uF 5 t11 λt92 =>
 uT 6 t92 t90 λ_ =>
 M.pure (.nrm []))
 (M.pure (.nrm []))) λ_ =>
 uS 19 t11 λt94 =>
 M.getH.bind λh0 =>
 (G zbL []).bind λt95 =>
 M.getH.bind λh0' =>
 uU t11 h0 h0' λ_ =>
 (G zaZ [t94,t95]).bind λt96 =>
 uE 0 t96 λt97 =>
 uE 1 t96 λt98 =>
 uF 1 t11 λt99 =>
 uM t99 λt100 =>
 uNF 1 t10 λt103 =>
 uM t103 λt104 =>
 uL (Ax.build [(uc 0),V.nils] [(0,1,(uc 1)),(1,1,t97)]) λt110 =>
 M.getH.bind λh1 =>
 (G zaJ [t0,t1]).bind λt108 =>
 M.getH.bind λh1' =>
 uU t103 h1 h1' λ_ =>
 uU t99 h1 h1' λ_ =>
 (mslit zcG 1 [(uc 0),V.nils] [(0,2,t110)]).bind λt111 =>
 uL (Ax.build [(V.bool false),(uc 0),(V.int .u16 0),(V.int .u32 0),(V.int .u32 0),V.nils,(uc 0),V.nils,(uc 0),V.nils] [(0,1,t100),(1,1,(uc 96)),(2,1,t104),(3,1,t12),(4,1,t108),(6,1,(uc 48862)),(7,1,t111),(9,1,t74)]) λt113 =>
 uO zbh (V.agg [(V.bool false),(uc 0),(V.int .u16 0),(V.int .u32 0),(V.int .u32 0),V.nils,(uc 0),V.nils,(uc 0),V.nils]) λt21 =>
 uT 10 t21 t113 λ_ =>
 uNFM 1 t10 λt117 =>
 uB .add t117 (V.int .u16 1) λt118 =>
 uNF 1 t10 λt120 =>
 uT 1 t120 t118 λ_ =>
 uS 10 t21 λt122 =>
 (G zfT [t122]).bind λt123 =>
 uE 0 t123 λt124 =>
 uE 1 t123 λt125 =>
 uB .neq t125 (uc 0) λt127 =>
 M.ite t127
 (M.pure (.ret [V.nils,t125]))
 ((mslit zal 1 [V.nils] [(0,1,t124)]).bind λt131 =>
 (mappend zal 1 24 (ug L 0) t131).bind λt132 =>
 M.pure (.nrm [t132])))) λL2 =>
 uB .add (ug L 1) (uc 1) λt133 =>
 M.pure (.nrm [(ug L2 0),t133]))
 (M.pure (.ex 1 [(ug L 0)]))
def zcp(G:Sem')(t0 t1 t2 t3:V):M Res :=
 M.blk 0 (
 (G zb5 [t1]).bind λt25 =>
 uL (Ax.un .not t25) λt26 =>
 M.ite t26
 (M.pure (.ret [V.nils,(uc 1)]))
 (uNFM 6 t0 λt31 =>
 uL (Ax.un .not t31) λt32 =>
 M.ite t32
 (M.pure (.ret [V.nils,(uc 12)]))
 (uL (vlen t3) λt35 =>
 uB .gtr t35 (uc 800) λt36 =>
 M.ite t36
 (M.pure (.ret [V.nils,(uc 4)]))
 (M.pure (.nrm []))))) λ_ =>
 uNF 24 t0 λt40 =>
 uI (some 3) 4 t40 t1 λt41 =>
 (G zbA [t41,t2]).bind λt44 =>
 uO zaL (V.agg [(V.bool false),(V.bool false),(uc 0),(V.int .u16 0),(V.bool false),(uc 0),(uc 0),V.nils,(uc 0),V.nils,V.nils,(V.bool false),(V.int .u32 0),(V.bool false),(V.bool false),(V.bool false),V.nils,V.nils,V.nils]) λt11 =>
 uT 19 t11 t44 λ_ =>
 uNFM 0 t41 λt48 =>
 uL (Ax.cint .u32 t48) λt49 =>
 uB .mul (V.int .u32 3000) t49 λt50 =>
 uNFM 0 t41 λt54 =>
 uB .add t54 (uc 1) λt55 =>
 uNF 0 t41 λt57 =>
 uT 1 t57 t55 λ_ =>
 (G zd9 [t3]).bind λt59 =>
 uL (vlen t59) λt61 =>
 M.blk 1 (
 M.iter (zbV G t61 t59 t59 t11 t50 t0 t1 t41) [V.nils,(uc 0)]) λL3 =>
 M.pure (.ret [(ug L3 0),(uc 0)])
theorem zcO{t0 t1 t2 t3:V}:OkT zaE [t0,t1,t2,t3] (zcp (sem T) t0 t1 t2 t3):=okT (by kernel_rfl) (by kernel_rfl) (by kernel_rfl)
end Go.Ax
/- FnS5 -/
namespace Go.Ax
open Go.Proofs
def zdw(G:Sem')(t0 t1:V):M Res :=
 uO zaL (V.agg [(V.bool false),(V.bool false),(uc 0),(V.int .u16 0),(V.bool false),(uc 0),(uc 0),V.nils,(uc 0),V.nils,V.nils,(V.bool false),(V.int .u32 0),(V.bool false),(V.bool false),(V.bool false),V.nils,V.nils,V.nils]) λt4 =>
 uNFM 0 t0 λt11 =>
 uL (Ax.cint .u16 t11) λt12 =>
 uL (Ax.build [(V.bool false),(V.bool false),(uc 0),(V.int .u16 0),(V.bool false),(uc 0),(uc 0),V.nils,(uc 0),V.nils,V.nils,(V.bool false),(V.int .u32 0),(V.bool false),(V.bool false),(V.bool false),V.nils,V.nils,V.nils] [(3,1,t12)]) λt13 =>
 uO zaL (V.agg [(V.bool false),(V.bool false),(uc 0),(V.int .u16 0),(V.bool false),(uc 0),(uc 0),V.nils,(uc 0),V.nils,V.nils,(V.bool false),(V.int .u32 0),(V.bool false),(V.bool false),(V.bool false),V.nils,V.nils,V.nils]) λt5 =>
 uT 19 t5 t13 λ_ =>
 M.blk 0 (
 uG t1 false (M.pure t0) λt21 =>
 uH t1 false (Ax.nilck t21) λt22 =>
 uH t1 false (Ax.faddr 2 t22) λt23 =>
 uG t1 false (mload none t23) λt24 =>
 uH t1 false (Ax.un .not t24) λt25 =>
 uL (Ax.pick t1 (V.bool true) t25) λt26 =>
 M.join (M.ite t26
 (uNF 2 t0 λt30 =>
 (mstore 1 t30 (V.bool true)).bind λ_ =>
 uNF 3 t0 λt32 =>
 (mstore 1 t32 (V.bool false)).bind λ_ =>
 (G zbL []).bind λt33 =>
 uF 4 t5 λt34 =>
 (mstore 1 t34 (V.bool true)).bind λ_ =>
 uF 5 t5 λt35 =>
 uT 6 t35 t33 λ_ =>
 M.pure (.nrm []))
 (uNFM 3 t0 λt40 =>
 M.join (M.ite t40
 (uF 2 t5 λt42 =>
 (mstore 1 t42 (uc 1)).bind λ_ =>
 uNF 3 t0 λt44 =>
 (mstore 1 t44 (V.bool false)).bind λ_ =>
 M.pure (.nrm []))
 (uF 2 t5 λt15 =>
 (mstore 1 t15 (uc 2)).bind λ_ =>
 uNF 3 t0 λt17 =>
 (mstore 1 t17 (V.bool true)).bind λ_ =>
 M.pure (.nrm []))) λ_ =>
 M.pure (.nrm []))) λ_ =>
 M.pure (.nrm [])) λ_ =>
 uS 19 t5 λt46 =>
 M.getH.bind λh0 =>
 (G zbL []).bind λt47 =>
 M.getH.bind λh0' =>
 uU t5 h0 h0' λ_ =>
 (G zdF [t46,t47]).bind λt48 =>
 uE 0 t48 λt49 =>
 uO zfL (V.agg [(uc 0),(uc 0),V.nils,V.nils,V.nils]) λt6 =>
 uT 5 t6 t49 λ_ =>
 uE 1 t48 λt50 =>
 uFM 2 t6 λt52 =>
 uF 3 t6 λt53 =>
 uM t53 λt54 =>
 uF 4 t6 λt55 =>
 uM t55 λt56 =>
 uF 16 t5 λt57 =>
 M.getH.bind λh1 =>
 uT 1 t57 t52 λ_ =>
 M.getH.bind λh1' =>
 uU t55 h1 h1' λ_ =>
 uU t53 h1 h1' λ_ =>
 uF 17 t5 λt58 =>
 M.getH.bind λh2 =>
 uT 1 t58 t54 λ_ =>
 M.getH.bind λh2' =>
 uU t55 h2 h2' λ_ =>
 uF 18 t5 λt59 =>
 uT 1 t59 t56 λ_ =>
 uS 19 t5 λt60 =>
 uT 19 t4 t60 λ_ =>
 uS 19 t4 λr0 =>
 M.pure (.ret [r0])
theorem zeF{t0 t1:V}:OkT zbA [t0,t1] (zdw (sem T) t0 t1):=okT (by kernel_rfl) (by kernel_rfl) (by kernel_rfl)
def zdP(G:Sem')(t2:V)(L:List V):M Res :=
 uL (vlen (ug L 0)) λt5 =>
 uB .gtr t5 (uc 100) λt6 =>
 M.ite t6
 (M.blk 1 (
 uL (zaA .sl 1 (ug L 0) none (some (uc 100)) none) λt9 =>
 (mslit zal 1 [V.nils] [(0,1,t9)]).bind λt10 =>
 (mappend zal 1 24 (ug L 1) t10).bind λt11 =>
 uL (zaA .sl 1 (ug L 0) (some (uc 100)) none none) λt13 =>
 M.pure (.nrm [t13,t11])) λL0 =>
 M.pure (.nrm [(ug L0 0),(ug L0 1)]))
 (M.pure (.ex 0 [(ug L 0),(ug L 1)]))
def zkp(G:Sem')(t0:V):M Res :=
 M.blk 0 (
 M.iter (zdP G V.nils) [t0,V.nils]) λL1 =>
 (mslit zal 1 [V.nils] [(0,1,(ug L1 0))]).bind λt16 =>
 (mappend zal 1 24 (ug L1 1) t16).bind λt17 =>
 M.pure (.ret [t17])
theorem znL{t0:V}:OkT zd9 [t0] (zkp (sem T) t0):=okT (by kernel_rfl) (by kernel_rfl) (by kernel_rfl)
def zfY(G:Sem')(t0 t1 t2:V):M Res :=
 uNFM 2 t0 λt13 =>
 uL (eqr .ptr false t13 V.nilp) λt14 =>
 M.ite t14
 (M.pure (.ret [V.nils,(uc 10)]))
 (uNFM 2 t0 λt19 =>
 uNFM 6 t0 λt23 =>
 (G zb9 [t19,t23,t1,t2]).bind λt26 =>
 uE 0 t26 λt27 =>
 uE 1 t26 λt28 =>
 uB .eql t28 (uc 0) λt30 =>
 M.join (M.ite t30
 (uNFM 6 t0 λt34 =>
 uB .add t34 (uq 1) λt35 =>
 uNF 6 t0 λt37 =>
 uT 1 t37 t35 λ_ =>
 M.pure (.nrm []))
 (M.pure (.nrm []))) λ_ =>
 M.pure (.ret [t27,t28]))
theorem zju{t0 t1 t2:V}:OkT zcy [t0,t1,t2] (zfY (sem T) t0 t1 t2):=okT (by kernel_rfl) (by kernel_rfl) (by kernel_rfl)
end Go.Ax
/- FnS6 -/
namespace Go.Ax
open Go.Proofs
def zhf(G:Sem')(t26 t25 t2 t3:V)(L:List V):M Res :=
 uB .lss (ug L 1) t26 λt28 =>
 M.ite t28
 (M.blk 1 (
 uIM none 1 t25 (ug L 1) λt30 =>
 (G zc8 [(ug L 0),t30,(uc 4)]).bind λt33 =>
 M.pure (.nrm [t33])) λL0 =>
 uB .add (ug L 1) (uc 1) λt34 =>
 M.pure (.nrm [(ug L0 0),t34]))
 (M.pure (.ex 0 [(ug L 0)]))
def zm8(G:Sem')(t0:V):M Res :=
 uO zbh t0 λt1 =>
 uS 10 t1 λt8 =>
 (G zgZ [t8]).bind λt9 =>
 uL (Ax.un .not t9) λt10 =>
 M.ite t10
 (M.pure (.ret [V.nils,(uc 1)]))
 (uS 10 t1 λt11 =>
 uF 2 t1 λt13 =>
 uM t13 λt14 =>
 uL (Ax.cint .u32 t14) λt15 =>
 M.getH.bind λh0 =>
 (G zfS [t11]).bind λt12 =>
 M.getH.bind λh0' =>
 uU t13 h0 h0' λ_ =>
 (G zc8 [t12,t15,(uc 2)]).bind λt16 =>
 uFM 3 t1 λt19 =>
 uF 4 t1 λt21 =>
 uM t21 λt22 =>
 M.getH.bind λh1 =>
 (G zc8 [t16,t19,(uc 4)]).bind λt20 =>
 M.getH.bind λh1' =>
 uU t21 h1 h1' λ_ =>
 (G zc8 [t20,t22,(uc 4)]).bind λt23 =>
 uFM 5 t1 λt25 =>
 uL (vlen t25) λt26 =>
 M.blk 0 (
 M.iter (zhf G t26 t25 V.nils (uc 0)) [t23,(uc 0)]) λL1 =>
 uFM 6 t1 λt36 =>
 uB .neq t36 (uc 0) λt37 =>
 M.join (M.ite t37
 (uS 10 t1 λt38 =>
 (G zdL [t38]).bind λt39 =>
 uFM 6 t1 λt42 =>
 uL (Ax.cint .u32 t42) λt43 =>
 (G zc8 [(ug L1 0),t43,(uc 2)]).bind λt44 =>
 uL (vlen t39) λt46 =>
 uB .quo t46 (uc 4) λt47 =>
 uL (Ax.cint .u32 t47) λt48 =>
 (G zc8 [t44,t48,(uc 2)]).bind λt49 =>
 (mappend zaa 1 1 t49 t39).bind λt52 =>
 M.pure (.nrm [t52]))
 (M.pure (.nrm [(ug L1 0)]))) λL2 =>
 uL (vlen (ug L2 0)) λt54 =>
 uFM 9 t1 λt56 =>
 uL (vlen t56) λt57 =>
 uB .add t54 t57 λt58 =>
 uFM 8 t1 λt60 =>
 uB .add t58 t60 λt61 =>
 uB .gtr t61 (uc 1200) λt62 =>
 M.ite t62
 (M.pure (.ret [V.nils,(uc 4)]))
 (uFM 9 t1 λt65 =>
 (mappend zaa 1 1 (ug L2 0) t65).bind λt66 =>
 uFM 8 t1 λt68 =>
 uB .gtr t68 (uc 0) λt69 =>
 M.join (M.ite t69
 (uFM 8 t1 λt72 =>
 (mappendz zaa 1 [(ub 0)] t66 t72).bind λt73 =>
 uL (vlen t73) λt76 =>
 uB .sub t76 (uc 1) λt77 =>
 uFM 8 t1 λt79 =>
 uL (Ax.cint .u8 t79) λt80 =>
 uI none 1 t73 t77 λt81 =>
 uT 1 t81 t80 λ_ =>
 M.pure (.nrm [t73]))
 (M.pure (.nrm [t66]))) λL3 =>
 M.pure (.ret [(ug L3 0),(uc 0)])))
theorem zqp{t0:V}:OkT zfT [t0] (zm8 (sem T) t0):=okT (by kernel_rfl) (by kernel_rfl) (by kernel_rfl)
def zoz(G:Sem')(t0:V):M Res :=
 uO zbh t0 λt1 =>
 M.blk 0 (
 uFM 1 t1 λt5 =>
 uB .lss t5 (uc 0) λt6 =>
 uH t6 false (Ax.faddr 1 t1) λt8 =>
 uG t6 false (mload none t8) λt9 =>
 uH t6 false (Ax.bin .gtr t9 (uc 127)) λt10 =>
 uL (Ax.pick t6 (V.bool true) t10) λt11 =>
 uH t11 false (Ax.faddr 5 t1) λt13 =>
 uG t11 false (mload none t13) λt14 =>
 uH t11 false (vlen t14) λt15 =>
 uH t11 false (Ax.bin .gtr t15 (uc 15)) λt16 =>
 uL (Ax.pick t11 (V.bool true) t16) λt17 =>
 uH t17 false (Ax.faddr 8 t1) λt19 =>
 uG t17 false (mload none t19) λt20 =>
 uH t17 false (Ax.bin .lss t20 (uc 0)) λt21 =>
 uL (Ax.pick t17 (V.bool true) t21) λt22 =>
 uH t22 false (Ax.faddr 8 t1) λt24 =>
 uG t22 false (mload none t24) λt25 =>
 uH t22 false (Ax.bin .gtr t25 (uc 255)) λt26 =>
 uL (Ax.pick t22 (V.bool true) t26) λt27 =>
 M.ite t27
 (M.pure (.ret [(V.bool false)]))
 (uFM 6 t1 λt30 =>
 uB .eql t30 (uc 0) λt31 =>
 M.ite t31
 (uFM 7 t1 λt33 =>
 uL (vlen t33) λt34 =>
 uB .eql t34 (uc 0) λt35 =>
 M.pure (.ret [t35]))
 (uFM 6 t1 λt38 =>
 uB .neq t38 (uc 48862) λt39 =>
 uH t39 true (Ax.faddr 6 t1) λt41 =>
 uG t39 true (mload none t41) λt42 =>
 uH t39 true (Ax.bin .neq t42 (uc 4096)) λt43 =>
 uL (Ax.pick t39 t43 (V.bool false)) λt44 =>
 M.ite t44
 (M.pure (.ret [(V.bool false)]))
 (M.pure (.nrm []))))) λ_ =>
 uFM 7 t1 λt46 =>
 (M.pure (.fn zc9 [t1])).bind λt47 =>
 (G zaD [t46,t47]).bind λt48 =>
 uL (Ax.un .not t48) λt49 =>
 M.pure (.ret [t49])
theorem zrA{t0:V}:OkT zgZ [t0] (zoz (sem T) t0):=okT (by kernel_rfl) (by kernel_rfl) (by kernel_rfl)
def zlq(G:Sem')(t0 t1:V):M Res :=
 uO zcG t0 λt2 =>
 uFM 6 t1 λt5 =>
 uS 2 t2 λt6 =>
 (G zea [t5,t6]).bind λt7 =>
 uL (Ax.un .not t7) λt8 =>
 M.pure (.ret [t8])
theorem zo9{t0 t1:V}:OkT zc9 [t0,t1] (zlq (sem T) t0 t1):=okT (by kernel_rfl) (by kernel_rfl) (by kernel_rfl)
def zkq(G:Sem')(t0 t1:V):M Res :=
 uO zcG t1 λt3 =>
 uB .eql t0 (uc 48862) λt6 =>
 M.ite t6
 (uFM 0 t3 λt8 =>
 uB .geq t8 (uc 1) λt9 =>
 uH t9 true (Ax.faddr 0 t3) λt11 =>
 uG t9 true (mload none t11) λt12 =>
 uH t9 true (Ax.bin .leq t12 (uc 14)) λt13 =>
 uL (Ax.pick t9 t13 (V.bool false)) λt14 =>
 uH t14 true (Ax.faddr 1 t3) λt16 =>
 uG t14 true (mload none t16) λt17 =>
 uH t14 true (vlen t17) λt18 =>
 uH t14 true (Ax.bin .geq t18 (uc 1)) λt19 =>
 uL (Ax.pick t14 t19 (V.bool false)) λt20 =>
 uH t20 true (Ax.faddr 1 t3) λt22 =>
 uG t20 true (mload none t22) λt23 =>
 uH t20 true (vlen t23) λt24 =>
 uH t20 true (Ax.bin .leq t24 (uc 16)) λt25 =>
 uL (Ax.pick t20 t25 (V.bool false)) λt26 =>
 M.pure (.ret [t26]))
 (uFM 0 t3 λt28 =>
 uB .geq t28 (uc 1) λt29 =>
 uH t29 true (Ax.faddr 0 t3) λt31 =>
 uG t29 true (mload none t31) λt32 =>
 uH t29 true (Ax.bin .leq t32 (uc 255)) λt33 =>
 uL (Ax.pick t29 t33 (V.bool false)) λt34 =>
 uH t34 true (Ax.faddr 1 t3) λt36 =>
 uG t34 true (mload none t36) λt37 =>
 uH t34 true (vlen t37) λt38 =>
 uH t34 true (Ax.bin .leq t38 (uc 255)) λt39 =>
 uL (Ax.pick t34 t39 (V.bool false)) λt40 =>
 M.pure (.ret [t40]))
theorem znM{t0 t1:V}:OkT zea [t0,t1] (zkq (sem T) t0 t1):=okT (by kernel_rfl) (by kernel_rfl) (by kernel_rfl)
def zbD(G:Sem')(t0 t1:V):M Res :=
 (G zaQ [t0,t1]).bind λt7 =>
 uB .geq t7 (uc 0) λt8 =>
 M.pure (.ret [t8])
theorem zc7{t0 t1:V}:OkT zaD [t0,t1] (zbD (sem T) t0 t1):=okT (by kernel_rfl) (by kernel_rfl) (by kernel_rfl)
def zbb(G:Sem')(t7 t1 t0:V)(L:List V):M Res :=
 uB .lss (ug L 0) t7 λt9 =>
 M.ite t9
 (M.blk 1 (
 uI none 2 t0 (ug L 0) λt14 =>
 uS 2 t14 λt15 =>
 (callv G t1 [t15]).bind λt16 =>
 M.ite t16
 (M.pure (.ret [(ug L 0)]))
 (M.pure (.nrm []))) λ_ =>
 uB .add (ug L 0) (uc 1) λt18 =>
 M.pure (.nrm [t18]))
 (M.pure (.ex 0 []))
def zbY(G:Sem')(t0 t1:V):M Res :=
 uL (vlen t0) λt7 =>
 M.blk 0 (
 M.iter (zbb G t7 t1 t0) [(uc 0)]) λ_ =>
 M.pure (.ret [(uc (-1))])
theorem zdu{t0 t1:V}:OkT zaQ [t0,t1] (zbY (sem T) t0 t1):=okT (by kernel_rfl) (by kernel_rfl) (by kernel_rfl)
def zm7(G:Sem')(t0:V):M Res :=
 uO zbh t0 λt1 =>
 uFM 5 t1 λt6 =>
 uL (vlen t6) λt7 =>
 uB .or (uc 128) t7 λt8 =>
 uL (Ax.cint .u8 t8) λt9 =>
 uFM 1 t1 λt11 =>
 uL (Ax.cint .u8 t11) λt12 =>
 uFM 8 t1 λt14 =>
 uB .gtr t14 (uc 0) λt15 =>
 M.join (M.ite t15
 (uB .or t9 (ub 32) λt17 =>
 M.pure (.nrm [t17]))
 (M.pure (.nrm [t9]))) λL0 =>
 uFM 6 t1 λt19 =>
 uB .neq t19 (uc 0) λt20 =>
 M.join (M.ite t20
 (uB .or (ug L0 0) (ub 16) λt22 =>
 M.pure (.nrm [t22]))
 (M.pure (.nrm [(ug L0 0)]))) λL1 =>
 uFM 0 t1 λt24 =>
 M.join (M.ite t24
 (uB .or t12 (ub 128) λt26 =>
 M.pure (.nrm [t26]))
 (M.pure (.nrm [t12]))) λL2 =>
 (mslit zaa 2 [(ub 0)] [(0,1,(ug L1 0)),(1,1,(ug L2 0))]).bind λt29 =>
 M.pure (.ret [t29])
theorem zqo{t0:V}:OkT zfS [t0] (zm7 (sem T) t0):=okT (by kernel_rfl) (by kernel_rfl) (by kernel_rfl)
def zjF(G:Sem')(t1 t6:V)(L:List V):M Res :=
 uB .geq (ug L 1) (uc 0) λt11 =>
 M.ite t11
 (M.blk 1 (
 uB .mul (uc 8) (ug L 1) λt17 =>
 uB .shr t1 t17 λt18 =>
 uL (Ax.cint .u8 t18) λt19 =>
 (mslit zaa 1 [(ub 0)] [(0,1,t19)]).bind λt20 =>
 (mappend zaa 1 1 (ug L 0) t20).bind λt21 =>
 M.pure (.nrm [t21])) λL0 =>
 uB .sub (ug L 1) (uc 1) λt13 =>
 M.pure (.nrm [(ug L0 0),t13]))
 (M.pure (.ex 0 [(ug L 0)]))
def zqM(G:Sem')(t0 t1 t2:V):M Res :=
 uB .sub t2 (uc 1) λt9 =>
 M.blk 0 (
 M.iter (zjF G t1 V.nils) [t0,t9]) λL1 =>
 M.pure (.ret [(ug L1 0)])
theorem ztC{t0 t1 t2:V}:OkT zc8 [t0,t1,t2] (zqM (sem T) t0 t1 t2):=okT (by kernel_rfl) (by kernel_rfl) (by kernel_rfl)
def zeA(G:Sem')(t8 t7 t1 t2:V)(L:List V):M Res :=
 uB .lss (ug L 1) t8 λt10 =>
 M.ite t10
 (M.blk 1 (
 uI none 2 t7 (ug L 1) λt11 =>
 uS 2 t11 λt12 =>
 uO zcG (V.agg [(uc 0),V.nils]) λt5 =>
 uT 2 t5 t12 λ_ =>
 uFM 6 t1 λt14 =>
 uB .eql t14 (uc 48862) λt15 =>
 M.join (M.ite t15
 (uFM 0 t5 λt18 =>
 uB .shl t18 (uq 4) λt19 =>
 uFM 1 t5 λt21 =>
 uL (vlen t21) λt22 =>
 uB .sub t22 (uc 1) λt23 =>
 uB .or t19 t23 λt24 =>
 uL (Ax.cint .u8 t24) λt25 =>
 (mslit zaa 1 [(ub 0)] [(0,1,t25)]).bind λt26 =>
 (mappend zaa 1 1 (ug L 0) t26).bind λt27 =>
 M.pure (.nrm [t27]))
 (uFM 0 t5 λt30 =>
 uL (Ax.cint .u8 t30) λt31 =>
 uFM 1 t5 λt33 =>
 uL (vlen t33) λt34 =>
 uL (Ax.cint .u8 t34) λt35 =>
 (mslit zaa 2 [(ub 0)] [(0,1,t31),(1,1,t35)]).bind λt36 =>
 (mappend zaa 1 1 (ug L 0) t36).bind λt37 =>
 M.pure (.nrm [t37]))) λL0 =>
 uFM 1 t5 λt40 =>
 (mappend zaa 1 1 (ug L0 0) t40).bind λt41 =>
 M.pure (.nrm [t41])) λL1 =>
 uB .add (ug L 1) (uc 1) λt42 =>
 M.pure (.nrm [(ug L1 0),t42]))
 (M.pure (.ex 0 [(ug L 0)]))
def zdr(G:Sem')(t2:V)(L:List V):M Res :=
 uL (vlen (ug L 0)) λt44 =>
 uB .rem t44 (uc 4) λt45 =>
 uB .neq t45 (uc 0) λt46 =>
 M.ite t46
 (M.blk 3 (
 (mslit zaa 1 [(ub 0)] [(0,1,(ub 0))]).bind λt48 =>
 (mappend zaa 1 1 (ug L 0) t48).bind λt49 =>
 M.pure (.nrm [t49])) λL3 =>
 M.pure (.nrm [(ug L3 0)]))
 (M.pure (.ex 2 [(ug L 0)]))
def zjc(G:Sem')(t0:V):M Res :=
 uO zbh t0 λt1 =>
 uFM 7 t1 λt7 =>
 uL (vlen t7) λt8 =>
 M.blk 0 (
 M.iter (zeA G t8 t7 t1 V.nils) [V.nils,(uc 0)]) λL2 =>
 M.blk 2 (
 M.iter (zdr G V.nils) [(ug L2 0)]) λL4 =>
 M.pure (.ret [(ug L4 0)])
theorem zmJ{t0:V}:OkT zdL [t0] (zjc (sem T) t0):=okT (by kernel_rfl) (by kernel_rfl) (by kernel_rfl)
end Go.Ax
/- FnS7 -/
namespace Go.Ax
open Go.Proofs
end Go.Ax
/- FnS8 -/
namespace Go.Ax
open Go.Proofs
def zen(G:Sem')(t0 t1:V):M Res :=
 uB .shr t0 t1 λt7 =>
 uB .sub (uq 32) t1 λt10 =>
 uB .shl t0 t10 λt11 =>
 uB .or t7 t11 λt12 =>
 M.pure (.ret [t12])
theorem zhB{t0 t1:V}:OkT za6 [t0,t1] (zen (sem T) t0 t1):=okT (by kernel_rfl) (by kernel_rfl) (by kernel_rfl)
end Go.Ax
/- FnS9 -/
namespace Go.Ax
open Go.Proofs
def zcL:Fn':=irOf zbo
theorem zhA:T zbo=some zcL:=by kernel_rfl
end Go.Ax
/- FnS10 -/
namespace Go.Ax
open Go.Proofs
end Go.Ax
/- FnS11 -/
namespace Go.Ax
open Go.Proofs
end Go.Ax
/- FnS12 -/
namespace Go.Ax
open Go.Proofs
end Go.Ax
/- Ax21 -/
namespace Go.Ax.Cc
inductive CT where
 | lf (v:V)
 | nd (l r:CT)
def CT.get:Nat→CT→Nat→V
 | 0,.lf v,_=>v
 | 0,.nd _ _,_=>.undef
 | _+1,.lf _,_=>.undef
 | d+1,.nd l r,i=>if i<2 ^ d then CT.get d l i else CT.get d r (i-2 ^ d)
def CT.set{α:Type}:Nat→CT→Nat→V→(CT→α)→α
 | 0,.lf _,_,v,k=>k (.lf v)
 | 0,.nd _ _,_,v,k=>k (.lf v)
 | d+1,.lf _,i,v,k=>if i<2 ^ d then CT.set d (.lf .undef) i v λl'=>k (.nd l' (.lf .undef)) else CT.set d (.lf .undef) (i-2 ^ d) v λr'=>k (.nd (.lf .undef) r')
 | d+1,.nd l r,i,v,k=>if i<2 ^ d then CT.set d l i v λl'=>k (.nd l' r) else CT.set d r (i-2 ^ d) v λr'=>k (.nd l r')
def CT.sets{α:Type}(d:Nat):CT→Nat→List V→(CT→α)→α
 | t,_,[],k=>k t
 | t,i,v::vs,k=>CT.set d t i v λt'=>CT.sets d t' (i+1) vs k
def CT.abs:Nat→CT→List V
 | 0,.lf v=>[v]
 | 0,.nd _ _=>[.undef]
 | d+1,.lf _=>List.replicate (2 ^ (d+1)) .undef
 | d+1,.nd l r=>CT.abs d l++CT.abs d r
def CT.mk{α:Type}:Nat→List V→(CT→List V→α)→α
 | 0,[],k=>k (.lf .undef) []
 | 0,v::vs,k=>k (.lf v) vs
 | d+1,vs,k=>CT.mk d vs λl r=>CT.mk d r λl' r'=>k (.nd l l') r'
def CT.rng(d:Nat)(t:CT):Nat→Nat→List V
 | _,0=>[]
 | i,m+1=>CT.get d t i::CT.rng d t (i+1) m
theorem CT.abs_len:∀(d:Nat) (t:CT),(CT.abs d t).length=2 ^ d
 | 0,.lf _=>rfl
 | 0,.nd _ _=>rfl
 | d+1,.lf _=>by simp[CT.abs]
 | d+1,.nd l r=>by simp only[CT.abs,List.length_append,CT.abs_len d l,CT.abs_len d r,Nat.pow_succ]; omega
theorem CT.get_abs : ∀ (d : Nat) (t : CT) (i : Nat), i < 2 ^ d → (CT.abs d t)[i]? = some (CT.get d t i)
  | 0, .lf v, i, h => by have : i = 0 := by simpa using h
                         subst this; rfl
  | 0, .nd _ _, i, h => by have : i = 0 := by simpa using h
                           subst this; rfl
  | d + 1, .lf _, i, h => by simp only [CT.abs, CT.get, List.getElem?_replicate]; rw [if_pos h]
  | d + 1, .nd l r, i, h => by
    simp only [CT.abs, CT.get]
    rw [List.getElem?_append, CT.abs_len]
    by_cases hi : i < 2 ^ d
    · rw [if_pos hi, if_pos hi, CT.get_abs d l i hi]
    · rw [if_neg hi, if_neg hi, CT.get_abs d r _ (by rw [Nat.pow_succ] at h; omega)]
theorem CT.rng_abs(d:Nat)(t:CT):∀(m i:Nat),i+m≤2 ^ d→CT.rng d t i m=((CT.abs d t).drop i).take m
 | 0,i,_=>by simp[CT.rng]
 | m+1,i,h=>by
  have hi:i<(CT.abs d t).length:=by rw[CT.abs_len]; omega
  rw[CT.rng,CT.rng_abs d t m (i+1) (by omega),List.drop_eq_getElem_cons hi,List.take_succ_cons];have:=CT.get_abs d t i (by omega);rw[List.getElem?_eq_getElem hi]at this;injection this with this
  rw[this]
theorem CT.abs_blank(d:Nat):CT.abs d (.lf .undef)=List.replicate (2 ^ d) .undef:=by cases d<;>rfl
theorem CT.set_abs{α:Type}:∀(d:Nat) (t:CT) (i:Nat) (v:V) (k:CT→α),i<2 ^ d→∃t',CT.set d t i v k=k t'∧CT.abs d t'=(CT.abs d t).set i v:=by
 intro d
 induction d with
 | zero =>
  intro t i v k h;have:i=0:=by simpa using h
  subst this;cases t<;>exact⟨_,rfl,rfl⟩
 | succ d ih =>
  have key:∀(l r:CT) (i:Nat) (v:V) (k:CT→α),i<2 ^ (d+1)→(∃t',(if i<2 ^ d then CT.set d l i v λl'=>k (.nd l' r) else CT.set d r (i-2 ^ d) v λr'=>k (.nd l r'))=k t'∧CT.abs (d+1) t'=(CT.abs d l++CT.abs d r).set i v):=by
   intro l r i v k h;by_cases hi:i<2 ^ d
   ·rw[if_pos hi];obtain⟨t',h1,h3⟩:=ih l i v (λl'=>k (.nd l' r)) hi;refine⟨.nd t' r,h1,?_⟩;simp only[CT.abs,h3];rw[List.set_append_left _ _ (by rw[CT.abs_len]; exact hi)]
   ·rw[if_neg hi];obtain⟨t',h1,h3⟩:=ih r (i-2 ^ d) v (λr'=>k (.nd l r')) (by rw[Nat.pow_succ]at h; omega);refine⟨.nd l t',h1,?_⟩;simp only[CT.abs,h3];rw[List.set_append_right _ _ (by rw[CT.abs_len]; omega),CT.abs_len]
  intro t i v k h;cases t with
  | nd l r=>exact key l r i v k h
  | lf u =>
   obtain⟨t',h1,h2⟩:=key (.lf .undef) (.lf .undef) i v k h;refine⟨t',h1,?_⟩;rw[h2,CT.abs_blank];show _=(List.replicate (2 ^ (d+1)) .undef).set i v;rw[List.replicate_append_replicate,Nat.pow_succ];congr 2;omega
theorem zp1(cs:List V)(i:Nat)(v:V)(vs:List V) (h:i+(v::vs).length≤cs.length):splice cs i (v::vs)=splice (cs.set i v) (i+1) vs:=by
 simp only[List.length_cons]at h;apply List.ext_getElem?;intro j;rw[zdZ _ _ _ (by simpa using h),zdZ _ _ _ (by rw[List.length_set]; omega)];simp only[List.length_cons];by_cases h1:j=i
 ·subst h1;rw[if_pos (by omega),if_neg (by omega),Nat.sub_self,List.getElem?_cons_zero,List.getElem?_set_self (by omega)]
 ·by_cases h2:i≤j∧j<i+(vs.length+1)
  ·rw[if_pos h2,if_pos (by omega),show j-i=(j-(i+1))+1 by omega,List.getElem?_cons_succ]
  ·rw[if_neg h2,if_neg (by omega),List.getElem?_set_ne (by omega)]
theorem CT.sets_abs{α:Type}(d:Nat):∀(vs:List V) (t:CT) (i:Nat) (k:CT→α),i+vs.length≤2 ^ d→∃t',CT.sets d t i vs k=k t'∧CT.abs d t'=splice (CT.abs d t) i vs
 | [],t,i,k,h=>⟨t,rfl,by simp[splice]⟩
 | v::vs,t,i,k,h=>by
  simp only[List.length_cons]at h;obtain⟨t1,h1,h3⟩:=CT.set_abs d t i v (λt'=>CT.sets d t' (i+1) vs k) (by omega);obtain⟨t2,g1,g3⟩:=CT.sets_abs d vs t1 (i+1) k (by omega);refine⟨t2,by rw[CT.sets,h1,g1],?_⟩;rw[g3,h3,zp1 _ _ _ _ (by rw[CT.abs_len,List.length_cons]; omega)]
theorem CT.mk_abs{α:Type}:∀(d:Nat) (vs:List V) (k:CT→List V→α),∃t,CT.mk d vs k=k t (vs.drop (2 ^ d))∧∀j,j<vs.length→j<2 ^ d→(CT.abs d t)[j]?=vs[j]?
 | 0,[],k=>⟨_,rfl,λj h=>by simp at h⟩
 | 0,v::vs,k=>⟨_,rfl,λj _ h=>(by
  have:j=0:=by simpa using h
  subst this;rfl)⟩
 | d+1,vs,k=>by
  obtain⟨t,h1,h3⟩:=CT.mk_abs d vs (λl r=>CT.mk d r λl' r'=>k (.nd l l') r');obtain⟨t',g1,g3⟩:=CT.mk_abs d (vs.drop (2 ^ d)) (λl' r'=>k (.nd t l') r');refine⟨.nd t t',?_,λj hj hj2=>?_⟩
  ·rw[CT.mk,h1,g1,List.drop_drop,Nat.pow_succ];rw[show 2 ^ d+2 ^ d=2 ^ d*2 by omega]
  ·simp only[CT.abs];rw[List.getElem?_append,CT.abs_len];by_cases h:j<2 ^ d
   ·rw[if_pos h,h3 j hj h]
   ·rw[if_neg h,g3 _ (by rw[List.length_drop]; omega) (by rw[Nat.pow_succ]at hj2; omega),List.getElem?_drop];congr 1;omega
structure Bk where
 ty:TypeId
 n:Nat
 d:Nat
 t:CT
 opn:Option Nat
def Bk.abs(b:Bk):Blk:=⟨b.ty,(CT.abs b.d b.t).take b.n,b.opn⟩
def dep:Nat→Nat→Nat→Nat
 | 0,d,_=>d
 | f+1,d,n=>if n≤2 ^ d then d else dep f (d+1) n
theorem dep_le:∀(f d n:Nat),n≤d+f→n≤2 ^ (dep f d n)
 | 0,d,n,h=>by
  rw[dep];have:d<2 ^ d:=Nat.lt_two_pow_self;omega
 | f+1,d,n,h=>by
  rw[dep];split
  ·assumption
  ·exact dep_le f (d+1) n (by omega)
def ofB{α:Type}(b:Blk)(k:Bk→α):α:=CT.mk (dep b.cells.length 0 b.cells.length) b.cells λt _=>k ⟨b.ty,b.cells.length,dep b.cells.length 0 b.cells.length,t,b.opn⟩
theorem zvI{α:Type}(b:Blk)(k:Bk→α):∃b',ofB b k=k b'∧b'.abs=b:=by
 obtain⟨t,h1,h3⟩:=CT.mk_abs (dep b.cells.length 0 b.cells.length) b.cells (λt _=>k ⟨b.ty,b.cells.length,dep b.cells.length 0 b.cells.length,t,b.opn⟩);refine⟨_,h1,?_⟩;have hle:=dep_le b.cells.length 0 b.cells.length (by omega);show(⟨b.ty,(CT.abs (dep b.cells.length 0 b.cells.length) t).take b.cells.length,b.opn⟩:Blk)=b;have:(CT.abs (dep b.cells.length 0 b.cells.length) t).take b.cells.length=b.cells:=by
  apply List.ext_getElem?;intro j;by_cases hj:j<b.cells.length
  ·rw[List.getElem?_take_of_lt hj,h3 j hj (by omega)]
  ·rw[List.getElem?_eq_none (by rw[List.length_take]; omega),List.getElem?_eq_none (by omega)]
 rw[this]
inductive Tr where
 | e
 | n (v:Option Bk) (l r:Tr)
def Tr.get:Tr→Nat→Option Bk
 | .e,_=>none
 | .n v l r,k=>if k=0 then v else if (k-1)%2=0 then l.get ((k-1)/2) else r.get ((k-1)/2)
def Tr.val:Tr→Option Bk
 | .e=>none
 | .n v _ _=>v
def Tr.left:Tr→Tr
 | .e=>.e
 | .n _ l _=>l
def Tr.right:Tr→Tr
 | .e=>.e
 | .n _ _ r=>r
def Tr.put:Nat→Tr→Nat→Option Bk→Tr
 | 0,t,_,_=>t
 | f+1,t,k,b=>if k=0 then .n b t.left t.right else if (k-1)%2=0 then .n t.val (Tr.put f t.left ((k-1)/2) b) t.right else .n t.val t.left (Tr.put f t.right ((k-1)/2) b)
theorem Tr.get_node(t:Tr)(k:Nat):t.get k=if k=0 then t.val else if (k-1)%2=0 then t.left.get ((k-1)/2) else t.right.get ((k-1)/2):=by
 cases t with
 | e=>simp[Tr.get,Tr.val,Tr.left,Tr.right]
 | n v l r=>simp[Tr.get,Tr.val,Tr.left,Tr.right]
theorem Tr.get_put:∀(f:Nat) (t:Tr) (k:Nat) (b:Option Bk),k<f→∀j,(Tr.put f t k b).get j=if j=k then b else t.get j:=by
 intro f
 induction f with
 | zero=>intro t k b h; omega
 | succ f ih =>
  intro t k b h j;simp only[Tr.put];by_cases hk:k=0
  ·subst hk;rw[if_pos rfl];simp only[Tr.get];by_cases hj:j=0
   ·rw[if_pos hj,if_pos hj]
   ·rw[if_neg hj,if_neg hj,Tr.get_node t j,if_neg hj]
  ·rw[if_neg hk];by_cases hp:(k-1)%2=0
   ·rw[if_pos hp];simp only[Tr.get];rw[Tr.get_node t j];by_cases hj:j=0
    ·rw[if_pos hj,if_pos hj,if_neg (by omega)]
    ·rw[if_neg hj,if_neg hj];by_cases hq:(j-1)%2=0
     ·rw[if_pos hq,if_pos hq,ih _ _ _ (by omega)];by_cases e:j=k
      ·subst e; rw[if_pos rfl,if_pos rfl]
      ·rw[if_neg (by omega),if_neg e]
     ·rw[if_neg hq,if_neg hq,if_neg (by rintro rfl; exact hq hp)]
   ·rw[if_neg hp];simp only[Tr.get];rw[Tr.get_node t j];by_cases hj:j=0
    ·rw[if_pos hj,if_pos hj,if_neg (by omega)]
    ·rw[if_neg hj,if_neg hj];by_cases hq:(j-1)%2=0
     ·rw[if_pos hq,if_pos hq,if_neg (by rintro rfl; exact hp hq)]
     ·rw[if_neg hq,if_neg hq,ih _ _ _ (by omega)];by_cases e:j=k
      ·subst e; rw[if_pos rfl,if_pos rfl]
      ·rw[if_neg (by omega),if_neg e]
structure Heap where
 t:Tr
 next:Nat
def Heap.getB(H:Heap)(id:Nat):Option Bk:=H.t.get id
def Heap.get(H:Heap)(id:Nat):Option Blk:=(H.t.get id).map Bk.abs
def Heap.setB(H:Heap)(id:Nat)(b:Option Bk):Heap:={ H with t:=Tr.put (id+1) H.t id b }
def Heap.set(H:Heap)(id:Nat)(b:Option Blk):Heap:=match b with|none=>H.setB id none|some b=>ofB b λb=>H.setB id (some b)
def Heap.new(H:Heap)(b:Blk):Heap:=ofB b λb=>{ t:=Tr.put (H.next+1) H.t H.next (some b),next:=H.next+1 }
def Heap.abs(H:Heap):Ax.Heap:=⟨H.get,H.next⟩
theorem zeD(H:Heap)(id:Nat):H.abs.get id=H.get id:=rfl
theorem zmc(H:Heap):H.abs.next=H.next:=rfl
theorem zpQ(H:Heap)(id:Nat)(b:Option Bk):(H.setB id b).abs=H.abs.set id (b.map Bk.abs):=by
 simp only[Heap.abs,Heap.setB,Ax.Heap.set,Ax.Heap.mk.injEq,and_true];funext i;simp only[Heap.get,Tr.get_put _ _ _ _ (Nat.lt_succ_self id)];by_cases h:i=id
 ·rw[if_pos h,if_pos h]
 ·rw[if_neg h,if_neg h]
theorem ziB(H:Heap)(id:Nat)(b:Option Blk):(H.set id b).abs=H.abs.set id b:=by
 cases b with
 | none=>exact zpQ H id none
 | some b =>
  obtain⟨b',h1,h2⟩:=zvI b (λb=>H.setB id (some b));simp only[Heap.set];rw[h1,zpQ,Option.map_some,h2]
theorem zeC(H:Heap)(b:Blk):(H.new b).abs=H.abs.new b:=by
 obtain⟨b',h1,h2⟩:=zvI b (λb=>({ t:=Tr.put (H.next+1) H.t H.next (some b),next:=H.next+1 }:Heap));unfold Heap.new;rw[h1];simp only[Heap.abs,Ax.Heap.new,Ax.Heap.mk.injEq,and_true];funext i;simp only[Heap.get,Tr.get_put _ _ _ _ (Nat.lt_succ_self H.next)];by_cases h:i=H.next
 ·subst h;simp only[if_true,Option.map_some,h2]
 ·simp only[h,if_false]
abbrev M(α:Type):Type:=Heap→Option (α×Heap)
abbrev Sem':Type:=FuncId→List V→M V
def zqF{α:Type}(n:Nat)(k:Nat→α):α:=Nat.rec (k 0) (λm _=>k (Nat.succ m)) n
theorem zww{α:Type}(n:Nat)(k:Nat→α):zqF n k=k n:=by cases n<;>rfl
def zqE{α:Type}(v:V)(k:V→α):α :=
 match v with
 | .int kk (.ofNat n)=>zqF n λn=>k (.int kk (.ofNat n))
 | .int kk (.negSucc n)=>zqF n λn=>k (.int kk (.negSucc n))
 | .lit (.float kk b)=>zqF b λb=>k (.lit (.float kk b))
 | .bool true=>k (.bool true)
 | .bool false=>k (.bool false)
 | v=>k v
theorem zmY{α:Type}(v:V)(k:V→α):zqE v k=k v:=by
 unfold zqE;split<;>first|rfl|exact zww ..
namespace M
def pure{α:Type}(a:α):M α:=λH=>some (a,H)
def fail{α:Type}:M α:=λ_=>none
def bind{α β:Type}(x:M α)(f:α→M β):M β:=λH=>match x H with|some r=>f r.1 r.2|none=>none
def lift(o:Option V):M V:=λH=>match o with|some a=>zqE a λa=>some (a,H)|none=>none
def getH:M Heap:=λH=>some (H,H)
def ite{α:Type}(c:V)(x y:M α):M α:=match c with
 | .bool b=>if b then x else y
 | _=>fail
end M
def ldt(n:Option Nat)(b:Bk)(off:Nat):Option V :=
 match n with
 | none=>if off<b.n then (if off<2 ^ b.d then some (CT.get b.d b.t off) else none) else none
 | some n=>if off+n≤b.n then (if off+n≤2 ^ b.d then some (.agg (CT.rng b.d b.t off n)) else none) else none
def mload(n:Option Nat)(p:V):M V:=λH =>
 match p with
 | .ptr id off=>match H.getB id with|some b=>(match ldt n b off with|some v=>some (v,H)|none=>none)|none=>none
 | .rp cells off=>(ldc n cells off).map λv=>(v,H)
 | _=>none
def mstore(size:Nat)(p x:V):M V:=λH =>
 match p with
 | .ptr id off=>match H.getB id with
  | some b=>if x.cells.length=size∧off+size≤b.n∧off+size≤2 ^ b.d∧x.okc=true then CT.sets b.d b.t off x.cells λt=>some (.undef,H.setB id (some { b with t:=t })) else none
  | none=>none
 | _=>none
def mbox(ty:TypeId)(x:V):M V:=λH=>if x.okc=true then some (.ptr H.next 0,H.new ⟨ty,x.cells,none⟩) else none
def mslit(ty:TypeId)(len:Nat)(zero:List V) (parts:List (Nat×Nat×V)):M V:=λH =>
 (fill (zeros zero len) parts).map λcs=>(.sl H.next 0 len (.fix len),H.new ⟨ty,cs,none⟩)
def rcells(esz:Nat)(H:Heap):V→Option (List V×Nat)
 | .nils=>some ([],0)
 | .sl id off len _=>(H.get id).bind λb=>if off+len*esz≤b.cells.length then some ((b.cells.drop off).take (len*esz),len) else none
 | .rs cells len=>if len*esz≤cells.length then some (cells.take (len*esz),len) else none
 | _=>none
def acells(esz:Nat)(H:Heap):V→Option (List V×Nat)
 | .str s=>if esz=1 then some (strCells s,s.size) else none
 | v=>rcells esz H v
def mappendq(ty esz bytes:Nat)(q:List V×Nat)(x:V):M V:=λH =>
  match x with
  | .nils=>if q.2=0 then some (.nils,H) else if q.2*bytes≤140737488355328∧q.2≤maxLen then some (.sl H.next 0 q.2 (.opn esz),H.new ⟨ty,q.1,some esz⟩) else none
  | .sl id off len cap=>(H.get id).bind λb =>
   if off+len*esz≤b.cells.length∧b.ty=ty then
    match cap with
    | .fix c =>
     if len+q.2≤c then
      if off+(len+q.2)*esz≤b.cells.length then some (.sl id off (len+q.2) (.fix c),H.set id (some { b with cells:=splice b.cells (off+len*esz) q.1 })) else none
     else if (len+q.2)*bytes≤140737488355328∧len+q.2≤maxLen then
      some (.sl H.next 0 (len+q.2) (.opn esz),H.new ⟨ty,(b.cells.drop off).take (len*esz)++q.1,some esz⟩)
     else none
    | .opn e =>
     if e=esz∧b.opn=some esz∧b.cells.length=off+len*esz then
      if q.2=0 then some (.sl id off len (.opn e),H)
      else if (len+q.2)*bytes≤140737488355328∧len+q.2≤maxLen then
       some (.sl H.next 0 (len+q.2) (.opn esz),(H.set id none).new ⟨ty,b.cells.drop off++q.1,some esz⟩)
      else none
     else if e=esz∧q.2=0 then some (.sl id off len (.opn e),H)
     else if e=esz∧b.opn=some esz∧off+(len+q.2)*esz≤b.cells.length then
      some (.sl id off (len+q.2) (.opn e),H.set id (some { b with cells:=splice b.cells (off+len*esz) q.1 }))
     else none
   else none
  | .rs cells len=>if q.2=0 then some (.rs cells len,H) else none
  | _=>none
def mappend(ty esz bytes:Nat)(x y:V):M V:=λH=>(acells esz H y).bind λq=>mappendq ty esz bytes q x H
def mappendz(ty bytes:Nat)(zero:List V)(x n:V):M V:=λH =>
 match n with
 | .int _ l =>
  if 0≤IntKind.i64.wrap l∧IntKind.i64.wrap l*bytes≤281474976710656 then mappendq ty zero.length bytes (zeros zero (IntKind.i64.wrap l).toNat,(IntKind.i64.wrap l).toNat) x H else none
 | _=>none
def mcopy(esz:Nat)(d s:V):M V:=λH =>
 (acells esz H s).bind λq =>
  match d with
  | .nils=>some (.int .i64 0,H)
  | .sl id off len _=>(H.get id).bind λb =>
   if off+len*esz≤b.cells.length then
    some (.int .i64 ((min q.2 len:Nat):Int),H.set id (some { b with cells:=splice b.cells off (q.1.take (min q.2 len*esz)) }))
   else none
  | _=>none
def mslice2(esz:Nat)(x lo hi:V):M V:=λH =>
 match x,lo,hi with
 | .sl id off len (.opn e),.int _ l,.int _ h=>(H.get id).bind λb =>
  if e=esz∧b.opn=some esz∧0≤l∧l≤h∧off+h.toNat*esz≤b.cells.length then some (.sl id (off+l.toNat*esz) (h.toNat-l.toNat) (.opn e),H) else none
 | _,_,_=>none
def mclear(zero:List V)(x:V):M V:=λH =>
 match x with
 | .sl id off len _=>if len=0 then some (.undef,H) else (H.get id).bind λb =>
  if off+len*zero.length≤b.cells.length then some (.undef,H.set id (some { b with cells:=splice b.cells off (zeros zero len) })) else none
 | _=>none
def mmknz(ty:TypeId)(n:V):M V:=λH =>
 match n with
 | .int .i64 n=>if 0≤n∧n≤281474976710656 then some (.sl H.next 0 n.toNat (.opn 1),H.new ⟨ty,List.replicate n.toNat .any,some 1⟩) else none
 | _=>none
def mtostr(x:V):M V:=λH=>(rcells 1 H x).bind λq=>(zhT q.1).map λl=>(.str ⟨l.toArray⟩,H)
def mtobytes(ty:TypeId)(x:V):M V:=λH =>
 match x with
 | .str s=>if s.size≤maxLen then some (.sl H.next 0 s.size (.opn 1),H.new ⟨ty,strCells s,some 1⟩) else none
 | _=>none
def mremark(ty:TypeId)(x:V):M V:=λH =>
 match x with
 | .str s=>mtobytes ty (.str s) H
 | .sl id off len cap=>(H.get id).bind λ_=>if len=0 then none else some (.sl id off len cap,H)
 | _=>none
def mmkslice(ty bytes:Nat)(zero:List V)(len cap:V):M V:=λH =>
 match len,cap with
 | .int .i64 l,.int .i64 c =>
  if 0≤l∧l≤c∧c*bytes≤281474976710656∧c≤281474976710656 then
   some (.sl H.next 0 l.toNat (.fix c.toNat),H.new ⟨ty,zeros zero c.toNat,none⟩)
  else none
 | _,_=>none
def same1:V→V→Bool
 | .bool a,.bool b=>a==b
 | .int k a,.int k' b=>decide (k=k')&&decide (a=b)
 | .nilp,.nilp=>true
 | .nils,.nils=>true
 | .ptr a b,.ptr c d=>decide (a=c)&&decide (b=d)
 | .mp a,.mp b=>decide (a=b)
 | .lit (.int k a),.lit (.int k' b)=>decide (k=k')&&decide (a=b)
 | .sl a b c (.fix d),.sl a' b' c' (.fix d')=>decide (a=a')&&decide (b=b')&&decide (c=c')&&decide (d=d')
 | .sl a b c (.opn d),.sl a' b' c' (.opn d')=>decide (a=a')&&decide (b=b')&&decide (c=c')&&decide (d=d')
 | _,_=>false
def ztr:List V→List V→Bool
 | [],[]=>true
 | v::vs,u::us=>same1 v u&&ztr vs us
 | _,_=>false
def zvf:Option Blk→Option Blk→Bool
 | none,none=>true
 | some a,some b=>decide (a.ty=b.ty)&&decide (a.opn=b.opn)&&ztr a.cells b.cells
 | _,_=>false
theorem same1_eq{a b:V}(h:same1 a b=true):a=b:=by
 unfold same1 at h;split at h<;>simp_all
theorem sames_eq:∀{a b:List V},ztr a b=true→a=b:=by
 intro a
 induction a with
 | nil=>intro b h; cases b<;>simp_all [ztr]
 | cons v a ih =>
  intro b h;cases b with
  | nil=>simp[ztr]at h
  | cons u b =>
   simp only[ztr,Bool.and_eq_true]at h;rw[same1_eq h.1,ih h.2]
theorem sameB_eq{a b:Option Blk}(h:zvf a b=true):a=b:=by
 cases a with
 | none=>cases b<;>simp_all [zvf]
 | some a =>
  cases b with
  | none=>simp[zvf]at h
  | some b =>
   obtain⟨t,c,o⟩:=a;obtain⟨t',c',o'⟩:=b;simp only[zvf,Bool.and_eq_true,decide_eq_true_eq]at h;obtain⟨⟨rfl,rfl⟩,h⟩:=h;rw[sames_eq h]
def mmkmap(ty:TypeId):M V:=λH=>some (.mp H.next,H.new ⟨ty,[],none⟩)
def mlookup(mk:MK)(zero:V)(ok:Bool)(x k:V):M V:=λH =>
 match x with
 | .mp id=>(H.get id).bind λb=>if kok mk k=true then (mget mk k b.cells).map λr=>(if ok then .tup [r.getD zero,.bool r.isSome] else r.getD zero,H) else none
 | _=>none
def mmapset(mk:MK)(x k v:V):M V:=λH =>
 match x with
 | .mp id=>(H.get id).bind λb=>if kok mk k=true then (mset mk k v b.cells).map λcs=>(.undef,H.set id (some { b with cells:=cs })) else none
 | _=>none
def mmapdrop(p:Bool)(o:Nat)(x n:V):M V:=λH =>
 match x,n with
 | .ptr id off,.int .i64 n=>(H.get id).bind λb0 =>
  match b0.cells[off+o]? with
  | some (.mp i)=>(H.get i).bind λb=>(mfil p n b.cells).map λcs=>(.undef,H.set i (some { b with cells:=cs }))
  | _=>none
 | _,_=>none
def matoload(k:IntKind)(p:V):M V:=λH=>(mload none p H).bind λr =>
 match r.1 with
 | .int k' n=>if k'=k then some (.int k n,r.2) else none
 | _=>none
def matoadd(k:IntKind)(p y:V):M V:=λH =>
 match p,y with
 | .ptr id off,.int _ j=>(H.get id).bind λb =>
  match b.cells[off]? with
  | some (.int k' n)=>if k'=k then some (.int k (k.wrap (n+j)),H.set id (some { b with cells:=splice b.cells off [.int k (k.wrap (n+j))] })) else none
  | _=>none
 | _,_=>none
def mmaplen(x:V):M V:=λH =>
 match x with
 | .mp id=>(H.get id).map λb=>(.int .i64 ((b.cells.length/2:Nat):Int),H)
 | _=>none
def M.unch(v:V)(h h':Heap):M Unit:=λH =>
 match v.pid with
 | none=>some ((),H)
 | some id=>if zvf (h'.get id) (h.get id) then some ((),H) else none
def callv(G:Sem')(x:V)(args:List V):M V :=
 match x with
 | .fn f caps=>G f (args++caps)
 | _=>M.fail
def with1{α:Type}(A:Fr)(x:Arg)(k:V→M α):M α:=match x.ev A with|some v=>k v|none=>M.fail
def withs{α:Type}(A:Fr)(xs:List Arg)(k:List V→M α):M α:=match evs A xs with|some v=>k v|none=>M.fail
def I.run(G:Sem')(A:Fr):I→M V
 | .mv x=>with1 A x M.pure
 | .pick c a b=>with1 A c λc=>with1 A a λa=>with1 A b λb=>M.lift (Ax.pick c a b)
 | .box ty x=>with1 A x λx=>mbox ty x
 | .build zero parts=>match zaW A parts with|some ps=>M.lift (Ax.build zero ps)|none=>M.fail
 | .slit ty l zero parts=>match zaW A parts with|some ps=>mslit ty l zero ps|none=>M.fail
 | .load n x=>with1 A x λx=>mload n x
 | .store size p x=>with1 A p λp=>with1 A x λx=>mstore size p x
 | .nilck x=>with1 A x λx=>M.lift (Ax.nilck x)
 | .bin op x y=>with1 A x λx=>with1 A y λy=>M.lift (Ax.bin op x y)
 | .eq k neg x y=>with1 A x λx=>with1 A y λy=>M.lift (eqr k neg x y)
 | .un op x=>with1 A x λx=>M.lift (Ax.un op x)
 | .cint k x=>with1 A x λx=>M.lift (Ax.cint k x)
 | .tostr x=>with1 A x λx=>mtostr x
 | .tobytes ty x=>with1 A x λx=>mtobytes ty x
 | .faddr o x=>with1 A x λx=>M.lift (Ax.faddr o x)
 | .iaddr alen esz x i=>with1 A x λx=>with1 A i λi=>M.lift (Ax.iaddr alen esz x i)
 | .index l esz n x i=>with1 A x λx=>with1 A i λi=>M.lift (Ax.index l esz n x i)
 | .sindex x i=>with1 A x λx=>with1 A i λi=>M.lift (Ax.sindex x i)
 | .field off n x=>with1 A x λx=>M.lift (Ax.field off n x)
 | .ext i x=>with1 A x λx=>M.lift (Ax.ext i x)
 | .len x=>with1 A x λx=>M.lift (vlen x)
 | .slen x=>with1 A x λx=>M.lift (Ax.slen x)
 | .slice ck esz x lo hi mx=>with1 A x λx =>
  match zcs A lo,zcs A hi,zcs A mx with|some lo,some hi,some mx=>M.lift (zaA ck esz x lo hi mx) | _,_,_=>M.fail
 | .append ty esz bytes x y=>with1 A x λx=>with1 A y λy=>mappend ty esz bytes x y
 | .appendz ty bytes zero x y=>with1 A x λx=>with1 A y λy=>mappendz ty bytes zero x y
 | .slice2 esz x lo hi=>with1 A x λx=>with1 A lo λlo=>with1 A hi λhi=>mslice2 esz x lo hi
 | .clear zero x=>with1 A x λx=>mclear zero x
 | .op1 k x=>with1 A x λx=>M.lift (Ax.op1 k x)
 | .mknz ty x=>with1 A x λx=>mmknz ty x
 | .remark ty x=>with1 A x λx=>mremark ty x
 | .copy esz x y=>with1 A x λx=>with1 A y λy=>mcopy esz x y
 | .mkslice ty bytes zero l c=>with1 A l λl=>with1 A c λc=>mmkslice ty bytes zero l c
 | .minmax mx x xs=>with1 A x λx=>withs A xs λxs=>M.lift (Ax.minmax mx x xs)
 | .call f args=>withs A args λargs=>G f args
 | .callv x args=>with1 A x λx=>withs A args λargs=>callv G x args
 | .mkfn f caps=>withs A caps λcaps=>M.pure (.fn f caps)
 | .mkmap ty=>mmkmap ty
 | .lookup mk zero ok x k=>with1 A x λx=>with1 A k λk=>mlookup mk zero ok x k
 | .mapset mk x k v=>with1 A x λx=>with1 A k λk=>with1 A v λv=>mmapset mk x k v
 | .maplen x=>with1 A x λx=>mmaplen x
 | .aload k x=>with1 A x λx=>matoload k x
 | .aadd k x y=>with1 A x λx=>with1 A y λy=>matoadd k x y
 | .mdrop p o x n=>with1 A x λx=>with1 A n λn=>mmapdrop p o x n
def guarded(A:Fr) (gd:Option (Nat×Bool)) (x:M V):M V :=
 match gd with
 | none=>x
 | some (s,want)=>match A.get s with
  | some (.bool b)=>if b=want then x else M.pure .undef
  | some (.tup [])=>M.pure .undef
  | _=>M.fail
def AO.run(G:Sem')(A:Fr)(o:AO):M V:=guarded A o.gd (I.run G A o.ins)
def step{α:Type}(G:Sem')(o:AO)(A:Fr)(k:V→M α):M α :=
 match o.gd,o.ins with
 | none,.mv x=>(match x.ev A with|some v=>k v|none=>M.fail)
 | _,_=>M.bind (AO.run G A o) k
def opsK{α:Type}(G:Sem'):List AO→Fr→(Fr→M α)→M α
 | [],A,k=>k A
 | o::os,A,k=>step G o A λv=>opsK G os (A.put o.dst v) k
def actsK{α:Type} (un:List (Nat×Nat)) (i:Nat) (a:V):List (Nat×Heap×Heap)→M α→M α
 | [],k=>k
 | (j,h,h')::js,k=>if un.contains (i,j) then M.bind (M.unch a h h') λ_=>actsK un i a js k else actsK un i a js k
def readsK{α:Type} (un:List (Nat×Nat)) (j:Nat) (h h':Heap):List (Nat×V)→M α→M α
 | [],k=>k
 | (i,a)::rs,k=>if un.contains (i,j) then M.bind (M.unch a h h') λ_=>readsK un j h h' rs k else readsK un j h h' rs k
def with1'{α:Type}(A:Fr)(x:Arg)(k:V→M α):M α:=match x.ev A with|some v=>k v|none=>k .undef
def drawK{α:Type}(G:Sem') (un:List (Nat×Nat)):Nat→List (Nat×V)→List (Nat×Heap×Heap)→List AO→Fr→(Fr→M α)→M α
 | _,_,_,[],A,k=>k A
 | p,rs,js,o::os,A,k =>
  match o.ins.kind with
  | .read x =>
   if un.any (λq=>q.1==p) then
    with1' A x λa=>step G o A λv=>actsK un p a js (drawK G un (p+1) ((p,a)::rs) js os (A.put o.dst v) k)
   else step G o A λv=>drawK G un (p+1) rs js os (A.put o.dst v) k
  | .act =>
   if un.any (λq=>q.2==p) then
    M.bind M.getH λh=>step G o A λv=>M.bind M.getH λh'=>readsK un p h h' rs (drawK G un (p+1) rs ((p,h,h')::js) os (A.put o.dst v) k)
   else step G o A λv=>drawK G un (p+1) rs js os (A.put o.dst v) k
  | _=>step G o A λv=>drawK G un (p+1) rs js os (A.put o.dst v) k
def M.join(x:M Res)(k:List V→M Res):M Res:=M.bind x λr =>
 match r with
 | .nrm L=>k L
 | .ex id L=>M.pure (.ex id L)
 | .ret L=>M.pure (.ret L)
def M.blk(id:Nat)(x:M Res)(k:List V→M Res):M Res:=M.bind x λr =>
 match r with
 | .nrm L=>k L
 | .ex i L=>if i=id then k L else M.pure (.ex i L)
 | .ret L=>M.pure (.ret L)
def iterN(body:List V→M Res):Nat→List V→M Res
 | 0,_=>M.fail
 | n+1,L=>M.join (body L) (iterN body n)
def M.iter(body:List V→M Res)(L:List V):M Res:=iterN body 1000000000 L
def resK{α:Type}(A:Fr):List RV→(List V→M α)→M α
 | [],k=>k []
 | .tmp t::rs,k=>match A.get t with|some v=>resK A rs λvs=>k (v::vs)|none=>M.fail
 | .cell t n::rs,k=>match A.get t with|some a=>M.bind (mload n a) λv=>resK A rs λvs=>k (v::vs)|none=>M.fail
def execK(G:Sem')(rv:List RV):C→List (Nat×List Nat)→List Nat→Fr→M Res
 | .done,_,J,A=>match zbw A J with|some L=>M.pure (.nrm L)|none=>M.fail
 | .bad,_,_,_=>M.fail
 | .ops l k,cx,J,A=>opsK G l A λA'=>execK G rv k cx J A'
 | .draw l un k,cx,J,A=>drawK G un 0 [] [] l A λA'=>execK G rv k cx J A'
 | .cond x a b,cx,J,A=>match x.ev A with|some c=>M.ite c (execK G rv a cx J A) (execK G rv b cx J A)|none=>M.fail
 | .condJ x a b J' W k,cx,J,A=>match x.ev A with
  | some c=>M.join (M.ite c (execK G rv a cx J' A) (execK G rv b cx J' A)) λL=>execK G rv k cx J (A.join J' W L)
  | none=>M.fail
 | .blk id a J' W k,cx,J,A=>M.blk id (execK G rv a ((id,J')::cx) J' A) λL=>execK G rv k cx J (A.join J' W L)
 | .loop a K W,cx,_,A=>match zbw A K with|some L=>M.iter (λL=>execK G rv a cx K (A.join K W L)) L|none=>M.fail
 | .exit id,cx,_,A=>match zi5 cx id with|some J=>(match zbw A J with|some L=>M.pure (.ex id L)|none=>M.fail)|none=>M.fail
 | .ret,_,_,A=>resK A rv λL=>M.pure (.ret L)
def fin(x:M Res):M V:=M.bind x λr =>
 match r with
 | .ret L=>M.pure (zdW L)
 | _=>M.fail
/-! It does what the abstract machine does. -/
def Sim{α:Type}(x:M α)(y:Ax.M α):Prop:=∀c v c',x c=some (v,c')→y c.abs=some (v,c'.abs)
def Sims(g:Sem')(G:Ax.Sem'):Prop:=∀f args,Sim (g f args) (G f args)
section
variable {α β:Type}
theorem sim_pure(v:α):Sim (M.pure v) (Ax.M.pure v):=by
 intro c u c' h;simp only[M.pure,Option.some.injEq,Prod.mk.injEq]at h;obtain⟨rfl,rfl⟩:=h;rfl
theorem sim_fail{y:Ax.M α}:Sim M.fail y:=by intro c v c' h; cases h
theorem sim_lift(o:Option V):Sim (M.lift o) (Ax.M.lift o):=by
 intro c u c' h;cases o with
 | none=>cases h
 | some a =>
  simp only[M.lift,zmY,Option.some.injEq,Prod.mk.injEq]at h;obtain⟨rfl,rfl⟩:=h;rfl
theorem zue{x:M α}{f:α→M β}{c:Heap}{r:β×Heap}(h:M.bind x f c=some r):∃v c1,x c=some (v,c1)∧f v c1=some r:=by
 simp only[M.bind]at h;cases hx:x c with
 | none=>rw[hx]at h; cases h
 | some q=>rw[hx]at h; exact⟨q.1,q.2,rfl,h⟩
theorem sim_bind{x:M α}{y:Ax.M α}{f:α→M β}{g:α→Ax.M β}(h:Sim x y) (k:∀v,Sim (f v) (g v)):Sim (M.bind x f) (y.bind g):=by
 intro c v c' e;obtain⟨u,c1,h1,h2⟩:=zue e;rw[bind_ok (h c u c1 h1)];exact k u c1 v c' h2
theorem sim_ite(c:V){x x':M α}{y y':Ax.M α}(h:Sim x y)(k:Sim x' y'):Sim (M.ite c x x') (Ax.M.ite c y y'):=by
 cases c<;>first|exact sim_fail|skip
 rename_i b;cases b
 ·exact k
 ·exact h
theorem ldt_eq{n:Option Nat}{b:Bk}{off:Nat}{v:V}(h:ldt n b off=some v):ldc n b.abs.cells off=some v:=by
 cases n with
 | none =>
  simp only[ldt]at h;split at h
  ·rename_i h1;split at h
   ·rename_i h2;injection h with h
    subst h;simp only[ldc,Bk.abs];rw[List.getElem?_take_of_lt h1,CT.get_abs _ _ _ h2]
   ·cases h
  ·cases h
 | some n =>
  simp only[ldt]at h;split at h
  ·rename_i h1;split at h
   ·rename_i h2;injection h with h
    subst h;have hl:off+n≤((CT.abs b.d b.t).take b.n).length:=by rw[List.length_take,CT.abs_len]; omega
    show(if off+n≤((CT.abs b.d b.t).take b.n).length then some (V.agg ((((CT.abs b.d b.t).take b.n).drop off).take n)) else none) = _;rw[if_pos hl,CT.rng_abs _ _ _ _ h2,List.drop_take,List.take_take,Nat.min_eq_left (by omega)]
   ·cases h
  ·cases h
theorem sim_load(n:Option Nat)(p:V):Sim (mload n p) (Ax.mload n p):=by
 intro c v c' h;cases p<;>simp only[mload,Ax.mload,Option.bind_eq_some_iff,Option.map_eq_some_iff,Prod.mk.injEq,reduceCtorEq,zeD]at h ⊢
 ·split at h
  ·rename_i b hb;split at h
   ·rename_i u hu;simp only[Option.some.injEq,Prod.mk.injEq]at h;obtain⟨rfl,rfl⟩:=h;exact⟨b.abs,by simp only[Heap.get]; rw[show c.t.get _=some b from hb]; rfl,u,ldt_eq hu,rfl,rfl⟩
   ·cases h
  ·cases h
 ·obtain⟨u,hu,rfl,rfl⟩:=h; exact⟨u,hu,rfl,rfl⟩
theorem zuX(n:Nat)(p x:V):Sim (mstore n p x) (Ax.mstore n p x):=by
 intro c v c' h;cases p<;>simp only[mstore,Ax.mstore,Option.bind_eq_some_iff,reduceCtorEq,zeD]at h ⊢
 rename_i id off;split at h
 ·rename_i b hb;split at h
  ·rename_i hc;obtain⟨h1,h2,h3,h4⟩:=hc;obtain⟨t',g1,g2⟩:=CT.sets_abs b.d x.cells b.t off (λt=>some (V.undef,c.setB id (some { b with t:=t }))) (by omega);rw[g1]at h;simp only[Option.some.injEq,Prod.mk.injEq]at h;obtain⟨rfl,rfl⟩:=h;have hl:(b.abs.cells).length=min b.n (2 ^ b.d):=by simp only[Bk.abs,List.length_take,CT.abs_len]
   refine⟨b.abs,by simp only[Heap.get]; rw[show c.t.get _=some b from hb]; rfl,?_⟩;rw[if_pos ⟨h1,by omega,h4⟩,zpQ];have e:(({ b with t:=t' }:Bk).abs) = { b.abs with cells:=splice b.abs.cells off x.cells }:=by
    simp only[Bk.abs,g2,Blk.mk.injEq,true_and,and_true];apply List.ext_getElem?;intro j;rw[zdZ _ _ _ (by rw[List.length_take,CT.abs_len]; omega)];by_cases hj:j<b.n
    ·rw[List.getElem?_take_of_lt hj,zdZ _ _ _ (by rw[CT.abs_len]; omega),List.getElem?_take_of_lt hj]
    ·rw[List.getElem?_eq_none (by rw[List.length_take]; omega),if_neg (by omega),List.getElem?_eq_none (by rw[List.length_take]; omega)]
   rw[Option.map_some,e]
  ·cases h
 ·cases h
theorem sim_box(ty:TypeId)(x:V):Sim (mbox ty x) (Ax.mbox ty x):=by
 intro c v c' h;simp only[mbox,Ax.mbox,zmc]at h ⊢;split at h
 ·rename_i hc;rw[if_pos hc];simp only[Option.some.injEq,Prod.mk.injEq]at h ⊢;obtain⟨rfl,rfl⟩:=h;exact⟨rfl,(zeC ..).symm⟩
 ·cases h
theorem sim_slit(ty:TypeId)(l:Nat)(z:List V) (ps:List (Nat×Nat×V)):Sim (mslit ty l z ps) (Ax.mslit ty l z ps):=by
 intro c v c' h;simp only[mslit,Ax.mslit,Option.map_eq_some_iff,Prod.mk.injEq,zmc]at h ⊢;obtain⟨cs,hcs,rfl,rfl⟩:=h;exact⟨cs,hcs,rfl,(zeC ..).symm⟩
theorem zoi(e:Nat)(c:Heap)(v:V):Ax.rcells e c.abs v=rcells e c v:=by cases v<;>rfl
theorem zoL(e:Nat)(c:Heap)(v:V):Ax.acells e c.abs v=acells e c v:=by cases v<;>first|rfl|exact zoi ..
theorem zmq(ty e b:Nat)(q:List V×Nat)(x:V):Sim (mappendq ty e b q x) (Ax.mappendq ty e b q x):=by
 intro c v c' h;simp only[mappendq,Ax.mappendq]at h ⊢;cases x with
 | nils =>
  dsimp only at h ⊢;split at h
  ·rename_i h0;rw[if_pos h0];simp only[Option.some.injEq,Prod.mk.injEq]at h ⊢;exact⟨h.1,by rw[h.2]⟩
  ·rename_i h0;rw[if_neg h0];split at h
   ·rename_i h1;rw[if_pos h1];simp only[Option.some.injEq,Prod.mk.injEq]at h ⊢;obtain⟨rfl,rfl⟩:=h;exact⟨rfl,(zeC ..).symm⟩
   ·cases h
 | rs cells len =>
  dsimp only at h ⊢;split at h
  ·rename_i h0;rw[if_pos h0];simp only[Option.some.injEq,Prod.mk.injEq]at h ⊢;exact⟨h.1,by rw[h.2]⟩
  ·cases h
 | sl id off len cap =>
  simp only[Option.bind_eq_some_iff,zeD]at h ⊢;obtain⟨bl,hb,h⟩:=h;refine⟨bl,hb,?_⟩;split at h
  ·rename_i h0;rw[if_pos h0];cases cap with
   | fix cc =>
    dsimp only at h ⊢;split at h
    ·rename_i h1;rw[if_pos h1];split at h
     ·rename_i h2;rw[if_pos h2];simp only[Option.some.injEq,Prod.mk.injEq]at h ⊢;obtain⟨rfl,rfl⟩:=h;exact⟨rfl,(ziB ..).symm⟩
     ·cases h
    ·rename_i h1;rw[if_neg h1];split at h
     ·rename_i h2;rw[if_pos h2];simp only[Option.some.injEq,Prod.mk.injEq]at h ⊢;obtain⟨rfl,rfl⟩:=h;exact⟨rfl,(zeC ..).symm⟩
     ·cases h
   | opn ee =>
    dsimp only at h ⊢;split at h
    ·rename_i h1;rw[if_pos h1];split at h
     ·rename_i h2;rw[if_pos h2];simp only[Option.some.injEq,Prod.mk.injEq]at h ⊢;exact⟨h.1,by rw[h.2]⟩
     ·rename_i h2;rw[if_neg h2];split at h
      ·rename_i h3;rw[if_pos h3];simp only[Option.some.injEq,Prod.mk.injEq]at h ⊢;obtain⟨rfl,rfl⟩:=h;exact⟨rfl,by rw[zeC,ziB]⟩
      ·cases h
    ·rename_i h1;rw[if_neg h1];split at h
     ·rename_i h2;rw[if_pos h2];simp only[Option.some.injEq,Prod.mk.injEq]at h ⊢;exact⟨h.1,by rw[h.2]⟩
     ·rename_i h2;rw[if_neg h2];split at h
      ·rename_i h3;rw[if_pos h3];simp only[Option.some.injEq,Prod.mk.injEq]at h ⊢;obtain⟨rfl,rfl⟩:=h;exact⟨rfl,(ziB ..).symm⟩
      ·cases h
  ·cases h
 | _=>cases h
theorem ztl(ty e b:Nat)(x y:V):Sim (mappend ty e b x y) (Ax.mappend ty e b x y):=by
 intro c v c' h;simp only[mappend,Ax.mappend,Option.bind_eq_some_iff,zoL]at h ⊢;obtain⟨q,hq,h⟩:=h;exact⟨q,hq,zmq _ _ _ _ _ _ _ _ h⟩
theorem zrl(ty b:Nat)(z:List V)(x y:V):Sim (mappendz ty b z x y) (Ax.mappendz ty b z x y):=by
 intro c v c' h;unfold mappendz at h;unfold Ax.mappendz;split at h
 ·dsimp only at h ⊢;split at h
  ·rename_i h0;rw[if_pos h0];exact zmq _ _ _ _ _ _ _ _ h
  ·cases h
 ·cases h
theorem ztg(e:Nat)(x lo hi:V):Sim (mslice2 e x lo hi) (Ax.mslice2 e x lo hi):=by
 intro c v c' h;unfold mslice2 at h;unfold Ax.mslice2;split at h
 ·simp only[Option.bind_eq_some_iff,zeD]at h ⊢;obtain⟨bl,hb,h⟩:=h;refine⟨bl,hb,?_⟩;split at h
  ·rename_i h0;rw[if_pos h0];simp only[Option.some.injEq,Prod.mk.injEq]at h ⊢;exact⟨h.1,by rw[h.2]⟩
  ·cases h
 ·cases h
theorem zuZ(z:List V)(x:V):Sim (mclear z x) (Ax.mclear z x):=by
 intro c v c' h;unfold mclear at h;unfold Ax.mclear;split at h
 ·dsimp only at h ⊢;split at h
  ·rename_i h0;rw[if_pos h0];simp only[Option.some.injEq,Prod.mk.injEq]at h ⊢;exact⟨h.1,by rw[h.2]⟩
  ·rename_i h0;rw[if_neg h0];simp only[Option.bind_eq_some_iff,zeD]at h ⊢;obtain⟨bl,hb,h⟩:=h;refine⟨bl,hb,?_⟩;split at h
   ·rename_i h1;rw[if_pos h1];simp only[Option.some.injEq,Prod.mk.injEq]at h ⊢;obtain⟨rfl,rfl⟩:=h;exact⟨rfl,(ziB ..).symm⟩
   ·cases h
 ·cases h
theorem sim_mknz(ty:TypeId)(x:V):Sim (mmknz ty x) (Ax.mmknz ty x):=by
 intro c v c' h;unfold mmknz at h;unfold Ax.mmknz;split at h
 ·split at h
  ·rename_i hc;simp only[Option.some.injEq,Prod.mk.injEq]at h;obtain⟨rfl,rfl⟩:=h;simp only[if_pos hc,zeC,zmc]
  ·cases h
 ·cases h
theorem sim_copy(e:Nat)(x y:V):Sim (mcopy e x y) (Ax.mcopy e x y):=by
 intro c v c' h;simp only[mcopy,Ax.mcopy,Option.bind_eq_some_iff,zoL]at h ⊢;obtain⟨q,hq,h⟩:=h;refine⟨q,hq,?_⟩;cases x with
 | nils =>
  simp only[Option.some.injEq,Prod.mk.injEq]at h ⊢;exact⟨h.1,by rw[h.2]⟩
 | sl id off len cap =>
  simp only[Option.bind_eq_some_iff,zeD]at h ⊢;obtain⟨bl,hb,h⟩:=h;refine⟨bl,hb,?_⟩;split at h
  ·rename_i h0;rw[if_pos h0];simp only[Option.some.injEq,Prod.mk.injEq]at h ⊢;obtain⟨rfl,rfl⟩:=h;exact⟨rfl,(ziB ..).symm⟩
  ·cases h
 | _=>cases h
theorem zuW(x:V):Sim (mtostr x) (Ax.mtostr x):=by
 intro c v c' h;simp only[mtostr,Ax.mtostr,Option.bind_eq_some_iff,Option.map_eq_some_iff,Prod.mk.injEq,zoi]at h ⊢;obtain⟨q,hq,l,hl,rfl,rfl⟩:=h;exact⟨q,hq,l,hl,rfl,rfl⟩
theorem zmp(ty:TypeId)(x:V):Sim (mtobytes ty x) (Ax.mtobytes ty x):=by
 intro c v c' h;unfold mtobytes at h;unfold Ax.mtobytes;split at h
 ·dsimp only at h ⊢;split at h
  ·rename_i h0;rw[if_pos h0];simp only[Option.some.injEq,Prod.mk.injEq]at h ⊢;obtain⟨rfl,rfl⟩:=h;exact⟨rfl,(zeC _ _).symm⟩
  ·cases h
 ·cases h
theorem zrj(ty b:Nat)(z:List V)(l k:V):Sim (mmkslice ty b z l k) (Ax.mmkslice ty b z l k):=by
 intro c v c' h;unfold mmkslice at h;unfold Ax.mmkslice;split at h
 ·rename_i a b';dsimp only at h ⊢;split at h
  ·rename_i h0;rw[if_pos h0];simp only[Option.some.injEq,Prod.mk.injEq]at h ⊢;obtain⟨rfl,rfl⟩:=h;exact⟨rfl,(zeC ..).symm⟩
  ·cases h
 ·cases h
theorem sim_unch(v:V)(h h':Heap):Sim (M.unch v h h') (Ax.M.unch v h.abs h'.abs):=by
 intro c u c' e;unfold M.unch at e;unfold Ax.M.unch;cases hp:v.pid with
 | none =>
  rw[hp]at e;simp only[Option.some.injEq,Prod.mk.injEq]at e;obtain⟨_,rfl⟩:=e;rw[if_pos (by intro id h; cases h)]
 | some id =>
  rw[hp]at e;dsimp only at e;split at e
  ·rename_i hs;simp only[Option.some.injEq,Prod.mk.injEq]at e;obtain⟨_,rfl⟩:=e;rw[if_pos];intro i hi;simp only[Option.some.injEq]at hi;subst hi;exact sameB_eq hs
  ·cases e
theorem zth(ty:TypeId)(x:V):Sim (mremark ty x) (Ax.mremark ty x):=by
 intro c v c' h;unfold mremark at h;unfold Ax.mremark;split at h
 ·exact zmp _ _ _ _ _ h
 ·simp only[Option.bind_eq_some_iff,zeD]at h ⊢;obtain⟨bl,hb,h⟩:=h;refine⟨bl,hb,?_⟩;split at h
  ·cases h
  ·rename_i h0;rw[if_neg h0];simp only[Option.some.injEq,Prod.mk.injEq]at h ⊢;exact⟨h.1,by rw[h.2]⟩
 ·cases h
theorem zuY(ty:TypeId):Sim (mmkmap ty) (Ax.mmkmap ty):=by
 intro c v c' h;simp only[mmkmap,Ax.mmkmap,Option.some.injEq,Prod.mk.injEq,zmc]at h ⊢;obtain⟨rfl,rfl⟩:=h;exact⟨rfl,(zeC ..).symm⟩
theorem ztk(mk:MK)(z:V)(ok:Bool)(x k:V):Sim (mlookup mk z ok x k) (Ax.mlookup mk z ok x k):=by
 intro c v c' h;cases x<;>simp only[mlookup,Ax.mlookup,Option.bind_eq_some_iff,reduceCtorEq,zeD]at h ⊢
 obtain⟨b,hb,h⟩:=h;refine⟨b,hb,?_⟩;split at h
 ·rename_i hc;rw[if_pos hc];simp only[Option.map_eq_some_iff,Prod.mk.injEq]at h ⊢;obtain⟨u,hu,h1,rfl⟩:=h;exact⟨u,hu,h1,rfl⟩
 ·cases h
theorem zti(mk:MK)(x k u:V):Sim (mmapset mk x k u) (Ax.mmapset mk x k u):=by
 intro c v c' h;cases x<;>simp only[mmapset,Ax.mmapset,Option.bind_eq_some_iff,reduceCtorEq,zeD]at h ⊢
 obtain⟨b,hb,h⟩:=h;refine⟨b,hb,?_⟩;split at h
 ·rename_i hc;rw[if_pos hc];simp only[Option.map_eq_some_iff,Prod.mk.injEq]at h ⊢;obtain⟨cs,hcs,rfl,rfl⟩:=h;exact⟨cs,hcs,rfl,(ziB ..).symm⟩
 ·cases h
theorem zrk(p:Bool)(o:Nat)(x n:V):Sim (mmapdrop p o x n) (Ax.mmapdrop p o x n):=by
 intro c v c' h;unfold mmapdrop at h;unfold Ax.mmapdrop;split at h
 ·rename_i id off n;simp only[Option.bind_eq_some_iff]at h;obtain⟨b0,hb0,h⟩:=h;simp only[zeD,hb0,Option.bind_some];split at h
  ·rename_i i hi;simp only[Option.bind_eq_some_iff,Option.map_eq_some_iff,Prod.mk.injEq]at h;obtain⟨b,hb,cs,hcs,rfl,rfl⟩:=h;rw[hi];simp only[hb,hcs,Option.bind_some,Option.map_some,ziB]
  ·cases h
 ·cases h
theorem ztj(x:V):Sim (mmaplen x) (Ax.mmaplen x):=by
 intro c v c' h;cases x<;>simp only[mmaplen,Ax.mmaplen,Option.map_eq_some_iff,Prod.mk.injEq,reduceCtorEq,zeD]at h ⊢
 obtain⟨b,hb,rfl,rfl⟩:=h;exact⟨b,hb,rfl,rfl⟩
theorem zu0(k:IntKind)(x:V):Sim (matoload k x) (Ax.matoload k x):=by
 intro c v c' h;unfold matoload at h;unfold Ax.matoload;simp only[Option.bind_eq_some_iff]at h ⊢;obtain⟨⟨u,c1⟩,h1,h⟩:=h;refine⟨_,sim_load _ _ _ _ _ h1,?_⟩;cases u<;>simp only[reduceCtorEq]at h
 dsimp only;split at h
 ·rename_i hk;rw[if_pos hk];simp only[Option.some.injEq,Prod.mk.injEq]at h ⊢;exact⟨h.1,by rw[h.2]⟩
 ·cases h
theorem sim_aadd(k:IntKind)(x y:V):Sim (matoadd k x y) (Ax.matoadd k x y):=by
 intro c v c' h;unfold matoadd at h;unfold Ax.matoadd;split at h
 ·simp only[Option.bind_eq_some_iff,zeD]at h ⊢;obtain⟨b,hb,h⟩:=h;refine⟨b,hb,?_⟩;split at h
  ·rename_i k2 n hc;rw[hc];dsimp only;split at h
   ·rename_i hk;rw[if_pos hk];simp only[Option.some.injEq,Prod.mk.injEq]at h ⊢;obtain⟨rfl,rfl⟩:=h;exact⟨rfl,(ziB ..).symm⟩
   ·cases h
  ·cases h
 ·cases h
theorem sim_run{g:Sem'}{G:Ax.Sem'}(hg:Sims g G)(A:Fr)(ins:I):Sim (I.run g A ins) (ins.run G A):=by
 have w1:∀(x:Arg) {k:V→M V} {k':V→Ax.M V},(∀v,Sim (k v) (k' v))→Sim (with1 A x k) (Ax.with1 A x k'):=by
  intro x k k' h;unfold with1 Ax.with1;cases x.ev A with
  | none=>exact sim_fail
  | some v=>exact h v
 have ws:∀(x:List Arg) {k:List V→M V} {k':List V→Ax.M V},(∀v,Sim (k v) (k' v))→Sim (withs A x k) (Ax.withs A x k'):=by
  intro x k k' h;unfold withs Ax.withs;cases evs A x with
  | none=>exact sim_fail
  | some v=>exact h v
 cases ins<;>simp only[I.run,Ax.I.run]
 case mv x=>exact w1 x sim_pure
 case pick c a b=>exact w1 _ λ_=>w1 _ λ_=>w1 _ λ_=>sim_lift _
 case box=>exact w1 _ λ_=>sim_box _ _
 case build z ps=>cases zaW A ps<;>first|exact sim_fail|exact sim_lift _
 case slit z ps=>cases zaW A ps<;>first|exact sim_fail|exact sim_slit _ _ _ _
 case load=>exact w1 _ λ_=>sim_load _ _
 case store=>exact w1 _ λ_=>w1 _ λ_=>zuX _ _ _
 case nilck=>exact w1 _ λ_=>sim_lift _
 case bin=>exact w1 _ λ_=>w1 _ λ_=>sim_lift _
 case eq=>exact w1 _ λ_=>w1 _ λ_=>sim_lift _
 case un=>exact w1 _ λ_=>sim_lift _
 case cint=>exact w1 _ λ_=>sim_lift _
 case tostr=>exact w1 _ λ_=>zuW _
 case tobytes=>exact w1 _ λ_=>zmp _ _
 case faddr=>exact w1 _ λ_=>sim_lift _
 case iaddr=>exact w1 _ λ_=>w1 _ λ_=>sim_lift _
 case index=>exact w1 _ λ_=>w1 _ λ_=>sim_lift _
 case sindex=>exact w1 _ λ_=>w1 _ λ_=>sim_lift _
 case field=>exact w1 _ λ_=>sim_lift _
 case ext=>exact w1 _ λ_=>sim_lift _
 case len=>exact w1 _ λ_=>sim_lift _
 case slen=>exact w1 _ λ_=>sim_lift _
 case slice ck e x lo hi mx =>
  refine w1 _ λ_=>?_;cases zcs A lo<;>cases zcs A hi<;>cases zcs A mx<;>first|exact sim_fail|exact sim_lift _
 case append=>exact w1 _ λ_=>w1 _ λ_=>ztl _ _ _ _ _
 case appendz=>exact w1 _ λ_=>w1 _ λ_=>zrl _ _ _ _ _
 case copy=>exact w1 _ λ_=>w1 _ λ_=>sim_copy _ _ _
 case mkslice=>exact w1 _ λ_=>w1 _ λ_=>zrj _ _ _ _ _
 case slice2=>exact w1 _ λ_=>w1 _ λ_=>w1 _ λ_=>ztg _ _ _ _
 case clear=>exact w1 _ λ_=>zuZ _ _
 case op1=>exact w1 _ λ_=>sim_lift _
 case mknz=>exact w1 _ λ_=>sim_mknz _ _
 case remark=>exact w1 _ λ_=>zth _ _
 case minmax=>exact w1 _ λ_=>ws _ λ_=>sim_lift _
 case call=>exact ws _ λ_=>hg _ _
 case callv =>
  refine w1 _ λv=>ws _ λ_=>?_;cases v<;>first|exact sim_fail|exact hg _ _
 case mkfn=>exact ws _ λ_=>sim_pure _
 case mkmap=>exact zuY _
 case lookup=>exact w1 _ λ_=>w1 _ λ_=>ztk _ _ _ _ _
 case mapset=>exact w1 _ λ_=>w1 _ λ_=>w1 _ λ_=>zti _ _ _ _
 case mdrop=>exact w1 _ λ_=>w1 _ λ_=>zrk _ _ _ _
 case maplen=>exact w1 _ λ_=>ztj _
 case aload=>exact w1 _ λ_=>zu0 _ _
 case aadd=>exact w1 _ λ_=>w1 _ λ_=>sim_aadd _ _ _
theorem sim_ao{g:Sem'}{G:Ax.Sem'}(hg:Sims g G)(A:Fr)(o:AO):Sim (AO.run g A o) (o.run G A):=by
 unfold AO.run Ax.AO.run guarded Ax.guarded;cases o.gd with
 | none=>exact sim_run hg A o.ins
 | some p =>
  obtain⟨s,want⟩:=p;dsimp only;cases A.get s with
  | none=>exact sim_fail
  | some v =>
   cases v with
   | bool b =>
    dsimp only;by_cases hb:b=want
    ·simp only[if_pos hb]; exact sim_run hg A o.ins
    ·simp only[if_neg hb]; exact sim_pure _
   | tup vs =>
    cases vs with
    | nil=>exact sim_pure _
    | cons _ _=>exact sim_fail
   | _=>exact sim_fail
theorem sim_step{g:Sem'}{G:Ax.Sem'}(hg:Sims g G)(A:Fr)(o:AO){k:V→M α}{k':V→Ax.M α} (h:∀v,Sim (k v) (k' v)):Sim (step g o A k) (Ax.step G o A k'):=by
 have hr:=sim_bind (sim_ao hg A o) h;obtain⟨d,gd,ins⟩:=o;cases gd with
 | some _=>exact hr
 | none =>
  cases ins<;>first|exact hr|skip
  rename_i x;show Sim (match x.ev A with|some v=>k v|none=>M.fail) (match x.ev A with|some v=>k' v|none=>Ax.M.fail);cases x.ev A with
  | none=>exact sim_fail
  | some v=>exact h v
theorem sim_ops{g:Sem'}{G:Ax.Sem'}(hg:Sims g G){k:Fr→M α}{k':Fr→Ax.M α} (h:∀A,Sim (k A) (k' A)):∀(l:List AO) (A:Fr),Sim (opsK g l A k) (Ax.opsK G l A k'):=by
 intro l
 induction l with
 | nil=>intro A; exact h A
 | cons o l ih=>intro A; exact sim_step hg A o λv=>ih _
def absJ (js:List (Nat×Heap×Heap)):List (Nat×Ax.Heap×Ax.Heap):=js.map λq=>(q.1,q.2.1.abs,q.2.2.abs)
theorem sim_acts {un:List (Nat×Nat)} {i:Nat} {a:V} {k:M α} {k':Ax.M α} (h:Sim k k'):∀js,Sim (actsK un i a js k) (Ax.actsK un i a (absJ js) k'):=by
 intro js
 induction js with
 | nil=>exact h
 | cons q js ih =>
  obtain⟨j,h1,h2⟩:=q;show Sim (if un.contains (i,j) then M.bind (M.unch a h1 h2) λ_=>actsK un i a js k else actsK un i a js k)
   (if un.contains (i,j) then (Ax.M.unch a h1.abs h2.abs).bind λ_=>Ax.actsK un i a (absJ js) k' else Ax.actsK un i a (absJ js) k')
  split
  ·exact sim_bind (sim_unch _ _ _) λ_=>ih
  ·exact ih
theorem sim_reads {un:List (Nat×Nat)} {j:Nat} {h1 h2:Heap} {k:M α} {k':Ax.M α} (h:Sim k k'):∀rs,Sim (readsK un j h1 h2 rs k) (Ax.readsK un j h1.abs h2.abs rs k'):=by
 intro rs
 induction rs with
 | nil=>exact h
 | cons q rs ih =>
  obtain⟨i,a⟩:=q;show Sim (if un.contains (i,j) then M.bind (M.unch a h1 h2) λ_=>readsK un j h1 h2 rs k else readsK un j h1 h2 rs k)
   (if un.contains (i,j) then (Ax.M.unch a h1.abs h2.abs).bind λ_=>Ax.readsK un j h1.abs h2.abs rs k' else Ax.readsK un j h1.abs h2.abs rs k')
  split
  ·exact sim_bind (sim_unch _ _ _) λ_=>ih
  ·exact ih
theorem sim_getH{f:Heap→M α}{f':Ax.Heap→Ax.M α} (h:∀c,Sim (f c) (f' c.abs)):Sim (M.bind M.getH f) (Ax.M.getH.bind f'):=by
 intro c v c' e;exact h c c v c' e
theorem sim_draw{g:Sem'}{G:Ax.Sem'}(hg:Sims g G) {un:List (Nat×Nat)} {k:Fr→M α} {k':Fr→Ax.M α} (h:∀A,Sim (k A) (k' A)):∀(l:List AO) (p:Nat) (rs:List (Nat×V)) (js:List (Nat×Heap×Heap)) (A:Fr),
  Sim (drawK g un p rs js l A k) (Ax.drawK G un p rs (absJ js) l A k'):=by
 intro l
 induction l with
 | nil=>intro p rs js A; exact h A
 | cons o l ih =>
  intro p rs js A;unfold drawK Ax.drawK;cases hk:o.ins.kind with
  | read x =>
   dsimp only;split
   ·unfold with1' zaN.with1';cases x.ev A with
    | none=>exact sim_step hg A o λv=>sim_acts (ih _ _ _ _) js
    | some a=>exact sim_step hg A o λv=>sim_acts (ih _ _ _ _) js
   ·exact sim_step hg A o λv=>ih _ _ _ _
  | act =>
   dsimp only;split
   ·exact sim_getH λh1=>sim_step hg A o λv=>sim_getH λh2=>sim_reads (ih _ _ ((p,h1,h2)::js) _) rs
   ·exact sim_step hg A o λv=>ih _ _ _ _
  | pure=>exact sim_step hg A o λv=>ih _ _ _ _
  | new=>exact sim_step hg A o λv=>ih _ _ _ _
theorem sim_join{x:M Res}{y:Ax.M Res}{k:List V→M Res}{k':List V→Ax.M Res}(h:Sim x y) (hk:∀L,Sim (k L) (k' L)):Sim (M.join x k) (Ax.M.join y k'):=by
 refine sim_bind h λr=>?_;cases r with
 | nrm L=>exact hk L
 | ex id L=>exact sim_pure _
 | ret L=>exact sim_pure _
theorem sim_blk{id:Nat}{x:M Res}{y:Ax.M Res}{k:List V→M Res}{k':List V→Ax.M Res}(h:Sim x y) (hk:∀L,Sim (k L) (k' L)):Sim (M.blk id x k) (Ax.M.blk id y k'):=by
 refine sim_bind h λr=>?_;cases r with
 | nrm L=>exact hk L
 | ex i L =>
  dsimp only;by_cases e:i=id
  ·simp only[if_pos e]; exact hk L
  ·simp only[if_neg e]; exact sim_pure _
 | ret L=>exact sim_pure _
theorem sim_iter{body:List V→M Res}{b:List V→Ax.M Res} (h:∀L,Sim (body L) (b L)) (L:List V):Sim (M.iter body L) (Ax.M.iter b L):=by
 have key:∀(n:Nat) (L:List V),Sim (iterN body n L) (Ax.iterN b n L):=by
  intro n
  induction n with
  | zero=>intro L; exact sim_fail
  | succ n ih=>intro L; exact sim_join (h L) ih
 intro c v c' e;exact zes (key _ L c v c' e)
theorem sim_res{A:Fr}:∀(rv:List RV) {k:List V→M α} {k':List V→Ax.M α},(∀L,Sim (k L) (k' L))→Sim (resK A rv k) (Ax.resK A rv k'):=by
 intro rv
 induction rv with
 | nil=>intro k k' h; exact h []
 | cons x rv ih =>
  intro k k' h;cases x with
  | tmp t =>
   simp only[resK,Ax.resK];cases A.get t with
   | none=>exact sim_fail
   | some v=>exact ih λvs=>h _
  | cell t n =>
   simp only[resK,Ax.resK];cases A.get t with
   | none=>exact sim_fail
   | some v=>exact sim_bind (sim_load _ _) λu=>ih λvs=>h _
theorem sim_exec{g:Sem'}{G:Ax.Sem'}(hg:Sims g G)(rv:List RV):∀(c:C) (cx:List (Nat×List Nat)) (J:List Nat) (A:Fr),Sim (execK g rv c cx J A) (Ax.execK G rv c cx J A):=by
 intro c
 induction c with
 | done=>intro cx J A; simp only[execK,Ax.execK]; cases zbw A J<;>first|exact sim_fail|exact sim_pure _
 | bad=>intro cx J A; exact sim_fail
 | ops l k ih=>intro cx J A; exact sim_ops hg (λA'=>ih _ _ _) l A
 | draw l un k ih=>intro cx J A; exact sim_draw hg (λA'=>ih _ _ _) l 0 [] [] A
 | cond x a b iha ihb =>
  intro cx J A;simp only[execK,Ax.execK];cases x.ev A with
  | none=>exact sim_fail
  | some c=>exact sim_ite c (iha _ _ _) (ihb _ _ _)
 | condJ x a b J' W k iha ihb ihk =>
  intro cx J A;simp only[execK,Ax.execK];cases x.ev A with
  | none=>exact sim_fail
  | some c=>exact sim_join (sim_ite c (iha _ _ _) (ihb _ _ _)) λL=>ihk _ _ _
 | blk id a J' W k iha ihk=>intro cx J A; exact sim_blk (iha _ _ _) λL=>ihk _ _ _
 | loop a K W iha =>
  intro cx J A;simp only[execK,Ax.execK];cases zbw A K with
  | none=>exact sim_fail
  | some L=>exact sim_iter (λL=>iha _ _ _) L
 | exit id =>
  intro cx J A;simp only[execK,Ax.execK];cases zi5 cx id with
  | none=>exact sim_fail
  | some J=>dsimp only; cases zbw A J<;>first|exact sim_fail|exact sim_pure _
 | ret=>intro cx J A; exact sim_res rv λL=>sim_pure _
theorem sim_fin{x:M Res}{y:Ax.M Res}(h:Sim x y):Sim (fin x) (Ax.fin y):=by
 refine sim_bind h λr=>?_;cases r with
 | ret L=>exact sim_pure _
 | _=>exact sim_fail
end
theorem sim_fn{T:FuncId→Option Fn'}{f:FuncId}{ir:Fn'}(hT:T f=some ir){args:List V}(hl:args.length≤ir.ntmps){g:Sem'} (hg:Sims g (sem T)) {x:M Res} (hx:execK g ir.rv ir.body [] [] (params 0 args)=x):Sim (fin x) (sem T f args):=by
 intro c v c' h;refine zoZ hT hl rfl ?_;exact sim_fin (hx ▸ sim_exec hg ir.rv ir.body [] [] (params 0 args)) c v c' h
end Go.Ax.Cc
/- Ax27 -/
namespace Go.Ax.Cp
open Go.Ax.Cc (zqF zqE zmY)
abbrev M(α:Type):Type:=Option α
abbrev Sem':Type:=FuncId→List V→M V
abbrev Heap:Type:=Unit
namespace M
def pure{α:Type}(a:α):M α:=some a
def fail{α:Type}:M α:=none
def bind{α β:Type}(x:M α)(f:α→M β):M β:=match x with|some r=>f r|none=>none
def lift(o:Option V):M V:=match o with|some a=>zqE a λa=>some a|none=>none
def getH:M Heap:=some ()
def ite{α:Type}(c:V)(x y:M α):M α:=match c with
 | .bool b=>if b then x else y
 | _=>fail
end M
def mload(n:Option Nat)(p:V):M V :=
 match p with
 | .rp cells off=>ldc n cells off
 | _=>none
def mstore(size:Nat)(p x:V):M V:=none
def mbox(ty:TypeId)(x:V):M V:=none
def mslit(ty:TypeId)(len:Nat)(zero:List V) (parts:List (Nat×Nat×V)):M V:=none
def mappend(ty esz bytes:Nat)(x y:V):M V:=none
def mappendz(ty bytes:Nat)(zero:List V)(x n:V):M V:=none
def mcopy(esz:Nat)(d s:V):M V:=none
def mslice2(esz:Nat)(x lo hi:V):M V:=none
def mclear(zero:List V)(x:V):M V:=none
def mtostr(x:V):M V:=none
def mtobytes(ty:TypeId)(x:V):M V:=none
def mremark(ty:TypeId)(x:V):M V:=none
def mmkslice(ty bytes:Nat)(zero:List V)(len cap:V):M V:=none
def mmknz(ty:TypeId)(n:V):M V:=none
def mmkmap(ty:TypeId):M V:=none
def mlookup(mk:MK)(zero:V)(ok:Bool)(x k:V):M V:=none
def mmapset(mk:MK)(x k v:V):M V:=none
def mmaplen(x:V):M V:=none
def matoload(k:IntKind)(x:V):M V:=none
def matoadd(k:IntKind)(x y:V):M V:=none
def mmapdrop(p:Bool)(o:Nat)(x n:V):M V:=none
def M.unch(v:V)(h h':Heap):M Unit:=some ()
def callv(G:Sem')(x:V)(args:List V):M V :=
 match x with
 | .fn f caps=>G f (args++caps)
 | _=>M.fail
def with1{α:Type}(A:Fr)(x:Arg)(k:V→M α):M α:=match x.ev A with|some v=>k v|none=>M.fail
def withs{α:Type}(A:Fr)(xs:List Arg)(k:List V→M α):M α:=match evs A xs with|some v=>k v|none=>M.fail
def I.run(G:Sem')(A:Fr):I→M V
 | .mv x=>with1 A x M.pure
 | .pick c a b=>with1 A c λc=>with1 A a λa=>with1 A b λb=>M.lift (Ax.pick c a b)
 | .box ty x=>with1 A x λx=>mbox ty x
 | .build zero parts=>match zaW A parts with|some ps=>M.lift (Ax.build zero ps)|none=>M.fail
 | .slit ty l zero parts=>match zaW A parts with|some ps=>mslit ty l zero ps|none=>M.fail
 | .load n x=>with1 A x λx=>mload n x
 | .store size p x=>with1 A p λp=>with1 A x λx=>mstore size p x
 | .nilck x=>with1 A x λx=>M.lift (Ax.nilck x)
 | .bin op x y=>with1 A x λx=>with1 A y λy=>M.lift (Ax.bin op x y)
 | .eq k neg x y=>with1 A x λx=>with1 A y λy=>M.lift (eqr k neg x y)
 | .un op x=>with1 A x λx=>M.lift (Ax.un op x)
 | .cint k x=>with1 A x λx=>M.lift (Ax.cint k x)
 | .tostr x=>with1 A x λx=>mtostr x
 | .tobytes ty x=>with1 A x λx=>mtobytes ty x
 | .faddr o x=>with1 A x λx=>M.lift (Ax.faddr o x)
 | .iaddr alen esz x i=>with1 A x λx=>with1 A i λi=>M.lift (Ax.iaddr alen esz x i)
 | .index l esz n x i=>with1 A x λx=>with1 A i λi=>M.lift (Ax.index l esz n x i)
 | .sindex x i=>with1 A x λx=>with1 A i λi=>M.lift (Ax.sindex x i)
 | .field off n x=>with1 A x λx=>M.lift (Ax.field off n x)
 | .ext i x=>with1 A x λx=>M.lift (Ax.ext i x)
 | .len x=>with1 A x λx=>M.lift (vlen x)
 | .slen x=>with1 A x λx=>M.lift (Ax.slen x)
 | .slice ck esz x lo hi mx=>with1 A x λx =>
  match zcs A lo,zcs A hi,zcs A mx with|some lo,some hi,some mx=>M.lift (zaA ck esz x lo hi mx) | _,_,_=>M.fail
 | .append ty esz bytes x y=>with1 A x λx=>with1 A y λy=>mappend ty esz bytes x y
 | .appendz ty bytes zero x y=>with1 A x λx=>with1 A y λy=>mappendz ty bytes zero x y
 | .slice2 esz x lo hi=>with1 A x λx=>with1 A lo λlo=>with1 A hi λhi=>mslice2 esz x lo hi
 | .clear zero x=>with1 A x λx=>mclear zero x
 | .op1 k x=>with1 A x λx=>M.lift (Ax.op1 k x)
 | .mknz ty x=>with1 A x λx=>mmknz ty x
 | .remark ty x=>with1 A x λx=>mremark ty x
 | .copy esz x y=>with1 A x λx=>with1 A y λy=>mcopy esz x y
 | .mkslice ty bytes zero l c=>with1 A l λl=>with1 A c λc=>mmkslice ty bytes zero l c
 | .minmax mx x xs=>with1 A x λx=>withs A xs λxs=>M.lift (Ax.minmax mx x xs)
 | .call f args=>withs A args λargs=>G f args
 | .callv x args=>with1 A x λx=>withs A args λargs=>callv G x args
 | .mkfn f caps=>withs A caps λcaps=>M.pure (.fn f caps)
 | .mkmap ty=>mmkmap ty
 | .lookup mk zero ok x k=>with1 A x λx=>with1 A k λk=>mlookup mk zero ok x k
 | .mapset mk x k v=>with1 A x λx=>with1 A k λk=>with1 A v λv=>mmapset mk x k v
 | .maplen x=>with1 A x λx=>mmaplen x
 | .aload k x=>with1 A x λx=>matoload k x
 | .aadd k x y=>with1 A x λx=>with1 A y λy=>matoadd k x y
 | .mdrop p o x n=>with1 A x λx=>with1 A n λn=>mmapdrop p o x n
def guarded(A:Fr) (gd:Option (Nat×Bool)) (x:M V):M V :=
 match gd with
 | none=>x
 | some (s,want)=>match A.get s with
  | some (.bool b)=>if b=want then x else M.pure .undef
  | some (.tup [])=>M.pure .undef
  | _=>M.fail
def AO.run(G:Sem')(A:Fr)(o:AO):M V:=guarded A o.gd (I.run G A o.ins)
def step{α:Type}(G:Sem')(o:AO)(A:Fr)(k:V→M α):M α :=
 match o.gd,o.ins with
 | none,.mv x=>(match x.ev A with|some v=>k v|none=>M.fail)
 | _,_=>M.bind (AO.run G A o) k
def opsK{α:Type}(G:Sem'):List AO→Fr→(Fr→M α)→M α
 | [],A,k=>k A
 | o::os,A,k=>step G o A λv=>opsK G os (A.put o.dst v) k
def actsK{α:Type} (un:List (Nat×Nat)) (i:Nat) (a:V):List (Nat×Heap×Heap)→M α→M α
 | [],k=>k
 | (j,h,h')::js,k=>if un.contains (i,j) then M.bind (M.unch a h h') λ_=>actsK un i a js k else actsK un i a js k
def readsK{α:Type} (un:List (Nat×Nat)) (j:Nat) (h h':Heap):List (Nat×V)→M α→M α
 | [],k=>k
 | (i,a)::rs,k=>if un.contains (i,j) then M.bind (M.unch a h h') λ_=>readsK un j h h' rs k else readsK un j h h' rs k
def with1'{α:Type}(A:Fr)(x:Arg)(k:V→M α):M α:=match x.ev A with|some v=>k v|none=>k .undef
def drawK{α:Type}(G:Sem') (un:List (Nat×Nat)):Nat→List (Nat×V)→List (Nat×Heap×Heap)→List AO→Fr→(Fr→M α)→M α
 | _,_,_,[],A,k=>k A
 | p,rs,js,o::os,A,k =>
  match o.ins.kind with
  | .read x =>
   if un.any (λq=>q.1==p) then
    with1' A x λa=>step G o A λv=>actsK un p a js (drawK G un (p+1) ((p,a)::rs) js os (A.put o.dst v) k)
   else step G o A λv=>drawK G un (p+1) rs js os (A.put o.dst v) k
  | .act =>
   if un.any (λq=>q.2==p) then
    M.bind M.getH λh=>step G o A λv=>M.bind M.getH λh'=>readsK un p h h' rs (drawK G un (p+1) rs ((p,h,h')::js) os (A.put o.dst v) k)
   else step G o A λv=>drawK G un (p+1) rs js os (A.put o.dst v) k
  | _=>step G o A λv=>drawK G un (p+1) rs js os (A.put o.dst v) k
def M.join(x:M Res)(k:List V→M Res):M Res:=M.bind x λr =>
 match r with
 | .nrm L=>k L
 | .ex id L=>M.pure (.ex id L)
 | .ret L=>M.pure (.ret L)
def M.blk(id:Nat)(x:M Res)(k:List V→M Res):M Res:=M.bind x λr =>
 match r with
 | .nrm L=>k L
 | .ex i L=>if i=id then k L else M.pure (.ex i L)
 | .ret L=>M.pure (.ret L)
def iterN(body:List V→M Res):Nat→List V→M Res
 | 0,_=>M.fail
 | n+1,L=>M.join (body L) (iterN body n)
def M.iter(body:List V→M Res)(L:List V):M Res:=iterN body 1000000000 L
def resK{α:Type}(A:Fr):List RV→(List V→M α)→M α
 | [],k=>k []
 | .tmp t::rs,k=>match A.get t with|some v=>resK A rs λvs=>k (v::vs)|none=>M.fail
 | .cell t n::rs,k=>match A.get t with|some a=>M.bind (mload n a) λv=>resK A rs λvs=>k (v::vs)|none=>M.fail
def execK(G:Sem')(rv:List RV):C→List (Nat×List Nat)→List Nat→Fr→M Res
 | .done,_,J,A=>match zbw A J with|some L=>M.pure (.nrm L)|none=>M.fail
 | .bad,_,_,_=>M.fail
 | .ops l k,cx,J,A=>opsK G l A λA'=>execK G rv k cx J A'
 | .draw l un k,cx,J,A=>drawK G un 0 [] [] l A λA'=>execK G rv k cx J A'
 | .cond x a b,cx,J,A=>match x.ev A with|some c=>M.ite c (execK G rv a cx J A) (execK G rv b cx J A)|none=>M.fail
 | .condJ x a b J' W k,cx,J,A=>match x.ev A with
  | some c=>M.join (M.ite c (execK G rv a cx J' A) (execK G rv b cx J' A)) λL=>execK G rv k cx J (A.join J' W L)
  | none=>M.fail
 | .blk id a J' W k,cx,J,A=>M.blk id (execK G rv a ((id,J')::cx) J' A) λL=>execK G rv k cx J (A.join J' W L)
 | .loop a K W,cx,_,A=>match zbw A K with|some L=>M.iter (λL=>execK G rv a cx K (A.join K W L)) L|none=>M.fail
 | .exit id,cx,_,A=>match zi5 cx id with|some J=>(match zbw A J with|some L=>M.pure (.ex id L)|none=>M.fail)|none=>M.fail
 | .ret,_,_,A=>resK A rv λL=>M.pure (.ret L)
def fin(x:M Res):M V:=M.bind x λr =>
 match r with
 | .ret L=>M.pure (zdW L)
 | _=>M.fail
/-! It does what the abstract machine does,in whatever memory,and leaves it as it is. -/
def SimH{α:Type}(H:Ax.Heap)(x:M α)(y:Ax.M α):Prop:=∀v,x=some v→y H=some (v,H)
def Sim{α:Type}(x:M α)(y:Ax.M α):Prop:=∀H,SimH H x y
def Sims(g:Sem')(G:Ax.Sem'):Prop:=∀f args,Sim (g f args) (G f args)
section
variable {α β:Type} {H:Ax.Heap}
theorem sim_pure(v:α):SimH H (M.pure v) (Ax.M.pure v):=by
 intro u h;simp only[M.pure,Option.some.injEq]at h;subst h;rfl
theorem zbn{y:Ax.M α}:SimH H (none:Option α) y:=by intro v h; cases h
theorem za3{y:Ax.M α}:SimH H M.fail y:=zbn
theorem sim_fail{y:Ax.M α}:Sim M.fail y:=λ_=>zbn
theorem sim_lift(o:Option V):SimH H (M.lift o) (Ax.M.lift o):=by
 intro u h;cases o with
 | none=>cases h
 | some a =>
  simp only[M.lift,zmY,Option.some.injEq]at h;subst h;rfl
theorem sim_bind{x:M α}{y:Ax.M α}{f:α→M β}{g:α→Ax.M β}(h:SimH H x y) (k:∀v,SimH H (f v) (g v)):SimH H (M.bind x f) (y.bind g):=by
 intro v e;unfold M.bind at e;split at e
 ·rename_i u;rw[bind_ok (h u rfl)];exact k u v e
 ·cases e
theorem sim_ite(c:V){x x':M α}{y y':Ax.M α}(h:SimH H x y)(k:SimH H x' y'):SimH H (M.ite c x x') (Ax.M.ite c y y'):=by
 cases c<;>first|exact za3|skip
 rename_i b;cases b
 ·exact k
 ·exact h
theorem sim_load(n:Option Nat)(p:V):SimH H (mload n p) (Ax.mload n p):=by
 intro v h;unfold mload at h;split at h
 ·simp only[Ax.mload,h,Option.map_some]
 ·cases h
theorem sim_unch(v:V)(h h':Heap):SimH H (M.unch v h h') (Ax.M.unch v H H):=by
 intro u _;unfold Ax.M.unch;rw[if_pos λ_ _=>rfl]
theorem sim_run{g:Sem'}{G:Ax.Sem'}(hg:Sims g G)(A:Fr)(ins:I):SimH H (I.run g A ins) (ins.run G A):=by
 have w1:∀(x:Arg) {k:V→M V} {k':V→Ax.M V},(∀v,SimH H (k v) (k' v))→SimH H (with1 A x k) (Ax.with1 A x k'):=by
  intro x k k' h;unfold with1 Ax.with1;cases x.ev A with
  | none=>exact za3
  | some v=>exact h v
 have ws:∀(x:List Arg) {k:List V→M V} {k':List V→Ax.M V},(∀v,SimH H (k v) (k' v))→SimH H (withs A x k) (Ax.withs A x k'):=by
  intro x k k' h;unfold withs Ax.withs;cases evs A x with
  | none=>exact za3
  | some v=>exact h v
 cases ins<;>simp only[I.run,Ax.I.run]
 case mv x=>exact w1 x sim_pure
 case pick c a b=>exact w1 _ λ_=>w1 _ λ_=>w1 _ λ_=>sim_lift _
 case box=>exact w1 _ λ_=>zbn
 case build z ps=>cases zaW A ps<;>first|exact za3|exact sim_lift _
 case slit z ps=>cases zaW A ps<;>first|exact za3|exact zbn
 case load=>exact w1 _ λ_=>sim_load _ _
 case store=>exact w1 _ λ_=>w1 _ λ_=>zbn
 case nilck=>exact w1 _ λ_=>sim_lift _
 case bin=>exact w1 _ λ_=>w1 _ λ_=>sim_lift _
 case eq=>exact w1 _ λ_=>w1 _ λ_=>sim_lift _
 case un=>exact w1 _ λ_=>sim_lift _
 case cint=>exact w1 _ λ_=>sim_lift _
 case tostr=>exact w1 _ λ_=>zbn
 case tobytes=>exact w1 _ λ_=>zbn
 case faddr=>exact w1 _ λ_=>sim_lift _
 case iaddr=>exact w1 _ λ_=>w1 _ λ_=>sim_lift _
 case index=>exact w1 _ λ_=>w1 _ λ_=>sim_lift _
 case sindex=>exact w1 _ λ_=>w1 _ λ_=>sim_lift _
 case field=>exact w1 _ λ_=>sim_lift _
 case ext=>exact w1 _ λ_=>sim_lift _
 case len=>exact w1 _ λ_=>sim_lift _
 case slen=>exact w1 _ λ_=>sim_lift _
 case slice ck e x lo hi mx =>
  refine w1 _ λ_=>?_;cases zcs A lo<;>cases zcs A hi<;>cases zcs A mx<;>first|exact za3|exact sim_lift _
 case append=>exact w1 _ λ_=>w1 _ λ_=>zbn
 case appendz=>exact w1 _ λ_=>w1 _ λ_=>zbn
 case copy=>exact w1 _ λ_=>w1 _ λ_=>zbn
 case mkslice=>exact w1 _ λ_=>w1 _ λ_=>zbn
 case slice2=>exact w1 _ λ_=>w1 _ λ_=>w1 _ λ_=>zbn
 case clear=>exact w1 _ λ_=>zbn
 case op1=>exact w1 _ λ_=>sim_lift _
 case mknz=>exact w1 _ λ_=>zbn
 case remark=>exact w1 _ λ_=>zbn
 case minmax=>exact w1 _ λ_=>ws _ λ_=>sim_lift _
 case call=>exact ws _ λ_=>hg _ _ _
 case callv =>
  refine w1 _ λv=>ws _ λ_=>?_;cases v<;>first|exact za3|exact hg _ _ _
 case mkfn=>exact ws _ λ_=>sim_pure _
 case mkmap=>exact zbn
 case lookup=>exact w1 _ λ_=>w1 _ λ_=>zbn
 case mapset=>exact w1 _ λ_=>w1 _ λ_=>w1 _ λ_=>zbn
 case mdrop=>exact w1 _ λ_=>w1 _ λ_=>zbn
 case maplen=>exact w1 _ λ_=>zbn
 case aload=>exact w1 _ λ_=>zbn
 case aadd=>exact w1 _ λ_=>w1 _ λ_=>zbn
theorem sim_ao{g:Sem'}{G:Ax.Sem'}(hg:Sims g G)(A:Fr)(o:AO):SimH H (AO.run g A o) (o.run G A):=by
 unfold AO.run Ax.AO.run guarded Ax.guarded;cases o.gd with
 | none=>exact sim_run hg A o.ins
 | some p =>
  obtain⟨s,want⟩:=p;dsimp only;cases A.get s with
  | none=>exact za3
  | some v =>
   cases v with
   | bool b =>
    dsimp only;by_cases hb:b=want
    ·simp only[if_pos hb]; exact sim_run hg A o.ins
    ·simp only[if_neg hb]; exact sim_pure _
   | tup vs =>
    cases vs with
    | nil=>exact sim_pure _
    | cons _ _=>exact za3
   | _=>exact za3
theorem sim_step{g:Sem'}{G:Ax.Sem'}(hg:Sims g G)(A:Fr)(o:AO){k:V→M α}{k':V→Ax.M α} (h:∀v,SimH H (k v) (k' v)):SimH H (step g o A k) (Ax.step G o A k'):=by
 have hr:=sim_bind (sim_ao hg A o) h;obtain⟨d,gd,ins⟩:=o;cases gd with
 | some _=>exact hr
 | none =>
  cases ins<;>first|exact hr|skip
  rename_i x;show SimH H (match x.ev A with|some v=>k v|none=>M.fail) (match x.ev A with|some v=>k' v|none=>Ax.M.fail);cases x.ev A with
  | none=>exact za3
  | some v=>exact h v
theorem sim_ops{g:Sem'}{G:Ax.Sem'}(hg:Sims g G){k:Fr→M α}{k':Fr→Ax.M α} (h:∀A,SimH H (k A) (k' A)):∀(l:List AO) (A:Fr),SimH H (opsK g l A k) (Ax.opsK G l A k'):=by
 intro l
 induction l with
 | nil=>intro A; exact h A
 | cons o l ih=>intro A; exact sim_step hg A o λv=>ih _
def absJ(H:Ax.Heap) (js:List (Nat×Heap×Heap)):List (Nat×Ax.Heap×Ax.Heap):=js.map λq=>(q.1,H,H)
theorem sim_acts {un:List (Nat×Nat)} {i:Nat} {a:V} {k:M α} {k':Ax.M α} (h:SimH H k k'):∀js,SimH H (actsK un i a js k) (Ax.actsK un i a (absJ H js) k'):=by
 intro js
 induction js with
 | nil=>exact h
 | cons q js ih =>
  obtain⟨j,h1,h2⟩:=q;show SimH H (if un.contains (i,j) then M.bind (M.unch a h1 h2) λ_=>actsK un i a js k else actsK un i a js k)
   (if un.contains (i,j) then (Ax.M.unch a H H).bind λ_=>Ax.actsK un i a (absJ H js) k' else Ax.actsK un i a (absJ H js) k')
  split
  ·exact sim_bind (sim_unch _ h1 h2) λ_=>ih
  ·exact ih
theorem sim_reads {un:List (Nat×Nat)} {j:Nat} {h1 h2:Heap} {k:M α} {k':Ax.M α} (h:SimH H k k'):∀rs,SimH H (readsK un j h1 h2 rs k) (Ax.readsK un j H H rs k'):=by
 intro rs
 induction rs with
 | nil=>exact h
 | cons q rs ih =>
  obtain⟨i,a⟩:=q;show SimH H (if un.contains (i,j) then M.bind (M.unch a h1 h2) λ_=>readsK un j h1 h2 rs k else readsK un j h1 h2 rs k)
   (if un.contains (i,j) then (Ax.M.unch a H H).bind λ_=>Ax.readsK un j H H rs k' else Ax.readsK un j H H rs k')
  split
  ·exact sim_bind (sim_unch _ h1 h2) λ_=>ih
  ·exact ih
theorem sim_getH{f:Heap→M α}{f':Ax.Heap→Ax.M α} (h:∀c,SimH H (f c) (f' H)):SimH H (M.bind M.getH f) (Ax.M.getH.bind f'):=by
 intro v e;exact h () v e
theorem sim_draw{g:Sem'}{G:Ax.Sem'}(hg:Sims g G) {un:List (Nat×Nat)} {k:Fr→M α} {k':Fr→Ax.M α} (h:∀A,SimH H (k A) (k' A)):∀(l:List AO) (p:Nat) (rs:List (Nat×V)) (js:List (Nat×Heap×Heap)) (A:Fr),
  SimH H (drawK g un p rs js l A k) (Ax.drawK G un p rs (absJ H js) l A k'):=by
 intro l
 induction l with
 | nil=>intro p rs js A; exact h A
 | cons o l ih =>
  intro p rs js A;unfold drawK Ax.drawK;cases hk:o.ins.kind with
  | read x =>
   dsimp only;split
   ·unfold with1' zaN.with1';cases x.ev A with
    | none=>exact sim_step hg A o λv=>sim_acts (ih _ _ _ _) js
    | some a=>exact sim_step hg A o λv=>sim_acts (ih _ _ _ _) js
   ·exact sim_step hg A o λv=>ih _ _ _ _
  | act =>
   dsimp only;split
   ·exact sim_getH λh1=>sim_step hg A o λv=>sim_getH λh2=>sim_reads (h1:=h1) (h2:=h2) (ih _ _ ((p,h1,h2)::js) _) rs
   ·exact sim_step hg A o λv=>ih _ _ _ _
  | pure=>exact sim_step hg A o λv=>ih _ _ _ _
  | new=>exact sim_step hg A o λv=>ih _ _ _ _
theorem sim_join{x:M Res}{y:Ax.M Res}{k:List V→M Res}{k':List V→Ax.M Res}(h:SimH H x y) (hk:∀L,SimH H (k L) (k' L)):SimH H (M.join x k) (Ax.M.join y k'):=by
 refine sim_bind h λr=>?_;cases r with
 | nrm L=>exact hk L
 | ex id L=>exact sim_pure _
 | ret L=>exact sim_pure _
theorem sim_blk{id:Nat}{x:M Res}{y:Ax.M Res}{k:List V→M Res}{k':List V→Ax.M Res}(h:SimH H x y) (hk:∀L,SimH H (k L) (k' L)):SimH H (M.blk id x k) (Ax.M.blk id y k'):=by
 refine sim_bind h λr=>?_;cases r with
 | nrm L=>exact hk L
 | ex i L =>
  dsimp only;by_cases e:i=id
  ·simp only[if_pos e]; exact hk L
  ·simp only[if_neg e]; exact sim_pure _
 | ret L=>exact sim_pure _
theorem sim_iter{body:List V→M Res}{b:List V→Ax.M Res} (h:∀L,SimH H (body L) (b L)) (L:List V):SimH H (M.iter body L) (Ax.M.iter b L):=by
 have key:∀(n:Nat) (L:List V),SimH H (iterN body n L) (Ax.iterN b n L):=by
  intro n
  induction n with
  | zero=>intro L; exact za3
  | succ n ih=>intro L; exact sim_join (h L) ih
 intro v e;exact zes (key _ L v e)
theorem sim_res{A:Fr}:∀(rv:List RV) {k:List V→M α} {k':List V→Ax.M α},(∀L,SimH H (k L) (k' L))→SimH H (resK A rv k) (Ax.resK A rv k'):=by
 intro rv
 induction rv with
 | nil=>intro k k' h; exact h []
 | cons x rv ih =>
  intro k k' h;cases x with
  | tmp t =>
   simp only[resK,Ax.resK];cases A.get t with
   | none=>exact za3
   | some v=>exact ih λvs=>h _
  | cell t n =>
   simp only[resK,Ax.resK];cases A.get t with
   | none=>exact za3
   | some v=>exact sim_bind (sim_load _ _) λu=>ih λvs=>h _
theorem sim_exec{g:Sem'}{G:Ax.Sem'}(hg:Sims g G)(rv:List RV):∀(c:C) (cx:List (Nat×List Nat)) (J:List Nat) (A:Fr),SimH H (execK g rv c cx J A) (Ax.execK G rv c cx J A):=by
 intro c
 induction c with
 | done=>intro cx J A; simp only[execK,Ax.execK]; cases zbw A J<;>first|exact za3|exact sim_pure _
 | bad=>intro cx J A; exact za3
 | ops l k ih=>intro cx J A; exact sim_ops hg (λA'=>ih _ _ _) l A
 | draw l un k ih=>intro cx J A; exact sim_draw hg (λA'=>ih _ _ _) l 0 [] [] A
 | cond x a b iha ihb =>
  intro cx J A;simp only[execK,Ax.execK];cases x.ev A with
  | none=>exact za3
  | some c=>exact sim_ite c (iha _ _ _) (ihb _ _ _)
 | condJ x a b J' W k iha ihb ihk =>
  intro cx J A;simp only[execK,Ax.execK];cases x.ev A with
  | none=>exact za3
  | some c=>exact sim_join (sim_ite c (iha _ _ _) (ihb _ _ _)) λL=>ihk _ _ _
 | blk id a J' W k iha ihk=>intro cx J A; exact sim_blk (iha _ _ _) λL=>ihk _ _ _
 | loop a K W iha =>
  intro cx J A;simp only[execK,Ax.execK];cases zbw A K with
  | none=>exact za3
  | some L=>exact sim_iter (λL=>iha _ _ _) L
 | exit id =>
  intro cx J A;simp only[execK,Ax.execK];cases zi5 cx id with
  | none=>exact za3
  | some J=>dsimp only; cases zbw A J<;>first|exact za3|exact sim_pure _
 | ret=>intro cx J A; exact sim_res rv λL=>sim_pure _
theorem sim_fin{x:M Res}{y:Ax.M Res}(h:SimH H x y):SimH H (fin x) (Ax.fin y):=by
 refine sim_bind h λr=>?_;cases r with
 | ret L=>exact sim_pure _
 | _=>exact za3
end
theorem sim_fn{T:FuncId→Option Fn'}{f:FuncId}{ir:Fn'}(hT:T f=some ir){args:List V}(hl:args.length≤ir.ntmps){g:Sem'} (hg:Sims g (sem T)) {x:M Res} (hx:execK g ir.rv ir.body [] [] (params 0 args)=x):Sim (fin x) (sem T f args):=by
 intro H v h;refine zoZ hT hl rfl ?_;exact sim_fin (hx ▸ sim_exec hg ir.rv ir.body [] [] (params 0 args)) v h
theorem zb8{α:Type}{p:Prop}[Decidable p]{x x':M α}{y:Ax.M α}(h:p→Sim x y)(k:Sim x' y):Sim (if p then x else x') y:=by
 by_cases hp:p
 ·rw[if_pos hp]; exact h hp
 ·rw[if_neg hp]; exact k
end Go.Ax.Cp
/- CpS -/
namespace Go.Ax.Cp
open Go.Proofs
def zhg(G:Sem')(t1 t4:V)(L:List V):M Res :=
 (M.lift (Ax.bin .lss (L.getD 2 .undef) (V.int .i64 8))).bind λt11 =>
 M.ite t11
 (M.blk 1 (
 (M.lift (Ax.cint .u64 (L.getD 2 .undef))).bind λt16 =>
 (M.lift (Ax.bin .shr t1 t16)).bind λt17 =>
 (M.lift (Ax.bin .and t17 (V.int .u8 1))).bind λt18 =>
 (M.lift (Ax.bin .eql t18 (V.int .u8 1))).bind λt19 =>
 M.join (M.ite t19
 ((M.lift (Ax.bin .xor (L.getD 0 .undef) (L.getD 1 .undef))).bind λt22 =>
 M.pure (.nrm [t22]))
 (M.pure (.nrm [(L.getD 0 .undef)]))) λL0 =>
 (M.lift (Ax.bin .shr (L.getD 1 .undef) (V.int .u64 7))).bind λt24 =>
 (M.lift (Ax.bin .shl (L.getD 1 .undef) (V.int .u64 1))).bind λt26 =>
 (M.lift (Ax.bin .mul t24 (V.int .u8 27))).bind λt28 =>
 (M.lift (Ax.bin .xor t26 t28)).bind λt29 =>
 M.pure (.nrm [(L0.getD 0 .undef),t29])) λL1 =>
 (M.lift (Ax.bin .add (L.getD 2 .undef) (V.int .i64 1))).bind λt13 =>
 M.pure (.nrm [(L1.getD 0 .undef),(L1.getD 1 .undef),t13]))
 (M.pure (.ex 0 [(L.getD 0 .undef)]))
def zeo(G:Sem')(t0 t1:V):M Res :=
 M.blk 0 (
 M.iter (zhg G t1 (V.int .u8 0)) [(V.int .u8 0),t0,(V.int .i64 0)]) λL2 =>
 M.pure (.ret [(L2.getD 0 .undef)])
theorem zhR(G:Sem')(t0 t1:V):execK G zcL.rv zcL.body [] [] (params 0 [t0,t1])=zeo G t0 t1:=by kernel_rfl
def zc4(G:Sem'):List V→M V
 | [t0,t1]=>fin (zeo G t0 t1)
 | _=>M.fail
theorem zhW{g:Sem'} (hg:Sims g (sem T)) (args:List V):Sim (zc4 g args) (sem T zbo args):=by
 unfold zc4;split
 ·exact sim_fn zhA (Nat.le_of_ble_eq_true rfl) hg (zhR g _ _)
 ·exact sim_fail
def f_block_twice(G:Sem')(t0:V):M Res :=
 (M.lift (Ax.bin .geq t0 (V.int .u8 128))).bind λt4 =>
 M.ite t4
 ((M.lift (Ax.bin .shl t0 (V.int .u64 1))).bind λt6 =>
 (M.lift (Ax.bin .xor t6 (V.int .u8 27))).bind λt7 =>
 M.pure (.ret [t7]))
 ((M.lift (Ax.bin .shl t0 (V.int .u64 1))).bind λt9 =>
 M.pure (.ret [t9]))
theorem eq_block_twice(G:Sem')(t0:V):execK G zdl.rv zdl.body [] [] (params 0 [t0])=f_block_twice G t0:=by kernel_rfl
def zhj(G:Sem'):List V→M V
 | [t0]=>fin (f_block_twice G t0)
 | _=>M.fail
theorem zo1{g:Sem'} (hg:Sims g (sem T)) (args:List V):Sim (zhj g args) (sem T zba args):=by
 unfold zhj;split
 ·exact sim_fn znD (Nat.le_of_ble_eq_true rfl) hg (eq_block_twice g _)
 ·exact sim_fail
def znf(G:Sem')(t4:V)(L:List V):M Res :=
 (M.lift (Ax.bin .gtr (L.getD 1 .undef) (V.int .u8 0))).bind λt7 =>
 M.ite t7
 (M.blk 1 (
 (M.lift (Ax.bin .and (L.getD 1 .undef) (V.int .u8 1))).bind λt11 =>
 (M.lift (Ax.bin .eql t11 (V.int .u8 1))).bind λt12 =>
 M.join (M.ite t12
 ((M.lift (Ax.bin .xor (L.getD 2 .undef) (L.getD 0 .undef))).bind λt15 =>
 M.pure (.nrm [t15]))
 (M.pure (.nrm [(L.getD 2 .undef)]))) λL0 =>
 (G zba [(L.getD 0 .undef)]).bind λt17 =>
 M.pure (.nrm [t17,(L0.getD 0 .undef)])) λL1 =>
 (M.lift (Ax.bin .shr (L.getD 1 .undef) (V.int .u64 1))).bind λt9 =>
 M.pure (.nrm [(L1.getD 0 .undef),t9,(L1.getD 1 .undef)]))
 (M.pure (.ex 0 [(L.getD 2 .undef)]))
def zkw(G:Sem')(t0 t1:V):M Res :=
 M.blk 0 (
 M.iter (znf G (V.int .u8 0)) [t0,t1,(V.int .u8 0)]) λL2 =>
 M.pure (.ret [(L2.getD 0 .undef)])
theorem zn8(G:Sem')(t0 t1:V):execK G zf9.rv zf9.body [] [] (params 0 [t0,t1])=zkw G t0 t1:=by kernel_rfl
def zhk(G:Sem'):List V→M V
 | [t0,t1]=>fin (zkw G t0 t1)
 | _=>M.fail
theorem zo2{g:Sem'} (hg:Sims g (sem T)) (args:List V):Sim (zhk g args) (sem T zbK args):=by
 unfold zhk;split
 ·exact sim_fn znE (Nat.le_of_ble_eq_true rfl) hg (zn8 g _ _)
 ·exact sim_fail
def zpr(G:Sem')(t0 t2:V)(L:List V):M Res :=
 (M.lift (Ax.bin .leq (L.getD 1 .undef) (V.int .i64 4))).bind λt7 =>
 M.ite t7
 (M.blk 1 (
 (G zaX [t0,(L.getD 1 .undef)]).bind λt13 =>
 (M.lift (Ax.bin .xor (L.getD 0 .undef) t13)).bind λt14 =>
 M.pure (.nrm [t14])) λL0 =>
 (M.lift (Ax.bin .add (L.getD 1 .undef) (V.int .i64 1))).bind λt9 =>
 M.pure (.nrm [(L0.getD 0 .undef),t9]))
 (M.pure (.ex 0 [(L.getD 0 .undef)]))
def zne(G:Sem')(t0:V):M Res :=
 M.blk 0 (
 M.iter (zpr G t0 (V.int .u8 0)) [t0,(V.int .i64 1)]) λL1 =>
 (M.lift (Ax.bin .xor (L1.getD 0 .undef) (V.int .u8 99))).bind λt16 =>
 M.pure (.ret [t16])
theorem zqP(G:Sem')(t0:V):execK G zh7.rv zh7.body [] [] (params 0 [t0])=zne G t0:=by kernel_rfl
def zjL(G:Sem'):List V→M V
 | [t0]=>fin (zne G t0)
 | _=>M.fail
theorem zrq{g:Sem'} (hg:Sims g (sem T)) (args:List V):Sim (zjL g args) (sem T zbJ args):=by
 unfold zjL;split
 ·exact sim_fn zpW (Nat.le_of_ble_eq_true rfl) hg (zqP g _)
 ·exact sim_fail
def zdR(G:Sem')(t0 t1:V):M Res :=
 (M.lift (Ax.cint .u64 t1)).bind λt7 =>
 (M.lift (Ax.bin .and t7 (V.int .u64 7))).bind λt8 =>
 (M.lift (Ax.bin .shl t0 t8)).bind λt11 =>
 (M.lift (Ax.bin .sub (V.int .u64 8) t8)).bind λt14 =>
 (M.lift (Ax.bin .shr t0 t14)).bind λt15 =>
 (M.lift (Ax.bin .or t11 t15)).bind λt16 =>
 M.pure (.ret [t16])
theorem zgI(G:Sem')(t0 t1:V):execK G zcl.rv zcl.body [] [] (params 0 [t0,t1])=zdR G t0 t1:=by kernel_rfl
def zcC(G:Sem'):List V→M V
 | [t0,t1]=>fin (zdR G t0 t1)
 | _=>M.fail
theorem zgQ{g:Sem'} (hg:Sims g (sem T)) (args:List V):Sim (zcC g args) (sem T zaX args):=by
 unfold zcC;split
 ·exact sim_fn zgj (Nat.le_of_ble_eq_true rfl) hg (zgI g _ _)
 ·exact sim_fail
def zlR(G:Sem')(t0:V)(L:List V):M Res :=
 (M.lift (Ax.bin .mul (L.getD 0 .undef) (L.getD 0 .undef))).bind λt6 =>
 (M.lift (Ax.bin .leq t6 t0)).bind λt8 =>
 M.ite t8
 (M.blk 1 (
 (M.lift (Ax.bin .rem t0 (L.getD 0 .undef))).bind λt13 =>
 (M.lift (Ax.bin .eql t13 (V.int .i64 0))).bind λt14 =>
 M.ite t14
 (M.pure (.ret [(V.bool false)]))
 (M.pure (.nrm []))) λ_ =>
 (M.lift (Ax.bin .add (L.getD 0 .undef) (V.int .i64 1))).bind λt10 =>
 M.pure (.nrm [t10]))
 (M.pure (.ex 0 []))
def zjf(G:Sem')(t0:V):M Res :=
 M.blk 0 (
 M.iter (zlR G t0) [(V.int .i64 2)]) λ_ =>
 (M.lift (Ax.bin .gtr t0 (V.int .i64 1))).bind λt16 =>
 M.pure (.ret [t16])
theorem znh(G:Sem')(t0:V):execK G ze8.rv ze8.body [] [] (params 0 [t0])=zjf G t0:=by kernel_rfl
def zgh(G:Sem'):List V→M V
 | [t0]=>fin (zjf G t0)
 | _=>M.fail
theorem znG{g:Sem'} (hg:Sims g (sem T)) (args:List V):Sim (zgh g args) (sem T zbu args):=by
 unfold zgh;split
 ·exact sim_fn zmj (Nat.le_of_ble_eq_true rfl) hg (znh g _)
 ·exact sim_fail
def znc(G:Sem')(t0 t2:V)(L:List V):M Res :=
 (G zbU [(L.getD 0 .undef),t0]).bind λt11 =>
 (M.lift (Ax.un .not t11)).bind λt12 =>
 M.ite t12
 (M.blk 1 (
 (M.lift (Ax.bin .sub (L.getD 0 .undef) (V.int .u64 1))).bind λt14 =>
 M.pure (.nrm [t14])) λL0 =>
 M.pure (.nrm [(L0.getD 0 .undef)]))
 (M.pure (.ex 0 [(L.getD 0 .undef)]))
def znb(G:Sem')(t0 t2:V)(L:List V):M Res :=
 (M.lift (Ax.bin .add (L.getD 0 .undef) (V.int .u64 1))).bind λt16 =>
 (G zbU [t16,t0]).bind λt18 =>
 M.ite t18
 (M.blk 3 (
 (M.lift (Ax.bin .add (L.getD 0 .undef) (V.int .u64 1))).bind λt20 =>
 M.pure (.nrm [t20])) λL2 =>
 M.pure (.nrm [(L2.getD 0 .undef)]))
 (M.pure (.ex 2 [(L.getD 0 .undef)]))
def zku(G:Sem')(t0:V):M Res :=
 (M.lift (Ax.op1 (.itof .f64) t0)).bind λt5 =>
 (G zdE [t5]).bind λt6 =>
 (M.lift (Ax.bin .mul t6 (V.lit (.float .f64 4751297606875873280)))).bind λt7 =>
 (M.lift (Ax.cint .u64 t7)).bind λt8 =>
 M.blk 0 (
 M.iter (znc G t0 (V.int .u32 0)) [t8]) λL1 =>
 M.blk 2 (
 M.iter (znb G t0 (V.int .u32 0)) [(L1.getD 0 .undef)]) λL3 =>
 (M.lift (Ax.cint .u32 (L3.getD 0 .undef))).bind λt22 =>
 M.pure (.ret [t22])
theorem zn7(G:Sem')(t0:V):execK G zf8.rv zf8.body [] [] (params 0 [t0])=zku G t0:=by kernel_rfl
def zhi(G:Sem'):List V→M V
 | [t0]=>fin (zku G t0)
 | _=>M.fail
theorem zo0{g:Sem'} (hg:Sims g (sem T)) (args:List V):Sim (zhi g args) (sem T zbI args):=by
 unfold zhi;split
 ·exact sim_fn znC (Nat.le_of_ble_eq_true rfl) hg (zn7 g _)
 ·exact sim_fail
def zna(G:Sem')(t0:V):M Res :=
 M.ite (V.bool false)
 ((G zb6 [t0]).bind λt4 =>
 M.pure (.ret [t4]))
 ((G zdD [t0]).bind λt6 =>
 M.pure (.ret [t6]))
theorem zqO(G:Sem')(t0:V):execK G zh6.rv zh6.body [] [] (params 0 [t0])=zna G t0:=by kernel_rfl
def zjK(G:Sem'):List V→M V
 | [t0]=>fin (zna G t0)
 | _=>M.fail
theorem zrp{g:Sem'} (hg:Sims g (sem T)) (args:List V):Sim (zjK g args) (sem T zdE args):=by
 unfold zjK;split
 ·exact sim_fn zpV (Nat.le_of_ble_eq_true rfl) hg (zqO g _)
 ·exact sim_fail
def zjg(G:Sem')(t0 t1:V):M Res :=
 (G zbl [t0,t0]).bind λt12 =>
 (M.lift (Ax.ext 0 t12)).bind λt13 =>
 (M.lift (Ax.ext 1 t12)).bind λt14 =>
 (G zbl [t14,t0]).bind λt18 =>
 (M.lift (Ax.ext 0 t18)).bind λt19 =>
 (M.lift (Ax.ext 1 t18)).bind λt20 =>
 (M.lift (Ax.bin .mul t13 t0)).bind λt24 =>
 (M.lift (Ax.bin .add t19 t24)).bind λt25 =>
 (M.lift (Ax.bin .shl t1 (V.int .u64 32))).bind λt28 =>
 (M.lift (Ax.bin .lss t25 t28)).bind λt29 =>
 (guarded [(0,t29)] (some (0,false)) (M.pure t25)).bind λt31 =>
 (guarded [(0,t29)] (some (0,false)) (M.pure t1)).bind λt32 =>
 (guarded [(0,t29)] (some (0,false)) (M.lift (Ax.bin .shl t32 (V.int .u64 32)))).bind λt33 =>
 (guarded [(0,t29)] (some (0,false)) (M.lift (Ax.bin .eql t31 t33))).bind λt34 =>
 (guarded [(0,t29)] (some (0,false)) (M.pure t34)).bind λt35 =>
 (guarded [(0,t35)] (some (0,true)) (M.pure t20)).bind λt36 =>
 (guarded [(0,t35)] (some (0,true)) (M.lift (Ax.bin .eql t36 (V.int .u64 0)))).bind λt37 =>
 (guarded [(0,t29)] (some (0,false)) (M.lift (Ax.pick t35 t37 (V.bool false)))).bind λt38 =>
 (M.lift (Ax.pick t29 (V.bool true) t38)).bind λt39 =>
 M.pure (.ret [t39])
theorem zni(G:Sem')(t0 t1:V):execK G ze9.rv ze9.body [] [] (params 0 [t0,t1])=zjg G t0 t1:=by kernel_rfl
def zgi(G:Sem'):List V→M V
 | [t0,t1]=>fin (zjg G t0 t1)
 | _=>M.fail
theorem znH{g:Sem'} (hg:Sims g (sem T)) (args:List V):Sim (zgi g args) (sem T zbU args):=by
 unfold zgi;split
 ·exact sim_fn zmk (Nat.le_of_ble_eq_true rfl) hg (zni g _ _)
 ·exact sim_fail
def ziw(G:Sem')(t0:V):M Res :=
 M.fail
theorem zlS(G:Sem')(t0:V):execK G zet.rv zet.body [] [] (params 0 [t0])=ziw G t0:=by kernel_rfl
def zfz(G:Sem'):List V→M V
 | [t0]=>fin (ziw G t0)
 | _=>M.fail
theorem zmx{g:Sem'} (hg:Sims g (sem T)) (args:List V):Sim (zfz g args) (sem T zb6 args):=by
 unfold zfz;split
 ·exact sim_fn zlG (Nat.le_of_ble_eq_true rfl) hg (zlS g _)
 ·exact sim_fail
def zm9(G:Sem')(t0:V):M Res :=
 M.blk 0 (
 (M.lift (Ax.bin .eql t0 (V.lit (.float .f64 0)))).bind λt10 =>
 (guarded [(0,t10)] (some (0,false)) (M.pure t0)).bind λt12 =>
 (guarded [(0,t10)] (some (0,false)) (G zda [t12])).bind λt13 =>
 (M.lift (Ax.pick t10 (V.bool true) t13)).bind λt14 =>
 (guarded [(0,t14)] (some (0,false)) (M.pure t0)).bind λt16 =>
 (guarded [(0,t14)] (some (0,false)) (G zdb [t16,(V.int .i64 0)])).bind λt17 =>
 (M.lift (Ax.pick t14 (V.bool true) t17)).bind λt18 =>
 M.ite t18
 (M.pure (.ret [t0]))
 (M.pure (.nrm []))) λ_ =>
 (M.lift (Ax.bin .lss t0 (V.lit (.float .f64 0)))).bind λt21 =>
 M.join (M.ite t21
 ((M.lift (Ax.un .neg t0)).bind λt23 =>
 M.pure (.nrm [t23,(V.bool true)]))
 (M.pure (.nrm [t0,(V.bool false)]))) λL1 =>
 (M.lift (Ax.op1 .fbits (L1.getD 0 .undef))).bind λt25 =>
 (M.lift (Ax.bin .quo t25 (V.int .u64 3))).bind λt26 =>
 (M.lift (Ax.bin .add t26 (V.int .u64 3071306043645493248))).bind λt27 =>
 (M.lift (Ax.op1 .ffrom t27)).bind λt28 =>
 (M.lift (Ax.bin .lss (L1.getD 0 .undef) (V.lit (.float .f64 4503599627370496)))).bind λt30 =>
 M.join (M.ite t30
 ((M.lift (Ax.bin .mul (V.lit (.float .f64 4850376798678024192)) (L1.getD 0 .undef))).bind λt33 =>
 (M.lift (Ax.op1 .fbits t33)).bind λt35 =>
 (M.lift (Ax.bin .quo t35 (V.int .u64 3))).bind λt36 =>
 (M.lift (Ax.bin .add t36 (V.int .u64 2990241250352824320))).bind λt37 =>
 (M.lift (Ax.op1 .ffrom t37)).bind λt38 =>
 M.pure (.nrm [t38]))
 (M.pure (.nrm [t28]))) λL2 =>
 (M.lift (Ax.bin .mul (L2.getD 0 .undef) (L2.getD 0 .undef))).bind λt41 =>
 (M.lift (Ax.bin .quo t41 (L1.getD 0 .undef))).bind λt43 =>
 (M.lift (Ax.bin .mul t43 (L2.getD 0 .undef))).bind λt46 =>
 (M.lift (Ax.bin .add (V.lit (.float .f64 4603064841997850097)) t46)).bind λt47 =>
 (M.lift (Ax.bin .add t47 (V.lit (.float .f64 4609048195788499471)))).bind λt50 =>
 (M.lift (Ax.bin .quo (V.lit (.float .f64 13827900089180538932)) t47)).bind λt52 =>
 (M.lift (Ax.bin .add t50 t52)).bind λt53 =>
 (M.lift (Ax.bin .quo (V.lit (.float .f64 4609916747145206638)) t53)).bind λt54 =>
 (M.lift (Ax.bin .add (V.lit (.float .f64 4600105333671292343)) t54)).bind λt55 =>
 (M.lift (Ax.bin .mul (L2.getD 0 .undef) t55)).bind λt56 =>
 (M.lift (Ax.op1 .fbits t56)).bind λt58 =>
 (M.lift (Ax.bin .and t58 (V.int .u64 18446744072635809792))).bind λt59 =>
 (M.lift (Ax.bin .add t59 (V.int .u64 1073741824))).bind λt60 =>
 (M.lift (Ax.op1 .ffrom t60)).bind λt61 =>
 (M.lift (Ax.bin .mul t61 t61)).bind λt64 =>
 (M.lift (Ax.bin .quo (L1.getD 0 .undef) t64)).bind λt67 =>
 (M.lift (Ax.bin .add t61 t61)).bind λt70 =>
 (M.lift (Ax.bin .sub t67 t61)).bind λt73 =>
 (M.lift (Ax.bin .add t70 t67)).bind λt76 =>
 (M.lift (Ax.bin .quo t73 t76)).bind λt77 =>
 (M.lift (Ax.bin .mul t61 t77)).bind λt81 =>
 (M.lift (Ax.bin .add t61 t81)).bind λt82 =>
 M.join (M.ite (L1.getD 1 .undef)
 ((M.lift (Ax.un .neg t82)).bind λt85 =>
 M.pure (.nrm [t85]))
 (M.pure (.nrm [t82]))) λL3 =>
 M.pure (.ret [(L3.getD 0 .undef)])
theorem zqN(G:Sem')(t0:V):execK G zh5.rv zh5.body [] [] (params 0 [t0])=zm9 G t0:=by kernel_rfl
def zjJ(G:Sem'):List V→M V
 | [t0]=>fin (zm9 G t0)
 | _=>M.fail
theorem zro{g:Sem'} (hg:Sims g (sem T)) (args:List V):Sim (zjJ g args) (sem T zdD args):=by
 unfold zjJ;split
 ·exact sim_fn zpU (Nat.le_of_ble_eq_true rfl) hg (zqN g _)
 ·exact sim_fail
def zgE(G:Sem')(t0 t1:V):M Res :=
 (M.lift (Ax.bin .and t0 (V.int .u64 4294967295))).bind λt15 =>
 (M.lift (Ax.bin .shr t0 (V.int .u64 32))).bind λt17 =>
 (M.lift (Ax.bin .and t1 (V.int .u64 4294967295))).bind λt19 =>
 (M.lift (Ax.bin .shr t1 (V.int .u64 32))).bind λt21 =>
 (M.lift (Ax.bin .mul t15 t19)).bind λt24 =>
 (M.lift (Ax.bin .mul t17 t19)).bind λt27 =>
 (M.lift (Ax.bin .shr t24 (V.int .u64 32))).bind λt29 =>
 (M.lift (Ax.bin .add t27 t29)).bind λt30 =>
 (M.lift (Ax.bin .and t30 (V.int .u64 4294967295))).bind λt32 =>
 (M.lift (Ax.bin .shr t30 (V.int .u64 32))).bind λt34 =>
 (M.lift (Ax.bin .mul t15 t21)).bind λt38 =>
 (M.lift (Ax.bin .add t32 t38)).bind λt39 =>
 (M.lift (Ax.bin .mul t17 t21)).bind λt42 =>
 (M.lift (Ax.bin .add t42 t34)).bind λt44 =>
 (M.lift (Ax.bin .shr t39 (V.int .u64 32))).bind λt46 =>
 (M.lift (Ax.bin .add t44 t46)).bind λt47 =>
 (M.lift (Ax.bin .mul t0 t1)).bind λt50 =>
 M.pure (.ret [t47,t50])
theorem zkz(G:Sem')(t0 t1:V):execK G zdJ.rv zdJ.body [] [] (params 0 [t0,t1])=zgE G t0 t1:=by kernel_rfl
def zd6(G:Sem'):List V→M V
 | [t0,t1]=>fin (zgE G t0 t1)
 | _=>M.fail
theorem zkQ{g:Sem'} (hg:Sims g (sem T)) (args:List V):Sim (zd6 g args) (sem T zbl args):=by
 unfold zd6;split
 ·exact sim_fn zjP (Nat.le_of_ble_eq_true rfl) hg (zkz g _ _)
 ·exact sim_fail
def zlr(G:Sem')(t0:V):M Res :=
 (M.lift (Ax.bin .neq t0 t0)).bind λt5 =>
 M.pure (.ret [t5])
theorem zpu(G:Sem')(t0:V):execK G zgT.rv zgT.body [] [] (params 0 [t0])=zlr G t0:=by kernel_rfl
def ziy(G:Sem'):List V→M V
 | [t0]=>fin (zlr G t0)
 | _=>M.fail
theorem zqb{g:Sem'} (hg:Sims g (sem T)) (args:List V):Sim (ziy g args) (sem T zda args):=by
 unfold ziy;split
 ·exact sim_fn zoR (Nat.le_of_ble_eq_true rfl) hg (zpu g _)
 ·exact sim_fail
def zls(G:Sem')(t0 t1:V):M Res :=
 (M.lift (Ax.bin .eql t1 (V.int .i64 0))).bind λt6 =>
 M.join (M.ite t6
 ((G zd4 [t0]).bind λt8 =>
 M.pure (.nrm [t8]))
 ((M.lift (Ax.bin .lss t1 (V.int .i64 0))).bind λt10 =>
 M.join (M.ite t10
 ((M.lift (Ax.un .neg t0)).bind λt12 =>
 M.pure (.nrm [t12]))
 (M.pure (.nrm [t0]))) λL0 =>
 M.pure (.nrm [(L0.getD 0 .undef)]))) λL1 =>
 (M.lift (Ax.bin .gtr (L1.getD 0 .undef) (V.lit (.float .f64 9218868437227405311)))).bind λt14 =>
 M.pure (.ret [t14])
theorem zpv(G:Sem')(t0 t1:V):execK G zgU.rv zgU.body [] [] (params 0 [t0,t1])=zls G t0 t1:=by kernel_rfl
def ziz(G:Sem'):List V→M V
 | [t0,t1]=>fin (zls G t0 t1)
 | _=>M.fail
theorem zqc{g:Sem'} (hg:Sims g (sem T)) (args:List V):Sim (ziz g args) (sem T zdb args):=by
 unfold ziz;split
 ·exact sim_fn zoS (Nat.le_of_ble_eq_true rfl) hg (zpv g _ _)
 ·exact sim_fail
def zoA(G:Sem')(t0:V):M Res :=
 (M.lift (Ax.op1 .fbits t0)).bind λt4 =>
 (M.lift (Ax.bin .andNot t4 (V.int .u64 9223372036854775808))).bind λt5 =>
 (M.lift (Ax.op1 .ffrom t5)).bind λt6 =>
 M.pure (.ret [t6])
theorem zrS(G:Sem')(t0:V):execK G zjy.rv zjy.body [] [] (params 0 [t0])=zoA G t0:=by kernel_rfl
def zk7(G:Sem'):List V→M V
 | [t0]=>fin (zoA G t0)
 | _=>M.fail
theorem zts{g:Sem'} (hg:Sims g (sem T)) (args:List V):Sim (zk7 g args) (sem T zd4 args):=by
 unfold zk7;split
 ·exact sim_fn zrf (Nat.le_of_ble_eq_true rfl) hg (zrS g _)
 ·exact sim_fail
def disp(G:Sem')(f:FuncId)(args:List V):M V :=
 if f<277 then (if f<262 then (if f<251 then (if f=zbo then zc4 G args else M.fail) else (if f<261 then (if f=zba then zhj G args else M.fail) else (if f=zbK then zhk G args else M.fail))) else (if f<270 then (if f<268 then (if f=zbJ then zjL G args else M.fail) else (if f=zaX then zcC G args else M.fail)) else (if f<271 then (if f=zbu then zgh G args else M.fail) else (if f=zbI then zhi G args else M.fail)))) else (if f<285 then (if f<283 then (if f<278 then (if f=zdE then zjK G args else M.fail) else (if f=zbU then zgi G args else M.fail)) else (if f<284 then (if f=zb6 then zfz G args else M.fail) else (if f=zdD then zjJ G args else M.fail))) else (if f<295 then (if f<294 then (if f=zbl then zd6 G args else M.fail) else (if f=zda then ziy G args else M.fail)) else (if f<305 then (if f=zdb then ziz G args else M.fail) else (if f=zd4 then zk7 G args else M.fail))))
theorem zuV{g:Sem'} (hg:Sims g (sem T)):Sims (disp g) (sem T):=λf args =>
 (zb8 (λ_=>(zb8 (λ_=>(zb8 (λ_=>(zb8 (λe=>e ▸ zhW hg args) sim_fail)) (zb8 (λ_=>(zb8 (λe=>e ▸ zo1 hg args) sim_fail)) (zb8 (λe=>e ▸ zo2 hg args) sim_fail)))) (zb8 (λ_=>(zb8 (λ_=>(zb8 (λe=>e ▸ zrq hg args) sim_fail)) (zb8 (λe=>e ▸ zgQ hg args) sim_fail))) (zb8 (λ_=>(zb8 (λe=>e ▸ znG hg args) sim_fail)) (zb8 (λe=>e ▸ zo0 hg args) sim_fail))))) (zb8 (λ_=>(zb8 (λ_=>(zb8 (λ_=>(zb8 (λe=>e ▸ zrp hg args) sim_fail)) (zb8 (λe=>e ▸ znH hg args) sim_fail))) (zb8 (λ_=>(zb8 (λe=>e ▸ zmx hg args) sim_fail)) (zb8 (λe=>e ▸ zro hg args) sim_fail)))) (zb8 (λ_=>(zb8 (λ_=>(zb8 (λe=>e ▸ zkQ hg args) sim_fail)) (zb8 (λe=>e ▸ zqb hg args) sim_fail))) (zb8 (λ_=>(zb8 (λe=>e ▸ zqc hg args) sim_fail)) (zb8 (λe=>e ▸ zts hg args) sim_fail)))))
def cs:Nat→Sem'
 | 0=>λ_ _=>M.fail
 | n+1=>disp (cs n)
theorem sims_cs:∀n,Sims (cs n) (sem T)
 | 0=>λ_ _=>sim_fail
 | n+1=>zuV (sims_cs n)
end Go.Ax.Cp
/- Su7 -/
namespace Go.Ax.SU
open Go.Ax
theorem callv_fn{G:Sem'}{f:FuncId}{caps:List V}:callv G (.fn f caps) []=G f caps:=rfl
theorem zql{H:Heap}{c off:Nat}{b:Blk}{g:V}(hg:H.get c=some b) (h0:b.cells[off]?=some (.int .u32 1)):Ok (sem T zcn [.ptr c off,g]) H λr H'=>r = .tup []∧H'=H:=by
 refine zhY ?_;unfold zgc uM uF uB;simp(maxSteps:=1000000) (disch:=first|omega|(simp only[RY]<;>omega)|decide)only[↓RD,RZ,eq_self,Int.reduceToNat,Int.reduceAdd,Int.reduceSub,Int.reduceMul,Nat.reduceAdd,Nat.reduceSub,Nat.reduceMul,Nat.reduceDiv,Nat.reduceMod,Nat.reduceBEq,Nat.reduceLeDiff,hg,h0];rfl
theorem zqk{H:Heap}{c off ty:Nat}{cells:List V}{o:Option Nat}{f:FuncId}{caps:List V}{P:Heap→Prop} (hg:H.get c=some ⟨ty,cells,o⟩) (h0:cells[off]?=some (.int .u32 0)) (h1:cells[off+1]?=some (.int .i32 0))
  (hf:Ok (sem T f caps) (H.set c (some ⟨ty,splice cells (off+1) [.int .i32 1],o⟩)) λ_ H2=>∃cells2,H2.get c=some ⟨ty,cells2,o⟩∧cells2[off]?=some (.int .u32 0)∧cells2[off+1]?=some (.int .i32 1) ∧
   P ((H2.set c (some ⟨ty,splice cells2 off [.int .u32 1],o⟩)).set c (some ⟨ty,splice (splice cells2 off [.int .u32 1]) (off+1) [.int .i32 0],o⟩))):Ok (sem T zcn [.ptr c off,.fn f caps]) H λr H'=>r = .tup []∧P H':=by
 have hl:off+1<cells.length:=(List.getElem?_eq_some_iff.1 h1).1;refine zhY ?_;unfold zgc uM uF uB;simp(maxSteps:=1000000) (disch:=first|omega|(simp only[RY]<;>omega)|decide)only[↓RD,RZ,eq_self,Int.reduceToNat,Int.reduceAdd,Int.reduceSub,Int.reduceMul,Nat.reduceAdd,Nat.reduceSub,Nat.reduceMul,Nat.reduceDiv,Nat.reduceMod,Nat.reduceBEq,Nat.reduceLeDiff,hg,h0,h1,callv_fn];refine⟨by omega,zae hf ?_⟩;rintro _ H2 ⟨cells2,g2,k0,k1,hP⟩;have hl2:off+1<cells2.length:=(List.getElem?_eq_some_iff.1 k1).1;have hl3:(splice cells2 off [.int .u32 1]).length=cells2.length:=zdI _ _ _ (by simpa using (by omega:off+1≤cells2.length));simp(maxSteps:=1000000) (disch:=first|omega|(simp only[RY]<;>omega)|decide)only[↓RD,RZ,eq_self,Int.reduceToNat,Int.reduceAdd,Int.reduceSub,Int.reduceMul,Nat.reduceAdd,Nat.reduceSub,Nat.reduceMul,Nat.reduceDiv,Nat.reduceMod,Nat.reduceBEq,Nat.reduceLeDiff,g2,k0,k1,hl3];exact⟨by omega,by omega,rfl,hP⟩
theorem zpy{n:Nat}{f:FuncId}{args:List V}{v:V}(h:Cp.cs n f args=some v):sem T f args=M.pure v:=funext λH=>Cp.sims_cs n f args H v h
/-! Primes and roots,computed. -/
def pchk(n:Nat):Bool:=match Cp.cs 3 zbu [.int .i64 n]with
 | some (.bool b)=>b==primes.contains n
 | _=>false
theorem zvo:(List.range 312).all pchk=true:=by kernel_rfl
theorem prime_eq{n:Nat}(h:n<312):sem T zbu [.int .i64 n]=M.pure (.bool (primes.contains n)):=by
 have h1:=List.all_eq_true.1 zvo n (List.mem_range.2 h);unfold pchk at h1;split at h1
 ·rename_i b hb;rw[zpy hb];simp only[beq_iff_eq]at h1;rw[h1]
 ·cases h1
def rchk(i:Nat):Bool:=match Cp.cs 9 zbI [.int .u64 (prv (i+1))]with
 | some (.int .u32 k)=>k==((kc.getD i 0).toNat:Int)
 | _=>false
theorem root_all:(List.range 64).all rchk=true:=by kernel_rfl
theorem root_eq{i:Nat}(h:i<64):sem T zbI [.int .u64 (prv (i+1))]=M.pure (w32 (kc.getD i 0)):=by
 have h1:=List.all_eq_true.1 root_all i (List.mem_range.2 h);unfold rchk at h1;split at h1
 ·rename_i b hb;rw[zpy hb];simp only[beq_iff_eq]at h1;rw[h1]; rfl
 ·cases h1
end Go.Ax.SU
/- Su8 -/
namespace Go.Ax.SU
open Go.Ax
theorem wg{ws:List UInt32}{i:Nat}(h:i<ws.length):(ws.map w32)[i]?=some (w32 (ws.getD i 0)):=by
 rw[List.getElem?_map,List.getElem?_eq_getElem h,List.getD_eq_getElem?_getD,List.getElem?_eq_getElem h]; rfl
theorem wga{ws:List UInt32}{r:List V}{i:Nat}(h:i<ws.length):(ws.map w32++r)[i]?=some (w32 (ws.getD i 0)):=by
 rw[List.getElem?_append_left (by rw[List.length_map]; exact h),wg h]
theorem set_next{l:List V}{n k:Nat}{z x:V}(hl:l.length=k)(h:k<n):(l++List.replicate (n-k) z).set k x=(l++[x])++List.replicate (n-(k+1)) z:=by
 rw[List.set_append_right _ _ (by omega),hl,Nat.sub_self,show n-k=(n-(k+1))+1 by omega,List.replicate_succ,List.set_cons_zero,List.append_assoc];rfl
theorem zbP{l:List V}{n k:Nat}{z x:V}(hl:l.length=k)(h:k<n):splice (l++List.replicate (n-k) z) k [x]=(l++[x])++List.replicate (n-(k+1)) z:=by
 rw[zmo _ _ _ (by rw[List.length_append,List.length_replicate]; omega),set_next hl h]
theorem zjn(y:V)(l:List V)(k:Nat)(xs:List V):splice (y::l) (k+1) xs=y::splice l k xs:=by
 unfold splice;rw[List.take_succ_cons,show k+1+xs.length=(k+xs.length)+1 by omega,List.drop_succ_cons]; rfl
theorem At1.step{k:Nat}{H H':Heap}(h:At1 k H H'){F:List Nat}(hk:k∈F):Step H H' F F:=⟨h.next,λi hi hF=>h.same i hi λe=>hF (e ▸ hk),λi hi=>.inl hi⟩
theorem kc_take{k:Nat}(h:k<64):(kc.take k).map w32++[w32 (kc.getD k 0)]=(kc.take (k+1)).map w32:=by
 have hl:=zsz;rw[List.take_add_one,List.getElem?_eq_getElem (by omega),List.getD_eq_getElem?_getD,List.getElem?_eq_getElem (by omega)];simp only[List.map_append,Option.toList_some,List.map_cons,List.map_nil,Option.getD_some]
theorem all_1_ok{H:Heap}{b c:Nat}{x0 x1 x2:V} (hb:H.get b=some ⟨za5,[.ptr c 0],none⟩) (hc:H.get c=some ⟨zay,x0::x1::x2::List.replicate 64 (.int .u32 0),none⟩) (hbc:b≠c) (hbl:b<H.next) :
  Ok (sem T zbW [.ptr b 0]) H λ_ H'=>H'.get c=some ⟨zay,x0::x1::x2::kc.map w32,none⟩∧At1 c H H':=by
 refine zhC ?_;unfold zep uc;simp(disch:=omega)only[↓RD,RZ,eq_self,seval];refine zaV (λk L H'=>L=[.int .i64 (prv k:Nat),.int .i64 (k:Nat)]∧H'.get c=some ⟨zay,x0::x1::x2::((kc.take k).map w32++List.replicate (64-k) (.int .u32 0)),none⟩∧At1 c H H') 64 ?_ ?_ ?_
 ·exact⟨rfl,by simpa using hc,At1.refl _ _⟩
 ·rintro k L H1 hk ⟨rfl,g1,s1⟩;obtain⟨p1,p2,p3,p4⟩:=zvn hk;have hb1:H1.get b = _:=(s1.same b hbl hbc).trans hb;unfold zcB uL uM uT uNF uB uI uU uc ug;simp(disch:=omega)only[↓RD,RZ,eq_self,seval];refine zam (Q:=λr H'=>r=Res.ex 2 [.int .i64 (prv (k+1):Nat)]∧H'=H1) ?_ ?_
  ·refine ok_while (λL H' m=>∃n:Nat,L=[.int .i64 (n:Nat)]∧prv k<n∧n≤prv (k+1)∧m=prv (k+1)-n∧H'=H1) (prv (k+1)-(prv k+1)) ⟨prv k+1,by simp,by omega,by omega,rfl,rfl⟩ ?_;rintro L H2 m ⟨n,rfl,n1,n2,rfl,rfl⟩;have e:=prime_eq (n:=n) (by omega);unfold zdS uL uB uc ug;cases hp:primes.contains n with
   | true =>
    have:n=prv (k+1):=by
     rcases Nat.lt_or_ge n (prv (k+1)) with h|h
     ·rw[p4 n n1 h]at hp; cases hp
     ·omega
    subst this;simp(disch:=omega)only[↓RD,RZ,eq_self,seval,e,hp]
   | false =>
    have:n≠prv (k+1):=by
     rintro rfl;rw[p2]at hp; cases hp
    simp(disch:=omega)only[↓RD,RZ,eq_self,seval,e,hp];exact⟨prv (k+1)-(n+1),by omega,n+1,rfl,by omega,by omega,rfl⟩
  ·rintro r H2 ⟨rfl,rfl⟩;have er:=root_eq hk;have hl:(((kc.take k).map w32)).length=k:=by rw[List.length_map,List.length_take,zsz]; omega
   have e3:3+k=k+1+1+1:=by omega
   simp(disch:=omega)only[↓RD,RZ,eq_self,seval,hb1,er,g1,e3,zjn,zbP hl hk,w_ok,zme];exact⟨by rw[List.length_append,List.length_replicate,hl]; omega,rfl,by rw[kc_take hk],s1.trans (At1.set c _ _)⟩
 ·rintro L H1 ⟨rfl,g1,s1⟩;unfold zcB uL uM uT uNF uB uI uU uc ug;simp(disch:=omega)only[↓RD,RZ,eq_self,seval];refine⟨?_,s1⟩;rw[g1,List.take_of_length_le (by rw[zsz]; exact Nat.le_refl _)];simp
def conC:Bool→List V
 | false=>.int .u32 0 :: .int .i32 0 :: .int .u32 0::List.replicate 64 (.int .u32 0)
 | true=>.int .u32 1 :: .int .i32 0 :: .int .u32 0::kc.map w32
theorem zwN{H:Heap}{c:Nat}{d:Bool} (hc:H.get c=some ⟨zay,conC d,none⟩) (hcl:c<H.next) :
  Ok (sem T zci [.ptr c 0]) H λr H'=>r = .ptr c 3∧H'.get c=some ⟨zay,conC true,none⟩∧Step H H' [c] [c]:=by
 refine ziR ?_;unfold zfv uM uNF uO;simp(disch:=omega)only[↓RD,RZ,eq_self,seval];have s1:=Grow.new H ⟨za5,[.ptr c 0],none⟩;have gb:(H.new ⟨za5,[.ptr c 0],none⟩).get H.next = _:=zag _ _;have gc:=(s1.same c hcl).trans hc;have nb:H.next<(H.new ⟨za5,[.ptr c 0],none⟩).next:=by rw[zaf]; omega
 have hne:H.next≠c:=by omega
 have n1:=s1.next;generalize hgb:H.next=b at *;generalize H.new _=H1 at *;refine zae (P:=λr H'=>H'.get b=some ⟨za5,[.ptr c 0],none⟩∧H'.get c=some ⟨zay,conC true,none⟩∧At1 c H1 H') ?_ ?_
 ·cases d with
  | true =>
   refine zam (zql gc rfl) ?_;rintro _ _ ⟨rfl,rfl⟩;exact⟨gb,gc,At1.refl _ _⟩
  | false =>
   refine zam (zqk (P:=λH'=>H'.get b=some ⟨za5,[.ptr c 0],none⟩∧H'.get c=some ⟨zay,conC true,none⟩∧At1 c H1 H') gc rfl rfl ?_) ?_
   ·refine zam (all_1_ok (c:=c) (by rw[zaj _ _ hne]; exact gb) (by rw[zai]; rfl) hne (by rw[zan]; exact nb)) ?_;rintro _ H2 ⟨g2,s2⟩;have hb2:H2.get b=some ⟨za5,[.ptr c 0],none⟩:=by rw[s2.same b (by rw[zan]; exact nb) hne,zaj _ _ hne]; exact gb
    refine⟨_,g2,rfl,rfl,?_,?_,?_⟩
    ·rw[zaj _ _ hne,zaj _ _ hne,hb2]
    ·rw[zai]; rfl
    ·exact(At1.set c H1 _).trans (s2.trans ((At1.set c H2 _).trans (At1.set c _ _)))
   ·rintro _ H2 ⟨_,h2⟩;exact h2
 ·rintro r H2 ⟨g1,g2,s2⟩;simp(disch:=omega)only[↓RD,RZ,eq_self,seval,g1];exact⟨g2,⟨Nat.le_trans (by omega) s2.next,λi hi hF=>by rw[s2.same i (by omega) (by simpa using hF),s1.same i (by omega)],λi hi=>.inl hi⟩⟩
/-! Words. -/
theorem zf3(x:UInt32)(n:Nat)(h0:0<n)(h1:n<32):sem T zau [w32 x,.int .i64 (n:Nat)]=M.pure (w32 (rotr x n)):=by
 refine zkS λH=>?_;refine znP ?_;unfold zkt uL;have e1:IntKind.i64.wrap (0-(n:Int)) = -(n:Int):=by rw[wrap_i64 (by omega) (by omega)]; omega
 have e2:IntKind.u64.wrap (-(n:Int))=((18446744073709551616-n:Nat):Int):=by rw[wrap_u64]; omega
 have e3:Ax.bin .and (.int .u64 ((18446744073709551616-n:Nat):Int)) (.int .u64 31)=some (.int .u64 ((32-n:Nat):Int)):=by
  rw[zw7 (by omega) (by omega) (by omega) (by omega)];congr 3;rw[Int.toNat_natCast];show(18446744073709551616-n) &&& (2 ^ 5-1)=32-n;rw[Nat.and_two_pow_sub_one_eq_mod];omega
 have e4:Ax.bin .sub (.int .u64 32) (.int .u64 ((32-n:Nat):Int))=some (.int .u64 (n:Nat)):=by
  rw[zr0,wrap_u64];congr 2;omega
 have e5:=w_rot x (k:=.u64) (k':=.u64) (n:=n) (a:=((32-n:Nat):Int)) (b:=(n:Nat)) rfl rfl;have e6:Ok (sem T zbr [w32 x,.int .i64 (-(n:Int))]) H λr H'=>r=w32 (rotr x n)∧H'=H:=by
  refine zf7 ?_;unfold zdG uL uB uq;obtain⟨u,hu,hu2⟩:=Option.bind_eq_some_iff.1 e5;obtain⟨v,hv,hv2⟩:=Option.bind_eq_some_iff.1 hu2;simp(disch:=omega)only[↓RD,RZ,eq_self,seval,e2,e3,hu,e4,hv,hv2]
 simp(disch:=omega)only[↓RD,RZ,eq_self,seval,e1];exact zae e6 (by rintro _ _ ⟨rfl,rfl⟩; simp(disch:=omega)only[↓RD,RZ,eq_self,seval])
theorem zsr(a b k:Nat)(h:b<2 ^ k):a*2 ^ k ||| b=a*2 ^ k+b:=by
 have:=Nat.shiftLeft_add_eq_or_of_lt (i:=k) (b:=b) h a;rw[Nat.shiftLeft_eq]at this;exact this.symm
theorem word_ok{lo:Nat}{H:Heap}{v:V}{l:List Nat}(h:By lo H v l)(h8:Ok8 l)(hl:4≤l.length):Ok (sem T zeb [v]) H λr H'=>r=w32 (word l 0)∧H'=H:=by
 refine znO ?_;unfold zks uL uB uIM uc uq;obtain⟨p0,i0,l0,-⟩:=zpK h (i:=0) (by omega) (by omega);obtain⟨p1,i1,l1,-⟩:=zpK h (i:=1) (by omega) (by omega);obtain⟨p2,i2,l2,-⟩:=zpK h (i:=2) (by omega) (by omega);obtain⟨p3,i3,l3,-⟩:=zpK h (i:=3) (by omega) (by omega);have b0:=h8.getD 0;have b1:=h8.getD 1;have b2:=h8.getD 2;have b3:=h8.getD 3;have e0:(0:Int).toNat=0:=rfl;have e1:(1:Int).toNat=1:=rfl;have e2:(2:Int).toNat=2:=rfl;have e3:(3:Int).toNat=3:=rfl;rw[e0]at l0;rw[e1]at l1;rw[e2]at l2;rw[e3]at l3;have hw:word l 0=UInt32.ofNat (be [l.getD 0 0,l.getD 1 0,l.getD 2 0,l.getD 3 0]):=rfl;rw[hw,←w_nat _ (by simp only[be,List.foldl_cons,List.foldl_nil]; omega)];have hb:be [l.getD 0 0,l.getD 1 0,l.getD 2 0,l.getD 3 0]=l.getD 0 0*16777216+l.getD 1 0*65536+l.getD 2 0*256+l.getD 3 0:=by simp only[be,List.foldl_cons,List.foldl_nil]; omega
 rw[hb];generalize l.getD 0 0=a0 at *;generalize l.getD 1 0=a1 at *;generalize l.getD 2 0=a2 at *;generalize l.getD 3 0=a3 at *;have m0:a0*16777216%4294967296=a0*16777216:=Nat.mod_eq_of_lt (by omega);have m1:a1*65536%4294967296=a1*65536:=Nat.mod_eq_of_lt (by omega);have m2:a2*256%4294967296=a2*256:=Nat.mod_eq_of_lt (by omega);have o1:a0*16777216 ||| a1*65536=a0*16777216+a1*65536:=zsr a0 _ 24 (by omega);have o2:a0*16777216+a1*65536 ||| a2*256=a0*16777216+a1*65536+a2*256:=by
  have:=zsr (a0*256+a1) (a2*256) 16 (by omega);rw[show(a0*256+a1)*2 ^ 16=a0*16777216+a1*65536 by omega]at this;exact this
 have o3:a0*16777216+a1*65536+a2*256 ||| a3=a0*16777216+a1*65536+a2*256+a3:=by
  have:=zsr (a0*65536+a1*256+a2) a3 8 (by omega);rw[show(a0*65536+a1*256+a2)*2 ^ 8=a0*16777216+a1*65536+a2*256 by omega]at this;exact this
 simp(disch:=omega)only[↓RD,RZ,eq_self,seval,i0,l0,i1,l1,i2,l2,i3,l3,m0,m1,m2,o1,o2,o3]
end Go.Ax.SU
/- Su9 -/
namespace Go.Ax.SU
open Go.Ax
theorem t7(x:UInt32):sem T zau [w32 x,.int .i64 7]=M.pure (w32 (rotr x 7)):=zf3 x 7 (by omega) (by omega)
theorem t18(x:UInt32):sem T zau [w32 x,.int .i64 18]=M.pure (w32 (rotr x 18)):=zf3 x 18 (by omega) (by omega)
theorem t17(x:UInt32):sem T zau [w32 x,.int .i64 17]=M.pure (w32 (rotr x 17)):=zf3 x 17 (by omega) (by omega)
theorem t19(x:UInt32):sem T zau [w32 x,.int .i64 19]=M.pure (w32 (rotr x 19)):=zf3 x 19 (by omega) (by omega)
theorem t6(x:UInt32):sem T zau [w32 x,.int .i64 6]=M.pure (w32 (rotr x 6)):=zf3 x 6 (by omega) (by omega)
theorem t11(x:UInt32):sem T zau [w32 x,.int .i64 11]=M.pure (w32 (rotr x 11)):=zf3 x 11 (by omega) (by omega)
theorem t25(x:UInt32):sem T zau [w32 x,.int .i64 25]=M.pure (w32 (rotr x 25)):=zf3 x 25 (by omega) (by omega)
theorem t2(x:UInt32):sem T zau [w32 x,.int .i64 2]=M.pure (w32 (rotr x 2)):=zf3 x 2 (by omega) (by omega)
theorem t13(x:UInt32):sem T zau [w32 x,.int .i64 13]=M.pure (w32 (rotr x 13)):=zf3 x 13 (by omega) (by omega)
theorem t22(x:UInt32):sem T zau [w32 x,.int .i64 22]=M.pure (w32 (rotr x 22)):=zf3 x 22 (by omega) (by omega)
theorem s3(x:UInt32):Ax.bin .shr (w32 x) (.int .u64 3)=some (w32 (zkM x 3)):=zux x (by omega)
theorem s10(x:UInt32):Ax.bin .shr (w32 x) (.int .u64 10)=some (w32 (zkM x 10)):=zux x (by omega)
theorem word_at(l:List Nat)(k:Nat)(n:Nat)(hn:4≤n):word ((l.drop (4*k)).take n) 0=word l k:=by
 unfold word;congr 2;simp only[getD_take (show 4*0<n by omega),getD_take (show 4*0+1<n by omega),getD_take (show 4*0+2<n by omega),getD_take (show 4*0+3<n by omega),getD_drop];rfl
theorem zuv(l:List Nat)(k:Nat):wl l (k+1)=wl l k++[if k<16 then word l k else wnext (wl l k) k]:=rfl
theorem zvs{lo wb:Nat}{H:Heap}{v:V}{l:List Nat}(hv:By lo H v l)(h8:Ok8 l)(hl:l.length=64) (hw:H.get wb=some ⟨zct,List.replicate 64 (.int .u32 0),none⟩) (hp:v.pid≠some wb) (hwl:wb<H.next) :
  Ok (M.iter (zbH (sem T) v (.ptr wb 0)) [.int .i64 0]) H λr H'=>r = .ex 0 []∧H'.get wb=some ⟨zct,(wl l 64).map w32,none⟩∧At1 wb H H':=by
 refine zaV (λk L H'=>L=[.int .i64 (k:Nat)]∧H'.get wb=some ⟨zct,(wl l k).map w32++List.replicate (64-k) (.int .u32 0),none⟩∧At1 wb H H') 64 ?_ ?_ ?_
 ·exact⟨rfl,hw,At1.refl _ _⟩
 ·rintro k L H1 hk ⟨rfl,g1,s1⟩;have hv1:=hv.at1 s1 hp;have hln:(wl l k).length=k:=wl_len l k;have hlm:((wl l k).map w32).length=k:=by rw[List.length_map,hln]
  have hlr:((wl l k).map w32++List.replicate (64-k) (V.int .u32 0)).length=64:=by rw[List.length_append,hlm,List.length_replicate]; omega
  unfold zbH uL uM uT uB uI uIM uU uc uq ug;by_cases h16:k<16
  ·obtain⟨v',hs,-,hs',hv',-⟩:=zdd hv1 (x:=((4*k:Nat):Int)) (y:=(l.length:Nat)) (by omega) (by omega) (by omega);have hs2:∀{k':IntKind},zaA .sl 1 v (some (.int k' ((4*k:Nat):Int))) none none=some v':=hs' rfl;have e4:(4:Int)*(k:Int)=((4*k:Nat):Int):=by omega
   have hlen:((l.drop (4*k)).take (l.length-4*k)).length=l.length-4*k:=by rw[List.length_take,List.length_drop]; omega
   have ew:=@zmE _ _ _ _ (word_ok hv' ((h8.drop _).take _) (by simp only[Int.toNat_natCast]; omega));simp only[Int.toNat_natCast]at ew;rw[word_at l k _ (by omega)]at ew;simp(disch:=omega)only[↓RD,RZ,eq_self,seval,e4,hs2,ew,g1,zbP hlm hk,w_ok,zme,hlr];refine⟨by omega,rfl,?_,s1.trans (At1.set wb _ _)⟩;rw[zuv,if_pos h16];simp
  ·have w15:=wga (ws:=wl l k) (r:=List.replicate (64-k) (V.int .u32 0)) (i:=k-15) (by omega);have w2:=wga (ws:=wl l k) (r:=List.replicate (64-k) (V.int .u32 0)) (i:=k-2) (by omega);have w16:=wga (ws:=wl l k) (r:=List.replicate (64-k) (V.int .u32 0)) (i:=k-16) (by omega);have w7:=wga (ws:=wl l k) (r:=List.replicate (64-k) (V.int .u32 0)) (i:=k-7) (by omega);have e15:(k:Int)-15=((k-15:Nat):Int):=by omega
   have e2:(k:Int)-2=((k-2:Nat):Int):=by omega
   have e16:(k:Int)-16=((k-16:Nat):Int):=by omega
   have e7:(k:Int)-7=((k-7:Nat):Int):=by omega
   simp(disch:=omega)only[↓RD,RZ,eq_self,seval,e15,e2,e16,e7,w15,w2,w16,w7,t7,t18,t17,t19,s3,s10,w_add,w_xor,g1,zbP hlm hk,w_ok,zme,hlr];refine⟨by omega,rfl,?_,s1.trans (At1.set wb _ _)⟩;rw[zuv,if_neg h16];simp[wnext,sg0,sg1]
 ·rintro L H1 ⟨rfl,g1,s1⟩;unfold zbH uL uM uT uB uI uIM uU uc uq ug;simp(disch:=omega)only[↓RD,RZ,eq_self,seval];refine⟨?_,s1⟩;rw[g1];simp
theorem zvr{c wb vb:Nat}{H:Heap}{l:List Nat}{h:List UInt32}{x0 x1 x2:V}(hh:h.length=8) (hc:H.get c=some ⟨zay,x0::x1::x2::kc.map w32,none⟩) (hw:H.get wb=some ⟨zct,(wl l 64).map w32,none⟩)
  (hb:H.get vb=some ⟨zbM,h.map w32,none⟩) (h1:vb≠c) (h2:vb≠wb) (hcl:c<H.next) (hwl:wb<H.next) :
  Ok (M.iter (zbG (sem T) (.ptr c 3) (.ptr wb 0) (.ptr vb 0)) [.int .i64 0]) H λr H'=>r = .ex 2 []∧H'.get vb=some ⟨zbM,(rnds kc (wl l 64) h 64).map w32,none⟩∧At1 vb H H':=by
 refine zaV (λk L H'=>L=[.int .i64 (k:Nat)]∧H'.get vb=some ⟨zbM,(rnds kc (wl l 64) h k).map w32,none⟩∧At1 vb H H') 64 ?_ ?_ ?_
 ·exact⟨rfl,hb,At1.refl _ _⟩
 ·rintro k L H1 hk ⟨rfl,g1,s1⟩;have gc:=(s1.same c hcl (Ne.symm h1)).trans hc;have gw:=(s1.same wb hwl (Ne.symm h2)).trans hw;have hl8:(rnds kc (wl l 64) h k).length=8:=zsk hh k;have hlm:((rnds kc (wl l 64) h k).map w32).length=8:=by rw[List.length_map,hl8]
  have v0:=wg (ws:=rnds kc (wl l 64) h k) (i:=0) (by omega);have v1:=wg (ws:=rnds kc (wl l 64) h k) (i:=1) (by omega);have v2:=wg (ws:=rnds kc (wl l 64) h k) (i:=2) (by omega);have v3:=wg (ws:=rnds kc (wl l 64) h k) (i:=3) (by omega);have v4:=wg (ws:=rnds kc (wl l 64) h k) (i:=4) (by omega);have v5:=wg (ws:=rnds kc (wl l 64) h k) (i:=5) (by omega);have v6:=wg (ws:=rnds kc (wl l 64) h k) (i:=6) (by omega);have v7:=wg (ws:=rnds kc (wl l 64) h k) (i:=7) (by omega);have wk:=wg (ws:=wl l 64) (i:=k) (by rw[wl_len]; exact hk);have kk:=wg (ws:=kc) (i:=k) (by rw[zsz]; exact hk);have e3:3+k=k+1+1+1:=by omega
  have hsp:∀(L:List V),L.length=8→splice ((rnds kc (wl l 64) h k).map w32) 0 L=L:=λL hL=>by
   unfold splice;rw[List.take_zero,List.nil_append,hL,List.drop_of_length_le (by rw[hlm]; omega),List.append_nil]
  unfold zbG uL uM uT uN uB uI uIM uU uc ug;have er:rnds kc (wl l 64) h (k+1)=rnd (rnds kc (wl l 64) h k) (kc.getD k 0) ((wl l 64).getD k 0):=rfl;rw[er];generalize rnds kc (wl l 64) h k=vs at *;simp(disch:=omega)only[↓RD,RZ,eq_self,seval,g1,v0,v1,v2,v3,v4,v5,v6,v7,gc,gw,e3,wk,kk,t6,t11,t25,t2,t13,t22,w_add,w_xor,w_and,w_not,w_ok,zme,hlm];refine⟨rfl,?_,s1.trans (At1.set vb _ _)⟩;rw[hsp _ rfl];rfl
 ·rintro L H1 ⟨rfl,g1,s1⟩;unfold zbG uL uM uT uN uB uI uIM uU uc ug;simp(disch:=omega)only[↓RD,RZ,eq_self,seval];exact⟨g1,s1⟩
end Go.Ax.SU
/- Su10 -/
namespace Go.Ax.SU
open Go.Ax
theorem gD{α:Type}(l:List α)(d:α){i:Nat}(h:i<l.length):l[i]=l.getD i d:=by rw[List.getD_eq_getElem?_getD,List.getElem?_eq_getElem h]; rfl
def part(h w:List UInt32)(k:Nat):List UInt32:=(List.range 8).map λi=>if i<k then h.getD i 0+w.getD i 0 else h.getD i 0
theorem zfN(h w:List UInt32)(k:Nat):(part h w k).length=8:=by simp[part]
theorem zjV(h w:List UInt32)(k:Nat){i:Nat}(hi:i<8):(part h w k).getD i 0=if i<k then h.getD i 0+w.getD i 0 else h.getD i 0:=by
 unfold part;rw[List.getD_eq_getElem?_getD,List.getElem?_map,List.getElem?_range hi]; rfl
theorem zvv{h:List UInt32}(w:List UInt32)(hh:h.length=8):part h w 0=h:=by
 refine List.ext_getElem (by rw[zfN,hh]) λi h1 h2=>?_;have:=zjV h w 0 (i:=i) (by omega);rw[List.getD_eq_getElem?_getD,List.getD_eq_getElem?_getD,List.getElem?_eq_getElem h1,List.getElem?_eq_getElem h2]at this;simpa using this
theorem part_set{h w:List UInt32}{k:Nat}(hk:k<8):(part h w k).set k (h.getD k 0+w.getD k 0)=part h w (k+1):=by
 refine List.ext_getElem (by rw[List.length_set,zfN,zfN]) λi h1 h2=>?_;have hi:i<8:=by rw[zfN]at h2; exact h2
 rw[List.getElem_set,gD _ 0 h2,zjV h w (k+1) hi];by_cases e:k=i
 ·subst e; rw[if_pos rfl,if_pos (by omega)]
 ·rw[if_neg e,gD (part h w k) 0 (by rw[zfN]; exact hi),zjV h w k hi];by_cases hl:i<k
  ·rw[if_pos hl,if_pos (by omega)]
  ·rw[if_neg hl,if_neg (by omega)]
theorem zvq{s vb:Nat}{H:Heap}{h ws:List UInt32}{r:List V}(hh:h.length=8)(hw:ws.length=8) (hs:H.get s=some ⟨zao,h.map w32++r,none⟩) (hb:H.get vb=some ⟨zbM,ws.map w32,none⟩) (hne:vb≠s) (hvl:vb<H.next) :
  Ok (M.iter (zbF (sem T) (.ptr s 0) (.ptr vb 0)) [.int .i64 0]) H λx H'=>x = .ex 4 []∧H'.get s=some ⟨zao,((List.range 8).map λi=>h.getD i 0+ws.getD i 0).map w32++r,none⟩∧At1 s H H':=by
 refine zaV (λk L H'=>L=[.int .i64 (k:Nat)]∧H'.get s=some ⟨zao,(part h ws k).map w32++r,none⟩∧At1 s H H') 8 ?_ ?_ ?_
 ·exact⟨rfl,by rw[zvv ws hh]; exact hs,At1.refl _ _⟩
 ·rintro k L H1 hk ⟨rfl,g1,s1⟩;have gb:=(s1.same vb hvl hne).trans hb;have i1:=wga (ws:=part h ws k) (r:=r) (i:=k) (by rw[zfN]; exact hk);have i2:=wg (ws:=ws) (i:=k) (by omega);rw[zjV h ws k hk,if_neg (by omega)]at i1;have hl:((part h ws k).map w32++r).length=8+r.length:=by rw[List.length_append,List.length_map,zfN]
  have hsp:splice ((part h ws k).map w32++r) k [w32 (h.getD k 0+ws.getD k 0)]=(part h ws (k+1)).map w32++r:=by
   rw[zmo _ _ _ (by rw[hl]; omega),List.set_append_left _ _ (by rw[List.length_map,zfN]; exact hk),←List.map_set,part_set hk]
  unfold zbF uT uNF uB uI uIM uc ug;simp(disch:=omega)only[↓RD,RZ,eq_self,seval,g1,gb,i1,i2,w_add,w_ok,zme,hsp,hl];exact⟨by omega,rfl,s1.trans (At1.set s _ _)⟩
 ·rintro L H1 ⟨rfl,g1,s1⟩;unfold zbF uT uNF uB uI uIM uc ug;simp(disch:=omega)only[↓RD,RZ,eq_self,seval];refine⟨?_,s1⟩;rw[g1];have:part h ws 8=(List.range 8).map λi=>h.getD i 0+ws.getD i 0:=List.map_congr_left λi hi=>by rw[if_pos (List.mem_range.1 hi)]
  rw[this]
theorem st8{h:List UInt32}(hh:h.length=8)(a b c:V):(h.map w32++[a,b,c])[8]?=some a:=by rw[List.getElem?_append_right (by rw[List.length_map]; omega),List.length_map,hh]; rfl
theorem st9{h:List UInt32}(hh:h.length=8)(a b c:V):(h.map w32++[a,b,c])[9]?=some b:=by rw[List.getElem?_append_right (by rw[List.length_map]; omega),List.length_map,hh]; rfl
theorem st10{h:List UInt32}(hh:h.length=8)(a b c:V):(h.map w32++[a,b,c])[10]?=some c:=by rw[List.getElem?_append_right (by rw[List.length_map]; omega),List.length_map,hh]; rfl
theorem stl{h:List UInt32}(hh:h.length=8)(a b c:V):(h.map w32++[a,b,c]).length=11:=by rw[List.length_append,List.length_map,hh]; rfl
theorem sp8{h:List UInt32}(hh:h.length=8)(a b c x:V):splice (h.map w32++[a,b,c]) 8 [x]=h.map w32++[x,b,c]:=by
 rw[zmo _ _ _ (by rw[stl hh]; omega),List.set_append_right _ _ (by rw[List.length_map]; omega),List.length_map,hh]; rfl
theorem sp9{h:List UInt32}(hh:h.length=8)(a b c x:V):splice (h.map w32++[a,b,c]) 9 [x]=h.map w32++[a,x,c]:=by
 rw[zmo _ _ _ (by rw[stl hh]; omega),List.set_append_right _ _ (by rw[List.length_map]; omega),List.length_map,hh]; rfl
theorem ld8{h:List UInt32}(hh:h.length=8)(r:List V):ldc (some 8) (h.map w32++r) 0=some (.agg (h.map w32)):=by
 rw[zeN (by rw[List.length_append,List.length_map,hh]; omega),List.drop_zero,List.take_left' (by rw[List.length_map,hh])]
theorem piece_ok{lo s c:Nat}{H:Heap}{v bv nv:V}{l:List Nat}{h:List UInt32}{d:Bool} (hs:H.get s=some ⟨zao,h.map w32++[bv,nv,.ptr c 0],none⟩) (hh:h.length=8) (hc:H.get c=some ⟨zay,conC d,none⟩)
  (hv:By lo H v l) (h8:Ok8 l) (hl:l.length=64) (hne:s≠c) (hvs:v.pid≠some s) (hvc:v.pid≠some c) (hsl:s<H.next) (hcl:c<H.next) :
  Ok (sem T za7 [.ptr s 0,v]) H λr H'=>r = .tup []∧H'.get s=some ⟨zao,(comp kc h l).map w32++[bv,nv,.ptr c 0],none⟩∧H'.get c=some ⟨zay,conC true,none⟩∧Step H H' [s,c] [s,c]:=by
 refine zhD ?_;unfold zeq uS uT uNFM uNF uO uc;have i10:=st10 hh bv nv (.ptr c 0);simp(disch:=first|omega|(simp only[RY]<;>omega)|decide)only[↓RD,RZ,eq_self,seval,hs,i10];refine zae (zwN hc hcl) ?_;rintro _ H1 ⟨rfl,gc1,s1⟩;have gs1:=(s1.same s hsl (by simpa using hne)).trans hs;have hv1:By lo H1 v l:=hv.at1 ⟨s1.next,λi hi hk=>s1.same i hi (by simpa using hk)⟩ hvc;have n1:=s1.next;simp(disch:=first|omega|(simp only[RY]<;>omega)|decide)only[↓RD,RZ,eq_self,seval];have e64:[V.int .u32 0,.int .u32 0,.int .u32 0,.int .u32 0,.int .u32 0,.int .u32 0,.int .u32 0,.int .u32 0,.int .u32 0,.int .u32 0,.int .u32 0,.int .u32 0,.int .u32 0,.int .u32 0,.int .u32 0,.int .u32 0,.int .u32 0,.int .u32 0,.int .u32 0,.int .u32 0,.int .u32 0,.int .u32 0,.int .u32 0,.int .u32 0,.int .u32 0,.int .u32 0,.int .u32 0,.int .u32 0,.int .u32 0,.int .u32 0,.int .u32 0,.int .u32 0,.int .u32 0,.int .u32 0,.int .u32 0,.int .u32 0,.int .u32 0,.int .u32 0,.int .u32 0,.int .u32 0,.int .u32 0,.int .u32 0,.int .u32 0,.int .u32 0,.int .u32 0,.int .u32 0,.int .u32 0,.int .u32 0,.int .u32 0,.int .u32 0,.int .u32 0,.int .u32 0,.int .u32 0,.int .u32 0,.int .u32 0,.int .u32 0,.int .u32 0,.int .u32 0,.int .u32 0,.int .u32 0,.int .u32 0,.int .u32 0,.int .u32 0,.int .u32 0]=List.replicate 64 (.int .u32 0):=rfl;rw[e64];have s2:=Grow.new H1 ⟨zct,List.replicate 64 (.int .u32 0),none⟩;have gw2:(H1.new ⟨zct,List.replicate 64 (.int .u32 0),none⟩).get H1.next = _:=zag _ _;have nb2:H1.next<(H1.new ⟨zct,List.replicate 64 (.int .u32 0),none⟩).next:=by rw[zaf]; omega
 have gs2:=(s2.same s (by omega)).trans gs1;have gc2:=(s2.same c (by omega)).trans gc1;have hv2:=hv1.ext s2;have hvw:v.pid≠some H1.next:=λe=>by have:=(hv1.own _ e).2; omega
 have n2:=s2.next;generalize hwb:H1.next=wb at *;generalize H1.new _=H2 at *;refine zam (zvs hv2 h8 hl gw2 hvw nb2) ?_;rintro _ H3 ⟨rfl,gw3,s3⟩;have n3:=s3.next;have gs3:=(s3.same s (by omega) (by omega)).trans gs2;have gc3:=(s3.same c (by omega) (by omega)).trans gc2;have e8:=ld8 hh [bv,nv,.ptr c 0];have hlm:(h.map w32).length=8:=by rw[List.length_map,hh]
 have hok:V.okc (.agg (h.map w32))=true:=by
  simp only[V.okc,List.all_map,List.all_eq_true]
  try (intro x _; rfl)
 have hsp:∀L:List V,L.length=8→splice L 0 (h.map w32)=h.map w32:=λL hL=>by
  unfold splice;rw[List.take_zero,List.nil_append,hlm,List.drop_of_length_le (by omega),List.append_nil]
 simp(disch:=first|omega|(simp only[RY]<;>omega)|decide)only[↓RD,RZ,eq_self,seval,gs3,e8,hok,hlm,hsp];have g4:∀i,i<H3.next→((H3.new ⟨zbM,[V.int .u32 0,.int .u32 0,.int .u32 0,.int .u32 0,.int .u32 0,.int .u32 0,.int .u32 0,.int .u32 0],none⟩).set H3.next (some ⟨zbM,h.map w32,none⟩)).get i=H3.get i:=λi hi=>by rw[zaj _ _ (by omega),zaM _ _ (by omega)]
 have gv4:((H3.new ⟨zbM,[V.int .u32 0,.int .u32 0,.int .u32 0,.int .u32 0,.int .u32 0,.int .u32 0,.int .u32 0,.int .u32 0],none⟩).set H3.next (some ⟨zbM,h.map w32,none⟩)).get H3.next = _:=zai _ _ _;have n4:((H3.new ⟨zbM,[V.int .u32 0,.int .u32 0,.int .u32 0,.int .u32 0,.int .u32 0,.int .u32 0,.int .u32 0,.int .u32 0],none⟩).set H3.next (some ⟨zbM,h.map w32,none⟩)).next=H3.next+1:=by rw[zan,zaf]
 generalize hvb:H3.next=vb at *;generalize (H3.new _).set _ _=H4 at *;have gc4:=(g4 c (by omega)).trans gc3;have gs4:=(g4 s (by omega)).trans gs3;have gw4:=(g4 wb (by omega)).trans gw3;refine zam (zvr hh gc4 gw4 gv4 (by omega) (by omega) (by omega) (by omega)) ?_;rintro _ H5 ⟨rfl,gv5,s5⟩;have n5:=s5.next;have gs5:=(s5.same s (by omega) (by omega)).trans gs4;have gc5:=(s5.same c (by omega) (by omega)).trans gc4;simp(disch:=first|omega|(simp only[RY]<;>omega)|decide)only[↓RD,RZ,eq_self,seval];refine zam (zvq hh (zsk hh 64) gs5 gv5 (by omega) (by omega)) ?_;rintro _ H6 ⟨rfl,gs6,s6⟩;have n6:=s6.next;simp(disch:=first|omega|(simp only[RY]<;>omega)|decide)only[↓RD,RZ,eq_self,seval];refine⟨rfl,gs6,(s6.same c (by omega) (Ne.symm hne)).trans gc5,⟨by omega,λi hi hF=>?_,λi hi=>.inl hi⟩⟩;simp only[List.mem_cons,List.not_mem_nil,or_false,not_or]at hF;rw[s6.same i (by omega) hF.1,s5.same i (by omega) (by omega),g4 i (by omega),s3.same i (by omega) (by omega),s2.same i (by omega),s1.same i hi (by simpa using hF.2)]
end Go.Ax.SU
/- Su11 -/
namespace Go.Ax.SU
open Go.Ax
theorem _root_.Go.Ax.Lc.stepF{e lo n:Nat}{H H':Heap}{v:V}{cells:List V}{F F':List Nat}(h:Lc e lo H v cells n)(s:Step H H' F F')(hd:∀i,v.pid=some i→i∉F):Lc e lo H' v cells n :=
 ⟨by rw[ze4 λi hi=>s.same i (h.own i hi).2 (hd i hi)]; exact h.rc,λi hi=>⟨(h.own i hi).1,Nat.lt_of_lt_of_le (h.own i hi).2 s.next⟩,h.cap⟩
structure St (H:Heap) (s c:Nat) (bv:V) (h:List UInt32) (b Fb:List Nat) (n:Nat):Prop where
 gs:H.get s=some ⟨zao,h.map w32++[bv,.int .u64 (n:Nat),.ptr c 0],none⟩
 gc:∃d,H.get c=some ⟨zay,conC d,none⟩
 bf:Buf H bv b Fb
 hl:h.length=8
 ne:s≠c
 sb:s∉Fb
 cb:c∉Fb
 sl:s<H.next
 cl:c<H.next
def Str(H:Heap)(s:Nat)(m F:List Nat):Prop:=∃c bv Fb,F=s::c::Fb∧St H s c bv (hs kc m) (tl m) Fb m.length∧Ok8 m
theorem St.low{H:Heap}{s c:Nat}{bv:V}{h:List UInt32}{b Fb:List Nat}{n:Nat}(h:St H s c bv h b Fb n):∀i∈s::c::Fb,i<H.next:=by
 intro i hi;rcases List.mem_cons.1 hi with rfl|hi
 ·exact h.sl
 ·rcases List.mem_cons.1 hi with rfl|hi
  ·exact h.cl
  ·exact h.bf.low i hi
theorem St.to{H H':Heap}{s c:Nat}{bv:V}{h:List UInt32}{b Fb:List Nat}{n:Nat}(k:St H s c bv h b Fb n)(hn:H.next≤H'.next)(hs:∀i∈s::c::Fb,H'.get i=H.get i):St H' s c bv h b Fb n :=
 ⟨by rw[hs s (by simp)]; exact k.gs,by obtain⟨d,hd⟩:=k.gc; exact⟨d,by rw[hs c (by simp)]; exact hd⟩,k.bf.to hn λi hi=>hs i (by simp[hi]),k.hl,k.ne,k.sb,k.cb,Nat.lt_of_lt_of_le k.sl hn,Nat.lt_of_lt_of_le k.cl hn⟩
theorem St.piece{lo:Nat}{H:Heap}{s c:Nat}{bv v:V}{h:List UInt32}{b Fb l:List Nat}{n:Nat}(k:St H s c bv h b Fb n)(hv:By lo H v l)(h8:Ok8 l)(hl:l.length=64)(hvs:v.pid≠some s)(hvc:v.pid≠some c) :
  Ok (sem T za7 [.ptr s 0,v]) H λr H'=>r = .tup []∧St H' s c bv (comp kc h l) b Fb n∧Step H H' [s,c] [s,c]:=by
 obtain⟨d,hd⟩:=k.gc;refine zam (piece_ok k.gs k.hl hd hv h8 hl k.ne hvs hvc k.sl k.cl) ?_;rintro _ H' ⟨rfl,g1,g2,s1⟩;refine⟨rfl,⟨g1,⟨true,g2⟩,k.bf.to s1.next λi hi=>s1.same i (k.bf.low i hi) λe=>?_,zsN _ _ _,k.ne,k.sb,k.cb,Nat.lt_of_lt_of_le k.sl s1.next,Nat.lt_of_lt_of_le k.cl s1.next⟩,s1⟩;simp only[List.mem_cons,List.not_mem_nil,or_false]at e;rcases e with rfl|rfl
 ·exact k.sb hi
 ·exact k.cb hi
theorem zp0{H H':Heap}{s c:Nat} (h:Step H H' [s,c] [s,c]) (Fb:List Nat):Step H H' (s::c::Fb) (s::c::Fb) :=
 ⟨h.next,λi hi hF=>h.same i hi λk=>hF (by simp only[List.mem_cons,List.not_mem_nil,or_false]at k; simp only[List.mem_cons]; rcases k with rfl|rfl<;>simp),λi hi=>.inl hi⟩
theorem zvp{lo:Nat}{H:Heap}{s c:Nat}{bv v:V}{m Fb p:List Nat}{n:Nat} (k:St H s c bv (hs kc m) [] Fb n) (hm:m.length%64=0) (hv:By lo H v p) (h8:Ok8 p) (hd:∀i,v.pid=some i→i∉s::c::Fb) :
  Ok (M.iter (zce (sem T) (.ptr s 0)) [v]) H λr H'=>∃v',r = .ex 0 [v']∧v'.pid=v.pid∧By lo H' v' (p.drop (64*(p.length/64)))∧St H' s c bv (hs kc (m++p.take (64*(p.length/64)))) [] Fb n∧Step H H' (s::c::Fb) (s::c::Fb):=by
 refine zaV (λj L H'=>∃v',L=[v']∧v'.pid=v.pid∧By lo H' v' (p.drop (64*j))∧St H' s c bv (hs kc (m++p.take (64*j))) [] Fb n∧Step H H' (s::c::Fb) (s::c::Fb)) (p.length/64) ?_ ?_ ?_
 ·exact⟨v,rfl,rfl,by simpa using hv,by simpa using k,Step.refl _ _⟩
 ·rintro j L H1 hj ⟨v1,rfl,p1,b1,k1,s1⟩;have hlen:(p.drop (64*j)).length=p.length-64*j:=List.length_drop;have hvs:v1.pid≠some s:=λe=>hd s (p1 ▸ e) (by simp);have hvc:v1.pid≠some c:=λe=>hd c (p1 ▸ e) (by simp);obtain⟨va,-,ha,-,hva,pa⟩:=zdd b1 (x:=0) (y:=64) (by omega) (by omega) (by omega);have ha2:∀{k':IntKind},zaA .sl 1 v1 none (some (.int k' 64)) none=some va:=ha rfl;obtain⟨vb,-,-,hb,hvb,pb⟩:=zdd b1 (x:=64) (y:=((p.drop (64*j)).length:Nat)) (by omega) (by omega) (by omega);have hb2:∀{k':IntKind},zaA .sl 1 v1 (some (.int k' 64)) none none=some vb:=hb rfl;have hvl:=b1.vlen;have hle:(64:Int)≤((p.drop (64*j)).length:Nat):=by omega
  have e64:(64:Int).toNat=64:=rfl;have e0:(0:Int).toNat=0:=rfl;rw[e64,e0,List.drop_zero]at hva;rw[e64,Int.toNat_natCast,List.drop_drop]at hvb;unfold zce uL uB uc ug;simp(disch:=omega)only[↓RD,RZ,hvl,hle,ha2];refine zae (k1.piece hva ((h8.drop _).take _) (by rw[List.length_take,hlen]; omega) (by rw[pa]; exact hvs) (by rw[pa]; exact hvc)) ?_;rintro _ H2 ⟨rfl,k2,s2⟩;have hm1:(m++p.take (64*j)).length%64=0:=by rw[List.length_append,List.length_take]; omega
  have e2:comp kc (hs kc (m++p.take (64*j))) ((p.drop (64*j)).take (64-0))=hs kc (m++p.take (64*(j+1))):=by
   rw[←hs_piece hm1 (by rw[List.length_take,hlen]; omega),List.append_assoc,←List.take_add];rfl
  rw[e2]at k2;have hvb2:By lo H2 vb (p.drop (64*(j+1))):=by
   have e3:(p.drop (64*j+64)).take ((p.drop (64*j)).length-64)=p.drop (64*(j+1)):=by
    rw[List.take_of_length_le (by rw[List.length_drop,hlen]; omega)]; rfl
   rw[e3]at hvb;exact hvb.stepF s2 λi hi=>by rw[pb,p1]at hi; have:=hd i hi; simp only[List.mem_cons,not_or]at this; simp only[List.mem_cons,List.not_mem_nil,or_false,not_or]; exact⟨this.1,this.2.1⟩
  simp(disch:=omega)only[↓RD,RZ,hb2];exact⟨vb,rfl,by rw[pb,p1],hvb2,k2,s1.trans (zp0 s2 Fb)⟩
 ·rintro L H1 ⟨v1,rfl,p1,b1,k1,s1⟩;have hvl:=b1.vlen;have hlen:(p.drop (64*(p.length/64))).length=p.length-64*(p.length/64):=List.length_drop;have hlt:((p.drop (64*(p.length/64))).length:Int)<64:=by omega
  unfold zce uL uB uc ug;simp(disch:=omega)only[↓RD,RZ,hvl,hlt];exact⟨v1,rfl,p1,b1,k1,s1⟩
theorem St.rest{β:Type}{lo:Nat}{H:Heap}{s c:Nat}{bv v:V}{h:List UInt32}{b Fb p:List Nat}{n:Nat}{f:V→M β}{Q:β→Heap→Prop}(k:St H s c bv h b Fb n)(hv:By lo H v p)(hp:b.length+p.length≤64)
  (hQ:∀bv' H' Fb',St (H'.set s (some ⟨zao,h.map w32++[bv',.int .u64 (n:Nat),.ptr c 0],none⟩)) s c bv' h (b++p) Fb' n→H'.get s=some ⟨zao,h.map w32++[bv,.int .u64 (n:Nat),.ptr c 0],none⟩ →
   bv'.cells=[bv']→bv'.okc=true→Step H H' Fb Fb'→(∀i∈Fb',i≠s∧i≠c)→Ok (f bv') H' Q):Ok ((mappend zaa 1 1 bv v).bind f) H Q:=by
 refine zvB k.bf hv.ac hp λbv' H' Fb' b1 s1=>?_;have nss:∀i∈Fb',i≠s∧i≠c:=λi hi=>by
  rcases s1.own i hi with h1|h1
  ·exact⟨λe=>k.sb (e ▸ h1),λe=>k.cb (e ▸ h1)⟩
  ·have:=k.sl; have:=k.cl;exact⟨by omega,by omega⟩
 have gs:=(s1.same s k.sl k.sb).trans k.gs;obtain⟨d,hd⟩:=k.gc;have gc:=(s1.same c k.cl k.cb).trans hd;refine hQ bv' H' Fb' ⟨zai _ _ _,⟨d,by rw[zaj _ _ (Ne.symm k.ne)]; exact gc⟩,b1.to (by rw[zan]; exact Nat.le_refl _) λi hi=>zaj _ _ (nss i hi).1,k.hl,k.ne,λe=>(nss s e).1 rfl,λe=>(nss c e).2 rfl,?_,?_⟩ gs b1.cells1 b1.okc s1 nss
 ·rw[zan]; exact Nat.lt_of_lt_of_le k.sl s1.next
 ·rw[zan]; exact Nat.lt_of_lt_of_le k.cl s1.next
theorem zs1{lo:Nat}{H:Heap}{s:Nat}{v:V}{m F p:List Nat}(k:Str H s m F)(hv:By lo H v p)(h8:Ok8 p)(hd:∀i,v.pid=some i→i∉F)(hlen:m.length+p.length≤1125899906842624) :
  Ok (sem T za4 [.ptr s 0,v]) H λr H'=>r = .tup []∧∃F',Str H' s (m++p) F'∧Step H H' F F':=by
 obtain⟨c,bv,Fb,rfl,k,hm8⟩:=k;refine ziT ?_;unfold zfx uL uT uNFM uNF uB uc ug;have hvl:=hv.vlen;have i8:=st8 k.hl;have i9:=st9 k.hl;have q8:=sp8 k.hl;have q9:=sp9 k.hl;have ql:=stl k.hl;have hm:(m.length:Int)+(p.length:Int)=((m.length+p.length:Nat):Int):=rfl;have hbl:=k.bf.vlen;have gs:=k.gs;have tll:=zsc m;have k1:St (H.set s (some ⟨zao,(hs kc m).map w32++[bv,.int .u64 ((m.length+p.length:Nat):Int),.ptr c 0],none⟩)) s c bv (hs kc m) (tl m) Fb (m.length+p.length):=by
  obtain⟨d,hdc⟩:=k.gc;exact⟨zai _ _ _,⟨d,by rw[zaj _ _ (Ne.symm k.ne)]; exact hdc⟩,k.bf.to (by rw[zan]; exact Nat.le_refl _) λi hi=>zaj _ _ λe=>k.sb (e ▸ hi),k.hl,k.ne,k.sb,k.cb,by rw[zan]; exact k.sl,by rw[zan]; exact k.cl⟩
 have s1:Step H (H.set s (some ⟨zao,(hs kc m).map w32++[bv,.int .u64 ((m.length+p.length:Nat):Int),.ptr c 0],none⟩)) (s::c::Fb) (s::c::Fb):=Step.set _ (by simp);have hv1:=hv.stepF s1 hd;simp(disch:=omega)only[↓RD,RZ,eq_self,seval,gs,i8,i9,hvl,hm,q9,ql,hbl];clear gs;generalize H.set s _=H1 at *;have gs1:=k1.gs;refine zam (Q:=λr H'=>(r = .ret []∧∃F',Str H' s (m++p) F'∧Step H1 H' (s::c::Fb) F') ∨
  (∃v1 q bv1 Fb1,r = .nrm [v1]∧q≤p.length∧(m.length+q)%64=0∧v1.pid=v.pid∧By lo H' v1 (p.drop q)∧St H' s c bv1 (hs kc (m++p.take q)) [] Fb1 (m.length+p.length)∧Step H1 H' (s::c::Fb) (s::c::Fb1))) ?_ ?_
 ·refine zh1 (λhpos=>?_) λhpos=>?_
  ·have hr:0<(tl m).length:=by omega
   have hr2:(tl m).length<64:=by omega
   rcases Nat.lt_or_ge p.length (64-(tl m).length) with hc|hc
   ·have hmin:Ax.minmax false (.int .i64 (64-((tl m).length:Nat):Int)) [.int .i64 (p.length:Nat)]=some (.int .i64 (p.length:Nat)):=by
     simp only[Ax.minmax,min2];rw[if_neg (by decide),if_pos (by omega)];rfl
    obtain⟨va,-,ha,-,hva,pa⟩:=zdd hv1 (x:=0) (y:=(p.length:Nat)) (by omega) (by omega) (by omega);have ha2:∀{k':IntKind},zaA .sl 1 v none (some (.int k' ((p.length:Nat):Int))) none=some va:=ha rfl;have e0:(0:Int).toNat=0:=rfl;rw[e0,List.drop_zero,Int.toNat_natCast,Nat.sub_zero,List.take_length]at hva;simp(disch:=omega)only[↓RD,RZ,gs1,i8,hbl,hvl,hmin,ha2];refine k1.rest hva (by omega) λbv2 H2 Fb2 k2 g2 c2 o2 s2 n2=>?_;obtain⟨vb,-,-,hb,-,-⟩:=zdd hv1 (x:=((p.length:Nat):Int)) (y:=(p.length:Nat)) (by omega) (by omega) (by omega);have hb2:∀{k':IntKind},zaA .sl 1 v (some (.int k' ((p.length:Nat):Int))) none none=some vb:=hb rfl;have hbl2:=k2.bf.vlen;have hlt:(((tl m++p).length:Nat):Int)<64:=by rw[List.length_append]; omega
    simp(disch:=omega)only[↓RD,RZ,eq_self,seval,g2,i8,q8,ql,c2,o2,hb2,hbl2,hlt];refine .inl ⟨s::c::Fb2,⟨c,bv2,Fb2,rfl,?_,hm8.app h8⟩,((s2.cons c).cons s).trans (Step.set _ (by simp))⟩;obtain⟨e1,e2⟩:=hs_few (ks:=kc) (m:=m) (l:=p) (by omega);rw[e1,e2,List.length_append];exact k2
   ·have hmin:Ax.minmax false (.int .i64 (64-((tl m).length:Nat):Int)) [.int .i64 (p.length:Nat)]=some (.int .i64 ((64-(tl m).length:Nat):Int)):=by
     simp only[Ax.minmax,min2];rw[if_neg (by decide)];by_cases e:((p.length:Nat):Int)<64-((tl m).length:Nat)
     ·omega
     ·rw[if_neg e];show some (V.int .i64 _) = _;congr 2;omega
    generalize hq:64-(tl m).length=q at *;obtain⟨va,-,ha,-,hva,pa⟩:=zdd hv1 (x:=0) (y:=(q:Nat)) (by omega) (by omega) (by omega);have ha2:∀{k':IntKind},zaA .sl 1 v none (some (.int k' ((q:Nat):Int))) none=some va:=ha rfl;have e0:(0:Int).toNat=0:=rfl;rw[e0,List.drop_zero,Int.toNat_natCast,Nat.sub_zero]at hva;have hlq:(p.take q).length=q:=by rw[List.length_take]; omega
    simp(disch:=omega)only[↓RD,RZ,gs1,i8,hbl,hvl,hmin,ha2];refine k1.rest hva (by omega) λbv2 H2 Fb2 k2 g2 c2 o2 s2 n2=>?_;obtain⟨vb,-,-,hb,hvb,pb⟩:=zdd hv1 (x:=((q:Nat):Int)) (y:=(p.length:Nat)) (by omega) (by omega) (by omega);have hb2:∀{k':IntKind},zaA .sl 1 v (some (.int k' ((q:Nat):Int))) none none=some vb:=hb rfl;rw[Int.toNat_natCast,Int.toNat_natCast,List.take_of_length_le (by rw[List.length_drop]; exact Nat.le_refl _)]at hvb;have hbl2:=k2.bf.vlen;have hl64:(tl m++p.take q).length=64:=by rw[List.length_append]; omega
    have hlt:(64:Int)≤(((tl m++p.take q).length:Nat):Int):=by omega
    have st2:Step H1 (H2.set s (some ⟨zao,(hs kc m).map w32++[bv2,.int .u64 ((m.length+p.length:Nat):Int),.ptr c 0],none⟩)) (s::c::Fb) (s::c::Fb2):=((s2.cons c).cons s).trans (Step.set _ (by simp));simp(disch:=omega)only[↓RD,RZ,eq_self,seval,g2,i8,q8,ql,c2,o2,hb2,hbl2,hlt];clear g2;generalize H2.set s _=H3 at *;have g3:=k2.gs;have npid:bv2.pid≠some s∧bv2.pid≠some c:=⟨λe=>(n2 s (k2.bf.pid s e)).1 rfl,λe=>(n2 c (k2.bf.pid c e)).2 rfl⟩;refine zae (k2.piece k2.bf.by (Ok8.app (Ok8.drop hm8 _) (h8.take q)) hl64 npid.1 npid.2) ?_;rintro _ H4 ⟨rfl,k4,s4⟩;rw[←hs_fill (by omega)]at k4;obtain⟨bv5,hcut,b5⟩:=k4.bf.cut hl64;have hcut2:∀{k':IntKind},zaA .sl 1 bv2 none (some (.int k' 0)) none=some bv5:=hcut;have j8:=st8 k4.hl;have r8:=sp8 k4.hl;have rl:=stl k4.hl;have g4:=k4.gs;have c5:=b5.cells1;have o5:=b5.okc;simp(disch:=omega)only[↓RD,RZ,eq_self,seval,g4,j8,hcut2,r8,rl,c5,o5];have st5:=st2.trans ((zp0 s4 Fb2).trans (Step.set (H:=H4) (some ⟨zao,(hs kc (m++p.take q)).map w32++[bv5,.int .u64 ((m.length+p.length:Nat):Int),.ptr c 0],none⟩) (by simp:s∈s::c::Fb2)));refine .inr ⟨vb,q,bv5,Fb2,rfl,by omega,by omega,pb,hvb.stepF st5 λi hi=>hd i (pb ▸ hi),?_,st5⟩;obtain⟨d4,hd4⟩:=k4.gc;exact⟨zai _ _ _,⟨d4,by rw[zaj _ _ (Ne.symm k4.ne)]; exact hd4⟩,b5.to (by rw[zan]; exact Nat.le_refl _) λi hi=>zaj _ _ (n2 i hi).1,k4.hl,k4.ne,k4.sb,k4.cb,by rw[zan]; exact k4.sl,by rw[zan]; exact k4.cl⟩
  ·simp(disch:=omega)only[↓RD,RZ];refine .inr ⟨v,0,bv,Fb,rfl,by omega,by omega,rfl,by simpa using hv1,?_,Step.refl _ _⟩;have:tl m=[]:=List.eq_nil_of_length_eq_zero (by omega);rw[this]at k1;simpa using k1
 ·rintro r H2 (⟨rfl,F',k2,s2⟩|⟨v1,q,bv1,Fb1,rfl,hq,hmq,p1,b1,k2,s2⟩)
  ·simp(disch:=omega)only[↓RD,RZ];exact⟨rfl,F',k2,s1.trans s2⟩
  ·have hlq:(p.take q).length=q:=by rw[List.length_take]; omega
   have hlm:(m++p.take q).length=m.length+q:=by rw[List.length_append,hlq]
   have hd1:∀i,v1.pid=some i→i∉s::c::Fb1:=λi hi hF=>by
    have:=hd i (p1 ▸ hi);rcases s2.own i hF with h|h
    ·exact this h
    ·have:=(hv1.own i (p1 ▸ hi)).2;omega
   simp(disch:=omega)only[↓RD,RZ];refine zam (zvp k2 (by rw[hlm]; exact hmq) b1 (h8.drop q) hd1) ?_;rintro _ H3 ⟨v3,rfl,p3,b3,k3,s3⟩;have i8':=st8 k3.hl;have r8:=sp8 k3.hl;have rl:=stl k3.hl;have g3:=k3.gs;have hld:(p.drop q).length=p.length-q:=List.length_drop;have hlt:((p.drop q).drop (64*((p.drop q).length/64))).length<64:=by rw[List.length_drop]; omega
   have hk3m:(m++p.take q++(p.drop q).take (64*((p.drop q).length/64))).length%64=0:=by rw[List.length_append,hlm,List.length_take]; omega
   simp(disch:=omega)only[↓RD,RZ,g3,i8'];refine k3.rest b3 (by rw[List.length_nil]; omega) λbv4 H4 Fb4 k4 g4 c4 o4 s4 n4=>?_;simp(disch:=omega)only[↓RD,RZ,eq_self,seval,g4,r8,rl,c4,o4];refine⟨rfl,s::c::Fb4,⟨c,bv4,Fb4,rfl,?_,hm8.app h8⟩,s1.trans (s2.trans (s3.trans (((s4.cons c).cons s).trans (Step.set _ (by simp)))))⟩;have ep:m++p=(m++p.take q++(p.drop q).take (64*((p.drop q).length/64)))++(p.drop q).drop (64*((p.drop q).length/64)):=by
    rw[List.append_assoc,List.take_append_drop,List.append_assoc,List.take_append_drop]
   obtain⟨e1,e2⟩:=hs_few (ks:=kc) (m:=m++p.take q++(p.drop q).take (64*((p.drop q).length/64))) (l:=(p.drop q).drop (64*((p.drop q).length/64))) (by omega);rw[tl_whole hk3m]at e2;rw[List.length_append];rw[ep,e1,e2];exact k4
end Go.Ax.SU
