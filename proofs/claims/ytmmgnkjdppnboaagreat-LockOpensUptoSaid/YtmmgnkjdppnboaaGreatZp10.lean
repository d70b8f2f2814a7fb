/-
  Texts of mine, put together by program (wip/slim.py), for law_lockOpens: part 10.
-/
import Derived.Test.YtmmgnkjdppnboaaGreatZp9
import Derived.Defers
import Derived.Laws.Pointers
import Derived.Laws.LoneSync
noncomputable section
set_option linter.unusedVariables false
set_option linter.unusedSimpArgs false
set_option linter.defProp false
set_option maxRecDepth 100000
/- Once1 -/
namespace Go.Ax
open Go.Proofs
theorem zpG (w:World):(callFunc 138 #[]).run Tryz.prog w = .ok (.value (.tuple #[])) w:=run_call_mark0 Tryz.func138 (by kernel_rfl) (by kernel_rfl) (by kernel_rfl) .disable (by kernel_rfl) w
theorem zrP (w:World):(callFunc 140 #[]).run Tryz.prog w = .ok (.value (.tuple #[])) w:=run_call_mark0 Tryz.func140 (by kernel_rfl) (by kernel_rfl) (by kernel_rfl) .enable (by kernel_rfl) w
theorem zuq (a:Addr) (w:World):(callFunc 141 #[.pointer (some a)]).run Tryz.prog w = .ok (.value (.tuple #[])) w:=run_call_marked Tryz.func141 (by kernel_rfl) (by kernel_rfl) (by kernel_rfl) .acquire (by kernel_rfl) a w
theorem zup (a:Addr) (w:World):(callFunc 143 #[.pointer (some a)]).run Tryz.prog w = .ok (.value (.tuple #[])) w:=run_call_marked Tryz.func143 (by kernel_rfl) (by kernel_rfl) (by kernel_rfl) .releaseMerge (by kernel_rfl) a w
set_option maxRecDepth 100000 in
set_option maxHeartbeats 1600000 in
theorem o_store (a:Addr) (x:Value) (u:FrameMode) (w:World) (hc:w.cell? a = some x) (hz:w.frozen? a = false) :
  CallsD Tryz.prog 127 #[.pointer (some a),.bool true] u w fun e u' w'=>u' = u ∧ (e = .returned (.tuple #[]) ∧ w' = w.drew.setCell a (.int .u32 1)):=by
 have hc':w.drew.cell? a = some x:=by go_simp
 have hz':w.drew.frozen? a = false:=by go_simp
 have hst:=run_call_store (P:=Tryz.prog) Tryz.func134 (by kernel_rfl) (by kernel_rfl) (by kernel_rfl) (by kernel_rfl) (k:=.u32) (y:=1) hc' hz'
 go_enter_d Tryz.func127,Tryz.ntmps127
 go_wp2
 go_region_calls
 all_goals (go_end0; exact ⟨rfl,rfl⟩)
set_option maxRecDepth 100000 in
set_option maxHeartbeats 1600000 in
theorem o_unlock (a:Addr) (u:FrameMode) (w:World) (hc:w.cell? a = some (.int .i32 1)) (hz:w.frozen? a = false) :
  CallsD Tryz.prog 126 #[.pointer (some a)] u w fun e u' w'=>u' = u ∧ (e = .returned (.tuple #[]) ∧ w' = w.setCell a (.int .i32 0)):=by
 have hd:=zpG;have he:=zrP;have hr:=zup;have hadd:=run_call_add (P:=Tryz.prog) Tryz.func144 (by kernel_rfl) (by kernel_rfl) (by kernel_rfl) .i32 (by kernel_rfl) (y:=-1) (s:=0) hc hz (by simp [go_sem]; rfl);have hcv:=run_convert_to_unsafe (P:=Tryz.prog) (src:=222) (dst:=226) Tryz.underlying222 Tryz.underlying226 (by kernel_rfl) hc
 go_enter_d Tryz.func126,Tryz.ntmps126
 go_wp2
 go_end0
 go_wp2
 go_end0
 exact ⟨rfl,rfl⟩
set_option maxRecDepth 100000 in
set_option maxHeartbeats 1600000 in
theorem o_lock (a:Addr) (w:World) (hc:w.cell? a = some (.int .i32 0)) (hz:w.frozen? a = false) :
  Calls Tryz.prog 125 #[.pointer (some a)] w fun e w'=>e = .returned (.tuple #[]) ∧ w' = w.setCell a (.int .i32 1):=by
 have hd:=zpG;have he:=zrP;have ha:=zuq;have hcas:=run_call_cas_hit (P:=Tryz.prog) Tryz.func139 (by kernel_rfl) (by kernel_rfl) (by kernel_rfl) .i32 (by kernel_rfl) (y:=1) hc hz;have hc':(w.setCell a (.int .i32 1)).cell? a = some (.int .i32 1):=World.cell?_setCell_same w a _ hc;have hcv:=run_convert_to_unsafe (P:=Tryz.prog) (src:=222) (dst:=226) Tryz.underlying222 Tryz.underlying226 (by kernel_rfl) hc'
 go_enter Tryz.func125,Tryz.ntmps125
 go_wp2
 first | go_end0 | (simp only [Exit.inBlock,Exit.then]; refine bodyPost_ret (results_none rfl _ _ _) rfl ?_) | refine bodyPost_ret (results_none rfl _ _ _) rfl ?_
 go_wp2
 go_end0
 exact ⟨rfl,rfl⟩
set_option maxRecDepth 100000 in
set_option maxHeartbeats 1600000 in
theorem o_slow (g:FuncId) (gfn:Func) (hg:Tryz.prog.funcs[g]? = some gfn) (hgb:gfn.body.isSome = true) (hgn:(gfn.name == "runtime.NumGoroutine") = false) (caps:Array Value) (b off:Nat) (w:World) (R:World → Prop)
  (h0:w.cell? ⟨b,off,none⟩ = some (.int .u32 0)) (h1:w.cell? ⟨b,off + 1,none⟩ = some (.int .i32 0)) (f1:w.frozen? ⟨b,off + 1,none⟩ = false)
  (hR:Calls Tryz.prog g caps (w.setCell ⟨b,off + 1,none⟩ (.int .i32 1)) fun e w'=>∃ x,e = .returned x ∧ R w')
  (hR0:∀ w',R w' → w'.cell? ⟨b,off,none⟩ = some (.int .u32 0) ∧ w'.cell? ⟨b,off + 1,none⟩ = some (.int .i32 1) ∧ w'.frozen? ⟨b,off,none⟩ = false ∧ w'.frozen? ⟨b,off + 1,none⟩ = false) :
  Calls Tryz.prog 115 #[.pointer (some ⟨b,off,none⟩),.func (.func g) #[] caps] w fun e w'=>e = .returned (.tuple #[]) ∧
   ∃ w1,R w1 ∧ w' = (w1.drew.setCell ⟨b,off,none⟩ (.int .u32 1)).setCell ⟨b,off + 1,none⟩ (.int .i32 0):=by
 have hl:=run_call_load (P:=Tryz.prog) Tryz.func124 (by kernel_rfl) (by kernel_rfl) (by kernel_rfl) .u32 (by kernel_rfl) (w:=w.setCell ⟨b,off + 1,none⟩ (.int .i32 1)) (a:=⟨b,off,none⟩) (x:=0) ((World.cell?_setCell_other _ ⟨b,off + 1,none⟩ ⟨b,off,none⟩ _ (by simp)).trans h0);have hnot:∀ (x:Bool) (w:World),(Op.unary .not (.bool x)).run Tryz.prog w = .ok (.bool (!x)) w:=fun _ _=>rfl;have hgn':gfn.name ≠ "runtime.NumGoroutine":=by simpa using hgn
 have hgb':gfn.body ≠ none:=by intro h; rw [h] at hgb; cases hgb
 have hcf:∀ w:World,(callFunc g caps).run Tryz.prog w = .ok (.enter g caps) w:=fun w=>by simp [callFunc,hg,hgn',hgb']
 go_enter_defers Tryz.func115,Tryz.ntmps115
 go_wp2_with (first | (go_at_call 114; go_in) | (go_at_call 125; refine (o_lock ⟨b,off + 1,none⟩ _ (by go_simp) (by go_simp)).mono ?_; rintro e w' ⟨rfl,rfl⟩) | (refine Calls.mono hR ?_; rintro e w1 ⟨x,rfl,hRw⟩; obtain ⟨k0,k1,z0,z1⟩:=hR0 _ hRw))
 refine leaves_cons (f:=127) (args:=#[.pointer (some ⟨b,off,none⟩),.bool true]) (by simp) (by simp [go_sem]) ?_;refine (o_store ⟨b,off,none⟩ (.int .u32 0) .returning w1 k0 z0).mono ?_;rintro e u' w'' ⟨rfl,rfl,rfl⟩;have c1:(w1.drew.setCell ⟨b,off,none⟩ (.int .u32 1)).cell? ⟨b,off + 1,none⟩ = some (.int .i32 1):=(World.cell?_setCell_other _ ⟨b,off,none⟩ ⟨b,off + 1,none⟩ _ (by simp)).trans (by rw [World.cell?_drew]; exact k1);refine leaves_cons (f:=126) (args:=#[.pointer (some ⟨b,off + 1,none⟩)]) (by simp [settle]) (by simp [go_sem]) ?_;refine (o_unlock ⟨b,off + 1,none⟩ _ _ c1 (by simp [z1])).mono ?_;rintro e u' w'' ⟨rfl,rfl,rfl⟩;refine ⟨.tuple #[],by simp [Go.results,Tryz.results115],rfl,w1,hRw,rfl⟩
end Go.Ax
/- Once -/
namespace Go.Ax
open Go.Proofs
set_option maxRecDepth 100000 in
set_option maxHeartbeats 1600000 in
theorem o_first (g:FuncId) (gfn:Func) (hg:Tryz.prog.funcs[g]? = some gfn) (hgb:gfn.body.isSome = true) (hgn:(gfn.name == "runtime.NumGoroutine") = false) (caps:Array Value) (b off:Nat) (w:World) (R:World → Prop)
  (h0:w.cell? ⟨b,off,none⟩ = some (.int .u32 0)) (h1:w.cell? ⟨b,off + 1,none⟩ = some (.int .i32 0)) (f1:w.frozen? ⟨b,off + 1,none⟩ = false)
  (hR:Calls Tryz.prog g caps (w.setCell ⟨b,off + 1,none⟩ (.int .i32 1)) fun e w'=>∃ x,e = .returned x ∧ R w')
  (hR0:∀ w',R w' → w'.cell? ⟨b,off,none⟩ = some (.int .u32 0) ∧ w'.cell? ⟨b,off + 1,none⟩ = some (.int .i32 1) ∧ w'.frozen? ⟨b,off,none⟩ = false ∧ w'.frozen? ⟨b,off + 1,none⟩ = false) :
  Calls Tryz.prog 103 #[.pointer (some ⟨b,off,none⟩),.func (.func g) #[] caps] w fun e w'=>e = .returned (.tuple #[]) ∧
   ∃ w1,R w1 ∧ w' = (w1.drew.setCell ⟨b,off,none⟩ (.int .u32 1)).setCell ⟨b,off + 1,none⟩ (.int .i32 0):=by
 have hl:=run_call_load (P:=Tryz.prog) Tryz.func124 (by kernel_rfl) (by kernel_rfl) (by kernel_rfl) .u32 (by kernel_rfl) h0;have hnot:∀ (x:Bool) (w:World),(Op.unary .not (.bool x)).run Tryz.prog w = .ok (.bool (!x)) w:=fun _ _=>rfl
 go_enter Tryz.func103,Tryz.ntmps103
 go_wp2_with (first | (go_at_call 115; refine (o_slow g gfn hg hgb hgn caps b off _ R h0 h1 f1 hR hR0).mono ?_; rintro e w' ⟨rfl,w1,hw1,rfl⟩) | (go_at_call 114; go_in))
 go_end0
 exact ⟨rfl,_,hw1,rfl⟩
theorem o_done (a:Addr) (d:Int) (hd:¬ d = 0) (fv:Value) (w:World) (h0:w.cell? a = some (.int .u32 d)) :
  Calls Tryz.prog 103 #[.pointer (some a),fv] w fun e w'=>e = .returned (.tuple #[]) ∧ w' = w:=by
 have hl:=run_call_load (P:=Tryz.prog) Tryz.func124 (by kernel_rfl) (by kernel_rfl) (by kernel_rfl) .u32 (by kernel_rfl) h0;have hnot:∀ (x:Bool) (w:World),(Op.unary .not (.bool x)).run Tryz.prog w = .ok (.bool (!x)) w:=fun _ _=>rfl;have hd':(d != 0) = true:=by simp [hd]
 go_enter Tryz.func103,Tryz.ntmps103
 go_wp2
 go_end0
 exact ⟨rfl,rfl⟩
theorem once_fn:FnOk Tryz.prog 103 zls:=by
 intro G args H v H' hG hl h;obtain ⟨p,g,rfl,rfl,d,hld,hcase⟩:=once_run hl h;refine ⟨?_,?_,_,Tryz.func103,by kernel_rfl,by kernel_rfl⟩
 ·rcases hcase with ⟨_,rfl⟩ | ⟨_,id,off,b,_,hb,_,_,f,caps,x,H2,b2,_,hcall,hb2,_,_,rfl⟩
  ·exact le_refl _
  ·exact le_trans (zh4 hb _) (le_trans (hG _ _ _ _ _ hcall).1 (le_trans (zh4 hb2 _) (zh4 (b:={ b2 with cells:=splice b2.cells off [.int .u32 1] }) (by simp [Heap.set]) _)))
 ·intro m Z w xs hr hf hxs;obtain ⟨X,Y,rfl⟩:∃ X Y,xs = [X,Y]:=by
   have:=hxs.1
   match xs,this with
   | [X,Y],_=>exact ⟨X,Y,rfl⟩
  have hX:Rep m Z w p X:=hxs.2 0 p X rfl rfl;have hY:Rep m Z w g Y:=hxs.2 1 g Y rfl rfl;obtain ⟨_,a,x,rfl,hc,hx⟩:=zsT hld hX hr;have hx:=hx.inv_int;subst hx;rcases hcase with ⟨hd,rfl⟩ | ⟨rfl,id,off,b,rfl,hb,hc0,hc1,f,caps,x,H2,b2,rfl,hcall,hb2,hc2,hc3,rfl⟩
  ·refine (o_done a d hd Y w hc).mono ?_;rintro e w' ⟨rfl,rfl⟩;exact ⟨m,Z,.tuple #[],rfl,.tup rfl fun j v x hv=>by simp at hv,hr,.refl _ _ _ _⟩
  ·obtain ⟨l,hm,hXe⟩:=hX.inv_ptr;injection hXe with hXe
   injection hXe with hXe
   subst hXe;obtain ⟨⟨x1,hx1,hr1⟩,f1⟩:=ziH hr hb hm hc1;have hr1:=hr1.inv_int;subst hr1;obtain ⟨cv,rfl,hcl,hcr⟩:∃ cv:Array Value,Y = .func (.func f) #[] cv ∧ cv.size = caps.length ∧ ∀ (j:Nat) (v:V) (x:Value),caps[j]? = some v → cv[j]? = some x → Rep m Z w v x:=by
    cases hY with
    | fn hl h=>exact ⟨_,rfl,hl,h⟩
   have eo:off + 1 + l.bo = off + l.bo + 1:=by omega
   have hlen:off + 1 + 1 ≤ b.cells.length:=by
    have:=(List.getElem?_eq_some_iff.1 hc1).1;omega
   obtain ⟨r1,e1⟩:=zke Tryz.prog (v:=.int .i32 1) (x:=.int .i32 1) hr hb hm (.int _ _) rfl hlen;rw [eo] at r1 e1 hx1 f1;obtain ⟨_,hcalls,gfn,hgfn,hgb,hgn⟩:=hG _ _ _ _ _ hcall;have hcv:=hcalls m Z _ cv.toList r1 (fun i h1 h2=>hf i (by simpa [Heap.set] using h1) (by simpa [Heap.set] using h2))
    ⟨by simpa using hcl,fun j v x hv hx=>(hcr j v x hv (by simpa using hx)).ext hr e1⟩
   refine (o_first f gfn hgfn hgb hgn cv l.blk (off + l.bo) w (fun w2=>∃ m2 Z2,RelH m2 Z2 H2 w2 ∧ Ext m Z (H.set id (some { b with cells:=splice b.cells (off + 1) [.int .i32 1] })) (w.setCell ⟨l.blk,off + l.bo + 1,none⟩ (.int .i32 1)) m2 Z2 H2 w2) hc hx1 f1 (hcv.mono ?_) ?_).mono ?_
   ·rintro e w2 ⟨m2,Z2,x2,rfl,_,r2,e2⟩;exact ⟨x2,rfl,m2,Z2,r2,e2⟩
   ·rintro w2 ⟨m2,Z2,r2,e2⟩;have hm2:AtC m2 id l:=⟨e2.map id l hm.1,hm.2⟩;obtain ⟨⟨y0,hy0,q0⟩,z0⟩:=ziH r2 hb2 hm2 hc2;obtain ⟨⟨y1,hy1,q1⟩,z1⟩:=ziH r2 hb2 hm2 hc3;have q0:=q0.inv_int;have q1:=q1.inv_int;subst q0 q1;rw [eo] at hy1 z1;exact ⟨hy0,hy1,z0,z1⟩
   ·rintro e w' ⟨rfl,w1,⟨m2,Z2,r2,e2⟩,rfl⟩;have hm2:AtC m2 id l:=⟨e2.map id l hm.1,hm.2⟩;have hl2:off + 1 + 1 ≤ b2.cells.length:=by
     have:=(List.getElem?_eq_some_iff.1 hc3).1;omega
    obtain ⟨r3,e3⟩:=zke Tryz.prog (v:=.int .u32 1) (x:=.int .u32 1) r2.drew hb2 hm2 (.int _ _) rfl (by omega:off + 1 ≤ b2.cells.length);have hb3:(H2.set id (some { b2 with cells:=splice b2.cells off [.int .u32 1] })).get id = some { b2 with cells:=splice b2.cells off [.int .u32 1] }:=by simp [Heap.set]
    obtain ⟨r4,e4⟩:=zke Tryz.prog (off:=off + 1) (v:=.int .i32 0) (x:=.int .i32 0) r3 hb3 hm2 (.int _ _) rfl (by
     show off + 1 + 1 ≤ (splice b2.cells off [.int .u32 1]).length;rw [zeB _ _ _ (by simpa using (by omega:off + 1 ≤ b2.cells.length))];exact hl2)
    rw [eo] at r4 e4;exact ⟨m2,Z2,.tuple #[],rfl,.tup rfl fun j v x hv=>by simp at hv,r4,(e1.trans e2).trans ((Ext.drew m2 Z2 H2 w1).trans (e3.trans e4))⟩
theorem zsL:((List.range Tryz.prog.funcs.size).all fun i=>i == 103 || (match Tryz.prog.funcs[i]? with | some fn=>!(fn.name == "(*sync.Once).Do") | none=>true)) = true:=by kernel_rfl
set_option maxRecDepth 100000 in
theorem once_ok (f:FuncId) (fn:Func) (hf:Tryz.prog.funcs[f]? = some fn) (hn:(fn.name == "(*sync.Once).Do") = true):FnOk Tryz.prog f zls:=by
 have h1:f < Tryz.prog.funcs.size:=(Array.getElem?_eq_some_iff.1 hf).1;have h2:=List.all_eq_true.1 zsL f (List.mem_range.2 h1);rw [hf] at h2;simp only [hn,Bool.not_true,Bool.or_false,beq_iff_eq] at h2;subst h2;exact once_fn
end Go.Ax
/- Drop -/
namespace Go.Ax
open Go.Proofs
def DropR (m:Map) (Z:Nat → Prop) (H:Heap) (w:World) (H1 H2 H3:Heap) (i:Nat) (w':World):Prop :=
 RelH m Z (if i = 0 then H else if i = 1 then H1 else if i = 2 then H2 else H3) w' ∧ Ext m Z H w m Z (if i = 0 then H else if i = 1 then H1 else if i = 2 then H2 else H3) w'
theorem zmi {m:Map} {Z:Nat → Prop} {Ha Hb:Heap} {w':World} {p:Bool} {id off:Nat} {n:Int} {l:Loc} (s:zlK p id off n Ha Hb) (hm:AtC m id l) (r:RelH m Z Ha w') :
  ∃ bm es clock,w'.cell? ⟨l.blk,off + l.bo,none⟩ = some (.map (some bm)) ∧ w'.heap[bm]? = some (.map es clock) ∧ Goes p es.toList clock ∧ l.blk ≠ bm ∧
   ∀ rr seen c0 w'',Drp w' bm rr clock (es.toList.filter fun e=>za7 p n e.key) seen c0 w'' → RelH m Z Hb w'' ∧ Ext m Z Ha w' m Z Hb w'':=by
 obtain ⟨b0,i,b,cs,h0,hc,hb,hf,rfl⟩:=s;obtain ⟨⟨x,hx,hr⟩,_⟩:=ziH r h0 hm hc;obtain ⟨li,hmi,rfl⟩:=hr.inv_mp;obtain ⟨es,clock,L⟩:=r.atM hb hmi;obtain ⟨g,he⟩:=goes_of L hf;refine ⟨li.blk,es,clock,hx,L.heap,g,fun e=>?_,fun rr seen c0 w'' d=>drp_rel r hb hmi L List.filter_sublist he d⟩;obtain ⟨cur,fz,hL⟩:=r.at_ h0 hm;have h1:=hL.heap;rw [e,L.heap] at h1;cases h1
theorem drop_fn:FnOk Tryz.prog 24 zlI:=by
 intro G args H v H' hG hl h;obtain ⟨id,off,n,H1,H2,rfl,rfl,s1,s2,s3⟩:=drop_run hl h;refine ⟨le_trans s1.le (le_trans s2.le s3.le),?_,_,Tryz.func24,by kernel_rfl,by kernel_rfl⟩;intro m Z w xs hr hf hxs;obtain ⟨X,Y,rfl⟩:∃ X Y,xs = [X,Y]:=by
  have:=hxs.1
  match xs,this with
  | [X,Y],_=>exact ⟨X,Y,rfl⟩
 have hX:Rep m Z w (.ptr id off) X:=hxs.2 0 _ X rfl rfl;have hY:Rep m Z w (.int .i64 n) Y:=hxs.2 1 _ Y rfl rfl;have hY:=hY.inv_int;subst hY;obtain ⟨l,hm,rfl⟩:=hX.inv_ptr;refine (d_drop l.blk (off + l.bo) n w (DropR m Z H w H1 H2 H') ⟨hr,.refl _ _ _ _⟩ ?_).mono ?_
 ·rintro i w' hi ⟨r,e⟩
  match i,hi with
  | 0,_ =>
   obtain ⟨bm,es,clock,h1,h2,h3,h4,h5⟩:=zmi s1 hm r;rw [show off + 1 + l.bo = off + l.bo + (0 + 1) by omega] at h1;exact ⟨bm,es,clock,h1,h2,h3,h4,fun rr seen c0 w'' d=>⟨(h5 rr seen c0 w'' d).1,e.trans (h5 rr seen c0 w'' d).2⟩⟩
  | 1,_ =>
   obtain ⟨bm,es,clock,h1,h2,h3,h4,h5⟩:=zmi s2 hm r;rw [show off + 2 + l.bo = off + l.bo + (1 + 1) by omega] at h1;exact ⟨bm,es,clock,h1,h2,h3,h4,fun rr seen c0 w'' d=>⟨(h5 rr seen c0 w'' d).1,e.trans (h5 rr seen c0 w'' d).2⟩⟩
  | 2,_ =>
   obtain ⟨bm,es,clock,h1,h2,h3,h4,h5⟩:=zmi s3 hm r;rw [show off + 3 + l.bo = off + l.bo + (2 + 1) by omega] at h1;exact ⟨bm,es,clock,h1,h2,h3,h4,fun rr seen c0 w'' d=>⟨(h5 rr seen c0 w'' d).1,e.trans (h5 rr seen c0 w'' d).2⟩⟩
 ·rintro e w' ⟨rfl,r,ee⟩;exact ⟨m,Z,.tuple #[],rfl,.tup rfl fun j v x hv=>by simp at hv,r,ee⟩
theorem ztb:((List.range Tryz.prog.funcs.size).all fun i=>i == 24 || (match Tryz.prog.funcs[i]? with | some fn=>!(fn.name == "(*palanquin/lock.Receiver).Drop") | none=>true)) = true:=by kernel_rfl
set_option maxRecDepth 100000 in
theorem drop_ok (f:FuncId) (fn:Func) (hf:Tryz.prog.funcs[f]? = some fn) (hn:(fn.name == "(*palanquin/lock.Receiver).Drop") = true):FnOk Tryz.prog f zlI:=by
 have h1:f < Tryz.prog.funcs.size:=(Array.getElem?_eq_some_iff.1 hf).1;have h2:=List.all_eq_true.1 ztb f (List.mem_range.2 h1);rw [hf] at h2;simp only [hn,Bool.not_true,Bool.or_false,beq_iff_eq] at h2;subst h2;exact drop_fn
end Go.Ax
/- FnS0 -/
namespace Go.Ax
open Go.Proofs
def zad:TypeId:=5
def zar:TypeId:=22
def zaJ:TypeId:=38
def zaU:TypeId:=50
def zak:TypeId:=53
def zah:TypeId:=55
def zg8:TypeId:=57
def zd5:TypeId:=67
def zh7:TypeId:=69
def zaq:TypeId:=76
def zaG:TypeId:=88
def zcJ:TypeId:=89
def zdL:TypeId:=90
def zd6:TypeId:=91
def zcH:TypeId:=93
def zae:TypeId:=94
def zat:TypeId:=109
def za3:TypeId:=118
def zaL:TypeId:=121
def zaR:TypeId:=137
def zaN:TypeId:=141
def zav:TypeId:=148
def zaa:TypeId:=150
def zaT:TypeId:=173
def zap:TypeId:=184
def zau:TypeId:=185
def zbJ:TypeId:=194
def zdg:TypeId:=196
def zbh:TypeId:=199
def zaH:TypeId:=201
def zaw:TypeId:=203
def zfq:FuncId:=3
def zdb:FuncId:=8
def zc2:FuncId:=32
def zbO:FuncId:=9
def zce:FuncId:=10
def zbp:FuncId:=33
def zbo:FuncId:=59
def zbI:FuncId:=83
def zaS:FuncId:=49
def zcc:FuncId:=96
def zcB:FuncId:=97
def zam:FuncId:=111
def za8:FuncId:=34
def zcf:FuncId:=11
def zdG:FuncId:=12
def ziP:FuncId:=35
def zhR:FuncId:=36
def zbS:FuncId:=37
def zej:FuncId:=60
def zhl:FuncId:=84
def zfr:FuncId:=98
def zeL:FuncId:=99
def zbg:FuncId:=100
def zbj:FuncId:=112
def zc7:FuncId:=121
def zcE:FuncId:=128
def zbX:FuncId:=129
def zco:FuncId:=130
def zew:FuncId:=136
def zcI:FuncId:=146
def zev:FuncId:=147
def zd1:FuncId:=156
def zd2:FuncId:=157
def zfa:FuncId:=160
def zcx:FuncId:=137
def zbG:FuncId:=148
def zda:FuncId:=103
def zfl:FuncId:=122
def zaD:FuncId:=123
def zbQ:FuncId:=131
def zb8:FuncId:=102
def zcR:FuncId:=113
def zhk:FuncId:=101
def zbA:FuncId:=61
def zd3:FuncId:=62
def zgL:FuncId:=63
def zbm:FuncId:=85
def zcS:FuncId:=104
def zcq:FuncId:=105
def zbk:FuncId:=86
def zcp:FuncId:=106
def za4:FuncId:=116
def zb7:FuncId:=13
def zb6:FuncId:=18
def zfk:FuncId:=38
def zcr:FuncId:=64
def zdw:FuncId:=65
def zdl:FuncId:=14
def zdD:FuncId:=39
def zeK:FuncId:=66
def zdP:FuncId:=87
def zcv:FuncId:=67
def zcw:FuncId:=68
def zeI:FuncId:=88
def zei:FuncId:=108
def zeh:FuncId:=120
def zcT:FuncId:=107
def zdr:FuncId:=117
def zdH:FuncId:=118
def zfm:FuncId:=119
def zb4:FuncId:=70
def zf5:FuncId:=69
def zbr:FuncId:=15
def zdQ:FuncId:=40
def zek:FuncId:=71
def zdq:FuncId:=72
def zgK:FuncId:=41
def zcO:FuncId:=42
def zeH:FuncId:=43
def zfj:FuncId:=73
def zdF:FuncId:=90
def zdk:FuncId:=44
def zeo:FuncId:=74
def zeJ:FuncId:=91
def zc6:FuncId:=45
def zdE:FuncId:=46
def zhQ:FuncId:=75
def zfi:FuncId:=47
def ziO:FuncId:=16
def zgm:FuncId:=4
def zkw:FuncId:=17
def zgl:FuncId:=5
def za9:FuncId:=19
def zf4:FuncId:=20
def zbW:FuncId:=26
def zih:FuncId:=48
def zbq:FuncId:=27
def zcb:FuncId:=50
def zb5:FuncId:=76
def zax:FuncId:=77
def zaM:FuncId:=92
def zfG:FuncId:=21
def zbD:FuncId:=28
def zb1:FuncId:=51
def zbC:FuncId:=78
def za1:FuncId:=52
def za2:FuncId:=53
def zcC:FuncId:=79
def zbU:FuncId:=94
def zbd:FuncId:=93
def zbT:FuncId:=109
def zb0:FuncId:=110
def zbe:FuncId:=55
def zbV:FuncId:=54
def zcd:FuncId:=22
def zbF:FuncId:=6
def zbi:FuncId:=23
def zaO:FuncId:=31
def zcQ:FuncId:=24
def zbb:FuncId:=25
def zba:FuncId:=29
def zaW:FuncId:=56
def zbN:FuncId:=80
def zbB:FuncId:=81
def zcD:FuncId:=57
def zcP:FuncId:=82
def zbu:FuncId:=95
def zbE:FuncId:=58
def zbP:FuncId:=30
def zgC:FuncId:=7
def hintRows:List (Nat × List (List Nat)):=[
 (zfq,[]),
 (zdb,[]),
 (zc2,[[]]),
 (zbO,[]),
 (zce,[[6],[6,7],[6]]),
 (zbp,[]),
 (zbo,[[],[9],[],[10],[0,1,2,3],[5]]),
 (zbI,[[],[8],[],[],[6],[],[0,1,2,3,4,5,6,7,8],[3],[3],[3]]),
 (zaS,[[7],[7,8],[7]]),
 (zcc,[]),
 (zcB,[[],[19],[],[0,1,2,3,4,5,6,7,8,9],[],[13],[],[0,1,3,4,7,8,2,5,9,6,10,11],[0,1,2,3,4,5,6,7,8,9,10,11,12,13,14],[0,1,3,4,7,8,2,5,9,6,10,11],[],[9],[],[0,1,2,3,4,5,6,7,8,9,10,11,12,13,14,15],[0,1,2,3,5,6,7,8,11,12,13,14,15,4,9,10,16,17],[0,1,2,3,5,6,7,8,11,12,13,14,15,4,9,10,16,17],[],[8],[],[0,1,2,3,4,5,6,7,8,9,10,11,12,13,14,15,16,17,18,19,20,21,22,23,24,25,26,27,28,29,30,31,32,33,34,35]]),
 (zam,[]),
 (za8,[[8],[8,9,10],[8,9]]),
 (zcf,[]),
 (zdG,[[]]),
 (ziP,[]),
 (zhR,[]),
 (zbS,[[0,3,1,2,4,5,6,7,8,9,10],[0,3,5,6,1,2,4,7,8,9,10,11,12]]),
 (zej,[]),
 (zhl,[[0,2,1,3,4,5],[],[24],[],[0]]),
 (zfr,[[],[9],[]]),
 (zeL,[]),
 (zbg,[[1],[1],[],[1],[0,1,2,3,4,5,6,7,8,9,10,11]]),
 (zbj,[[],[157],[],[0,1,2,3,4,5,6,7,8,9,10,11,12,13],[],[75],[],[0,2,5,8,9,10,11,12,13,14,15,16,17,18,19,20,21,22,1,3,6,4,7,23,24],[0,1,2,4,7,11,12,13,14,15,16,17,18,19,20,22,23,24,25,26,28,29,30,3,5,8,6,9,10,21,27,31,32],[0,1,2,3,4,5],[],[21],[],[0,1,2,3,4,5,7,10,11,14,15,16,17,19,21,24,25,6,8,20,22,9,12,13,18,23,26,27,28,29],[0,1,2,3,4,5,6,7,8,9]]),
 (zc7,[]),
 (zcE,[[],[1,3],[1],[0,1,2,3,5,6,4,7,8],[1],[1],[1]]),
 (zbX,[[],[3],[]]),
 (zco,[[3],[3],[3],[3],[3],[3]]),
 (zew,[]),
 (zcI,[]),
 (zev,[[4],[4],[0,3],[]]),
 (zd1,[]),
 (zd2,[[0],[0]]),
 (zfa,[]),
 (zcx,[]),
 (zbG,[]),
 (zda,[[]]),
 (zfl,[[0,1,2,3,4,5,6,7,8,9,10,11,12,13,14,15,16,17,18,19,20,21,22]]),
 (zaD,[]),
 (zbQ,[]),
 (zb8,[[],[50],[],[5],[5,6],[5],[5],[5],[5]]),
 (zcR,[]),
 (zhk,[[],[13],[]]),
 (zbA,[[5],[5,6],[5]]),
 (zd3,[[8],[8,9,10],[8,9],[]]),
 (zgL,[[],[8,9],[8],[0,1,2,3,4,5,6,7,8,9,10],[],[134],[],[0,1,2,3,4,5,6,7,8,9,10,11,12,13,14,15,16],[8],[8],[0,1,2,3,4,5,6,7,8,9,10,11,12,13,14,15,16,17,18,19,20,21,22,23,24,25,26,27],[],[0,1,2,3,4,5,6,7,8,9,10,11,12,13,14,15,16,17,18,19,20,21,22,23,24,25],[],[30],[],[0,1,2,3,4,5,6,7,8,9,10,11,12,13,14,15]]),
 (zbm,[]),
 (zcS,[[0,2,3,1,4,5],[],[16],[],[0,1,2,3,4,5,6,8,9,7,10,11],[],[2,6],[2]]),
 (zcq,[[5],[0,1,5],[0,5],[5]]),
 (zbk,[]),
 (zcp,[[3],[3,4],[3]]),
 (za4,[]),
 (zb7,[[],[]]),
 (zb6,[]),
 (zfk,[]),
 (zcr,[]),
 (zdw,[]),
 (zdl,[[],[0,1,2,3,4,5,6,7,8,9,10,11,12,13,14,15]]),
 (zdD,[]),
 (zeK,[]),
 (zdP,[[4],[0,4],[4]]),
 (zcv,[[],[11],[],[0,1,2,3,4,5,6,7,8,9,10,11,12,13]]),
 (zcw,[[0,1,2,3,4,5,6,7,8,9,10,11]]),
 (zeI,[[],[24],[],[0,1,2,3,4,5,6,7,8,9,10,11,12,13,14],[]]),
 (zei,[[],[22],[],[0,1,2,3,4,5,6,7,8,9,10,11,12,13,14,15,16,17,18],[5],[0,2,1,3,4,5]]),
 (zeh,[[3],[3,8],[3]]),
 (zcT,[[],[6],[],[]]),
 (zdr,[[],[8],[],[0,1,2,3,4,5,6,7,8,9,10,11,12,13,14,15,16,17,18,19]]),
 (zdH,[[],[12],[],[0,1,2,3,4,5,6,7,8,9,10,11,12,13,14]]),
 (zfm,[[],[8],[],[0,1,3,6,8,9,10,11,12,13,14,16,17,18,19,20,21,22,2,4,5,7,15,23,24,25],[0,1,2,3,4,5,6,7,8,9,10,11]]),
 (zb4,[[0,1,2,3,4,5,6,7,8,9,11,12,13,14,10,15,16,17,18]]),
 (zf5,[[],[9,72],[9],[5],[5,44],[5],[],[5],[]]),
 (zbr,[[0,1,2,3,4,5,6,7,8,9,11,10]]),
 (zdQ,[[0,1,2,3,4,5,6,7,8,9]]),
 (zek,[]),
 (zdq,[[6],[6,16],[6]]),
 (zgK,[]),
 (zcO,[]),
 (zeH,[[]]),
 (zfj,[[0,1,2,3,4,5,6,10,11,7,8,9,12,13,14]]),
 (zdF,[[0,2],[0,2],[0,2]]),
 (zdk,[[0,1,2,3,4,5,6,7,8,9,10,11,12,13,14],[]]),
 (zeo,[[6],[6,13],[6]]),
 (zeJ,[]),
 (zc6,[[]]),
 (zdE,[[0,1,2,3,4,6,7,8,9,10,5,11,12],[0,1,2,3,4,5,6,7,8,9,10,11,12,13,14],[7]]),
 (zhQ,[[5],[5,14],[5],[0,1,2,3,4,5,6,7,8,9,10,11]]),
 (zfi,[[]]),
 (ziO,[]),
 (zgm,[]),
 (zkw,[[0,1,2,3,4,5,6,7,8,9,10,11,12,13,14,15]]),
 (zgl,[[],[14],[],[],[],[0,1,2,3,4,5,6,8,9,10,11,12,13,14,7,15,16],[]]),
 (za9,[[]]),
 (zf4,[]),
 (zbW,[]),
 (zih,[]),
 (zbq,[[0,1,2,3,4,5,6,7,8,9],[0,3,1,2,4,5,6,7,8,9,10],[0,3,5,6,1,2,4,7,8,9,10,11,12]]),
 (zcb,[[],[11],[],[0,1,2,3,4,5,6],[6],[6,7,8],[6,7],[6],[6,10],[6],[0,1,2,3,4,5,6,7,8,9,10,11,12,13,14,15,16],[7],[0,1,2,3,4,5,6,7,8,9,10,11,12,13,14,15,16,17,18,19,20,21,22,23],[],[0,1,2,3,4,5,6,7,8,9,10,11,12,13,14,15,16,17,18,19,20,21],[0,1,2,3,4,5,6,7,8,9,10,11,12,13,14,15,16,17,18,19,20,21,22,23,24,25,26]]),
 (zb5,[[],[2,3,4],[2,3]]),
 (zax,[[5],[5,6,7],[5,6],[5]]),
 (zaM,[]),
 (zfG,[[],[0,1,2,3,4,5,6,7,8,9,10,11,12,13,14,15]]),
 (zbD,[[0,1,2,4,5,3,6,7,8]]),
 (zb1,[]),
 (zbC,[[4],[4],[4]]),
 (za1,[[],[6],[]]),
 (za2,[]),
 (zcC,[[],[12],[],[0,1,2,3,4,5,6,7,8,9,10,11],[],[0,1,2,3,4,5,6,7,8,9]]),
 (zbU,[[],[1,5,6],[1,5]]),
 (zbd,[[],[6],[],[0,1,2,3,4,5,6,7],[],[],[8],[],[0,1,2,3,4,5,6,7]]),
 (zbT,[[],[5],[],[0,1,2,3,4,5,6,7,8,9]]),
 (zb0,[[],[4],[],[],[5],[],[0,1,2,3,4,5,6,7,9,10,11,12,13,14,15,18,19,20,21,22,23,24,26,27,28,29,30,31,32,8,16,17,25,33,34,35]]),
 (zbe,[[0,1,2,3,4,5,6,7,8,9,10,11]]),
 (zbV,[[3],[3,4],[3]]),
 (zcd,[]),
 (zbF,[[],[11],[],[0,1,2,3,4,6,7,8,9,10,5,11,12,13],[],[],[0,1,2,3,4,5,6,7,8,10,11,12,13,14,15,16,17,18,9,19,20],[],[13],[0,1,2,3,4,5,6,7,8,9,10,11,12,13,14,15,16,17,18,19,20,21,22,23,24,25,26,27,28]]),
 (zbi,[[]]),
 (zaO,[[],[7],[]]),
 (zcQ,[[],[],[],[],[],[],[],[],[],[],[],[],[0,1,2,3,4,5]]),
 (zbb,[[4],[4,5],[4],[4]]),
 (zba,[[0,1,2,3,4,5,6,7,8,9,10],[0,1,2,3,4,5,6,7,8,9,10,11,12,13,14,15,16,17,18,19,20,21,22,23]]),
 (zaW,[[0,1,2,3,4,5,6,7,8,9,10,11,12,13,14,15,16,17],[0,1,2,3,4,5,6,7,8,9,10,11,12,13],[0,1,2,3,5,6,7,8,4,9,10,11]]),
 (zbN,[]),
 (zbB,[[6],[6,7],[6]]),
 (zcD,[[8]]),
 (zcP,[]),
 (zbu,[]),
 (zbE,[[0,1,2,3,4,5,6,9,10,11,12,13,14,15,16,7,8,17]]),
 (zbP,[]),
 (zgC,[[],[19],[],[0,1,2,3,4,5,6,7,8,9,10,11,12,13,14,15,16,17,18,19,20,21,22,23,24,25,26,27,28,29,30,31,32,33],[14],[14,15],[14]])]
def hintOf:List (Nat × List (List Nat)) → FuncId → List (List Nat)
 | [],_=>[]
 | (g,h) :: l,f=>if g = f then h else hintOf l f
def T:FuncId → Option Fn':=zpe Tryz.prog (hintOf hintRows)
def irOf (f:FuncId):Fn':=(T f).getD ⟨0,[],.bad⟩
theorem sound:zi2 Tryz.prog (sem T):=sem_okX _ _ once_ok drop_ok
end Go.Ax
/- Su3 -/
namespace Go.Ax.SU
open Go.Ax
theorem zvF (l:List Nat) (h:∀ x ∈ l,x < 256):be l < 256 ^ l.length:=by
 have key:∀ (l:List Nat),(∀ x ∈ l,x < 256) → ∀ l':List Nat,l = l'.reverse → be l < 256 ^ l.length:=by
  intro l hl l' e;subst e
  induction l' with
  | nil=>simp [be]
  | cons b l' ih =>
   rw [List.reverse_cons,zrd,List.length_append,List.length_singleton,Nat.pow_succ];have h1:=ih fun x hx=>hl x (by rw [List.reverse_cons]; exact List.mem_append_left _ hx);have h2:=hl b (by simp);omega
 exact key l h l.reverse (by simp)
theorem or256 (a b:Nat) (h:b < 256):a * 256 ||| b = a * 256 + b:=by
 have:=Nat.shiftLeft_add_eq_or_of_lt (i:=8) (b:=b) h a;rw [Nat.shiftLeft_eq] at this;exact this.symm
abbrev By (lo:Nat) (H:Heap) (v:V) (l:List Nat):Prop:=Lc 1 lo H v (l.map by8) l.length
theorem zfL {lo:Nat} {H:Heap} {v:V} {l:List Nat} (h:By lo H v l) {i:Int} (h0:0 ≤ i) (h1:i < l.length):∃ p,(∀ {k:IntKind},Ax.iaddr none 1 v (.int k i) = some p) ∧ LdR none H p (.int .u8 (l.getD i.toNat 0:Nat)) ∧ p.pid = v.pid:=by
 obtain ⟨p,hp,hl⟩:=h.at h0 h1;have hi:i.toNat < l.length:=by omega
 have e:((l.map by8).drop (i.toNat * 1)).take 1 = [by8 l[i.toNat]]:=by
  rw [Nat.mul_one,← List.map_drop,List.drop_eq_getElem_cons hi]; rfl
 rw [e] at hl;refine ⟨p,hp,fun f Q=>?_,hl.pid.1⟩;rw [hl.ld0 (by simp)];have hg:l.getD i.toNat 0 = l[i.toNat]:=by rw [List.getD_eq_getElem?_getD,List.getElem?_eq_getElem hi]; rfl
 rw [hg]; exact zvI
theorem zbl {lo:Nat} {H:Heap} {v:V} {l:List Nat} (h:By lo H v l) {x y:Int} (h0:0 ≤ x) (h1:x ≤ y) (h2:y ≤ l.length) :
  ∃ v',(∀ {k k':IntKind},zaz .sl 1 v (some (.int k x)) (some (.int k' y)) none = some v') ∧ (x = 0 → ∀ {k':IntKind},zaz .sl 1 v none (some (.int k' y)) none = some v') ∧ (y = l.length → ∀ {k:IntKind},zaz .sl 1 v (some (.int k x)) none none = some v') ∧
   By lo H v' ((l.drop x.toNat).take (y.toNat - x.toNat)) ∧ v'.pid = v.pid:=by
 obtain ⟨v',a,b,c,d,e⟩:=h.slice h0 h1 h2;refine ⟨v',a,b,c,?_,e⟩;have hl:((l.drop x.toNat).take (y.toNat - x.toNat)).length = y.toNat - x.toNat:=by rw [List.length_take,List.length_drop]; omega
 have:=d;rw [Nat.mul_one,Nat.mul_one,← List.map_drop,← List.map_take] at this;unfold By;rw [hl]; exact this
theorem getD_take {l:List Nat} {i n:Nat} (h:i < n):(l.take n).getD i 0 = l.getD i 0:=by
 simp only [List.getD_eq_getElem?_getD,List.getElem?_take_of_lt h]
theorem getD_drop {l:List Nat} {i n:Nat}:(l.drop n).getD i 0 = l.getD (n + i) 0:=by
 simp only [List.getD_eq_getElem?_getD,List.getElem?_drop]
theorem getD_lt {l:List Nat} (h:Ok8 l) (i:Nat):l.getD i 0 < 256:=by
 rw [List.getD_eq_getElem?_getD];cases e:l[i]? with
 | none=>simp
 | some x=>exact h x (List.mem_of_getElem? e)
theorem zbx {l:List Nat} {i:Nat} (h:i < l.length):l.take (i + 1) = l.take i ++ [l.getD i 0]:=by
 rw [List.take_add_one,List.getElem?_eq_getElem h,List.getD_eq_getElem?_getD,List.getElem?_eq_getElem h]; rfl
theorem zf7 {l:List Nat} (h:Ok8 l) {i n:Nat} (hi:i ≤ n):be (l.take i) < 256 ^ n:=by
 have h1:=zvF _ (h.take i);have h2:256 ^ (l.take i).length ≤ 256 ^ n:=Nat.pow_le_pow_right (by decide) (by rw [List.length_take]; omega);omega
theorem okb_copy {β:Type} {ty e bytes m:Nat} {H:Heap} {y:V} {q:List V} {f:V → M β} {Q:β → Heap → Prop} (hy:zea e H y = some (q,m)) (hp:∀ id,y.pid = some id → id < H.next) (hq:q.length = m * e)
  (hb:m * bytes ≤ 140737488355328) (hm:m ≤ 140737488355328)
  (k:∀ x' H',App ty e H.next H' x' q m → Grow H H' → Ok (f x') H' Q):Ok ((mappend ty e bytes (.sl H.next 0 0 (.fix 0)) y).bind f) (H.new ⟨ty,[],none⟩) Q:=by
 have ha:App ty e H.next (H.new ⟨ty,[],none⟩) (.sl H.next 0 0 (.fix 0)) [] 0:=.lit (zab _ _) (Nat.le_refl _) (by rw [zaf]; omega);refine zir ha (by rw [zaf]; omega) (by rw [zvQ fun i hi=>zaX _ _ (by have:=hp i hi; omega)]; exact hy) hq (by simpa using hb) (by omega) fun x' H' h hs=>?_;refine k x' H' (by simpa using h) ⟨by have:=hs.next; rw [zaf] at this; omega,fun i hi=>?_⟩;rw [hs.same i (by rw [zaf]; omega) (by simp [V.pid]; omega),zaX _ _ (by omega)]
theorem App.keep {ty e lo n:Nat} {H H':Heap} {v:V} {cells:List V} (h:App ty e lo H v cells n) (k:Keep lo H H'):App ty e lo H' v cells n:=by
 cases h with
 | opn h ho=>exact .opn (h.to fun i hi=>k.same i (ho i hi).1 (ho i hi).2) fun i hi=>⟨(ho i hi).1,Nat.lt_of_lt_of_le (ho i hi).2 k.next⟩
 | lit h h0 h1=>exact .lit (by rw [k.same _ h0 h1,h]) h0 (Nat.lt_of_lt_of_le h1 k.next)
inductive Apf (ty e lo:Nat) (H:Heap):V → List V → Nat → Prop
 | app {v:V} {cells:List V} {n:Nat} (h:App ty e lo H v cells n):Apf ty e lo H v cells n
 | full {id n:Nat} {cells:List V} (h:H.get id = some ⟨ty,cells,none⟩) (hl:cells.length = n * e) (h0:lo ≤ id) (h1:id < H.next):Apf ty e lo H (.sl id 0 n (.fix n)) cells n
theorem Apf.lc {ty e lo n:Nat} {H:Heap} {v:V} {cells:List V} (h:Apf ty e lo H v cells n):Lc e lo H v cells n:=by
 cases h with
 | app h=>exact h.lc
 | full h hl h0 h1 =>
  refine ⟨?_,fun id hi=>by simp only [V.pid,Option.some.injEq] at hi; subst hi; exact ⟨h0,h1⟩,Nat.le_refl _⟩;simp only [zbn,h,Option.bind_some];rw [if_pos (by omega),List.drop_zero,List.take_of_length_le (by omega)]
theorem Apf.keep {ty e lo n:Nat} {H H':Heap} {v:V} {cells:List V} (h:Apf ty e lo H v cells n) (k:Keep lo H H'):Apf ty e lo H' v cells n:=by
 cases h with
 | app h=>exact .app (App.keep h k)
 | full h hl h0 h1=>exact .full (by rw [k.same _ h0 h1,h]) hl h0 (Nat.lt_of_lt_of_le h1 k.next)
structure Bel (lo:Nat) (H H':Heap):Prop where
 next:H.next ≤ H'.next
 same:∀ i,i < lo → H'.get i = H.get i
theorem Bel.refl (lo:Nat) (H:Heap):Bel lo H H:=⟨Nat.le_refl _,fun _ _=>rfl⟩
theorem Bel.trans {lo:Nat} {H H1 H2:Heap} (h:Bel lo H H1) (k:Bel lo H1 H2):Bel lo H H2:=⟨Nat.le_trans h.next k.next,fun i hi=>by rw [k.same i hi,h.same i hi]⟩
theorem Bel.low {lo lo':Nat} {H H':Heap} (h:Bel lo H H') (hl:lo' ≤ lo):Bel lo' H H':=⟨h.next,fun i hi=>h.same i (by omega)⟩
theorem _root_.Go.Ax.Grow.bel {H H':Heap} (h:Grow H H') {lo:Nat} (hl:lo ≤ H.next):Bel lo H H':=⟨h.next,fun i hi=>h.same i (by omega)⟩
theorem Bel.grow {H H':Heap} (h:Bel H.next H H'):Grow H H':=⟨h.next,fun i hi=>h.same i hi⟩
theorem _root_.Go.Ax.Grow.bel' {H0 H H':Heap} {lo:Nat} (h0:Grow H0 H) (hl:H0.next ≤ lo) (h:Bel lo H H'):Grow H0 H':=⟨Nat.le_trans h0.next h.next,fun i hi=>by rw [h.same i (by omega),h0.same i hi]⟩
theorem okb_apf {β:Type} {ty e bytes lo n m:Nat} {H:Heap} {x y:V} {cells q:List V} {f:V → M β} {Q:β → Heap → Prop} (hx:Apf ty e lo H x cells n) (hlo:lo ≤ H.next) (hy:zea e H y = some (q,m)) (hq:q.length = m * e)
  (hb:(n + m) * bytes ≤ 140737488355328) (hm:n + m ≤ 140737488355328)
  (k:∀ x' H',Apf ty e lo H' x' (cells ++ q) (n + m) → Bel lo H H' → Step H H' x.pid.toList x'.pid.toList → Ok (f x') H' Q):Ok ((mappend ty e bytes x y).bind f) H Q:=by
 cases hx with
 | app h =>
  refine zir h hlo hy hq hb hm fun x' H' h1 hs=>k x' H' (.app h1) ⟨hs.next,fun i hi=>hs.same i (by omega) fun e=>?_⟩ hs;have:=(h.lc.own i (by simpa [zeF] using e)).1;omega
 | full h hl h0 h1 =>
  rename_i id;have hml:n + m ≤ maxLen:=Nat.le_trans hm zjc;by_cases hz:m = 0
  ·subst hz;have hq0:q = []:=List.eq_nil_of_length_eq_zero (by omega);subst hq0;refine zao ⟨.sl id 0 n (.fix n),H.set id (some ⟨ty,cells,none⟩),?_,k _ _ ?_ ⟨by rw [zan]; exact Nat.le_refl _,fun i hi=>zai _ _ (by omega)⟩ (Step.set _ (by simp [V.pid]))⟩
   ·simp only [mappend,hy,Option.bind_some,zca,h];rw [if_pos ⟨by omega,trivial⟩];simp only [Nat.add_zero,Nat.le_refl,if_true];rw [if_pos (by omega)];simp [splice]
   ·rw [List.append_nil];exact .full (zal _ _ _) hl h0 h1
  ·refine zao ⟨.sl H.next 0 (n + m) (.opn e),H.new ⟨ty,cells ++ q,some e⟩,?_,?_⟩
   ·simp only [mappend,hy,Option.bind_some,zca,h];rw [if_pos ⟨by omega,trivial⟩,if_neg (by omega),if_pos ⟨hb,hml⟩,List.drop_zero,List.take_of_length_le (by omega)]
   ·refine k _ _ (.app (.opn (.inr ⟨H.next,rfl,zab _ _,by simp [hl,hq,Nat.add_mul]⟩) fun i hi=>?_)) ⟨by rw [zaf]; omega,fun i hi=>zaX _ _ (by omega)⟩ ⟨by rw [zaf]; omega,fun i hi _=>zaX _ _ (by omega),fun i hi=>.inr (by simp only [V.pid,Option.toList_some,List.mem_singleton] at hi; subst hi; exact ⟨Nat.le_refl _,by rw [zaf]; omega⟩)⟩;simp only [V.pid,Option.some.injEq] at hi;subst hi;exact ⟨hlo,by rw [zaf]; omega⟩
def bn (k n:Nat):List Nat:=(List.range k).map fun i=>n / 256 ^ (k - 1 - i) % 256
theorem zi1 (k n:Nat):(bn k n).length = k:=by simp [bn]
theorem bn_8 (k n:Nat):Ok8 (bn k n):=by
 intro x hx;obtain ⟨i,_,rfl⟩:=List.mem_map.1 hx;omega
theorem zvA (k n i:Nat) (h:i < k):(bn k n).getD i 0 = n / 256 ^ (k - 1 - i) % 256:=by
 rw [List.getD_eq_getElem?_getD,List.getElem?_eq_getElem (by rw [zi1]; exact h)]; simp [bn]
abbrev Ab (lo:Nat) (H:Heap) (v:V) (l:List Nat):Prop:=Apf zad 1 lo H v (l.map by8) l.length
theorem Ab.by {lo:Nat} {H:Heap} {v:V} {l:List Nat} (h:Ab lo H v l):By lo H v l:=h.lc
theorem zk5 {β:Type} {lo:Nat} {H:Heap} {x y:V} {l m:List Nat} {f:V → M β} {Q:β → Heap → Prop} (hx:Ab lo H x l) (hlo:lo ≤ H.next) (hy:zea 1 H y = some (m.map by8,m.length)) (hm:l.length + m.length ≤ 1099511627776)
  (k:∀ x' H',Ab lo H' x' (l ++ m) → Bel lo H H' → Step H H' x.pid.toList x'.pid.toList → Ok (f x') H' Q):Ok ((mappend zad 1 1 x y).bind f) H Q:=by
 refine okb_apf hx hlo hy (by simp) (by omega) (by omega) fun x' H' h1 h2=>k x' H' ?_ h2;show Apf zad 1 lo H' x' ((l ++ m).map by8) (l ++ m).length;rw [List.map_append,List.length_append]; exact h1
theorem zeV {β:Type} {lo:Nat} {H:Heap} {x y:V} {l m:List Nat} {f:V → M β} {Q:β → Heap → Prop} (hx:Ab lo H x l) (hlo:lo ≤ H.next) (hy:zea 1 H y = some (m.map by8,m.length)) (hm:l.length + m.length ≤ 1099511627776)
  (k:∀ x' H',Ab lo H' x' (l ++ m) → Bel lo H H' → Ok (f x') H' Q):Ok ((mappend zad 1 1 x y).bind f) H Q :=
 zk5 hx hlo hy hm fun x' H' h1 h2 _=>k x' H' h1 h2
end Go.Ax.SU
/- Su4 -/
namespace Go.Ax.SU
open Go.Ax
inductive Buf (H:Heap):V → List Nat → List Nat → Prop
 | nil:Buf H .nils [] []
 | blk {id:Nat} {l:List Nat} {rest:List V} (hg:H.get id = some ⟨zad,l.map by8 ++ rest,some 1⟩) (hr:rest = [] ∨ l.length + rest.length = 64) (hi:id < H.next):Buf H (.sl id 0 l.length (.opn 1)) l [id]
theorem Buf.vlen {H:Heap} {v:V} {l F:List Nat} (h:Buf H v l F):Ax.vlen v = some (.int .i64 (l.length:Nat)):=by cases h <;> rfl
theorem Buf.cells1 {H:Heap} {v:V} {l F:List Nat} (h:Buf H v l F):v.cells = [v]:=by cases h <;> rfl
theorem Buf.okc {H:Heap} {v:V} {l F:List Nat} (h:Buf H v l F):v.okc = true:=by cases h <;> rfl
theorem Buf.low {H:Heap} {v:V} {l F:List Nat} (h:Buf H v l F):∀ i ∈ F,i < H.next:=by
 cases h with
 | nil=>exact fun i hi=>by cases hi
 | blk hg hr hi=>exact fun i h=>by rw [List.mem_singleton.1 h]; exact hi
theorem Buf.to {H H':Heap} {v:V} {l F:List Nat} (h:Buf H v l F) (hn:H.next ≤ H'.next) (hs:∀ i ∈ F,H'.get i = H.get i):Buf H' v l F:=by
 cases h with
 | nil=>exact .nil
 | blk hg hr hi=>exact .blk (by rw [hs _ (List.mem_singleton.2 rfl)]; exact hg) hr (by omega)
theorem Buf.by {H:Heap} {v:V} {l F:List Nat} (h:Buf H v l F):By 0 H v l:=by
 cases h with
 | nil=>exact Lc.nil
 | blk hg hr hi =>
  refine ⟨?_,fun i h=>⟨Nat.zero_le _,by simp only [V.pid,Option.some.injEq] at h; omega⟩,rfl⟩;simp only [zbn,hg,Option.bind_some];rw [if_pos (by simp),List.drop_zero,List.take_append_of_le_length (by simp),List.take_of_length_le (by simp)]
theorem Buf.pid {H:Heap} {v:V} {l F:List Nat} (h:Buf H v l F):∀ i,v.pid = some i → i ∈ F:=by
 cases h with
 | nil=>intro i hi; cases hi
 | blk hg hr hi=>intro i h; simp only [V.pid,Option.some.injEq] at h; simp [h]
theorem zug {β:Type} {H:Heap} {x y:V} {l m F:List Nat} {f:V → M β} {Q:β → Heap → Prop} (hx:Buf H x l F) (hy:zea 1 H y = some (m.map by8,m.length)) (hm:l.length + m.length ≤ 64)
  (k:∀ x' H' F',Buf H' x' (l ++ m) F' → Step H H' F F' → Ok (f x') H' Q):Ok ((mappend zad 1 1 x y).bind f) H Q:=by
 have hml:l.length + m.length ≤ maxLen:=Nat.le_trans (by omega:l.length + m.length ≤ 140737488355328) zjc;have hmb:m.length ≤ maxLen:=by omega
 refine zao ?_;cases hx with
 | nil =>
  by_cases h0:m.length = 0
  ·have:m = []:=List.eq_nil_of_length_eq_zero h0;subst this;refine ⟨.nils,H,?_,k _ _ _ (by simpa using Buf.nil) (Step.refl _ _)⟩;simp only [mappend,hy,Option.bind_some,zca];rw [if_pos (show ([]:List Nat).length = 0 from rfl)]
  ·refine ⟨.sl H.next 0 m.length (.opn 1),H.new ⟨zad,m.map by8,some 1⟩,?_,k _ _ [H.next] ?_ (Step.newo _ _ _)⟩
   ·simp only [mappend,hy,Option.bind_some,zca];rw [if_neg h0,if_pos ⟨by omega,hmb⟩]
   ·rw [List.nil_append];exact .blk (rest:=[]) (by rw [List.append_nil]; exact zab _ _) (.inl rfl) (by rw [zaf]; omega)
 | blk hg hr hi =>
  rename_i id rest;have hl:(l.map by8 ++ rest).length = l.length + rest.length:=by simp
  by_cases h0:m.length = 0
  ·have:m = []:=List.eq_nil_of_length_eq_zero h0;subst this;refine ⟨.sl id 0 l.length (.opn 1),H,?_,k _ _ _ (by simpa using Buf.blk hg hr hi) (Step.refl _ _)⟩;simp only [mappend,hy,Option.bind_some,zca,hg];rw [if_pos ⟨by omega,trivial⟩];by_cases hc:(l.map by8 ++ rest).length = 0 + l.length * 1
   ·rw [if_pos ⟨trivial,trivial,hc⟩,if_pos (show ([]:List Nat).length = 0 from rfl)]
   ·rw [if_neg (fun h=>hc h.2.2),if_pos ⟨trivial,rfl⟩]
  ·by_cases hc:rest.length = 0
   ·have hre:rest = []:=List.eq_nil_of_length_eq_zero hc;subst hre;refine ⟨.sl H.next 0 (l.length + m.length) (.opn 1),(H.set id none).new ⟨zad,l.map by8 ++ m.map by8,some 1⟩,?_,k _ _ [H.next] ?_ ⟨by rw [zaf,zan]; omega,fun i hi' hF=>?_,fun i hi'=>.inr ?_⟩⟩
    ·simp only [mappend,hy,Option.bind_some,zca,hg];rw [if_pos ⟨by omega,trivial⟩,if_pos ⟨trivial,trivial,by omega⟩,if_neg h0,if_pos ⟨by omega,hml⟩,List.append_nil,List.drop_zero]
    ·have:=Buf.blk (H:=(H.set id none).new ⟨zad,l.map by8 ++ m.map by8,some 1⟩) (id:=H.next) (l:=l ++ m) (rest:=[]) (by rw [List.append_nil,List.map_append]; exact zab (H.set id none) _) (.inl rfl) (by rw [zaf,zan]; omega);rw [List.length_append] at this;exact this
    ·rw [zaX _ _ (by rw [zan]; omega),zai _ _ (fun e=>hF (by simp [e]))]
    ·rw [List.mem_singleton.1 hi'];exact ⟨Nat.le_refl _,by rw [zaf,zan]; omega⟩
   ·have hr64:l.length + rest.length = 64:=hr.resolve_left fun e=>hc (by rw [e]; rfl);refine ⟨.sl id 0 (l.length + m.length) (.opn 1),H.set id (some ⟨zad,splice (l.map by8 ++ rest) (0 + l.length * 1) (m.map by8),some 1⟩),?_,k _ _ [id] ?_ (Step.set _ (by simp))⟩
    ·simp only [mappend,hy,Option.bind_some,zca,hg];rw [if_pos ⟨by omega,trivial⟩,if_neg (fun h=>hc (by have:=h.2.2; omega)),if_neg (fun h=>h0 h.2),if_pos ⟨trivial,trivial,by omega⟩]
    ·have:=Buf.blk (H:=H.set id (some ⟨zad,splice (l.map by8 ++ rest) (0 + l.length * 1) (m.map by8),some 1⟩)) (id:=id) (l:=l ++ m) (rest:=rest.drop m.length) (by
      rw [zal];congr 2;unfold splice;rw [Nat.mul_one,Nat.zero_add,List.length_map,List.take_append_of_le_length (by simp),List.take_of_length_le (by simp),List.map_append,List.drop_append,List.drop_of_length_le (by simp),List.nil_append,List.length_map];congr 2;omega) (.inr (by rw [List.length_append,List.length_drop]; omega)) (by rw [zan]; omega)
     rw [List.length_append] at this;exact this
theorem Buf.cut {H:Heap} {v:V} {l F:List Nat} (h:Buf H v l F) (hl:l.length = 64):∃ v',(∀ {k:IntKind},zaz .sl 1 v none (some (.int k 0)) none = some v') ∧ Buf H v' [] F:=by
 cases h with
 | nil=>cases hl
 | blk hg hr hi =>
  rename_i id rest;refine ⟨.sl id 0 0 (.opn 1),fun {k}=>?_,?_⟩
  ·simp only [zaz,zdM,vint,Option.map_some,Option.bind_some,Option.getD_some,Option.getD_none];rw [if_neg (by simp),if_pos ⟨trivial,by omega,by omega,by omega⟩];rfl
  ·have hre:rest = []:=by
    rcases hr with hr | hr
    ·exact hr
    ·exact List.eq_nil_of_length_eq_zero (by omega)
   subst hre;exact Buf.blk (l:=[]) (rest:=l.map by8) (by simpa using hg) (.inr (by simp [hl])) hi
end Go.Ax.SU
/- Ax26 -/
namespace Go.Ax
section
variable {b w:Bool} {v x y:V} {α β:Type} {H:Heap} {f:V → M β} {Q:β → Heap → Prop}
end
theorem zaK {α β:Type} {x:M α} {H:Heap} {f:α → M β} {Q:β → Heap → Prop}:@OkB α β x H ⟨f⟩ ⟨Q⟩ = Ok (x.bind f) H Q:=rfl
end Go.Ax
/- FnS1 -/
namespace Go.Ax
open Go.Proofs
abbrev OkT (f:FuncId) (us:List V) (x:M Res):Prop:=∀ {H:Heap} {Q:V → Heap → Prop},Ok x H (fun r H'=>∃ L,r = .ret L ∧ Q (zgD L) H') → Ok (sem T f us) H Q
theorem okT {f:FuncId} {us:List V} {x:M Res} (hT:T f = some (irOf f)) (hl:Nat.ble us.length (irOf f).ntmps = true) (hx:execK (sem T) (irOf f).rv (irOf f).body [] [] (params 0 us) = x):OkT f us x:=fun h=>ok_sem hT (Nat.le_of_ble_eq_true hl) hx h
def zh6 (G:Sem') (t0 t1:V):M Res :=
 (G zc2 [t0]).bind fun t11 =>
 uE 0 t11 fun t12 =>
 uE 1 t11 fun t13 =>
 uE 2 t11 fun t14 =>
 uL (Ax.un .not t14) fun t16 =>
 uG t16 false (M.pure t1) fun t18 =>
 uH t16 false (Ax.bin .lss t18 (uc 0)) fun t19 =>
 uL (Ax.pick t16 (V.bool true) t19) fun t20 =>
 uG t20 false (M.pure t1) fun t22 =>
 uH t20 false (Ax.bin .geq t22 (uc 8)) fun t23 =>
 uL (Ax.pick t20 (V.bool true) t23) fun t24 =>
 M.ite t24
 (M.pure (.ret [V.nilp,(uc 1)]))
 (uL (Ax.build [(uc 0),(uc 0),V.nilp,(uc 0),(uc 0),(uq 0),(uq 0)] [(0,1,t0),(1,1,t1)]) fun t27 =>
 uO zaG t27 fun t28 =>
 M.pure (.ret [t28,(uc 0)]))
theorem zk8 {t0 t1:V}:OkT zdb [t0,t1] (zh6 (sem T) t0 t1):=okT (by kernel_rfl) (by kernel_rfl) (by kernel_rfl)
def zkE (G:Sem') (t0:V):M Res :=
 M.blk 0 (
 uB .eql t0 (uc 1) fun t7 =>
 M.ite t7
 (M.pure (.ret [(uc 16),(uc 10),(V.bool true)]))
 (uB .eql t0 (uc 2) fun t9 =>
 M.ite t9
 (M.pure (.ret [(uc 16),(uc 8),(V.bool true)]))
 (uB .eql t0 (uc 3) fun t11 =>
 M.ite t11
 (M.pure (.ret [(uc 16),(uc 4),(V.bool true)]))
 (uB .eql t0 (uc 16) fun t13 =>
 M.ite t13
 (M.pure (.ret [(uc 32),(uc 10),(V.bool true)]))
 (M.pure (.nrm [])))))) fun _ =>
 M.pure (.ret [(uc 0),(uc 0),(V.bool false)])
theorem znx {t0:V}:OkT zc2 [t0] (zkE (sem T) t0):=okT (by kernel_rfl) (by kernel_rfl) (by kernel_rfl)
def zgQ (G:Sem') (t0:V):M Res :=
 (G zc2 [t0]).bind fun t9 =>
 uE 0 t9 fun t10 =>
 uE 1 t9 fun t11 =>
 uE 2 t9 fun t12 =>
 uL (Ax.un .not t12) fun t14 =>
 M.ite t14
 (M.pure (.ret [V.nilp,(uc 1)]))
 ((mmkmap zcJ).bind fun t16 =>
 (mmkmap zdL).bind fun t17 =>
 (mmkmap zd6).bind fun t18 =>
 uL (Ax.build [(uc 0),(V.lit (.map none)),(V.lit (.map none)),(V.lit (.map none))] [(0,1,t0),(1,1,t16),(2,1,t17),(3,1,t18)]) fun t19 =>
 uO zcH t19 fun t20 =>
 M.pure (.ret [t20,(uc 0)]))
theorem zjR {t0:V}:OkT zbO [t0] (zgQ (sem T) t0):=okT (by kernel_rfl) (by kernel_rfl) (by kernel_rfl)
def zdf (G:Sem') (t1 t4 t5:V) (L:List V):M Res :=
 let o:=V.int .u8 0
 uB .lss (ug L 1) t1 fun t20 =>
 M.ite t20
 (M.blk 1 (
 (G zbp [V.nils,(ug L 0)]).bind fun t24 =>
 uO zae (V.agg [o,o,o,o,o,o,o,o,o,o,o,o,o,o,o,o,o,o,o,o,o,o,o,o,o,o,o,o,o,o,o,o]) fun t8 =>
 uT 32 t8 t24 fun _ =>
 uL (zaz (.arr 32) 1 t8 none none none) fun t26 =>
 (mslit zad 18 [o] [(0,1,(ub 83)),(1,1,(ub 70)),(2,1,(ub 114)),(3,1,(ub 97)),(4,1,(ub 109)),(5,1,(ub 101)),(6,1,(ub 32)),(7,1,(ub 49)),(8,1,(ub 46)),(9,1,(ub 48)),(10,1,(ub 32)),(11,1,(ub 82)),(12,1,(ub 97)),(13,1,(ub 116)),(14,1,(ub 99)),(15,1,(ub 104)),(16,1,(ub 101)),(17,1,(ub 116))]).bind fun t27 =>
 (mremark zad t27).bind fun t28 =>
 (G za8 [t26,t28,(uc 32)]).bind fun t29 =>
 uE 0 t29 fun t30 =>
 uE 1 t29 fun t31 =>
 M.pure (.nrm [t30])) fun L0 =>
 uB .add (ug L 1) (uc 1) fun t22 =>
 M.pure (.nrm [(ug L0 0),t22]))
 (M.pure (.ex 0 [(ug L 0)]))
def ze3 (G:Sem') (t0 t1:V):M Res :=
 uB .lss t1 (uc 0) fun t10 =>
 uG t10 false (M.pure t1) fun t12 =>
 uH t10 false (Ax.bin .gtr t12 (uc 31)) fun t13 =>
 uL (Ax.pick t10 (V.bool true) t13) fun t14 =>
 M.ite t14
 (M.pure (.ret [V.nils,(uc 1)]))
 ((mslit zad 0 [(ub 0)] []).bind fun t15 =>
 (mappend zad 1 1 t15 t0).bind fun t17 =>
 M.blk 0 (
 M.iter (zdf G t1 V.nils (uc 0)) [t17,(uc 0)]) fun L1 =>
 M.pure (.ret [(ug L1 0),(uc 0)]))
theorem zhK {t0 t1:V}:OkT zce [t0,t1] (ze3 (sem T) t0 t1):=okT (by kernel_rfl) (by kernel_rfl) (by kernel_rfl)
def zeN (G:Sem') (t0 t1:V):M Res :=
 let o:=V.int .u8 0
 uO zae (V.agg [o,o,o,o,o,o,o,o,o,o,o,o,o,o,o,o,o,o,o,o,o,o,o,o,o,o,o,o,o,o,o,o]) fun t4 =>
 (G zbo [t0,t1]).bind fun t7 =>
 uT 32 t4 t7 fun _ =>
 uS 32 t4 fun r0 =>
 M.pure (.ret [r0])
theorem zhe {t0 t1:V}:OkT zbp [t0,t1] (zeN (sem T) t0 t1):=okT (by kernel_rfl) (by kernel_rfl) (by kernel_rfl)
def zcF (G:Sem') (t5 t7 t8 t4:V) (L:List V):M Res :=
 uB .lss (ug L 0) (uc 64) fun t22 =>
 M.ite t22
 (M.blk 1 (
 uL (vlen t5) fun t27 =>
 uB .lss (ug L 0) t27 fun t28 =>
 M.join (M.ite t28
 (uIM none 1 t5 (ug L 0) fun t32 =>
 M.pure (.nrm [t32]))
 (M.pure (.nrm [(ub 0)]))) fun L1 =>
 uB .xor (ug L1 0) (ub 54) fun t38 =>
 uB .xor (ug L1 0) (ub 92) fun t40 =>
 uI none 1 t7 (ug L 0) fun t41 =>
 uT 1 t41 t38 fun _ =>
 uI none 1 t8 (ug L 0) fun t42 =>
 uT 1 t42 t40 fun _ =>
 M.pure (.nrm [])) fun _ =>
 uB .add (ug L 0) (uc 1) fun t24 =>
 M.pure (.nrm [t24]))
 (M.pure (.ex 0 []))
def zfQ (G:Sem') (t0 t1:V):M Res :=
 let o:=V.int .u8 0
 uO zae (V.agg [o,o,o,o,o,o,o,o,o,o,o,o,o,o,o,o,o,o,o,o,o,o,o,o,o,o,o,o,o,o,o,o]) fun t4 =>
 uL (vlen t0) fun t14 =>
 uB .gtr t14 (uc 64) fun t15 =>
 M.join (M.ite t15
 ((G zbI [t0]).bind fun t17 =>
 uO zae (V.agg [o,o,o,o,o,o,o,o,o,o,o,o,o,o,o,o,o,o,o,o,o,o,o,o,o,o,o,o,o,o,o,o]) fun t6 =>
 uT 32 t6 t17 fun _ =>
 uL (zaz (.arr 32) 1 t6 none none none) fun t18 =>
 M.pure (.nrm [t18]))
 (M.pure (.nrm [t0]))) fun L0 =>
 (mmkslice zad 1 [o] (uc 64) (uc 64)).bind fun t19 =>
 (mmkslice zad 1 [o] (uc 64) (uc 64)).bind fun t20 =>
 M.blk 0 (
 M.iter (zcF G (ug L0 0) t19 t20 t4) [(uc 0)]) fun _ =>
 (mappend zad 1 1 t19 t1).bind fun t45 =>
 (G zbI [t45]).bind fun t46 =>
 uO zae (V.agg [o,o,o,o,o,o,o,o,o,o,o,o,o,o,o,o,o,o,o,o,o,o,o,o,o,o,o,o,o,o,o,o]) fun t11 =>
 uT 32 t11 t46 fun _ =>
 uL (zaz (.arr 32) 1 t11 none none none) fun t48 =>
 (mappend zad 1 1 t20 t48).bind fun t49 =>
 (G zbI [t49]).bind fun t50 =>
 uT 32 t4 t50 fun _ =>
 uS 32 t4 fun r0 =>
 M.pure (.ret [r0])
theorem zix {t0 t1:V}:OkT zbo [t0,t1] (zfQ (sem T) t0 t1):=okT (by kernel_rfl) (by kernel_rfl) (by kernel_rfl)
def zdR (G:Sem') (t2:V) (L:List V):M Res :=
 uL (vlen (ug L 0)) fun t15 =>
 uB .rem t15 (uc 64) fun t16 =>
 uB .neq t16 (uc 56) fun t17 =>
 M.ite t17
 (M.blk 1 (
 (mslit zad 1 [(ub 0)] [(0,1,(ub 0))]).bind fun t19 =>
 (mappend zad 1 1 (ug L 0) t19).bind fun t20 =>
 M.pure (.nrm [t20])) fun L0 =>
 M.pure (.nrm [(ug L0 0)]))
 (M.pure (.ex 0 [(ug L 0)]))
def zcV (G:Sem') (t3 t5 t4 t2:V) (L:List V):M Res :=
 uL (vlen t3) fun t31 =>
 uB .lss (ug L 0) t31 fun t32 =>
 M.ite t32
 (M.blk 3 (
 uS 8 t4 fun t35 =>
 uB .add (ug L 0) (uc 64) fun t39 =>
 uL (zaz .sl 1 t3 (some (ug L 0)) (some t39) none) fun t40 =>
 uS 64 t5 fun t41 =>
 (G zcB [t35,t40,t41]).bind fun t42 =>
 uT 8 t4 t42 fun _ =>
 M.pure (.nrm [])) fun _ =>
 uB .add (ug L 0) (uc 64) fun t34 =>
 M.pure (.nrm [t34]))
 (M.pure (.ex 2 []))
def zcU (G:Sem') (t4 t7 t2:V) (L:List V):M Res :=
 uB .lss (ug L 0) (uc 32) fun t44 =>
 M.ite t44
 (M.blk 5 (
 uB .quo (ug L 0) (uc 4) fun t49 =>
 uIM (some 8) 1 t4 t49 fun t51 =>
 uB .rem (ug L 0) (uc 4) fun t53 =>
 uB .mul (uc 8) t53 fun t54 =>
 uB .sub (uc 24) t54 fun t55 =>
 uL (Ax.cint .u64 t55) fun t56 =>
 uB .shr t51 t56 fun t57 =>
 uL (Ax.cint .u8 t57) fun t58 =>
 uI (some 32) 1 t7 (ug L 0) fun t59 =>
 uT 1 t59 t58 fun _ =>
 M.pure (.nrm [])) fun _ =>
 uB .add (ug L 0) (uc 1) fun t46 =>
 M.pure (.nrm [t46]))
 (M.pure (.ex 4 []))
def zgq (G:Sem') (t0:V):M Res :=
 let p:=V.int .u32 0
 let o:=V.int .u8 0
 uO zae (V.agg [o,o,o,o,o,o,o,o,o,o,o,o,o,o,o,o,o,o,o,o,o,o,o,o,o,o,o,o,o,o,o,o]) fun t2 =>
 (mslit zad 0 [o] []).bind fun t9 =>
 (mappend zad 1 1 t9 t0).bind fun t11 =>
 (mslit zad 1 [o] [(0,1,(ub 128))]).bind fun t12 =>
 (mappend zad 1 1 t11 t12).bind fun t13 =>
 M.blk 0 (
 M.iter (zdR G t2) [t13]) fun L1 =>
 uL (vlen t0) fun t23 =>
 uL (Ax.cint .u64 t23) fun t24 =>
 uB .mul t24 (uq 8) fun t25 =>
 (G zaS [(ug L1 0),t25,(uc 8)]).bind fun t26 =>
 uL (Ax.build [p,p,p,p,p,p,p,p] [(0,1,(V.int .u32 1779033703)),(1,1,(V.int .u32 3144134277)),(2,1,(V.int .u32 1013904242)),(3,1,(V.int .u32 2773480762)),(4,1,(V.int .u32 1359893119)),(5,1,(V.int .u32 2600822924)),(6,1,(V.int .u32 528734635)),(7,1,(V.int .u32 1541459225))]) fun t27 =>
 uO zap (V.agg [p,p,p,p,p,p,p,p]) fun t4 =>
 uT 8 t4 t27 fun _ =>
 (G zcc []).bind fun t28 =>
 uO zau (V.agg [p,p,p,p,p,p,p,p,p,p,p,p,p,p,p,p,p,p,p,p,p,p,p,p,p,p,p,p,p,p,p,p,p,p,p,p,p,p,p,p,p,p,p,p,p,p,p,p,p,p,p,p,p,p,p,p,p,p,p,p,p,p,p,p]) fun t5 =>
 uT 64 t5 t28 fun _ =>
 M.blk 2 (
 M.iter (zcV G t26 t5 t4 t2) [(uc 0)]) fun _ =>
 uO zae (V.agg [o,o,o,o,o,o,o,o,o,o,o,o,o,o,o,o,o,o,o,o,o,o,o,o,o,o,o,o,o,o,o,o]) fun t7 =>
 M.blk 4 (
 M.iter (zcU G t4 t7 t2) [(uc 0)]) fun _ =>
 uS 32 t7 fun t60 =>
 uT 32 t2 t60 fun _ =>
 uS 32 t2 fun r0 =>
 M.pure (.ret [r0])
theorem zjg {t0:V}:OkT zbI [t0] (zgq (sem T) t0):=okT (by kernel_rfl) (by kernel_rfl) (by kernel_rfl)
def zeq (G:Sem') (t1 t6:V) (L:List V):M Res :=
 uB .geq (ug L 1) (uc 0) fun t15 =>
 M.ite t15
 (M.blk 1 (
 uB .mul (uc 8) (ug L 1) fun t21 =>
 uL (Ax.cint .u64 t21) fun t22 =>
 uB .shr t1 t22 fun t23 =>
 uL (Ax.cint .u8 t23) fun t24 =>
 (mslit zad 1 [(ub 0)] [(0,1,t24)]).bind fun t25 =>
 (mappend zad 1 1 (ug L 0) t25).bind fun t26 =>
 M.pure (.nrm [t26])) fun L0 =>
 uB .sub (ug L 1) (uc 1) fun t17 =>
 M.pure (.nrm [(ug L0 0),t17]))
 (M.pure (.ex 0 [(ug L 0)]))
def zhp (G:Sem') (t0 t1 t2:V):M Res :=
 (mslit zad 0 [(ub 0)] []).bind fun t9 =>
 (mappend zad 1 1 t9 t0).bind fun t11 =>
 uB .sub t2 (uc 1) fun t13 =>
 M.blk 0 (
 M.iter (zeq G t1 V.nils) [t11,t13]) fun L1 =>
 M.pure (.ret [(ug L1 0)])
theorem zkj {t0 t1 t2:V}:OkT zaS [t0,t1,t2] (zhp (sem T) t0 t1 t2):=okT (by kernel_rfl) (by kernel_rfl) (by kernel_rfl)
def zeY (G:Sem'):M Res :=
 let p:=V.int .u32 0
 uO zau (V.agg [p,p,p,p,p,p,p,p,p,p,p,p,p,p,p,p,p,p,p,p,p,p,p,p,p,p,p,p,p,p,p,p,p,p,p,p,p,p,p,p,p,p,p,p,p,p,p,p,p,p,p,p,p,p,p,p,p,p,p,p,p,p,p,p]) fun t0 =>
 uL (Ax.build [p,p,p,p,p,p,p,p,p,p,p,p,p,p,p,p,p,p,p,p,p,p,p,p,p,p,p,p,p,p,p,p,p,p,p,p,p,p,p,p,p,p,p,p,p,p,p,p,p,p,p,p,p,p,p,p,p,p,p,p,p,p,p,p] [(0,1,(V.int .u32 1116352408)),(1,1,(V.int .u32 1899447441)),(2,1,(V.int .u32 3049323471)),(3,1,(V.int .u32 3921009573)),(4,1,(V.int .u32 961987163)),(5,1,(V.int .u32 1508970993)),(6,1,(V.int .u32 2453635748)),(7,1,(V.int .u32 2870763221)),(8,1,(V.int .u32 3624381080)),(9,1,(V.int .u32 310598401)),(10,1,(V.int .u32 607225278)),(11,1,(V.int .u32 1426881987)),(12,1,(V.int .u32 1925078388)),(13,1,(V.int .u32 2162078206)),(14,1,(V.int .u32 2614888103)),(15,1,(V.int .u32 3248222580)),(16,1,(V.int .u32 3835390401)),(17,1,(V.int .u32 4022224774)),(18,1,(V.int .u32 264347078)),(19,1,(V.int .u32 604807628)),(20,1,(V.int .u32 770255983)),(21,1,(V.int .u32 1249150122)),(22,1,(V.int .u32 1555081692)),(23,1,(V.int .u32 1996064986)),(24,1,(V.int .u32 2554220882)),(25,1,(V.int .u32 2821834349)),(26,1,(V.int .u32 2952996808)),(27,1,(V.int .u32 3210313671)),(28,1,(V.int .u32 3336571891)),(29,1,(V.int .u32 3584528711)),(30,1,(V.int .u32 113926993)),(31,1,(V.int .u32 338241895)),(32,1,(V.int .u32 666307205)),(33,1,(V.int .u32 773529912)),(34,1,(V.int .u32 1294757372)),(35,1,(V.int .u32 1396182291)),(36,1,(V.int .u32 1695183700)),(37,1,(V.int .u32 1986661051)),(38,1,(V.int .u32 2177026350)),(39,1,(V.int .u32 2456956037)),(40,1,(V.int .u32 2730485921)),(41,1,(V.int .u32 2820302411)),(42,1,(V.int .u32 3259730800)),(43,1,(V.int .u32 3345764771)),(44,1,(V.int .u32 3516065817)),(45,1,(V.int .u32 3600352804)),(46,1,(V.int .u32 4094571909)),(47,1,(V.int .u32 275423344)),(48,1,(V.int .u32 430227734)),(49,1,(V.int .u32 506948616)),(50,1,(V.int .u32 659060556)),(51,1,(V.int .u32 883997877)),(52,1,(V.int .u32 958139571)),(53,1,(V.int .u32 1322822218)),(54,1,(V.int .u32 1537002063)),(55,1,(V.int .u32 1747873779)),(56,1,(V.int .u32 1955562222)),(57,1,(V.int .u32 2024104815)),(58,1,(V.int .u32 2227730452)),(59,1,(V.int .u32 2361852424)),(60,1,(V.int .u32 2428436474)),(61,1,(V.int .u32 2756734187)),(62,1,(V.int .u32 3204031479)),(63,1,(V.int .u32 3329325298))]) fun t1 =>
 uT 64 t0 t1 fun _ =>
 uS 64 t0 fun r0 =>
 M.pure (.ret [r0])
theorem zhF:OkT zcc [] (zeY (sem T)):=okT (by kernel_rfl) (by kernel_rfl) (by kernel_rfl)
def zcj (G:Sem') (t1 t7 t6:V) (L:List V):M Res :=
 uB .lss (ug L 0) (uc 16) fun t21 =>
 M.ite t21
 (M.blk 1 (
 uB .mul (uc 4) (ug L 0) fun t27 =>
 uIM none 1 t1 t27 fun t29 =>
 uL (Ax.cint .u32 t29) fun t30 =>
 uB .shl t30 (uq 24) fun t31 =>
 uB .mul (uc 4) (ug L 0) fun t34 =>
 uB .add t34 (uc 1) fun t35 =>
 uIM none 1 t1 t35 fun t37 =>
 uL (Ax.cint .u32 t37) fun t38 =>
 uB .shl t38 (uq 16) fun t39 =>
 uB .or t31 t39 fun t40 =>
 uB .mul (uc 4) (ug L 0) fun t43 =>
 uB .add t43 (uc 2) fun t44 =>
 uIM none 1 t1 t44 fun t46 =>
 uL (Ax.cint .u32 t46) fun t47 =>
 uB .shl t47 (uq 8) fun t48 =>
 uB .or t40 t48 fun t49 =>
 uB .mul (uc 4) (ug L 0) fun t52 =>
 uB .add t52 (uc 3) fun t53 =>
 uIM none 1 t1 t53 fun t55 =>
 uL (Ax.cint .u32 t55) fun t56 =>
 uB .or t49 t56 fun t57 =>
 uI (some 64) 1 t7 (ug L 0) fun t58 =>
 uT 1 t58 t57 fun _ =>
 M.pure (.nrm [])) fun _ =>
 uB .add (ug L 0) (uc 1) fun t23 =>
 M.pure (.nrm [t23]))
 (M.pure (.ex 0 []))
def zci (G:Sem') (t7 t6:V) (L:List V):M Res :=
 uB .lss (ug L 0) (uc 64) fun t60 =>
 M.ite t60
 (M.blk 3 (
 uB .sub (ug L 0) (uc 15) fun t64 =>
 uIM (some 64) 1 t7 t64 fun t66 =>
 uB .sub (ug L 0) (uc 15) fun t69 =>
 uI (some 64) 1 t7 t69 fun t70 =>
 uM t70 fun t71 =>
 uB .sub (ug L 0) (uc 15) fun t75 =>
 uI (some 64) 1 t7 t75 fun t76 =>
 uM t76 fun t77 =>
 uB .shr t77 (uq 3) fun t78 =>
 M.getH.bind fun h0 =>
 (G zam [t66,(uq 7)]).bind fun t67 =>
 M.getH.bind fun h0' =>
 uU t76 h0 h0' fun _ =>
 uU t70 h0 h0' fun _ =>
 M.getH.bind fun h1 =>
 (G zam [t71,(uq 18)]).bind fun t72 =>
 M.getH.bind fun h1' =>
 uU t76 h1 h1' fun _ =>
 uB .xor t67 t72 fun t73 =>
 uB .xor t73 t78 fun t79 =>
 uB .sub (ug L 0) (uc 2) fun t81 =>
 uIM (some 64) 1 t7 t81 fun t83 =>
 uB .sub (ug L 0) (uc 2) fun t86 =>
 uI (some 64) 1 t7 t86 fun t87 =>
 uM t87 fun t88 =>
 uB .sub (ug L 0) (uc 2) fun t92 =>
 uI (some 64) 1 t7 t92 fun t93 =>
 uM t93 fun t94 =>
 uB .shr t94 (uq 10) fun t95 =>
 M.getH.bind fun h2 =>
 (G zam [t83,(uq 17)]).bind fun t84 =>
 M.getH.bind fun h2' =>
 uU t93 h2 h2' fun _ =>
 uU t87 h2 h2' fun _ =>
 M.getH.bind fun h3 =>
 (G zam [t88,(uq 19)]).bind fun t89 =>
 M.getH.bind fun h3' =>
 uU t93 h3 h3' fun _ =>
 uB .xor t84 t89 fun t90 =>
 uB .xor t90 t95 fun t96 =>
 uB .sub (ug L 0) (uc 16) fun t99 =>
 uIM (some 64) 1 t7 t99 fun t101 =>
 uB .add t101 t79 fun t103 =>
 uB .sub (ug L 0) (uc 7) fun t105 =>
 uIM (some 64) 1 t7 t105 fun t107 =>
 uB .add t103 t107 fun t108 =>
 uB .add t108 t96 fun t110 =>
 uI (some 64) 1 t7 (ug L 0) fun t111 =>
 uT 1 t111 t110 fun _ =>
 M.pure (.nrm [])) fun _ =>
 uB .add (ug L 0) (uc 1) fun t62 =>
 M.pure (.nrm [t62]))
 (M.pure (.ex 2 []))
def zch (G:Sem') (t5 t7 t12 t6:V) (L:List V):M Res :=
 let p:=V.int .u32 0
 uB .lss (ug L 0) (uc 64) fun t114 =>
 M.ite t114
 (M.blk 5 (
 uIM (some 8) 1 t12 (uc 4) fun t118 =>
 uI (some 8) 1 t12 (uc 4) fun t120 =>
 uM t120 fun t121 =>
 uI (some 8) 1 t12 (uc 4) fun t124 =>
 uM t124 fun t125 =>
 M.getH.bind fun h4 =>
 (G zam [t118,(uq 6)]).bind fun t119 =>
 M.getH.bind fun h4' =>
 uU t124 h4 h4' fun _ =>
 uU t120 h4 h4' fun _ =>
 M.getH.bind fun h5 =>
 (G zam [t121,(uq 11)]).bind fun t122 =>
 M.getH.bind fun h5' =>
 uU t124 h5 h5' fun _ =>
 (G zam [t125,(uq 25)]).bind fun t126 =>
 uB .xor t119 t122 fun t123 =>
 uB .xor t123 t126 fun t127 =>
 uIM (some 8) 1 t12 (uc 4) fun t129 =>
 uIM (some 8) 1 t12 (uc 5) fun t131 =>
 uB .and t129 t131 fun t132 =>
 uIM (some 8) 1 t12 (uc 4) fun t134 =>
 uL (Ax.un .xor t134) fun t135 =>
 uIM (some 8) 1 t12 (uc 6) fun t137 =>
 uB .and t135 t137 fun t138 =>
 uB .xor t132 t138 fun t139 =>
 uIM (some 8) 1 t12 (uc 7) fun t141 =>
 uB .add t141 t127 fun t143 =>
 uB .add t143 t139 fun t145 =>
 uIM (some 64) 1 t5 (ug L 0) fun t148 =>
 uB .add t145 t148 fun t149 =>
 uIM (some 64) 1 t7 (ug L 0) fun t152 =>
 uB .add t149 t152 fun t153 =>
 uIM (some 8) 1 t12 (uc 0) fun t155 =>
 uI (some 8) 1 t12 (uc 0) fun t157 =>
 uM t157 fun t158 =>
 uI (some 8) 1 t12 (uc 0) fun t161 =>
 uM t161 fun t162 =>
 M.getH.bind fun h6 =>
 (G zam [t155,(uq 2)]).bind fun t156 =>
 M.getH.bind fun h6' =>
 uU t161 h6 h6' fun _ =>
 uU t157 h6 h6' fun _ =>
 M.getH.bind fun h7 =>
 (G zam [t158,(uq 13)]).bind fun t159 =>
 M.getH.bind fun h7' =>
 uU t161 h7 h7' fun _ =>
 (G zam [t162,(uq 22)]).bind fun t163 =>
 uB .xor t156 t159 fun t160 =>
 uB .xor t160 t163 fun t164 =>
 uIM (some 8) 1 t12 (uc 0) fun t166 =>
 uIM (some 8) 1 t12 (uc 1) fun t168 =>
 uB .and t166 t168 fun t169 =>
 uIM (some 8) 1 t12 (uc 0) fun t171 =>
 uIM (some 8) 1 t12 (uc 2) fun t173 =>
 uB .and t171 t173 fun t174 =>
 uB .xor t169 t174 fun t175 =>
 uIM (some 8) 1 t12 (uc 1) fun t177 =>
 uIM (some 8) 1 t12 (uc 2) fun t179 =>
 uB .and t177 t179 fun t180 =>
 uB .xor t175 t180 fun t181 =>
 uB .add t153 t164 fun t184 =>
 uB .add t184 t181 fun t186 =>
 uIM (some 8) 1 t12 (uc 0) fun t188 =>
 uIM (some 8) 1 t12 (uc 1) fun t190 =>
 uIM (some 8) 1 t12 (uc 2) fun t192 =>
 uIM (some 8) 1 t12 (uc 3) fun t194 =>
 uB .add t194 t153 fun t196 =>
 uIM (some 8) 1 t12 (uc 4) fun t198 =>
 uIM (some 8) 1 t12 (uc 5) fun t200 =>
 uIM (some 8) 1 t12 (uc 6) fun t202 =>
 uL (Ax.build [p,p,p,p,p,p,p,p] [(0,1,t186),(1,1,t188),(2,1,t190),(3,1,t192),(4,1,t196),(5,1,t198),(6,1,t200),(7,1,t202)]) fun t203 =>
 uT 8 t12 t203 fun _ =>
 M.pure (.nrm [])) fun _ =>
 uB .add (ug L 0) (uc 1) fun t116 =>
 M.pure (.nrm [t116]))
 (M.pure (.ex 4 []))
def zcg (G:Sem') (t12 t3 t6:V) (L:List V):M Res :=
 uB .lss (ug L 0) (uc 8) fun t205 =>
 M.ite t205
 (M.blk 7 (
 uIM (some 8) 1 t3 (ug L 0) fun t211 =>
 uIM (some 8) 1 t12 (ug L 0) fun t214 =>
 uB .add t211 t214 fun t215 =>
 uI (some 8) 1 t3 (ug L 0) fun t216 =>
 uT 1 t216 t215 fun _ =>
 M.pure (.nrm [])) fun _ =>
 uB .add (ug L 0) (uc 1) fun t207 =>
 M.pure (.nrm [t207]))
 (M.pure (.ex 6 []))
def zft (G:Sem') (t0 t1 t2:V):M Res :=
 let p:=V.int .u32 0
 uO zap t0 fun t3 =>
 uO zau t2 fun t5 =>
 uO zap (V.agg [p,p,p,p,p,p,p,p]) fun t6 =>
 uO zau (V.agg [p,p,p,p,p,p,p,p,p,p,p,p,p,p,p,p,p,p,p,p,p,p,p,p,p,p,p,p,p,p,p,p,p,p,p,p,p,p,p,p,p,p,p,p,p,p,p,p,p,p,p,p,p,p,p,p,p,p,p,p,p,p,p,p]) fun t7 =>
 M.blk 0 (
 M.iter (zcj G t1 t7 t6) [(uc 0)]) fun _ =>
 M.blk 2 (
 M.iter (zci G t7 t6) [(uc 16)]) fun _ =>
 uS 8 t3 fun t112 =>
 uO zap (V.agg [p,p,p,p,p,p,p,p]) fun t12 =>
 uT 8 t12 t112 fun _ =>
 M.blk 4 (
 M.iter (zch G t5 t7 t12 t6) [(uc 0)]) fun _ =>
 M.blk 6 (
 M.iter (zcg G t12 t3 t6) [(uc 0)]) fun _ =>
 uS 8 t3 fun t217 =>
 uT 8 t6 t217 fun _ =>
 uS 8 t6 fun r0 =>
 M.pure (.ret [r0])
theorem zia {t0 t1 t2:V}:OkT zcB [t0,t1,t2] (zft (sem T) t0 t1 t2):=okT (by kernel_rfl) (by kernel_rfl) (by kernel_rfl)
def zfs (G:Sem') (t0 t1:V):M Res :=
 uB .shr t0 t1 fun t7 =>
 uB .sub (uq 32) t1 fun t10 =>
 uB .shl t0 t10 fun t11 =>
 uB .or t7 t11 fun t12 =>
 M.pure (.ret [t12])
theorem zh9 {t0 t1:V}:OkT zam [t0,t1] (zfs (sem T) t0 t1):=okT (by kernel_rfl) (by kernel_rfl) (by kernel_rfl)
def zdc (G:Sem') (t2 t0 t1 t6 t7:V) (L:List V):M Res :=
 let o:=V.int .u8 0
 uL (vlen (ug L 0)) fun t19 =>
 uB .lss t19 t2 fun t21 =>
 M.ite t21
 (M.blk 1 (
 (mslit zad 0 [o] []).bind fun t25 =>
 (mappend zad 1 1 t25 (ug L 1)).bind fun t27 =>
 (mappend zad 1 1 t27 t1).bind fun t29 =>
 uL (Ax.cint .u8 (ug L 2)) fun t31 =>
 (mslit zad 1 [o] [(0,1,t31)]).bind fun t32 =>
 (mappend zad 1 1 t29 t32).bind fun t33 =>
 (G zbo [t0,t33]).bind fun t34 =>
 uO zae (V.agg [o,o,o,o,o,o,o,o,o,o,o,o,o,o,o,o,o,o,o,o,o,o,o,o,o,o,o,o,o,o,o,o]) fun t11 =>
 uT 32 t11 t34 fun _ =>
 uL (zaz (.arr 32) 1 t11 none none none) fun t35 =>
 (mappend zad 1 1 (ug L 0) t35).bind fun t38 =>
 M.pure (.nrm [t38,t35])) fun L0 =>
 uB .add (ug L 2) (uc 1) fun t23 =>
 M.pure (.nrm [(ug L0 0),(ug L0 1),t23]))
 (M.pure (.ex 0 [(ug L 0)]))
def zeX (G:Sem') (t0 t1 t2:V):M Res :=
 uB .lss t2 (uc 0) fun t13 =>
 M.ite t13
 (M.pure (.ret [V.nils,(uc 1)]))
 (uB .gtr t2 (uc 8160) fun t15 =>
 M.ite t15
 (M.pure (.ret [V.nils,(uc 4)]))
 ((mslit zad 0 [(ub 0)] []).bind fun t16 =>
 (mslit zad 0 [(ub 0)] []).bind fun t17 =>
 M.blk 0 (
 M.iter (zdc G t2 t0 t1 V.nils (uc 0)) [t16,t17,(uc 1)]) fun L1 =>
 uL (zaz .sl 1 (ug L1 0) none (some t2) (some t2)) fun t42 =>
 M.pure (.ret [t42,(uc 0)])))
theorem zhE {t0 t1 t2:V}:OkT za8 [t0,t1,t2] (zeX (sem T) t0 t1 t2):=okT (by kernel_rfl) (by kernel_rfl) (by kernel_rfl)
def ze4 (G:Sem'):M Res :=
 (G zdb [(uc 1),(uc 2)]).bind fun t12 =>
 uE 0 t12 fun t13 =>
 uE 1 t12 fun t14 =>
 (G zbO [(uc 1)]).bind fun t16 =>
 uE 0 t16 fun t17 =>
 uE 1 t16 fun t18 =>
 uB .neq t14 (uc 0) fun t20 =>
 uG t20 false (M.pure t18) fun t22 =>
 uH t20 false (Ax.bin .neq t22 (uc 0)) fun t23 =>
 uL (Ax.pick t20 (V.bool true) t23) fun t24 =>
 uG t24 false (M.pure t13) fun t26 =>
 uH t24 false (eqr .ptr false t26 V.nilp) fun t27 =>
 uL (Ax.pick t24 (V.bool true) t27) fun t28 =>
 uG t28 false (M.pure t17) fun t30 =>
 uH t28 false (eqr .ptr false t30 V.nilp) fun t31 =>
 uL (Ax.pick t28 (V.bool true) t31) fun t32 =>
 uG t32 false (M.pure t13) fun t34 =>
 uG t32 false (mslit zad 4 [(ub 0)] [(0,1,(ub 98)),(1,1,(ub 97)),(2,1,(ub 115)),(3,1,(ub 101))]) fun t35 =>
 uG t32 false (mremark zad t35) fun t36 =>
 uG t32 false (G zdG [t34,(uc 0),(uc 0),t36]) fun t37 =>
 uH t32 false (Ax.bin .neq t37 (uc 0)) fun t38 =>
 uL (Ax.pick t32 (V.bool true) t38) fun t39 =>
 uG t39 false (M.pure t17) fun t41 =>
 uG t39 false (mslit zad 4 [(ub 0)] [(0,1,(ub 98)),(1,1,(ub 97)),(2,1,(ub 115)),(3,1,(ub 101))]) fun t42 =>
 uG t39 false (mremark zad t42) fun t43 =>
 uG t39 false (G zb7 [t41,(uc 0),(uc 2),(uc 0),t43]) fun t44 =>
 uH t39 false (Ax.bin .neq t44 (uc 0)) fun t45 =>
 uL (Ax.pick t39 (V.bool true) t45) fun t46 =>
 M.ite t46
 (M.pure (.ret [(V.bool false)]))
 ((mslit zad 1 [(ub 0)] [(0,1,(ub 120))]).bind fun t49 =>
 (mremark zad t49).bind fun t50 =>
 (G zdl [t13,V.nils,t50]).bind fun t51 =>
 uE 0 t51 fun t52 =>
 uE 1 t51 fun t53 =>
 (G zbr [t17,V.nils,t52]).bind fun t57 =>
 uE 0 t57 fun t58 =>
 uE 1 t57 fun t59 =>
 uO zaJ (V.agg [(uc 0),(uc 0),(uc 0),(uq 0),V.nils]) fun t7 =>
 uT 5 t7 t58 fun _ =>
 (G zbr [t17,V.nils,t52]).bind fun t63 =>
 uE 0 t63 fun t64 =>
 uE 1 t63 fun t65 =>
 uO zaJ (V.agg [(uc 0),(uc 0),(uc 0),(uq 0),V.nils]) fun t9 =>
 uT 5 t9 t64 fun _ =>
 uB .eql t53 (uc 0) fun t67 =>
 uG t67 true (M.pure t59) fun t69 =>
 uH t67 true (Ax.bin .eql t69 (uc 0)) fun t70 =>
 uL (Ax.pick t67 t70 (V.bool false)) fun t71 =>
 uH t71 true (Ax.faddr 2 t7) fun t73 =>
 uG t71 true (mload none t73) fun t74 =>
 uH t71 true (Ax.bin .eql t74 (uc 2)) fun t75 =>
 uL (Ax.pick t71 t75 (V.bool false)) fun t76 =>
 uH t76 true (Ax.faddr 3 t7) fun t78 =>
 uG t76 true (mload none t78) fun t79 =>
 uH t76 true (Ax.bin .eql t79 (uq 0)) fun t80 =>
 uL (Ax.pick t76 t80 (V.bool false)) fun t81 =>
 uH t81 true (Ax.faddr 4 t7) fun t83 =>
 uG t81 true (mload none t83) fun t84 =>
 uG t81 true (mtostr t84) fun t85 =>
 uH t81 true (Ax.bin .eql t85 (V.str ⟨#[120]⟩)) fun t86 =>
 uL (Ax.pick t81 t86 (V.bool false)) fun t87 =>
 uG t87 true (M.pure t65) fun t89 =>
 uH t87 true (Ax.bin .eql t89 (uc 9)) fun t90 =>
 uL (Ax.pick t87 t90 (V.bool false)) fun t91 =>
 M.pure (.ret [t91]))
theorem zhL:OkT zcf [] (ze4 (sem T)):=okT (by kernel_rfl) (by kernel_rfl) (by kernel_rfl)
def zhs (G:Sem') (t0 t1 t2 t3:V):M Res :=
 uNFM 1 t0 fun t18 =>
 (G ziP [t1,t2,t18]).bind fun t19 =>
 uE 0 t19 fun t20 =>
 uE 1 t19 fun t21 =>
 M.blk 0 (
 uB .neq t21 (uc 0) fun t24 =>
 M.ite t24
 (M.pure (.ret [t21]))
 (uNFM 2 t0 fun t30 =>
 uL (eqr .ptr true t30 V.nilp) fun t31 =>
 uG t31 true (M.pure t0) fun t33 =>
 uH t31 true (Ax.nilck t33) fun t34 =>
 uH t31 true (Ax.faddr 5 t34) fun t35 =>
 uG t31 true (mload none t35) fun t36 =>
 uG t31 true (M.pure t20) fun t37 =>
 uG t31 true (G zhR [t36,t37]) fun t38 =>
 uH t31 true (Ax.un .not t38) fun t39 =>
 uL (Ax.pick t31 t39 (V.bool false)) fun t40 =>
 M.ite t40
 (M.pure (.ret [(uc 9)]))
 (M.pure (.nrm [])))) fun _ =>
 uNFM 0 t0 fun t45 =>
 (G zbS [t45,t20,t3]).bind fun t48 =>
 uE 0 t48 fun t49 =>
 uE 1 t48 fun t50 =>
 uB .neq t50 (uc 0) fun t52 =>
 M.ite t52
 (M.pure (.ret [t50]))
 (uNF 2 t0 fun t64 =>
 uT 1 t64 t49 fun _ =>
 uNF 3 t0 fun t66 =>
 uT 1 t66 t1 fun _ =>
 uNF 4 t0 fun t68 =>
 uT 1 t68 t2 fun _ =>
 uNF 5 t0 fun t70 =>
 uT 1 t70 t20 fun _ =>
 uNF 6 t0 fun t72 =>
 (mstore 1 t72 (uq 0)).bind fun _ =>
 M.pure (.ret [(uc 0)]))
theorem zkl {t0 t1 t2 t3:V}:OkT zdG [t0,t1,t2,t3] (zhs (sem T) t0 t1 t2 t3):=okT (by kernel_rfl) (by kernel_rfl) (by kernel_rfl)
def zr3 (G:Sem') (t0 t1 t2:V):M Res :=
 uB .lss t0 (uc 0) fun t9 =>
 uG t9 false (M.pure t0) fun t11 =>
 uH t9 false (Ax.bin .gtr t11 (uc 65535)) fun t12 =>
 uL (Ax.pick t9 (V.bool true) t12) fun t13 =>
 uG t13 false (M.pure t1) fun t15 =>
 uH t13 false (Ax.bin .lss t15 (uc 0)) fun t16 =>
 uL (Ax.pick t13 (V.bool true) t16) fun t17 =>
 uG t17 false (M.pure t1) fun t19 =>
 uH t17 false (Ax.bin .gtr t19 (uc 31)) fun t20 =>
 uL (Ax.pick t17 (V.bool true) t20) fun t21 =>
 uG t21 false (M.pure t2) fun t23 =>
 uH t21 false (Ax.bin .lss t23 (uc 0)) fun t24 =>
 uL (Ax.pick t21 (V.bool true) t24) fun t25 =>
 uG t25 false (M.pure t2) fun t27 =>
 uH t25 false (Ax.bin .geq t27 (uc 8)) fun t28 =>
 uL (Ax.pick t25 (V.bool true) t28) fun t29 =>
 M.ite t29
 (M.pure (.ret [(uq 0),(uc 1)]))
 (uB .mul (uc 256) t0 fun t31 =>
 uB .mul (uc 8) t1 fun t33 =>
 uB .add t31 t33 fun t34 =>
 uB .add t34 t2 fun t36 =>
 uL (Ax.cint .u64 t36) fun t37 =>
 M.pure (.ret [t37,(uc 0)]))
theorem zuk {t0 t1 t2:V}:OkT ziP [t0,t1,t2] (zr3 (sem T) t0 t1 t2):=okT (by kernel_rfl) (by kernel_rfl) (by kernel_rfl)
def zn6 (G:Sem') (t0 t1:V):M Res :=
 uB .lss t0 (uq 16777216) fun t6 =>
 uG t6 true (M.pure t1) fun t8 =>
 uH t6 true (Ax.bin .lss t8 (uq 16777216)) fun t9 =>
 uL (Ax.pick t6 t9 (V.bool false)) fun t10 =>
 uG t10 true (M.pure t0) fun t12 =>
 uH t10 true (Ax.bin .quo t12 (uq 8)) fun t13 =>
 uG t10 true (M.pure t1) fun t14 =>
 uH t10 true (Ax.bin .quo t14 (uq 8)) fun t15 =>
 uH t10 true (Ax.bin .lss t13 t15) fun t16 =>
 uL (Ax.pick t10 t16 (V.bool false)) fun t17 =>
 M.pure (.ret [t17])
theorem zqF {t0 t1:V}:OkT zhR [t0,t1] (zn6 (sem T) t0 t1):=okT (by kernel_rfl) (by kernel_rfl) (by kernel_rfl)
def zju (G:Sem') (t0 t1 t2:V):M Res :=
 let o:=V.int .u8 0
 (G zc2 [t0]).bind fun t21 =>
 uE 0 t21 fun t22 =>
 uE 1 t21 fun t23 =>
 uE 2 t21 fun t24 =>
 uL (Ax.un .not t24) fun t26 =>
 M.ite t26
 (M.pure (.ret [V.nilp,(uc 1)]))
 ((G zej [V.nils,t2]).bind fun t28 =>
 uO zae (V.agg [o,o,o,o,o,o,o,o,o,o,o,o,o,o,o,o,o,o,o,o,o,o,o,o,o,o,o,o,o,o,o,o]) fun t11 =>
 uT 32 t11 t28 fun _ =>
 (G zbA [t1,(uc 8)]).bind fun t30 =>
 uL (Ax.cint .u64 t0) fun t32 =>
 (G zbA [t32,(uc 2)]).bind fun t33 =>
 (mappend zad 1 1 t30 t33).bind fun t34 =>
 uL (zaz (.arr 32) 1 t11 none none none) fun t36 =>
 uB .add t22 (uc 32) fun t42 =>
 (mslit zad 22 [o] [(0,1,(ub 83)),(1,1,(ub 70)),(2,1,(ub 114)),(3,1,(ub 97)),(4,1,(ub 109)),(5,1,(ub 101)),(6,1,(ub 32)),(7,1,(ub 49)),(8,1,(ub 46)),(9,1,(ub 48)),(10,1,(ub 32)),(11,1,(ub 83)),(12,1,(ub 101)),(13,1,(ub 99)),(14,1,(ub 114)),(15,1,(ub 101)),(16,1,(ub 116)),(17,1,(ub 32)),(18,1,(ub 107)),(19,1,(ub 101)),(20,1,(ub 121)),(21,1,(ub 32))]).bind fun t37 =>
 (mremark zad t37).bind fun t38 =>
 (mappend zad 1 1 t38 t34).bind fun t40 =>
 (G zd3 [t36,t40,t42]).bind fun t43 =>
 uE 0 t43 fun t44 =>
 uE 1 t43 fun t45 =>
 uL (zaz (.arr 32) 1 t11 none none none) fun t47 =>
 (mslit zad 23 [o] [(0,1,(ub 83)),(1,1,(ub 70)),(2,1,(ub 114)),(3,1,(ub 97)),(4,1,(ub 109)),(5,1,(ub 101)),(6,1,(ub 32)),(7,1,(ub 49)),(8,1,(ub 46)),(9,1,(ub 48)),(10,1,(ub 32)),(11,1,(ub 83)),(12,1,(ub 101)),(13,1,(ub 99)),(14,1,(ub 114)),(15,1,(ub 101)),(16,1,(ub 116)),(17,1,(ub 32)),(18,1,(ub 115)),(19,1,(ub 97)),(20,1,(ub 108)),(21,1,(ub 116)),(22,1,(ub 32))]).bind fun t48 =>
 (mremark zad t48).bind fun t49 =>
 (mappend zad 1 1 t49 t34).bind fun t51 =>
 (G zd3 [t47,t51,(uc 12)]).bind fun t52 =>
 uE 0 t52 fun t53 =>
 uE 1 t52 fun t54 =>
 uL (zaz .sl 1 t44 none (some t22) none) fun t58 =>
 (G zgL [t58]).bind fun t59 =>
 uE 0 t59 fun t60 =>
 uE 1 t59 fun t61 =>
 uB .neq t61 (uc 0) fun t63 =>
 M.ite t63
 (M.pure (.ret [V.nilp,t61]))
 (uL (zaz .sl 1 t44 (some t22) none none) fun t70 =>
 uL (Ax.build [(uq 0),(uc 0),V.nilp,V.nils,V.nils] [(0,1,t1),(1,1,t23),(2,1,t60),(3,1,t70),(4,1,t53)]) fun t72 =>
 uO zaR t72 fun t73 =>
 M.pure (.ret [t73,(uc 0)])))
theorem zmv {t0 t1 t2:V}:OkT zbS [t0,t1,t2] (zju (sem T) t0 t1 t2):=okT (by kernel_rfl) (by kernel_rfl) (by kernel_rfl)
end Go.Ax
/- FnS2 -/
namespace Go.Ax
open Go.Proofs
def zkI (G:Sem') (t0 t1:V):M Res :=
 let o:=V.int .u8 0
 uO zae (V.agg [o,o,o,o,o,o,o,o,o,o,o,o,o,o,o,o,o,o,o,o,o,o,o,o,o,o,o,o,o,o,o,o]) fun t4 =>
 (mslit zar 1 [V.nils] [(0,1,t1)]).bind fun t7 =>
 (G zhl [t0,t7]).bind fun t8 =>
 uT 32 t4 t8 fun _ =>
 uS 32 t4 fun r0 =>
 M.pure (.ret [r0])
theorem znB {t0 t1:V}:OkT zej [t0,t1] (zkI (sem T) t0 t1):=okT (by kernel_rfl) (by kernel_rfl) (by kernel_rfl)
def zle (G:Sem') (t23 t22 t6 t4:V) (L:List V):M Res :=
 uB .lss (ug L 0) t23 fun t25 =>
 M.ite t25
 (M.blk 1 (
 uIM none 1 t22 (ug L 0) fun t27 =>
 (G zbg [t6,t27]).bind fun t30 =>
 M.pure (.nrm [])) fun _ =>
 uB .add (ug L 0) (uc 1) fun t31 =>
 M.pure (.nrm [t31]))
 (M.pure (.ex 0 []))
def zr2 (G:Sem') (t0 t1:V):M Res :=
 let o:=V.int .u8 0
 uO zae (V.agg [o,o,o,o,o,o,o,o,o,o,o,o,o,o,o,o,o,o,o,o,o,o,o,o,o,o,o,o,o,o,o,o]) fun t4 =>
 uL (vlen t0) fun t11 =>
 uB .gtr t11 (uc 64) fun t12 =>
 M.join (M.ite t12
 ((mslit zar 1 [V.nils] [(0,1,t0)]).bind fun t14 =>
 (G zfr [t14]).bind fun t15 =>
 uO zae (V.agg [o,o,o,o,o,o,o,o,o,o,o,o,o,o,o,o,o,o,o,o,o,o,o,o,o,o,o,o,o,o,o,o]) fun t5 =>
 uT 32 t5 t15 fun _ =>
 uL (zaz (.arr 32) 1 t5 none none none) fun t16 =>
 M.pure (.nrm [t16]))
 (M.pure (.nrm [t0]))) fun L0 =>
 (G zeL []).bind fun t17 =>
 (G zhk [(ug L0 0),(ub 54)]).bind fun t20 =>
 (G zbg [t17,t20]).bind fun t21 =>
 uL (vlen t1) fun t23 =>
 M.blk 0 (
 M.iter (zle G t23 t1 t17 t4) [(uc 0)]) fun _ =>
 (G zb8 [t17]).bind fun t33 =>
 uO zae (V.agg [o,o,o,o,o,o,o,o,o,o,o,o,o,o,o,o,o,o,o,o,o,o,o,o,o,o,o,o,o,o,o,o]) fun t9 =>
 uT 32 t9 t33 fun _ =>
 uL (zaz (.arr 32) 1 t9 none none none) fun t36 =>
 (G zhk [(ug L0 0),(ub 92)]).bind fun t35 =>
 (mslit zar 2 [V.nils] [(0,1,t35),(1,1,t36)]).bind fun t37 =>
 (G zfr [t37]).bind fun t38 =>
 uT 32 t4 t38 fun _ =>
 uS 32 t4 fun r0 =>
 M.pure (.ret [r0])
theorem zuj {t0 t1:V}:OkT zhl [t0,t1] (zr2 (sem T) t0 t1):=okT (by kernel_rfl) (by kernel_rfl) (by kernel_rfl)
def zhT (G:Sem') (t8 t7 t3 t2:V) (L:List V):M Res :=
 uB .lss (ug L 0) t8 fun t10 =>
 M.ite t10
 (M.blk 1 (
 uIM none 1 t7 (ug L 0) fun t12 =>
 (G zbg [t3,t12]).bind fun t15 =>
 M.pure (.nrm [])) fun _ =>
 uB .add (ug L 0) (uc 1) fun t16 =>
 M.pure (.nrm [t16]))
 (M.pure (.ex 0 []))
def zmY (G:Sem') (t0:V):M Res :=
 let o:=V.int .u8 0
 uO zae (V.agg [o,o,o,o,o,o,o,o,o,o,o,o,o,o,o,o,o,o,o,o,o,o,o,o,o,o,o,o,o,o,o,o]) fun t2 =>
 (G zeL []).bind fun t6 =>
 uL (vlen t0) fun t8 =>
 M.blk 0 (
 M.iter (zhT G t8 t0 t6 t2) [(uc 0)]) fun _ =>
 (G zb8 [t6]).bind fun t18 =>
 uT 32 t2 t18 fun _ =>
 uS 32 t2 fun r0 =>
 M.pure (.ret [r0])
theorem zpD {t0:V}:OkT zfr [t0] (zmY (sem T) t0):=okT (by kernel_rfl) (by kernel_rfl) (by kernel_rfl)
def zlG (G:Sem'):M Res :=
 let p:=V.int .u32 0
 uL (Ax.build [p,p,p,p,p,p,p,p] [(0,1,(V.int .u32 1779033703)),(1,1,(V.int .u32 3144134277)),(2,1,(V.int .u32 1013904242)),(3,1,(V.int .u32 2773480762)),(4,1,(V.int .u32 1359893119)),(5,1,(V.int .u32 2600822924)),(6,1,(V.int .u32 528734635)),(7,1,(V.int .u32 1541459225))]) fun t1 =>
 uL (Ax.build [p,(V.int .i32 0),p,p,p,p,p,p,p,p,p,p,p,p,p,p,p,p,p,p,p,p,p,p,p,p,p,p,p,p,p,p,p,p,p,p,p,p,p,p,p,p,p,p,p,p,p,p,p,p,p,p,p,p,p,p,p,p,p,p,p,p,p,p,p,p,p] []) fun t2 =>
 uO zaH t2 fun t3 =>
 uL (Ax.build [p,p,p,p,p,p,p,p,V.nils,(uq 0),V.nilp] [(0,8,t1),(10,1,t3)]) fun t4 =>
 uO zaw t4 fun t5 =>
 M.pure (.ret [t5])
theorem zoA:OkT zeL [] (zlG (sem T)):=okT (by kernel_rfl) (by kernel_rfl) (by kernel_rfl)
def zcX (G:Sem') (t0:V) (L:List V):M Res :=
 uL (vlen (ug L 0)) fun t65 =>
 uB .geq t65 (uc 64) fun t66 =>
 M.ite t66
 (M.blk 1 (
 uL (zaz .sl 1 (ug L 0) none (some (uc 64)) none) fun t71 =>
 (G zbj [t0,t71]).bind fun t72 =>
 M.pure (.nrm [])) fun _ =>
 uL (zaz .sl 1 (ug L 0) (some (uc 64)) none none) fun t68 =>
 M.pure (.nrm [t68]))
 (M.pure (.ex 0 [(ug L 0)]))
def zgx (G:Sem') (t0 t1:V):M Res :=
 uNFM 9 t0 fun t8 =>
 uL (vlen t1) fun t10 =>
 uL (Ax.cint .u64 t10) fun t11 =>
 uB .add t8 t11 fun t12 =>
 uNF 9 t0 fun t14 =>
 uT 1 t14 t12 fun _ =>
 uNFM 8 t0 fun t18 =>
 uL (vlen t18) fun t19 =>
 uB .gtr t19 (uc 0) fun t20 =>
 M.join (M.ite t20
 (uNFM 8 t0 fun t24 =>
 uL (vlen t24) fun t25 =>
 uB .sub (uc 64) t25 fun t26 =>
 uL (vlen t1) fun t28 =>
 uL (Ax.minmax false t26 [t28]) fun t29 =>
 uNFM 8 t0 fun t34 =>
 uL (zaz .sl 1 t1 none (some t29) none) fun t37 =>
 (mappend zad 1 1 t34 t37).bind fun t38 =>
 uNF 8 t0 fun t40 =>
 uT 1 t40 t38 fun _ =>
 uL (zaz .sl 1 t1 (some t29) none none) fun t43 =>
 uNFM 8 t0 fun t47 =>
 uL (vlen t47) fun t48 =>
 uB .lss t48 (uc 64) fun t49 =>
 M.ite t49
 (M.pure (.ret []))
 (uNFM 8 t0 fun t54 =>
 (G zbj [t0,t54]).bind fun t55 =>
 uNFM 8 t0 fun t60 =>
 uL (zaz .sl 1 t60 none (some (uc 0)) none) fun t61 =>
 uNF 8 t0 fun t63 =>
 uT 1 t63 t61 fun _ =>
 M.pure (.nrm [t43])))
 (M.pure (.nrm [t1]))) fun L0 =>
 M.blk 0 (
 M.iter (zcX G t0) [(ug L0 0)]) fun L2 =>
 uNFM 8 t0 fun t77 =>
 (mappend zad 1 1 t77 (ug L2 0)).bind fun t79 =>
 uNF 8 t0 fun t81 =>
 uT 1 t81 t79 fun _ =>
 M.pure (.ret [])
theorem zjn {t0 t1:V}:OkT zbg [t0,t1] (zgx (sem T) t0 t1):=okT (by kernel_rfl) (by kernel_rfl) (by kernel_rfl)
def zcn (G:Sem') (t1 t5:V) (L:List V):M Res :=
 uB .lss (ug L 0) (uc 64) fun t22 =>
 M.ite t22
 (M.blk 1 (
 uB .lss (ug L 0) (uc 16) fun t25 =>
 M.ite t25
 (uB .mul (uc 4) (ug L 0) fun t29 =>
 uL (zaz .sl 1 t1 (some t29) none none) fun t30 =>
 (G zfl [t30]).bind fun t31 =>
 uI (some 64) 1 t5 (ug L 0) fun t32 =>
 uT 1 t32 t31 fun _ =>
 M.pure (.ex 1 []))
 (uB .sub (ug L 0) (uc 15) fun t34 =>
 uIM (some 64) 1 t5 t34 fun t36 =>
 uB .sub (ug L 0) (uc 2) fun t38 =>
 uIM (some 64) 1 t5 t38 fun t40 =>
 uB .sub (ug L 0) (uc 16) fun t43 =>
 uI (some 64) 1 t5 t43 fun t44 =>
 uM t44 fun t45 =>
 uB .shr t36 (uq 3) fun t52 =>
 uB .sub (ug L 0) (uc 7) fun t56 =>
 uI (some 64) 1 t5 t56 fun t57 =>
 uM t57 fun t58 =>
 uB .shr t40 (uq 10) fun t66 =>
 M.getH.bind fun h0 =>
 (G zaD [t36,(uc 7)]).bind fun t47 =>
 M.getH.bind fun h0' =>
 uU t57 h0 h0' fun _ =>
 uU t44 h0 h0' fun _ =>
 M.getH.bind fun h1 =>
 (G zaD [t36,(uc 18)]).bind fun t49 =>
 M.getH.bind fun h1' =>
 uU t57 h1 h1' fun _ =>
 uU t44 h1 h1' fun _ =>
 M.getH.bind fun h2 =>
 (G zaD [t40,(uc 17)]).bind fun t61 =>
 M.getH.bind fun h2' =>
 uU t57 h2 h2' fun _ =>
 uU t44 h2 h2' fun _ =>
 M.getH.bind fun h3 =>
 (G zaD [t40,(uc 19)]).bind fun t63 =>
 M.getH.bind fun h3' =>
 uU t57 h3 h3' fun _ =>
 uU t44 h3 h3' fun _ =>
 uB .xor t47 t49 fun t50 =>
 uB .xor t50 t52 fun t53 =>
 uB .add t45 t53 fun t54 =>
 uB .add t54 t58 fun t59 =>
 uB .xor t61 t63 fun t64 =>
 uB .xor t64 t66 fun t67 =>
 uB .add t59 t67 fun t68 =>
 uI (some 64) 1 t5 (ug L 0) fun t69 =>
 uT 1 t69 t68 fun _ =>
 M.pure (.nrm []))) fun _ =>
 uB .add (ug L 0) (uc 1) fun t70 =>
 M.pure (.nrm [t70]))
 (M.pure (.ex 0 []))
def zcm (G:Sem') (t4 t5 t9:V) (L:List V):M Res :=
 let p:=V.int .u32 0
 uB .lss (ug L 0) (uc 64) fun t76 =>
 M.ite t76
 (M.blk 3 (
 uIM (some 8) 1 t9 (uc 0) fun t79 =>
 uIM (some 8) 1 t9 (uc 4) fun t81 =>
 uI (some 8) 1 t9 (uc 7) fun t82 =>
 uM t82 fun t83 =>
 uI (some 8) 1 t9 (uc 5) fun t94 =>
 uM t94 fun t95 =>
 uB .and t81 t95 fun t96 =>
 uL (Ax.un .xor t81) fun t98 =>
 uI (some 8) 1 t9 (uc 6) fun t99 =>
 uM t99 fun t100 =>
 uB .and t98 t100 fun t101 =>
 uB .xor t96 t101 fun t102 =>
 uN t4 fun t106 =>
 uI (some 64) 1 t106 (ug L 0) fun t107 =>
 uM t107 fun t108 =>
 uI (some 64) 1 t5 (ug L 0) fun t111 =>
 uM t111 fun t112 =>
 M.getH.bind fun h4 =>
 (G zaD [t81,(uc 6)]).bind fun t85 =>
 M.getH.bind fun h4' =>
 uU t111 h4 h4' fun _ =>
 uU t107 h4 h4' fun _ =>
 uU t99 h4 h4' fun _ =>
 uU t94 h4 h4' fun _ =>
 uU t82 h4 h4' fun _ =>
 M.getH.bind fun h5 =>
 (G zaD [t81,(uc 11)]).bind fun t87 =>
 M.getH.bind fun h5' =>
 uU t111 h5 h5' fun _ =>
 uU t107 h5 h5' fun _ =>
 uU t99 h5 h5' fun _ =>
 uU t94 h5 h5' fun _ =>
 uU t82 h5 h5' fun _ =>
 M.getH.bind fun h6 =>
 (G zaD [t81,(uc 25)]).bind fun t90 =>
 M.getH.bind fun h6' =>
 uU t111 h6 h6' fun _ =>
 uU t107 h6 h6' fun _ =>
 uU t99 h6 h6' fun _ =>
 uU t94 h6 h6' fun _ =>
 uU t82 h6 h6' fun _ =>
 uB .xor t85 t87 fun t88 =>
 uB .xor t88 t90 fun t91 =>
 uB .add t83 t91 fun t92 =>
 uB .add t92 t102 fun t103 =>
 uB .add t103 t108 fun t109 =>
 uB .add t109 t112 fun t113 =>
 uI (some 8) 1 t9 (uc 1) fun t123 =>
 uM t123 fun t124 =>
 uB .and t79 t124 fun t125 =>
 uI (some 8) 1 t9 (uc 2) fun t127 =>
 uM t127 fun t128 =>
 uB .and t79 t128 fun t129 =>
 uB .xor t125 t129 fun t130 =>
 uI (some 8) 1 t9 (uc 1) fun t131 =>
 uM t131 fun t132 =>
 uI (some 8) 1 t9 (uc 2) fun t133 =>
 uM t133 fun t134 =>
 uB .and t132 t134 fun t135 =>
 uB .xor t130 t135 fun t136 =>
 M.getH.bind fun h7 =>
 (G zaD [t79,(uc 2)]).bind fun t115 =>
 M.getH.bind fun h7' =>
 uU t133 h7 h7' fun _ =>
 uU t131 h7 h7' fun _ =>
 uU t127 h7 h7' fun _ =>
 uU t123 h7 h7' fun _ =>
 M.getH.bind fun h8 =>
 (G zaD [t79,(uc 13)]).bind fun t117 =>
 M.getH.bind fun h8' =>
 uU t133 h8 h8' fun _ =>
 uU t131 h8 h8' fun _ =>
 uU t127 h8 h8' fun _ =>
 uU t123 h8 h8' fun _ =>
 M.getH.bind fun h9 =>
 (G zaD [t79,(uc 22)]).bind fun t120 =>
 M.getH.bind fun h9' =>
 uU t133 h9 h9' fun _ =>
 uU t131 h9 h9' fun _ =>
 uU t127 h9 h9' fun _ =>
 uU t123 h9 h9' fun _ =>
 uB .xor t115 t117 fun t118 =>
 uB .xor t118 t120 fun t121 =>
 uB .add t121 t136 fun t137 =>
 uB .add t113 t137 fun t140 =>
 uIM (some 8) 1 t9 (uc 1) fun t143 =>
 uIM (some 8) 1 t9 (uc 2) fun t145 =>
 uIM (some 8) 1 t9 (uc 3) fun t147 =>
 uB .add t147 t113 fun t149 =>
 uIM (some 8) 1 t9 (uc 5) fun t152 =>
 uIM (some 8) 1 t9 (uc 6) fun t154 =>
 uL (Ax.build [p,p,p,p,p,p,p,p] [(0,1,t140),(1,1,t79),(2,1,t143),(3,1,t145),(4,1,t149),(5,1,t81),(6,1,t152),(7,1,t154)]) fun t155 =>
 uT 8 t9 t155 fun _ =>
 M.pure (.nrm [])) fun _ =>
 uB .add (ug L 0) (uc 1) fun t156 =>
 M.pure (.nrm [t156]))
 (M.pure (.ex 2 []))
def zcl (G:Sem') (t0 t9:V) (L:List V):M Res :=
 uB .lss (ug L 0) (uc 8) fun t158 =>
 M.ite t158
 (M.blk 5 (
 uNF 0 t0 fun t163 =>
 uIM (some 8) 1 t163 (ug L 0) fun t165 =>
 uIM (some 8) 1 t9 (ug L 0) fun t168 =>
 uB .add t165 t168 fun t169 =>
 uNF 0 t0 fun t171 =>
 uI (some 8) 1 t171 (ug L 0) fun t172 =>
 uT 1 t172 t169 fun _ =>
 M.pure (.nrm [])) fun _ =>
 uB .add (ug L 0) (uc 1) fun t173 =>
 M.pure (.nrm [t173]))
 (M.pure (.ex 4 []))
def zfz (G:Sem') (t0 t1:V):M Res :=
 let p:=V.int .u32 0
 uNFM 10 t0 fun t19 =>
 (G zc7 [t19]).bind fun t20 =>
 uO zau (V.agg [p,p,p,p,p,p,p,p,p,p,p,p,p,p,p,p,p,p,p,p,p,p,p,p,p,p,p,p,p,p,p,p,p,p,p,p,p,p,p,p,p,p,p,p,p,p,p,p,p,p,p,p,p,p,p,p,p,p,p,p,p,p,p,p]) fun t5 =>
 M.blk 0 (
 M.iter (zcn G t1 t5) [(uc 0)]) fun _ =>
 uNF 0 t0 fun t73 =>
 uS 8 t73 fun t74 =>
 uO zap (V.agg [p,p,p,p,p,p,p,p]) fun t9 =>
 uT 8 t9 t74 fun _ =>
 M.blk 2 (
 M.iter (zcm G t20 t5 t9) [(uc 0)]) fun _ =>
 M.blk 4 (
 M.iter (zcl G t0 t9) [(uc 0)]) fun _ =>
 M.pure (.ret [])
theorem zif {t0 t1:V}:OkT zbj [t0,t1] (zfz (sem T) t0 t1):=okT (by kernel_rfl) (by kernel_rfl) (by kernel_rfl)
def zgv (G:Sem') (t0:V):M Res :=
 uO zbh t0 fun t1 =>
 uM t1 fun t3 =>
 uNF 0 t3 fun t5 =>
 (M.pure (.fn zcE [t1])).bind fun t6 =>
 (G zda [t5,t6]).bind fun t7 =>
 uM t1 fun t8 =>
 uNF 3 t8 fun t10 =>
 M.pure (.ret [t10])
theorem zjl {t0:V}:OkT zc7 [t0] (zgv (sem T) t0):=okT (by kernel_rfl) (by kernel_rfl) (by kernel_rfl)
def zeR (G:Sem') (L:List V):M Res :=
 (G zbX [(ug L 0)]).bind fun t9 =>
 uL (Ax.un .not t9) fun t10 =>
 M.ite t10
 (M.blk 3 (
 uB .add (ug L 0) (uc 1) fun t12 =>
 M.pure (.nrm [t12])) fun L0 =>
 M.pure (.nrm [(ug L0 0)]))
 (M.pure (.ex 2 [(ug L 0)]))
def zdm (G:Sem') (t0:V) (L:List V):M Res :=
 uB .lss (ug L 1) (uc 64) fun t4 =>
 M.ite t4
 (M.blk 1 (
 uB .add (ug L 0) (uc 1) fun t7 =>
 M.blk 2 (
 M.iter (zeR G) [t7]) fun L1 =>
 uM t0 fun t13 =>
 uL (Ax.cint .u64 (ug L1 0)) fun t16 =>
 uNF 3 t13 fun t19 =>
 M.getH.bind fun h0 =>
 (G zco [t16]).bind fun t17 =>
 M.getH.bind fun h0' =>
 uU t0 h0 h0' fun _ =>
 uI (some 64) 1 t19 (ug L 1) fun t20 =>
 uT 1 t20 t17 fun _ =>
 M.pure (.nrm [(ug L1 0)])) fun L2 =>
 uB .add (ug L 1) (uc 1) fun t21 =>
 M.pure (.nrm [(ug L2 0),t21]))
 (M.pure (.ex 0 []))
def zfy (G:Sem') (t0:V):M Res :=
 M.blk 0 (
 M.iter (zdm G t0) [(uc 0),(uc 0)]) fun _ =>
 M.pure (.ret [])
theorem zie {t0:V}:OkT zcE [t0] (zfy (sem T) t0):=okT (by kernel_rfl) (by kernel_rfl) (by kernel_rfl)
def zgi:Fn':=irOf zbX
theorem zme:T zbX = some zgi:=by kernel_rfl
def zgZ:Fn':=irOf zco
theorem znp:T zco = some zgZ:=by kernel_rfl
def ziK:Fn':=irOf zew
theorem zpa:T zew = some ziK:=by kernel_rfl
def zfF:Fn':=irOf zcI
theorem zlN:T zcI = some zfF:=by kernel_rfl
def ziJ:Fn':=irOf zev
theorem zo9:T zev = some ziJ:=by kernel_rfl
def zhM:Fn':=irOf zd1
theorem zoi:T zd1 = some zhM:=by kernel_rfl
def zhN:Fn':=irOf zd2
theorem zoj:T zd2 = some zhN:=by kernel_rfl
def zjW:Fn':=irOf zfa
theorem zqm:T zfa = some zjW:=by kernel_rfl
def zgj:Fn':=irOf zcx
theorem zmf:T zcx = some zgj:=by kernel_rfl
def zeG:Fn':=irOf zbG
theorem zkb:T zbG = some zeG:=by kernel_rfl
def zg1 (G:Sem') (t0 t1:V):M Res :=
 uM t0 fun t2 =>
 uB .eql t2 (V.int .u32 0) fun t3 =>
 M.ite t3
 (uF 1 t0 fun t4 =>
 uM t4 fun t5 =>
 uB .eql t5 (V.int .i32 0) fun t6 =>
 M.ite t6
 ((mstore 1 t4 (V.int .i32 1)).bind fun _ =>
 (callv G t1 []).bind fun _ =>
 uM t4 fun t7 =>
 uB .eql t7 (V.int .i32 1) fun t8 =>
 uM t0 fun t9 =>
 uB .eql t9 (V.int .u32 0) fun t10 =>
 M.ite t8
 (M.ite t10
 ((mstore 1 t0 (V.int .u32 1)).bind fun _ =>
 (mstore 1 t4 (V.int .i32 0)).bind fun _ =>
 M.pure (.ret []))
 (M.fail))
 (M.fail))
 (M.fail))
 (M.pure (.ret []))
theorem zis {t0 t1:V}:OkT zda [t0,t1] (zg1 (sem T) t0 t1):=okT (by kernel_rfl) (by kernel_rfl) (by kernel_rfl)
def zkK (G:Sem') (t0:V):M Res :=
 uIM none 1 t0 (uc 0) fun t5 =>
 uL (Ax.cint .u32 t5) fun t6 =>
 uB .shl t6 (uq 24) fun t7 =>
 uIM none 1 t0 (uc 1) fun t10 =>
 uL (Ax.cint .u32 t10) fun t11 =>
 uB .shl t11 (uq 16) fun t12 =>
 uB .or t7 t12 fun t13 =>
 uIM none 1 t0 (uc 2) fun t16 =>
 uL (Ax.cint .u32 t16) fun t17 =>
 uB .shl t17 (uq 8) fun t18 =>
 uB .or t13 t18 fun t19 =>
 uIM none 1 t0 (uc 3) fun t22 =>
 uL (Ax.cint .u32 t22) fun t23 =>
 uB .or t19 t23 fun t24 =>
 M.pure (.ret [t24])
theorem znD {t0:V}:OkT zfl [t0] (zkK (sem T) t0):=okT (by kernel_rfl) (by kernel_rfl) (by kernel_rfl)
def zkL (G:Sem') (t0 t1:V):M Res :=
 uL (Ax.un .neg t1) fun t7 =>
 (G zbQ [t0,t7]).bind fun t8 =>
 M.pure (.ret [t8])
theorem znE {t0 t1:V}:OkT zaD [t0,t1] (zkL (sem T) t0 t1):=okT (by kernel_rfl) (by kernel_rfl) (by kernel_rfl)
def zez (G:Sem') (t0 t1:V):M Res :=
 uL (Ax.cint .u64 t1) fun t7 =>
 uB .and t7 (uq 31) fun t8 =>
 uB .shl t0 t8 fun t11 =>
 uB .sub (uq 32) t8 fun t14 =>
 uB .shr t0 t14 fun t15 =>
 uB .or t11 t15 fun t16 =>
 M.pure (.ret [t16])
theorem zgY {t0 t1:V}:OkT zbQ [t0,t1] (zez (sem T) t0 t1):=okT (by kernel_rfl) (by kernel_rfl) (by kernel_rfl)
def zdX (G:Sem') (t3 t2:V) (L:List V):M Res :=
 uNFM 8 t3 fun t21 =>
 uL (vlen t21) fun t22 =>
 uL (vlen (ug L 0)) fun t24 =>
 uB .add t22 t24 fun t25 =>
 uB .rem t25 (uc 64) fun t26 =>
 uB .neq t26 (uc 56) fun t27 =>
 M.ite t27
 (M.blk 1 (
 (mslit zad 1 [(ub 0)] [(0,1,(ub 0))]).bind fun t29 =>
 (mappend zad 1 1 (ug L 0) t29).bind fun t30 =>
 M.pure (.nrm [t30])) fun L0 =>
 M.pure (.nrm [(ug L0 0)]))
 (M.pure (.ex 0 [(ug L 0)]))
def zdW (G:Sem') (t4 t2:V) (L:List V):M Res :=
 uB .geq (ug L 1) (uc 0) fun t32 =>
 M.ite t32
 (M.blk 3 (
 uB .mul (uc 8) (ug L 1) fun t38 =>
 uB .shr t4 t38 fun t39 =>
 uL (Ax.cint .u8 t39) fun t40 =>
 (mslit zad 1 [(ub 0)] [(0,1,t40)]).bind fun t41 =>
 (mappend zad 1 1 (ug L 0) t41).bind fun t42 =>
 M.pure (.nrm [t42])) fun L2 =>
 uB .sub (ug L 1) (uc 1) fun t34 =>
 M.pure (.nrm [(ug L2 0),t34]))
 (M.pure (.ex 2 [(ug L 0)]))
def zcW (G:Sem') (t49 t7 t2:V) (L:List V):M Res :=
 uB .lss (ug L 0) (uc 8) fun t51 =>
 M.ite t51
 (M.blk 5 (
 uL (Ax.index 8 1 none t49 (ug L 0)) fun t53 =>
 uB .mul (uc 4) (ug L 0) fun t55 =>
 uB .mul (uc 4) (ug L 0) fun t57 =>
 uB .add t57 (uc 1) fun t58 =>
 uB .mul (uc 4) (ug L 0) fun t60 =>
 uB .add t60 (uc 2) fun t61 =>
 uB .mul (uc 4) (ug L 0) fun t63 =>
 uB .add t63 (uc 3) fun t64 =>
 uB .shr t53 (uq 24) fun t66 =>
 uL (Ax.cint .u8 t66) fun t67 =>
 uB .shr t53 (uq 16) fun t69 =>
 uL (Ax.cint .u8 t69) fun t70 =>
 uB .shr t53 (uq 8) fun t72 =>
 uL (Ax.cint .u8 t72) fun t73 =>
 uL (Ax.cint .u8 t53) fun t75 =>
 uI (some 32) 1 t7 t55 fun t76 =>
 uT 1 t76 t67 fun _ =>
 uI (some 32) 1 t7 t58 fun t77 =>
 uT 1 t77 t70 fun _ =>
 uI (some 32) 1 t7 t61 fun t78 =>
 uT 1 t78 t73 fun _ =>
 uI (some 32) 1 t7 t64 fun t79 =>
 uT 1 t79 t75 fun _ =>
 M.pure (.nrm [])) fun _ =>
 uB .add (ug L 0) (uc 1) fun t80 =>
 M.pure (.nrm [t80]))
 (M.pure (.ex 4 []))
def zgw (G:Sem') (t0:V):M Res :=
 let o:=V.int .u8 0
 uO zae (V.agg [o,o,o,o,o,o,o,o,o,o,o,o,o,o,o,o,o,o,o,o,o,o,o,o,o,o,o,o,o,o,o,o]) fun t2 =>
 (G zcR [t0]).bind fun t11 =>
 uNFM 9 t11 fun t15 =>
 uB .mul t15 (uq 8) fun t16 =>
 (mslit zad 1 [o] [(0,1,(ub 128))]).bind fun t17 =>
 M.blk 0 (
 M.iter (zdX G t11 t2) [t17]) fun L1 =>
 M.blk 2 (
 M.iter (zdW G t16 t2) [(ug L1 0),(uc 7)]) fun L3 =>
 (G zbg [t11,(ug L3 0)]).bind fun t45 =>
 uO zae (V.agg [o,o,o,o,o,o,o,o,o,o,o,o,o,o,o,o,o,o,o,o,o,o,o,o,o,o,o,o,o,o,o,o]) fun t7 =>
 uNF 0 t11 fun t48 =>
 uS 8 t48 fun t49 =>
 M.blk 4 (
 M.iter (zcW G t49 t7 t2) [(uc 0)]) fun _ =>
 uS 32 t7 fun t81 =>
 uT 32 t2 t81 fun _ =>
 uS 32 t2 fun r0 =>
 M.pure (.ret [r0])
theorem zjm {t0:V}:OkT zb8 [t0] (zgw (sem T) t0):=okT (by kernel_rfl) (by kernel_rfl) (by kernel_rfl)
def zfV (G:Sem') (t0:V):M Res :=
 let p:=V.int .u32 0
 uN t0 fun t5 =>
 uS 11 t5 fun t6 =>
 uO zaw (V.agg [p,p,p,p,p,p,p,p,V.nils,(uq 0),V.nilp]) fun t3 =>
 uT 11 t3 t6 fun _ =>
 uNFM 8 t0 fun t10 =>
 (mappend zad 1 1 V.nils t10).bind fun t11 =>
 uF 8 t3 fun t12 =>
 uT 1 t12 t11 fun _ =>
 M.pure (.ret [t3])
theorem ziC {t0:V}:OkT zcR [t0] (zfV (sem T) t0):=okT (by kernel_rfl) (by kernel_rfl) (by kernel_rfl)
def zjZ (G:Sem') (t12 t5 t1 t4:V) (L:List V):M Res :=
 uB .lss (ug L 0) t12 fun t14 =>
 M.ite t14
 (M.blk 1 (
 uIM none 1 t5 (ug L 0) fun t19 =>
 uB .xor t19 t1 fun t21 =>
 uI none 1 t5 (ug L 0) fun t22 =>
 uT 1 t22 t21 fun _ =>
 M.pure (.nrm [])) fun _ =>
 uB .add (ug L 0) (uc 1) fun t23 =>
 M.pure (.nrm [t23]))
 (M.pure (.ex 0 []))
def zp0 (G:Sem') (t0 t1:V):M Res :=
 (mmkslice zad 1 [(ub 0)] (uc 64) (uc 64)).bind fun t7 =>
 (mcopy 1 t7 t0).bind fun t10 =>
 uL (vlen t7) fun t12 =>
 M.blk 0 (
 M.iter (zjZ G t12 t7 t1 V.nils) [(uc 0)]) fun _ =>
 M.pure (.ret [t7])
theorem zsO {t0 t1:V}:OkT zhk [t0,t1] (zp0 (sem T) t0 t1):=okT (by kernel_rfl) (by kernel_rfl) (by kernel_rfl)
def zfH (G:Sem') (t0 t4:V) (L:List V):M Res :=
 uB .geq (ug L 1) (uc 0) fun t10 =>
 M.ite t10
 (M.blk 1 (
 uB .mul (uc 8) (ug L 1) fun t16 =>
 uB .shr t0 t16 fun t17 =>
 uL (Ax.cint .u8 t17) fun t18 =>
 (mslit zad 1 [(ub 0)] [(0,1,t18)]).bind fun t19 =>
 (mappend zad 1 1 (ug L 0) t19).bind fun t20 =>
 M.pure (.nrm [t20])) fun L0 =>
 uB .sub (ug L 1) (uc 1) fun t12 =>
 M.pure (.nrm [(ug L0 0),t12]))
 (M.pure (.ex 0 [(ug L 0)]))
def zjt (G:Sem') (t0 t1:V):M Res :=
 uB .sub t1 (uc 1) fun t8 =>
 M.blk 0 (
 M.iter (zfH G t0 V.nils) [V.nils,t8]) fun L1 =>
 M.pure (.ret [(ug L1 0)])
theorem zmu {t0 t1:V}:OkT zbA [t0,t1] (zjt (sem T) t0 t1):=okT (by kernel_rfl) (by kernel_rfl) (by kernel_rfl)
def zg2 (G:Sem') (t2 t0 t1:V) (L:List V):M Res :=
 let o:=V.int .u8 0
 uL (vlen (ug L 0)) fun t19 =>
 uB .lss t19 t2 fun t21 =>
 M.ite t21
 (M.blk 2 (
 (mslit zad 1 [o] [(0,1,(ug L 2))]).bind fun t28 =>
 (mslit zar 3 [V.nils] [(0,1,(ug L 1)),(1,1,t1),(2,1,t28)]).bind fun t29 =>
 (G zhl [t0,t29]).bind fun t30 =>
 uO zae (V.agg [o,o,o,o,o,o,o,o,o,o,o,o,o,o,o,o,o,o,o,o,o,o,o,o,o,o,o,o,o,o,o,o]) fun t11 =>
 uT 32 t11 t30 fun _ =>
 uL (zaz (.arr 32) 1 t11 none none none) fun t31 =>
 (mappend zad 1 1 (ug L 0) t31).bind fun t34 =>
 M.pure (.nrm [t34,t31])) fun L1 =>
 uB .add (ug L 2) (ub 1) fun t23 =>
 M.pure (.nrm [(ug L1 0),(ug L1 1),t23]))
 (M.pure (.ex 1 [(ug L 0)]))
def zlF (G:Sem') (t0 t1 t2:V):M Res :=
 M.blk 0 (
 uB .lss t2 (uc 0) fun t14 =>
 M.ite t14
 (M.pure (.ret [V.nils,(uc 1)]))
 (uB .gtr t2 (uc 8160) fun t17 =>
 M.ite t17
 (M.pure (.ret [V.nils,(uc 4)]))
 (M.pure (.nrm [])))) fun _ =>
 M.blk 1 (
 M.iter (zg2 G t2 t0 t1) [V.nils,V.nils,(ub 1)]) fun L2 =>
 uL (zaz .sl 1 (ug L2 0) none (some t2) none) fun t37 =>
 (mappend zad 1 1 V.nils t37).bind fun t38 =>
 M.pure (.ret [t38,(uc 0)])
theorem zoz {t0 t1 t2:V}:OkT zd3 [t0,t1,t2] (zlF (sem T) t0 t1 t2):=okT (by kernel_rfl) (by kernel_rfl) (by kernel_rfl)
def zeT (G:Sem') (t29 t4 t0 t2 t3:V) (L:List V):M Res :=
 uB .lss (ug L 0) t29 fun t31 =>
 M.ite t31
 (M.blk 1 (
 uNFM 259 t4 fun t37 =>
 uB .mul (uc 4) (ug L 0) fun t40 =>
 uL (zaz .sl 1 t0 (some t40) none none) fun t41 =>
 uL (Ax.op1 (.s2a 4) t41) fun t42 =>
 uS 4 t42 fun t43 =>
 (mslit zav 1 [(ub 0),(ub 0),(ub 0),(ub 0)] [(0,4,t43)]).bind fun t44 =>
 (mappend zav 4 4 t37 t44).bind fun t45 =>
 uNF 259 t4 fun t47 =>
 uT 1 t47 t45 fun _ =>
 M.pure (.nrm [])) fun _ =>
 uB .add (ug L 0) (uc 1) fun t48 =>
 M.pure (.nrm [t48]))
 (M.pure (.ex 0 []))
def zf6 (G:Sem') (t4 t9 t6 t10 t2 t3 t8:V) (L:List V):M Res :=
 uB .lss (ug L 0) (uc 4) fun t135 =>
 M.ite t135
 (M.blk 6 (
 uIM (some 4) 1 t10 (ug L 0) fun t139 =>
 uNFM 259 t4 fun t143 =>
 uB .sub t9 t6 fun t146 =>
 uI none 4 t143 t146 fun t148 =>
 uIM (some 4) 1 t148 (ug L 0) fun t150 =>
 uB .xor t139 t150 fun t151 =>
 uI (some 4) 1 t10 (ug L 0) fun t152 =>
 uT 1 t152 t151 fun _ =>
 M.pure (.nrm [])) fun _ =>
 uB .add (ug L 0) (uc 1) fun t153 =>
 M.pure (.nrm [t153]))
 (M.pure (.ex 5 []))
def zeS (G:Sem') (t5 t6 t4 t2 t3:V) (L:List V):M Res :=
 let o:=V.int .u8 0
 uB .add t6 (uc 6) fun t52 =>
 uB .add t52 (uc 1) fun t53 =>
 uB .mul (uc 4) t53 fun t54 =>
 uB .lss (ug L 1) t54 fun t55 =>
 M.ite t55
 (M.blk 3 (
 uNFM 259 t4 fun t61 =>
 uB .sub (ug L 1) (uc 1) fun t63 =>
 uI none 4 t61 t63 fun t64 =>
 uS 4 t64 fun t65 =>
 uO zav (V.agg [o,o,o,o]) fun t10 =>
 uT 4 t10 t65 fun _ =>
 M.blk 4 (
 uB .rem (ug L 1) t6 fun t69 =>
 uB .eql t69 (uc 0) fun t70 =>
 M.join (M.ite t70
 (uIM (some 4) 1 t10 (uc 1) fun t73 =>
 uN t5 fun t74 =>
 uIM (some 256) 1 t74 t73 fun t76 =>
 uB .xor t76 (ug L 0) fun t78 =>
 uIM (some 4) 1 t10 (uc 2) fun t81 =>
 uN t5 fun t82 =>
 uIM (some 256) 1 t82 t81 fun t84 =>
 uIM (some 4) 1 t10 (uc 3) fun t87 =>
 uN t5 fun t88 =>
 uIM (some 256) 1 t88 t87 fun t90 =>
 uIM (some 4) 1 t10 (uc 0) fun t93 =>
 uN t5 fun t94 =>
 uIM (some 256) 1 t94 t93 fun t96 =>
 uL (Ax.build [o,o,o,o] [(0,1,t78),(1,1,t84),(2,1,t90),(3,1,t96)]) fun t97 =>
 uT 4 t10 t97 fun _ =>
 (G zbk [(ug L 0)]).bind fun t99 =>
 M.pure (.nrm [t99]))
 (uB .gtr t6 (uc 6) fun t102 =>
 uG t102 true (M.pure (ug L 1)) fun t104 =>
 uG t102 true (M.pure t6) fun t105 =>
 uH t102 true (Ax.bin .rem t104 t105) fun t106 =>
 uH t102 true (Ax.bin .eql t106 (uc 4)) fun t107 =>
 uL (Ax.pick t102 t107 (V.bool false)) fun t108 =>
 M.join (M.ite t108
 (uIM (some 4) 1 t10 (uc 0) fun t111 =>
 uN t5 fun t112 =>
 uIM (some 256) 1 t112 t111 fun t114 =>
 uIM (some 4) 1 t10 (uc 1) fun t117 =>
 uN t5 fun t118 =>
 uIM (some 256) 1 t118 t117 fun t120 =>
 uIM (some 4) 1 t10 (uc 2) fun t123 =>
 uN t5 fun t124 =>
 uIM (some 256) 1 t124 t123 fun t126 =>
 uIM (some 4) 1 t10 (uc 3) fun t129 =>
 uN t5 fun t130 =>
 uIM (some 256) 1 t130 t129 fun t132 =>
 uL (Ax.build [o,o,o,o] [(0,1,t114),(1,1,t120),(2,1,t126),(3,1,t132)]) fun t133 =>
 uT 4 t10 t133 fun _ =>
 M.pure (.nrm []))
 (M.pure (.nrm []))) fun _ =>
 M.pure (.nrm [(ug L 0)]))) fun L3 =>
 M.pure (.nrm [(ug L3 0)])) fun L4 =>
 M.blk 5 (
 M.iter (zf6 G t4 (ug L 1) t6 t10 t2 t3 (ug L4 0)) [(uc 0)]) fun _ =>
 uNFM 259 t4 fun t158 =>
 uS 4 t10 fun t159 =>
 (mslit zav 1 [o,o,o,o] [(0,4,t159)]).bind fun t160 =>
 (mappend zav 4 4 t158 t160).bind fun t161 =>
 uNF 259 t4 fun t163 =>
 uT 1 t163 t161 fun _ =>
 M.pure (.nrm [(ug L4 0)])) fun L7 =>
 uB .add (ug L 1) (uc 1) fun t57 =>
 M.pure (.nrm [(ug L7 0),t57]))
 (M.pure (.ex 2 []))
def zm1 (G:Sem') (t0:V):M Res :=
 let o:=V.int .u8 0
 uL (vlen t0) fun t13 =>
 uB .neq t13 (uc 16) fun t14 =>
 uG t14 true (M.pure t0) fun t16 =>
 uH t14 true (vlen t16) fun t17 =>
 uH t14 true (Ax.bin .neq t17 (uc 32)) fun t18 =>
 uL (Ax.pick t14 t18 (V.bool false)) fun t19 =>
 M.ite t19
 (M.pure (.ret [V.nilp,(uc 1)]))
 (uL (Ax.build [(V.int .u32 0),(V.int .i32 0),(V.int .u32 0),o,o,o,o,o,o,o,o,o,o,o,o,o,o,o,o,o,o,o,o,o,o,o,o,o,o,o,o,o,o,o,o,o,o,o,o,o,o,o,o,o,o,o,o,o,o,o,o,o,o,o,o,o,o,o,o,o,o,o,o,o,o,o,o,o,o,o,o,o,o,o,o,o,o,o,o,o,o,o,o,o,o,o,o,o,o,o,o,o,o,o,o,o,o,o,o,o,o,o,o,o,o,o,o,o,o,o,o,o,o,o,o,o,o,o,o,o,o,o,o,o,o,o,o,o,o,o,o,o,o,o,o,o,o,o,o,o,o,o,o,o,o,o,o,o,o,o,o,o,o,o,o,o,o,o,o,o,o,o,o,o,o,o,o,o,o,o,o,o,o,o,o,o,o,o,o,o,o,o,o,o,o,o,o,o,o,o,o,o,o,o,o,o,o,o,o,o,o,o,o,o,o,o,o,o,o,o,o,o,o,o,o,o,o,o,o,o,o,o,o,o,o,o,o,o,o,o,o,o,o,o,o,o,o,o,o,o,o,o,o,o,o,o,o,o,o,o,o,o,o,o,o,o,o,o,o,V.nils] []) fun t20 =>
 uO zaT t20 fun t21 =>
 uNF 0 t21 fun t24 =>
 (G zbm [t24]).bind fun t25 =>
 uL (vlen t0) fun t27 =>
 uB .quo t27 (uc 4) fun t28 =>
 M.blk 0 (
 M.iter (zeT G t28 t21 t0 V.nilp (uc 0)) [(uc 0)]) fun _ =>
 M.blk 2 (
 M.iter (zeS G t25 t28 t21 V.nilp (uc 0)) [(ub 1),t28]) fun _ =>
 M.pure (.ret [t21,(uc 0)]))
theorem zpE {t0:V}:OkT zgL [t0] (zm1 (sem T) t0):=okT (by kernel_rfl) (by kernel_rfl) (by kernel_rfl)
end Go.Ax
/- FnS3 -/
namespace Go.Ax
open Go.Proofs
def zgR (G:Sem') (t0:V):M Res :=
 uO zbJ t0 fun t1 =>
 uM t1 fun t3 =>
 uNF 0 t3 fun t5 =>
 (M.pure (.fn zcS [t1])).bind fun t6 =>
 (G zda [t5,t6]).bind fun t7 =>
 uM t1 fun t8 =>
 uNF 3 t8 fun t10 =>
 M.pure (.ret [t10])
theorem zjS {t0:V}:OkT zbm [t0] (zgR (sem T) t0):=okT (by kernel_rfl) (by kernel_rfl) (by kernel_rfl)
def zdC (G:Sem') (t1:V) (L:List V):M Res :=
 uB .lss (ug L 1) (uc 255) fun t7 =>
 M.ite t7
 (M.blk 1 (
 uI (some 255) 1 t1 (ug L 1) fun t11 =>
 (mstore 1 t11 (ug L 0)).bind fun _ =>
 (G zcq [(ug L 0),(ub 3)]).bind fun t13 =>
 M.pure (.nrm [t13])) fun L0 =>
 uB .add (ug L 1) (uc 1) fun t14 =>
 M.pure (.nrm [(ug L0 0),t14]))
 (M.pure (.ex 0 []))
def zdB (G:Sem') (t15 t0 t1:V) (L:List V):M Res :=
 uB .lss (ug L 0) (uc 255) fun t17 =>
 M.ite t17
 (M.blk 3 (
 uL (Ax.index 255 1 none t15 (ug L 0)) fun t19 =>
 uM t0 fun t20 =>
 uB .sub (uc 255) (ug L 0) fun t23 =>
 uB .rem t23 (uc 255) fun t24 =>
 uIM (some 255) 1 t1 t24 fun t26 =>
 uNF 3 t20 fun t29 =>
 M.getH.bind fun h0 =>
 (G zcp [t26]).bind fun t27 =>
 M.getH.bind fun h0' =>
 uU t0 h0 h0' fun _ =>
 uI (some 256) 1 t29 t19 fun t30 =>
 uT 1 t30 t27 fun _ =>
 M.pure (.nrm [])) fun _ =>
 uB .add (ug L 0) (uc 1) fun t31 =>
 M.pure (.nrm [t31]))
 (M.pure (.ex 2 []))
def zfW (G:Sem') (t0:V):M Res :=
 let o:=V.int .u8 0
 uO zdg (V.agg [o,o,o,o,o,o,o,o,o,o,o,o,o,o,o,o,o,o,o,o,o,o,o,o,o,o,o,o,o,o,o,o,o,o,o,o,o,o,o,o,o,o,o,o,o,o,o,o,o,o,o,o,o,o,o,o,o,o,o,o,o,o,o,o,o,o,o,o,o,o,o,o,o,o,o,o,o,o,o,o,o,o,o,o,o,o,o,o,o,o,o,o,o,o,o,o,o,o,o,o,o,o,o,o,o,o,o,o,o,o,o,o,o,o,o,o,o,o,o,o,o,o,o,o,o,o,o,o,o,o,o,o,o,o,o,o,o,o,o,o,o,o,o,o,o,o,o,o,o,o,o,o,o,o,o,o,o,o,o,o,o,o,o,o,o,o,o,o,o,o,o,o,o,o,o,o,o,o,o,o,o,o,o,o,o,o,o,o,o,o,o,o,o,o,o,o,o,o,o,o,o,o,o,o,o,o,o,o,o,o,o,o,o,o,o,o,o,o,o,o,o,o,o,o,o,o,o,o,o,o,o,o,o,o,o,o,o,o,o,o,o,o,o,o,o,o,o,o,o,o,o,o,o,o,o]) fun t1 =>
 M.blk 0 (
 M.iter (zdC G t1) [(ub 1),(uc 0)]) fun _ =>
 uS 255 t1 fun t15 =>
 M.blk 2 (
 M.iter (zdB G t15 t0 t1) [(uc 0)]) fun _ =>
 uM t0 fun t32 =>
 uNF 3 t32 fun t35 =>
 M.getH.bind fun h1 =>
 (G zcp [o]).bind fun t33 =>
 M.getH.bind fun h1' =>
 uU t0 h1 h1' fun _ =>
 uI (some 256) 1 t35 (uc 0) fun t36 =>
 uT 1 t36 t33 fun _ =>
 M.pure (.ret [])
theorem ziD {t0:V}:OkT zcS [t0] (zfW (sem T) t0):=okT (by kernel_rfl) (by kernel_rfl) (by kernel_rfl)
def zg0:Fn':=irOf zcq
theorem znr:T zcq = some zg0:=by kernel_rfl
def zef:Fn':=irOf zbk
def f_block_twice (G:Sem') (t0:V):M Res :=
 uB .geq t0 (ub 128) fun t4 =>
 M.ite t4
 (uB .shl t0 (uq 1) fun t6 =>
 uB .xor t6 (ub 27) fun t7 =>
 M.pure (.ret [t7]))
 (uB .shl t0 (uq 1) fun t9 =>
 M.pure (.ret [t9]))
theorem eq_block_twice (G:Sem') (t0:V):execK G zef.rv zef.body [] [] (params 0 [t0]) = f_block_twice G t0:=by kernel_rfl
theorem znq:T zbk = some zef:=by kernel_rfl
theorem znF {t0:V}:OkT zbk [t0] (f_block_twice (sem T) t0):=okT (by kernel_rfl) (by kernel_rfl) (by kernel_rfl)
def ziL:Fn':=irOf zcp
theorem zpb:T zcp = some ziL:=by kernel_rfl
def zc9:Fn':=irOf za4
theorem zg9:T za4 = some zc9:=by kernel_rfl
def zgu (G:Sem') (t0 t1 t2 t3 t4:V):M Res :=
 (G ziP [t1,t3,t2]).bind fun t18 =>
 uE 0 t18 fun t19 =>
 uE 1 t18 fun t20 =>
 M.blk 0 (
 uB .neq t20 (uc 0) fun t23 =>
 M.ite t23
 (M.pure (.ret [t20]))
 ((G zb6 [t0,t1,t2]).bind fun t29 =>
 M.ite t29
 (M.pure (.ret [(uc 7)]))
 (uNFM 1 t0 fun t34 =>
 (mmaplen t34).bind fun t35 =>
 uB .geq t35 (uc 64) fun t36 =>
 M.ite t36
 (M.pure (.ret [(uc 5)]))
 (M.pure (.nrm []))))) fun _ =>
 (G zfk [t3,t4]).bind fun t40 =>
 uE 0 t40 fun t41 =>
 uE 1 t40 fun t42 =>
 uB .eql t42 (uc 0) fun t44 =>
 M.join (M.ite t44
 (uNFM 1 t0 fun t48 =>
 uL (Ax.build [(uc 0),(uc 0)] [(0,1,t1),(1,1,t2)]) fun t51 =>
 (mmapset (.st [.int,.int]) t48 t51 t41).bind fun _ =>
 M.pure (.nrm []))
 (M.pure (.nrm []))) fun _ =>
 M.pure (.ret [t42])
theorem zjk {t0 t1 t2 t3 t4:V}:OkT zb7 [t0,t1,t2,t3,t4] (zgu (sem T) t0 t1 t2 t3 t4):=okT (by kernel_rfl) (by kernel_rfl) (by kernel_rfl)
def zgt (G:Sem') (t0 t1 t2:V):M Res :=
 uNFM 1 t0 fun t10 =>
 uL (Ax.build [(uc 0),(uc 0)] [(0,1,t1),(1,1,t2)]) fun t13 =>
 (mlookup (.st [.int,.int]) V.nilp false t10 t13).bind fun t14 =>
 uL (eqr .ptr true t14 V.nilp) fun t15 =>
 M.pure (.ret [t15])
theorem zjj {t0 t1 t2:V}:OkT zb6 [t0,t1,t2] (zgt (sem T) t0 t1 t2):=okT (by kernel_rfl) (by kernel_rfl) (by kernel_rfl)
def zkH (G:Sem') (t0 t1:V):M Res :=
 (G zcr [t0]).bind fun t7 =>
 uL (Ax.un .not t7) fun t8 =>
 M.ite t8
 (M.pure (.ret [V.nilp,(uc 1)]))
 ((G zdw [t1]).bind fun t11 =>
 uL (Ax.build [(uc 0),V.nils] [(0,1,t0),(1,1,t11)]) fun t12 =>
 uO zaN t12 fun t13 =>
 M.pure (.ret [t13,(uc 0)]))
theorem znA {t0 t1:V}:OkT zfk [t0,t1] (zkH (sem T) t0 t1):=okT (by kernel_rfl) (by kernel_rfl) (by kernel_rfl)
def zh5 (G:Sem') (t0:V):M Res :=
 uB .geq t0 (uc 0) fun t4 =>
 uG t4 true (M.pure t0) fun t6 =>
 uH t4 true (Ax.bin .leq t6 (uc 31)) fun t7 =>
 uL (Ax.pick t4 t7 (V.bool false)) fun t8 =>
 M.pure (.ret [t8])
theorem zk6 {t0:V}:OkT zcr [t0] (zh5 (sem T) t0):=okT (by kernel_rfl) (by kernel_rfl) (by kernel_rfl)
def zhU (G:Sem') (t0:V):M Res :=
 uL (eqr .sl false t0 V.nils) fun t4 =>
 M.ite t4
 (M.pure (.ret [V.nils]))
 ((mslit zad 0 [(ub 0)] []).bind fun t5 =>
 (mappend zad 1 1 t5 t0).bind fun t7 =>
 M.pure (.ret [t7]))
theorem zjp {t0:V}:OkT zdw [t0] (zhU (sem T) t0):=okT (by kernel_rfl) (by kernel_rfl) (by kernel_rfl)
def zgP (G:Sem') (t0 t1 t2:V):M Res :=
 uNFM 2 t0 fun t13 =>
 uL (eqr .ptr false t13 V.nilp) fun t14 =>
 M.ite t14
 (M.pure (.ret [V.nils,(uc 10)]))
 (uNFM 2 t0 fun t19 =>
 uNFM 6 t0 fun t23 =>
 (G zdD [t19,t23,t1,t2]).bind fun t26 =>
 uE 0 t26 fun t27 =>
 uE 1 t26 fun t28 =>
 uB .eql t28 (uc 0) fun t30 =>
 M.join (M.ite t30
 (uNFM 6 t0 fun t34 =>
 uB .add t34 (uq 1) fun t35 =>
 uNF 6 t0 fun t37 =>
 uT 1 t37 t35 fun _ =>
 M.pure (.nrm []))
 (M.pure (.nrm []))) fun _ =>
 M.pure (.ret [t27,t28]))
theorem zjQ {t0 t1 t2:V}:OkT zdl [t0,t1,t2] (zgP (sem T) t0 t1 t2):=okT (by kernel_rfl) (by kernel_rfl) (by kernel_rfl)
def zhn (G:Sem') (t0 t1 t2 t3:V):M Res :=
 uL (vlen t3) fun t14 =>
 uB .gtr t14 (uc 1000) fun t15 =>
 M.ite t15
 (M.pure (.ret [V.nils,(uc 4)]))
 (uNFM 0 t0 fun t19 =>
 (G zeK [t19,t1]).bind fun t21 =>
 (G zcv [t0,t1]).bind fun t24 =>
 (G zcw [t0,t24,t3]).bind fun t28 =>
 (G zb4 [t0,t24,t21,t2,t28]).bind fun t36 =>
 (mslit zar 3 [V.nils] [(0,1,t21),(1,1,t28),(2,1,t36)]).bind fun t37 =>
 (G zf5 [t37,V.nils]).bind fun t38 =>
 M.pure (.ret [t38,(uc 0)]))
theorem zkg {t0 t1 t2 t3:V}:OkT zdD [t0,t1,t2,t3] (zhn (sem T) t0 t1 t2 t3):=okT (by kernel_rfl) (by kernel_rfl) (by kernel_rfl)
def zjz (G:Sem') (t0 t1:V):M Res :=
 (G zdP [t0]).bind fun t11 =>
 uE 0 t11 fun t12 =>
 uE 1 t11 fun t13 =>
 (G zdP [t1]).bind fun t16 =>
 uE 0 t16 fun t17 =>
 uE 1 t16 fun t18 =>
 uB .shl t12 (uq 4) fun t20 =>
 uB .or t20 t17 fun t22 =>
 (mslit zad 1 [(ub 0)] [(0,1,t22)]).bind fun t23 =>
 (mappend zad 1 1 t23 t13).bind fun t25 =>
 (mappend zad 1 1 t25 t18).bind fun t27 =>
 M.pure (.ret [t27])
theorem zmA {t0 t1:V}:OkT zeK [t0,t1] (zjz (sem T) t0 t1):=okT (by kernel_rfl) (by kernel_rfl) (by kernel_rfl)
def zfJ (G:Sem') (t2 t3:V) (L:List V):M Res :=
 uB .gtr (ug L 0) (uq 0) fun t10 =>
 M.ite t10
 (M.blk 1 (
 uL (Ax.cint .u8 (ug L 0)) fun t14 =>
 (mslit zad 1 [(ub 0)] [(0,1,t14)]).bind fun t15 =>
 (mappend zad 1 1 t15 (ug L 1)).bind fun t17 =>
 M.pure (.nrm [t17])) fun L0 =>
 uB .shr (ug L 0) (uq 8) fun t12 =>
 M.pure (.nrm [t12,(ug L0 0)]))
 (M.pure (.ex 0 [(ug L 1)]))
def zjx (G:Sem') (t0:V):M Res :=
 uB .lss t0 (uq 8) fun t6 =>
 M.ite t6
 (uL (Ax.cint .u8 t0) fun t8 =>
 M.pure (.ret [t8,V.nils]))
 (M.blk 0 (
 M.iter (zfJ G (ub 0) V.nils) [t0,V.nils]) fun L1 =>
 uL (vlen (ug L1 0)) fun t19 =>
 uB .sub t19 (uc 1) fun t20 =>
 uL (Ax.cint .u8 t20) fun t21 =>
 uB .or (ub 8) t21 fun t22 =>
 M.pure (.ret [t22,(ug L1 0)]))
theorem zmy {t0:V}:OkT zdP [t0] (zjx (sem T) t0):=okT (by kernel_rfl) (by kernel_rfl) (by kernel_rfl)
def zeb (G:Sem') (t10 t5 t0 t4:V) (L:List V):M Res :=
 uB .lss (ug L 0) t10 fun t12 =>
 M.ite t12
 (M.blk 1 (
 uIM none 1 t5 (ug L 0) fun t17 =>
 uNFM 4 t0 fun t21 =>
 uIM none 1 t21 (ug L 0) fun t24 =>
 uB .xor t17 t24 fun t25 =>
 uI none 1 t5 (ug L 0) fun t26 =>
 uT 1 t26 t25 fun _ =>
 M.pure (.nrm [])) fun _ =>
 uB .add (ug L 0) (uc 1) fun t27 =>
 M.pure (.nrm [t27]))
 (M.pure (.ex 0 []))
def zgM (G:Sem') (t0 t1:V):M Res :=
 (G zbA [t1,(uc 12)]).bind fun t8 =>
 uL (vlen t8) fun t10 =>
 M.blk 0 (
 M.iter (zeb G t10 t8 t0 V.nils) [(uc 0)]) fun _ =>
 M.pure (.ret [t8])
theorem zjN {t0 t1:V}:OkT zcv [t0,t1] (zgM (sem T) t0 t1):=okT (by kernel_rfl) (by kernel_rfl) (by kernel_rfl)
def zgN (G:Sem') (t0 t1 t2:V):M Res :=
 let o:=V.int .u8 0
 uO zaa (V.agg [o,o,o,o,o,o,o,o,o,o,o,o,o,o,o,o]) fun t7 =>
 uL (zaz (.arr 16) 1 t7 none none none) fun t10 =>
 (mcopy 1 t10 t1).bind fun t12 =>
 uNFM 2 t0 fun t17 =>
 uS 16 t7 fun t18 =>
 (G zeI [t17,t18,(uc 0),t2]).bind fun t20 =>
 uE 0 t20 fun t21 =>
 uE 1 t20 fun t22 =>
 M.pure (.ret [t21])
theorem zjO {t0 t1 t2:V}:OkT zcw [t0,t1,t2] (zgN (sem T) t0 t1 t2):=okT (by kernel_rfl) (by kernel_rfl) (by kernel_rfl)
def zfI (G:Sem') (t23 t0 t5 t10 t3 t2 t11 t8 t9:V) (L:List V):M Res :=
 uB .lss (ug L 0) t23 fun t25 =>
 M.ite t25
 (M.blk 1 (
 uB .eql (ug L 0) (uc 0) fun t28 =>
 uG t28 false (M.pure t2) fun t30 =>
 uG t28 false (M.pure (ug L 0)) fun t31 =>
 uH t28 false (Ax.bin .add t30 t31) fun t32 =>
 uH t28 false (Ax.bin .rem t32 (uc 16)) fun t33 =>
 uH t28 false (Ax.bin .eql t33 (uc 0)) fun t34 =>
 uL (Ax.pick t28 (V.bool true) t34) fun t35 =>
 M.join (M.ite t35
 (uS 16 t5 fun t37 =>
 uB .add t2 (ug L 0) fun t40 =>
 uB .quo t40 (uc 16) fun t41 =>
 uL (Ax.cint .u64 t41) fun t42 =>
 (G zei [t37,t42]).bind fun t43 =>
 (G zcT [t0,t43]).bind fun t44 =>
 uT 16 t11 t44 fun _ =>
 M.pure (.nrm []))
 (M.pure (.nrm []))) fun _ =>
 uIM none 1 t3 (ug L 0) fun t50 =>
 uB .add t2 (ug L 0) fun t53 =>
 uB .rem t53 (uc 16) fun t54 =>
 uIM (some 16) 1 t11 t54 fun t56 =>
 uB .xor t50 t56 fun t57 =>
 uI none 1 t10 (ug L 0) fun t58 =>
 uT 1 t58 t57 fun _ =>
 M.pure (.nrm [])) fun _ =>
 uB .add (ug L 0) (uc 1) fun t59 =>
 M.pure (.nrm [t59]))
 (M.pure (.ex 0 []))
def zjv (G:Sem') (t0 t1 t2 t3:V):M Res :=
 let o:=V.int .u8 0
 uO zaa t1 fun t5 =>
 uB .lss t2 (uc 0) fun t14 =>
 uG t14 false (M.pure t2) fun t16 =>
 uH t14 false (Ax.bin .gtr t16 (uc 1099511627776)) fun t17 =>
 uL (Ax.pick t14 (V.bool true) t17) fun t18 =>
 M.ite t18
 (M.pure (.ret [V.nils,(uc 1)]))
 (uL (vlen t3) fun t20 =>
 (mmkslice zad 1 [o] t20 t20).bind fun t21 =>
 uO zaa (V.agg [o,o,o,o,o,o,o,o,o,o,o,o,o,o,o,o]) fun t11 =>
 uL (vlen t21) fun t23 =>
 M.blk 0 (
 M.iter (zfI G t23 t0 t5 t21 t3 t2 t11 V.nils (uc 0)) [(uc 0)]) fun _ =>
 M.pure (.ret [t21,(uc 0)]))
theorem zmw {t0 t1 t2 t3:V}:OkT zeI [t0,t1,t2,t3] (zjv (sem T) t0 t1 t2 t3):=okT (by kernel_rfl) (by kernel_rfl) (by kernel_rfl)
def zgp (G:Sem') (t5 t6 t2 t4:V) (L:List V):M Res :=
 uB .lss (ug L 0) (uc 8) fun t23 =>
 M.ite t23
 (M.blk 1 (
 uB .add (uc 8) (ug L 0) fun t27 =>
 uB .mul (uc 8) (ug L 0) fun t30 =>
 uB .sub (uc 56) t30 fun t31 =>
 uB .shr t5 t31 fun t32 =>
 uL (Ax.cint .u8 t32) fun t33 =>
 uB .mul (uc 8) (ug L 0) fun t36 =>
 uB .sub (uc 56) t36 fun t37 =>
 uB .shr t6 t37 fun t38 =>
 uL (Ax.cint .u8 t38) fun t39 =>
 uI (some 16) 1 t2 (ug L 0) fun t40 =>
 uT 1 t40 t33 fun _ =>
 uI (some 16) 1 t2 t27 fun t41 =>
 uT 1 t41 t39 fun _ =>
 M.pure (.nrm [])) fun _ =>
 uB .add (ug L 0) (uc 1) fun t42 =>
 M.pure (.nrm [t42]))
 (M.pure (.ex 0 []))
def zkG (G:Sem') (t0 t1:V):M Res :=
 let o:=V.int .u8 0
 uO zaa t0 fun t2 =>
 uO zaa (V.agg [o,o,o,o,o,o,o,o,o,o,o,o,o,o,o,o]) fun t4 =>
 uL (zaz (.arr 16) 1 t2 none (some (uc 8)) none) fun t8 =>
 uL (zaz (.arr 16) 1 t2 (some (uc 8)) none none) fun t10 =>
 (G zeh [t8]).bind fun t9 =>
 (G zeh [t10]).bind fun t11 =>
 uB .add t11 t1 fun t14 =>
 uB .lss t14 t11 fun t16 =>
 M.join (M.ite t16
 (uB .add t9 (uq 1) fun t18 =>
 M.pure (.nrm [t18]))
 (M.pure (.nrm [t9]))) fun L0 =>
 uB .add t11 t1 fun t21 =>
 M.blk 0 (
 M.iter (zgp G (ug L0 0) t21 t2 t4) [(uc 0)]) fun _ =>
 uS 16 t2 fun t43 =>
 uT 16 t4 t43 fun _ =>
 uS 16 t4 fun r0 =>
 M.pure (.ret [r0])
theorem znz {t0 t1:V}:OkT zei [t0,t1] (zkG (sem T) t0 t1):=okT (by kernel_rfl) (by kernel_rfl) (by kernel_rfl)
def zgo (G:Sem') (t7 t6 t2:V) (L:List V):M Res :=
 uB .lss (ug L 1) t7 fun t9 =>
 M.ite t9
 (M.blk 1 (
 uIM none 1 t6 (ug L 1) fun t11 =>
 uB .shl (ug L 0) (uq 8) fun t13 =>
 uL (Ax.cint .u64 t11) fun t15 =>
 uB .or t13 t15 fun t16 =>
 M.pure (.nrm [t16])) fun L0 =>
 uB .add (ug L 1) (uc 1) fun t17 =>
 M.pure (.nrm [(ug L0 0),t17]))
 (M.pure (.ex 0 [(ug L 0)]))
def zkF (G:Sem') (t0:V):M Res :=
 uL (vlen t0) fun t7 =>
 M.blk 0 (
 M.iter (zgo G t7 t0 (uq 0)) [(uq 0),(uc 0)]) fun L1 =>
 M.pure (.ret [(ug L1 0)])
theorem zny {t0:V}:OkT zeh [t0] (zkF (sem T) t0):=okT (by kernel_rfl) (by kernel_rfl) (by kernel_rfl)
def zes (G:Sem') (t5 t0 t3 t4:V) (L:List V):M Res :=
 uB .leq (ug L 0) t5 fun t19 =>
 M.ite t19
 (M.blk 1 (
 uS 16 t3 fun t23 =>
 (G zdH [t0,t23]).bind fun t24 =>
 uT 16 t3 t24 fun _ =>
 uB .lss (ug L 0) t5 fun t27 =>
 M.join (M.ite t27
 (uS 16 t3 fun t28 =>
 (G zfm [t28]).bind fun t29 =>
 uT 16 t3 t29 fun _ =>
 M.pure (.nrm []))
 (M.pure (.nrm []))) fun _ =>
 uS 16 t3 fun t31 =>
 (G zdr [t0,t31,(ug L 0)]).bind fun t33 =>
 uT 16 t3 t33 fun _ =>
 M.pure (.nrm [])) fun _ =>
 uB .add (ug L 0) (uc 1) fun t21 =>
 M.pure (.nrm [t21]))
 (M.pure (.ex 0 []))
def zhu (G:Sem') (t0 t1:V):M Res :=
 let o:=V.int .u8 0
 uO zaa t1 fun t3 =>
 uO zaa (V.agg [o,o,o,o,o,o,o,o,o,o,o,o,o,o,o,o]) fun t4 =>
 uNFM 259 t0 fun t10 =>
 uL (vlen t10) fun t11 =>
 uB .quo t11 (uc 4) fun t12 =>
 uB .sub t12 (uc 1) fun t13 =>
 uS 16 t3 fun t15 =>
 (G zdr [t0,t15,(uc 0)]).bind fun t16 =>
 uT 16 t3 t16 fun _ =>
 M.blk 0 (
 M.iter (zes G t13 t0 t3 t4) [(uc 1)]) fun _ =>
 uS 16 t3 fun t34 =>
 uT 16 t4 t34 fun _ =>
 uS 16 t4 fun r0 =>
 M.pure (.ret [r0])
theorem zkn {t0 t1:V}:OkT zcT [t0,t1] (zhu (sem T) t0 t1):=okT (by kernel_rfl) (by kernel_rfl) (by kernel_rfl)
def zfd (G:Sem') (t0 t2 t4 t6:V) (L:List V):M Res :=
 uB .lss (ug L 0) (uc 16) fun t9 =>
 M.ite t9
 (M.blk 1 (
 uIM (some 16) 1 t4 (ug L 0) fun t13 =>
 uNFM 259 t0 fun t17 =>
 uB .mul (uc 4) t2 fun t19 =>
 uB .quo (ug L 0) (uc 4) fun t21 =>
 uB .add t19 t21 fun t22 =>
 uB .rem (ug L 0) (uc 4) fun t24 =>
 uI none 4 t17 t22 fun t25 =>
 uIM (some 4) 1 t25 t24 fun t27 =>
 uB .xor t13 t27 fun t28 =>
 uI (some 16) 1 t4 (ug L 0) fun t29 =>
 uT 1 t29 t28 fun _ =>
 M.pure (.nrm [])) fun _ =>
 uB .add (ug L 0) (uc 1) fun t30 =>
 M.pure (.nrm [t30]))
 (M.pure (.ex 0 []))
def ziV (G:Sem') (t0 t1 t2:V):M Res :=
 let o:=V.int .u8 0
 uO zaa t1 fun t4 =>
 uO zaa (V.agg [o,o,o,o,o,o,o,o,o,o,o,o,o,o,o,o]) fun t6 =>
 M.blk 0 (
 M.iter (zfd G t0 t2 t4 t6) [(uc 0)]) fun _ =>
 uS 16 t4 fun t31 =>
 uT 16 t6 t31 fun _ =>
 uS 16 t6 fun r0 =>
 M.pure (.ret [r0])
theorem zlQ {t0 t1 t2:V}:OkT zdr [t0,t1,t2] (ziV (sem T) t0 t1 t2):=okT (by kernel_rfl) (by kernel_rfl) (by kernel_rfl)
def zer (G:Sem') (t5 t3 t6 t4:V) (L:List V):M Res :=
 uB .lss (ug L 0) (uc 16) fun t13 =>
 M.ite t13
 (M.blk 1 (
 uB .rem (ug L 0) (uc 4) fun t19 =>
 uB .mul (uc 4) t19 fun t20 =>
 uB .add (ug L 0) t20 fun t21 =>
 uB .rem t21 (uc 16) fun t22 =>
 uIM (some 16) 1 t3 t22 fun t24 =>
 uN t5 fun t25 =>
 uIM (some 256) 1 t25 t24 fun t27 =>
 uI (some 16) 1 t6 (ug L 0) fun t28 =>
 uT 1 t28 t27 fun _ =>
 M.pure (.nrm [])) fun _ =>
 uB .add (ug L 0) (uc 1) fun t29 =>
 M.pure (.nrm [t29]))
 (M.pure (.ex 0 []))
def zht (G:Sem') (t0 t1:V):M Res :=
 let o:=V.int .u8 0
 uO zaa t1 fun t3 =>
 uO zaa (V.agg [o,o,o,o,o,o,o,o,o,o,o,o,o,o,o,o]) fun t4 =>
 uNF 0 t0 fun t10 =>
 (G zbm [t10]).bind fun t11 =>
 uO zaa (V.agg [o,o,o,o,o,o,o,o,o,o,o,o,o,o,o,o]) fun t6 =>
 M.blk 0 (
 M.iter (zer G t11 t3 t6 t4) [(uc 0)]) fun _ =>
 uS 16 t6 fun t30 =>
 uT 16 t4 t30 fun _ =>
 uS 16 t4 fun r0 =>
 M.pure (.ret [r0])
theorem zkm {t0 t1:V}:OkT zdH [t0,t1] (zht (sem T) t0 t1):=okT (by kernel_rfl) (by kernel_rfl) (by kernel_rfl)
def zgy (G:Sem') (t1 t3 t2:V) (L:List V):M Res :=
 uB .lss (ug L 0) (uc 16) fun t9 =>
 M.ite t9
 (M.blk 1 (
 uB .rem (ug L 0) (uc 4) fun t13 =>
 uB .sub (ug L 0) t13 fun t14 =>
 uIM (some 16) 1 t1 (ug L 0) fun t17 =>
 uB .add (ug L 0) (uc 1) fun t20 =>
 uB .rem t20 (uc 4) fun t21 =>
 uB .add t14 t21 fun t22 =>
 uIM (some 16) 1 t1 t22 fun t24 =>
 uB .add (ug L 0) (uc 2) fun t35 =>
 uB .rem t35 (uc 4) fun t36 =>
 uB .add t14 t36 fun t37 =>
 uI (some 16) 1 t1 t37 fun t38 =>
 uM t38 fun t39 =>
 uB .add (ug L 0) (uc 3) fun t43 =>
 uB .rem t43 (uc 4) fun t44 =>
 uB .add t14 t44 fun t45 =>
 uI (some 16) 1 t1 t45 fun t46 =>
 uM t46 fun t47 =>
 M.getH.bind fun h0 =>
 (G zbk [t17]).bind fun t27 =>
 M.getH.bind fun h0' =>
 uU t46 h0 h0' fun _ =>
 uU t38 h0 h0' fun _ =>
 M.getH.bind fun h1 =>
 (G zbk [t24]).bind fun t29 =>
 M.getH.bind fun h1' =>
 uU t46 h1 h1' fun _ =>
 uU t38 h1 h1' fun _ =>
 uB .xor t27 t29 fun t30 =>
 uB .xor t30 t24 fun t32 =>
 uB .xor t32 t39 fun t40 =>
 uB .xor t40 t47 fun t48 =>
 uI (some 16) 1 t3 (ug L 0) fun t49 =>
 uT 1 t49 t48 fun _ =>
 M.pure (.nrm [])) fun _ =>
 uB .add (ug L 0) (uc 1) fun t50 =>
 M.pure (.nrm [t50]))
 (M.pure (.ex 0 []))
def zkN (G:Sem') (t0:V):M Res :=
 let o:=V.int .u8 0
 uO zaa t0 fun t1 =>
 uO zaa (V.agg [o,o,o,o,o,o,o,o,o,o,o,o,o,o,o,o]) fun t2 =>
 uO zaa (V.agg [o,o,o,o,o,o,o,o,o,o,o,o,o,o,o,o]) fun t3 =>
 M.blk 0 (
 M.iter (zgy G t1 t3 t2) [(uc 0)]) fun _ =>
 uS 16 t3 fun t51 =>
 uT 16 t2 t51 fun _ =>
 uS 16 t2 fun r0 =>
 M.pure (.ret [r0])
theorem znG {t0:V}:OkT zfm [t0] (zkN (sem T) t0):=okT (by kernel_rfl) (by kernel_rfl) (by kernel_rfl)
def zgn (G:Sem') (t0 t1 t2 t3 t4:V):M Res :=
 let o:=V.int .u8 0
 uL (vlen t2) fun t14 =>
 uL (vlen t3) fun t16 =>
 uB .add t14 t16 fun t17 =>
 uL (Ax.cint .u64 t17) fun t18 =>
 (G zbA [t18,(uc 8)]).bind fun t19 =>
 uL (vlen t4) fun t21 =>
 uL (Ax.cint .u64 t21) fun t22 =>
 (G zbA [t22,(uc 8)]).bind fun t23 =>
 (mappend zad 1 1 t19 t23).bind fun t24 =>
 uNF 3 t0 fun t27 =>
 uM t27 fun t28 =>
 uNFM 1 t0 fun t33 =>
 uL (Ax.cint .u64 t33) fun t34 =>
 M.getH.bind fun h0 =>
 (G zbA [t34,(uc 8)]).bind fun t35 =>
 M.getH.bind fun h0' =>
 uU t27 h0 h0' fun _ =>
 (mslit zar 6 [V.nils] [(0,1,t24),(1,1,t35),(2,1,t1),(3,1,t2),(4,1,t3),(5,1,t4)]).bind fun t40 =>
 (G zhl [t28,t40]).bind fun t41 =>
 uO zae (V.agg [o,o,o,o,o,o,o,o,o,o,o,o,o,o,o,o,o,o,o,o,o,o,o,o,o,o,o,o,o,o,o,o]) fun t12 =>
 uT 32 t12 t41 fun _ =>
 uNFM 1 t0 fun t45 =>
 uL (zaz (.arr 32) 1 t12 none (some t45) none) fun t46 =>
 M.pure (.ret [t46])
theorem zjf {t0 t1 t2 t3 t4:V}:OkT zb4 [t0,t1,t2,t3,t4] (zgn (sem T) t0 t1 t2 t3 t4):=okT (by kernel_rfl) (by kernel_rfl) (by kernel_rfl)
def zg4 (G:Sem') (t43 t42 t4:V) (L:List V):M Res :=
 uB .lss (ug L 1) t43 fun t45 =>
 M.ite t45
 (M.blk 1 (
 uIM none 1 t42 (ug L 1) fun t47 =>
 uL (vlen t47) fun t49 =>
 uB .sub (uc 9223372036854775807) (ug L 0) fun t51 =>
 uB .gtr t49 t51 fun t52 =>
 M.join (M.ite t52
 (M.fail)
 (M.pure (.nrm []))) fun _ =>
 uL (vlen t47) fun t56 =>
 uB .add (ug L 0) t56 fun t57 =>
 M.pure (.nrm [t57])) fun L3 =>
 uB .add (ug L 1) (uc 1) fun t58 =>
 M.pure (.nrm [(ug L3 0),t58]))
 (M.pure (.ex 0 [(ug L 0)]))
def zg3 (G:Sem') (t71 t70 t1 t8 t4:V) (L:List V):M Res :=
 uB .lss (ug L 1) t71 fun t73 =>
 M.ite t73
 (M.blk 3 (
 uIM none 1 t70 (ug L 1) fun t75 =>
 uL (zaz .sl 1 t8 (some (ug L 0)) none none) fun t79 =>
 (mcopy 1 t79 t1).bind fun t81 =>
 uB .add (ug L 0) t81 fun t82 =>
 uL (zaz .sl 1 t8 (some t82) none none) fun t86 =>
 (mcopy 1 t86 t75).bind fun t88 =>
 uB .add t82 t88 fun t89 =>
 M.pure (.nrm [t89])) fun L5 =>
 uB .add (ug L 1) (uc 1) fun t90 =>
 M.pure (.nrm [(ug L5 0),t90]))
 (M.pure (.ex 2 []))
def zlH (G:Sem') (t0 t1:V):M Res :=
 uL (vlen t0) fun t13 =>
 uB .eql t13 (uc 0) fun t14 =>
 M.ite t14
 ((mslit zad 0 [(ub 0)] []).bind fun t15 =>
 M.pure (.ret [t15]))
 (uL (vlen t0) fun t17 =>
 uB .eql t17 (uc 1) fun t18 =>
 M.ite t18
 (uIM none 1 t0 (uc 0) fun t21 =>
 (mappend zad 1 1 V.nils t21).bind fun t22 =>
 M.pure (.ret [t22]))
 (uL (vlen t1) fun t24 =>
 uB .gtr t24 (uc 0) fun t25 =>
 M.join (M.ite t25
 (uL (vlen t1) fun t27 =>
 uL (vlen t0) fun t29 =>
 uB .sub t29 (uc 1) fun t30 =>
 uB .quo (uc 9223372036854775807) t30 fun t31 =>
 uB .geq t27 t31 fun t32 =>
 M.join (M.ite t32
 (M.fail)
 (M.pure (.nrm []))) fun _ =>
 uL (vlen t1) fun t36 =>
 uL (vlen t0) fun t38 =>
 uB .sub t38 (uc 1) fun t39 =>
 uB .mul t36 t39 fun t40 =>
 uB .add (uc 0) t40 fun t41 =>
 M.pure (.nrm [t41]))
 (M.pure (.nrm [(uc 0)]))) fun L1 =>
 uL (vlen t0) fun t43 =>
 M.blk 0 (
 M.iter (zg4 G t43 t0 V.nils) [(ug L1 0),(uc 0)]) fun L4 =>
 (mmknz zad (ug L4 0)).bind fun t60 =>
 uL (zaz .sl 1 t60 none (some (ug L4 0)) (some (ug L4 0))) fun t63 =>
 uIM none 1 t0 (uc 0) fun t67 =>
 (mcopy 1 t63 t67).bind fun t68 =>
 uL (zaz .sl 1 t0 (some (uc 1)) none none) fun t70 =>
 uL (vlen t70) fun t71 =>
 M.blk 2 (
 M.iter (zg3 G t71 t70 t1 t63 V.nils) [t68,(uc 0)]) fun _ =>
 M.pure (.ret [t63])))
theorem zoB {t0 t1:V}:OkT zf5 [t0,t1] (zlH (sem T) t0 t1):=okT (by kernel_rfl) (by kernel_rfl) (by kernel_rfl)
def zfT (G:Sem') (t0 t1 t2:V):M Res :=
 uO zaJ (V.agg [(uc 0),(uc 0),(uc 0),(uq 0),V.nils]) fun t6 =>
 (G zdQ [t2]).bind fun t25 =>
 uE 0 t25 fun t26 =>
 uE 1 t25 fun t27 =>
 uE 2 t25 fun t28 =>
 uE 3 t25 fun t29 =>
 uB .neq t29 (uc 0) fun t31 =>
 M.ite t31
 (uL (Ax.build [(uc 0),(uc 0),(uc 0),(uq 0),V.nils] []) fun t32 =>
 uT 5 t6 t32 fun _ =>
 uS 5 t6 fun r0 =>
 M.pure (.ret [r0,t29]))
 ((G zgK [t26]).bind fun t36 =>
 uE 0 t36 fun t37 =>
 uE 1 t36 fun t38 =>
 uE 2 t36 fun t39 =>
 uE 3 t36 fun t40 =>
 uL (Ax.un .not t40) fun t42 =>
 M.ite t42
 (uL (Ax.build [(uc 0),(uc 0),(uc 0),(uq 0),V.nils] []) fun t43 =>
 uT 5 t6 t43 fun _ =>
 uS 5 t6 fun r0 =>
 M.pure (.ret [r0,(uc 2)]))
 (uNFM 1 t0 fun t47 =>
 uL (Ax.build [(uc 0),(uc 0)] [(0,1,t37),(1,1,t39)]) fun t50 =>
 (mlookup (.st [.int,.int]) V.nilp false t47 t50).bind fun t51 =>
 uL (eqr .ptr false t51 V.nilp) fun t53 =>
 uG t53 false (M.pure t38) fun t55 =>
 uG t53 false (M.pure t51) fun t56 =>
 uG t53 false (G zcO [t56]) fun t57 =>
 uH t53 false (Ax.bin .lss t55 t57) fun t58 =>
 uL (Ax.pick t53 (V.bool true) t58) fun t59 =>
 M.ite t59
 (uL (Ax.build [(uc 0),(uc 0),(uc 0),(uq 0),V.nils] []) fun t60 =>
 uT 5 t6 t60 fun _ =>
 uS 5 t6 fun r0 =>
 M.pure (.ret [r0,(uc 10)]))
 (uNFM 2 t0 fun t64 =>
 (mlookup .int (V.agg [(V.bool false),(uq 0),(uq 0)]) false t64 t26).bind fun t66 =>
 uO zat (V.agg [(V.bool false),(uq 0),(uq 0)]) fun t17 =>
 uT 3 t17 t66 fun _ =>
 uS 3 t17 fun t67 =>
 (G zeH [t67,t27]).bind fun t69 =>
 uB .neq t69 (uc 0) fun t71 =>
 M.ite t71
 (uL (Ax.build [(uc 0),(uc 0),(uc 0),(uq 0),V.nils] []) fun t72 =>
 uT 5 t6 t72 fun _ =>
 uS 5 t6 fun r0 =>
 M.pure (.ret [r0,t69]))
 ((G zdk [t51,t38]).bind fun t77 =>
 uE 0 t77 fun t78 =>
 uE 1 t77 fun t79 =>
 uB .neq t79 (uc 0) fun t81 =>
 M.ite t81
 (uL (Ax.build [(uc 0),(uc 0),(uc 0),(uq 0),V.nils] []) fun t82 =>
 uT 5 t6 t82 fun _ =>
 uS 5 t6 fun r0 =>
 M.pure (.ret [r0,t79]))
 ((G zc6 [t0,t26,t78]).bind fun t88 =>
 uE 0 t88 fun t89 =>
 uE 1 t88 fun t90 =>
 uB .neq t90 (uc 0) fun t92 =>
 M.ite t92
 (uL (Ax.build [(uc 0),(uc 0),(uc 0),(uq 0),V.nils] []) fun t93 =>
 uT 5 t6 t93 fun _ =>
 uS 5 t6 fun r0 =>
 M.pure (.ret [r0,t90]))
 ((G zdE [t89,t2,t1]).bind fun t99 =>
 uE 0 t99 fun t100 =>
 uE 1 t99 fun t101 =>
 uE 2 t99 fun t102 =>
 uB .neq t102 (uc 0) fun t104 =>
 M.ite t104
 (uL (Ax.build [(uc 0),(uc 0),(uc 0),(uq 0),V.nils] []) fun t105 =>
 uT 5 t6 t105 fun _ =>
 uS 5 t6 fun r0 =>
 M.pure (.ret [r0,t102]))
 (uNF 2 t0 fun t110 =>
 uM t110 fun t111 =>
 uS 3 t17 fun t113 =>
 M.getH.bind fun h0 =>
 (G zfi [t113,t27]).bind fun t115 =>
 M.getH.bind fun h0' =>
 uU t110 h0 h0' fun _ =>
 uE 0 t115 fun t116 =>
 (mmapset .int t111 t26 t116).bind fun _ =>
 uE 1 t115 fun t117 =>
 uL (Ax.build [(uc 0),(uc 0),(uc 0),(uq 0),V.nils] [(0,1,t37),(1,1,t38),(2,1,t39),(3,1,t27),(4,1,t100)]) fun t123 =>
 uT 5 t6 t123 fun _ =>
 uS 5 t6 fun r0 =>
 M.pure (.ret [r0,(uc 0)]))))))))
theorem ziA {t0 t1 t2:V}:OkT zbr [t0,t1,t2] (zfT (sem T) t0 t1 t2):=okT (by kernel_rfl) (by kernel_rfl) (by kernel_rfl)
def zjy (G:Sem') (t0:V):M Res :=
 uL (vlen t0) fun t13 =>
 uB .eql t13 (uc 0) fun t14 =>
 M.ite t14
 (M.pure (.ret [(uq 0),(uq 0),(uc 0),(uc 3)]))
 (uIM none 1 t0 (uc 0) fun t17 =>
 uB .shr t17 (uq 4) fun t18 =>
 uIM none 1 t0 (uc 0) fun t21 =>
 uB .and t21 (ub 15) fun t22 =>
 (G zek [t18]).bind fun t24 =>
 uB .add (uc 1) t24 fun t25 =>
 (G zek [t22]).bind fun t28 =>
 uB .add t25 t28 fun t29 =>
 uL (vlen t0) fun t31 =>
 uB .lss t31 t29 fun t33 =>
 M.ite t33
 (M.pure (.ret [(uq 0),(uq 0),(uc 0),(uc 3)]))
 (uL (zaz .sl 1 t0 (some (uc 1)) (some t25) none) fun t38 =>
 (G zdq [t18,t38]).bind fun t39 =>
 uE 0 t39 fun t40 =>
 uE 1 t39 fun t41 =>
 uL (zaz .sl 1 t0 (some t25) (some t29) none) fun t47 =>
 (G zdq [t22,t47]).bind fun t48 =>
 uE 0 t48 fun t49 =>
 uE 1 t48 fun t50 =>
 uL (Ax.un .not t41) fun t52 =>
 uG t52 false (M.pure t50) fun t54 =>
 uH t52 false (Ax.un .not t54) fun t55 =>
 uL (Ax.pick t52 (V.bool true) t55) fun t56 =>
 M.ite t56
 (M.pure (.ret [(uq 0),(uq 0),(uc 0),(uc 2)]))
 (M.pure (.ret [t40,t49,t29,(uc 0)]))))
theorem zmz {t0:V}:OkT zdQ [t0] (zjy (sem T) t0):=okT (by kernel_rfl) (by kernel_rfl) (by kernel_rfl)
def zkJ (G:Sem') (t0:V):M Res :=
 uB .and t0 (ub 8) fun t4 =>
 uB .eql t4 (ub 0) fun t5 =>
 M.ite t5
 (M.pure (.ret [(uc 0)]))
 (uB .and t0 (ub 7) fun t7 =>
 uL (Ax.cint .i64 t7) fun t8 =>
 uB .add t8 (uc 1) fun t9 =>
 M.pure (.ret [t9]))
theorem znC {t0:V}:OkT zek [t0] (zkJ (sem T) t0):=okT (by kernel_rfl) (by kernel_rfl) (by kernel_rfl)
def zfc (G:Sem') (t15 t14 t4 t5:V) (L:List V):M Res :=
 uB .lss (ug L 1) t15 fun t17 =>
 M.ite t17
 (M.blk 1 (
 uIM none 1 t14 (ug L 1) fun t19 =>
 uB .shl (ug L 0) (uq 8) fun t21 =>
 uL (Ax.cint .u64 t19) fun t23 =>
 uB .or t21 t23 fun t24 =>
 M.pure (.nrm [t24])) fun L0 =>
 uB .add (ug L 1) (uc 1) fun t25 =>
 M.pure (.nrm [(ug L0 0),t25]))
 (M.pure (.ex 0 [(ug L 0)]))
def ziU (G:Sem') (t0 t1:V):M Res :=
 uB .and t0 (ub 8) fun t10 =>
 uB .eql t10 (ub 0) fun t11 =>
 M.ite t11
 (uL (Ax.cint .u64 t0) fun t13 =>
 M.pure (.ret [t13,(V.bool true)]))
 (uL (vlen t1) fun t15 =>
 M.blk 0 (
 M.iter (zfc G t15 t1 (uq 0) (V.bool false)) [(uq 0),(uc 0)]) fun L1 =>
 uIM none 1 t1 (uc 0) fun t29 =>
 uB .neq t29 (ub 0) fun t30 =>
 uG t30 true (M.pure (ug L1 0)) fun t32 =>
 uH t30 true (Ax.bin .geq t32 (uq 8)) fun t33 =>
 uL (Ax.pick t30 t33 (V.bool false)) fun t34 =>
 M.pure (.ret [(ug L1 0),t34]))
theorem zlP {t0 t1:V}:OkT zdq [t0,t1] (ziU (sem T) t0 t1):=okT (by kernel_rfl) (by kernel_rfl) (by kernel_rfl)
def zmV (G:Sem') (t0:V):M Res :=
 uB .geq t0 (uq 16777216) fun t7 =>
 M.ite t7
 (M.pure (.ret [(uc 0),(uc 0),(uc 0),(V.bool false)]))
 (uB .quo t0 (uq 256) fun t9 =>
 uL (Ax.cint .i64 t9) fun t10 =>
 uB .rem t0 (uq 256) fun t12 =>
 uB .quo t12 (uq 8) fun t13 =>
 uL (Ax.cint .i64 t13) fun t14 =>
 uB .rem t0 (uq 8) fun t16 =>
 uL (Ax.cint .i64 t16) fun t17 =>
 M.pure (.ret [t10,t14,t17,(V.bool true)]))
theorem zpC {t0:V}:OkT zgK [t0] (zmV (sem T) t0):=okT (by kernel_rfl) (by kernel_rfl) (by kernel_rfl)
def zfM (G:Sem') (t0:V):M Res :=
 uNFM 0 t0 fun t6 =>
 M.pure (.ret [t6])
theorem zit {t0:V}:OkT zcO [t0] (zfM (sem T) t0):=okT (by kernel_rfl) (by kernel_rfl) (by kernel_rfl)
def zlC (G:Sem') (t0 t1:V):M Res :=
 uO zat t0 fun t2 =>
 M.blk 0 (
 uS 3 t2 fun t6 =>
 (G zfj [t6]).bind fun t7 =>
 uL (Ax.un .not t7) fun t8 =>
 M.ite t8
 (M.pure (.ret [(uc 1)]))
 (uFM 0 t2 fun t11 =>
 uL (Ax.un .not t11) fun t12 =>
 uG t12 false (M.pure t1) fun t14 =>
 uH t12 false (Ax.faddr 1 t2) fun t15 =>
 uG t12 false (mload none t15) fun t16 =>
 uH t12 false (Ax.bin .gtr t14 t16) fun t17 =>
 uL (Ax.pick t12 (V.bool true) t17) fun t18 =>
 M.ite t18
 (M.pure (.ret [(uc 0)]))
 (uFM 1 t2 fun t21 =>
 uB .sub t21 t1 fun t23 =>
 uB .geq t23 (uq 64) fun t24 =>
 uH t24 false (Ax.faddr 2 t2) fun t26 =>
 uG t24 false (mload none t26) fun t27 =>
 uH t24 false (Ax.faddr 1 t2) fun t28 =>
 uG t24 false (mload none t28) fun t29 =>
 uG t24 false (M.pure t1) fun t30 =>
 uH t24 false (Ax.bin .sub t29 t30) fun t31 =>
 uH t24 false (Ax.bin .shr t27 t31) fun t32 =>
 uH t24 false (Ax.bin .and t32 (uq 1)) fun t33 =>
 uH t24 false (Ax.bin .eql t33 (uq 1)) fun t34 =>
 uL (Ax.pick t24 (V.bool true) t34) fun t35 =>
 M.ite t35
 (M.pure (.ret [(uc 9)]))
 (M.pure (.nrm []))))) fun _ =>
 M.pure (.ret [(uc 0)])
theorem zoy {t0 t1:V}:OkT zeH [t0,t1] (zlC (sem T) t0 t1):=okT (by kernel_rfl) (by kernel_rfl) (by kernel_rfl)
end Go.Ax
/- FnS4 -/
namespace Go.Ax
open Go.Proofs
def zkD (G:Sem') (t0:V):M Res :=
 uO zat t0 fun t1 =>
 uFM 0 t1 fun t4 =>
 uL (Ax.un .not t4) fun t5 =>
 M.ite t5
 (uS 3 t1 fun t6 =>
 uL (Ax.build [(V.bool false),(uq 0),(uq 0)] []) fun t7 =>
 uL (eqr (.st [.bool,.int,.int]) false t6 t7) fun t8 =>
 M.pure (.ret [t8]))
 (uFM 2 t1 fun t10 =>
 uB .and t10 (uq 1) fun t11 =>
 uB .eql t11 (uq 1) fun t12 =>
 uH t12 true (Ax.faddr 2 t1) fun t14 =>
 uG t12 true (mload none t14) fun t15 =>
 uH t12 true (Ax.faddr 1 t1) fun t19 =>
 uG t12 true (mload none t19) fun t20 =>
 M.getH.bind fun h0 =>
 uG t12 true (G zdF [t15]) fun t16 =>
 M.getH.bind fun h0' =>
 uU t19 h0 h0' fun _ =>
 uH t12 true (Ax.cint .u64 t16) fun t17 =>
 uH t12 true (Ax.bin .sub t17 (uq 1)) fun t18 =>
 uH t12 true (Ax.bin .leq t18 t20) fun t21 =>
 uL (Ax.pick t12 t21 (V.bool false)) fun t22 =>
 M.pure (.ret [t22]))
theorem znw {t0:V}:OkT zfj [t0] (zkD (sem T) t0):=okT (by kernel_rfl) (by kernel_rfl) (by kernel_rfl)
def zcL:ByteArray:=⟨#[0,1,2,2,3,3,3,3,4,4,4,4,4,4,4,4,5,5,5,5,5,5,5,5,5,5,5,5,5,5,5,5,6,6,6,6,6,6,6,6,6,6,6,6,6,6,6,6,6,6,6,6,6,6,6,6,6,6,6,6,6,6,6,6,7,7,7,7,7,7,7,7,7,7,7,7,7,7,7,7,7,7,7,7,7,7,7,7,7,7,7,7,7,7,7,7,7,7,7,7,7,7,7,7,7,7,7,7,7,7,7,7,7,7,7,7,7,7,7,7,7,7,7,7,7,7,7,7,8,8,8,8,8,8,8,8,8,8,8,8,8,8,8,8,8,8,8,8,8,8,8,8,8,8,8,8,8,8,8,8,8,8,8,8,8,8,8,8,8,8,8,8,8,8,8,8,8,8,8,8,8,8,8,8,8,8,8,8,8,8,8,8,8,8,8,8,8,8,8,8,8,8,8,8,8,8,8,8,8,8,8,8,8,8,8,8,8,8,8,8,8,8,8,8,8,8,8,8,8,8,8,8,8,8,8,8,8,8,8,8,8,8,8,8,8,8,8,8,8,8,8,8,8,8,8,8]⟩
def zhr (G:Sem') (t0:V):M Res :=
 uB .geq t0 (uq 4294967296) fun t4 =>
 M.join (M.ite t4
 (uB .shr t0 (uq 32) fun t6 =>
 M.pure (.nrm [t6,(uc 32)]))
 (M.pure (.nrm [t0,(uc 0)]))) fun L0 =>
 uB .geq (ug L0 0) (uq 65536) fun t8 =>
 M.join (M.ite t8
 (uB .shr (ug L0 0) (uq 16) fun t10 =>
 uB .add (ug L0 1) (uc 16) fun t12 =>
 M.pure (.nrm [t10,t12]))
 (M.pure (.nrm [(ug L0 0),(ug L0 1)]))) fun L1 =>
 uB .geq (ug L1 0) (uq 256) fun t14 =>
 M.join (M.ite t14
 (uB .shr (ug L1 0) (uq 8) fun t16 =>
 uB .add (ug L1 1) (uc 8) fun t18 =>
 M.pure (.nrm [t16,t18]))
 (M.pure (.nrm [(ug L1 0),(ug L1 1)]))) fun L2 =>
 uL (Ax.cint .u8 (ug L2 0)) fun t21 =>
 uL (Ax.sindex (V.str zcL) t21) fun t22 =>
 uL (Ax.cint .i64 t22) fun t23 =>
 uB .add (ug L2 1) t23 fun t24 =>
 M.pure (.ret [t24])
theorem zkk {t0:V}:OkT zdF [t0] (zhr (sem T) t0):=okT (by kernel_rfl) (by kernel_rfl) (by kernel_rfl)
def zgO (G:Sem') (t0 t1:V):M Res :=
 M.blk 0 (
 (G zcr [t1]).bind fun t8 =>
 uL (Ax.un .not t8) fun t9 =>
 M.ite t9
 (M.pure (.ret [V.nils,(uc 1)]))
 (uNFM 0 t0 fun t15 =>
 uB .lss t1 t15 fun t16 =>
 M.ite t16
 (M.pure (.ret [V.nils,(uc 9)]))
 (M.pure (.nrm [])))) fun _ =>
 uNFM 1 t0 fun t20 =>
 uNFM 0 t0 fun t25 =>
 uB .sub t1 t25 fun t26 =>
 (G zeo [t20,t26]).bind fun t27 =>
 uE 0 t27 fun t28 =>
 uE 1 t27 fun t29 =>
 M.pure (.ret [t28,t29])
theorem zjP {t0 t1:V}:OkT zdk [t0,t1] (zgO (sem T) t0 t1):=okT (by kernel_rfl) (by kernel_rfl) (by kernel_rfl)
def zfb (G:Sem') (t12 t4 t5:V) (L:List V):M Res :=
 uB .lss (ug L 1) t12 fun t14 =>
 M.ite t14
 (M.blk 1 (
 (G zeJ [(ug L 0)]).bind fun t16 =>
 M.pure (.nrm [t16])) fun L0 =>
 uB .add (ug L 1) (uc 1) fun t17 =>
 M.pure (.nrm [(ug L0 0),t17]))
 (M.pure (.ex 0 [(ug L 0)]))
def ziS (G:Sem') (t0 t1:V):M Res :=
 (G zcr [t1]).bind fun t8 =>
 uL (Ax.un .not t8) fun t9 =>
 M.ite t9
 (M.pure (.ret [V.nils,(uc 1)]))
 ((G zdw [t0]).bind fun t11 =>
 M.blk 0 (
 M.iter (zfb G t1 V.nils (uc 0)) [t11,(uc 0)]) fun L1 =>
 M.pure (.ret [(ug L1 0),(uc 0)]))
theorem zlO {t0 t1:V}:OkT zeo [t0,t1] (ziS (sem T) t0 t1):=okT (by kernel_rfl) (by kernel_rfl) (by kernel_rfl)
def zjw (G:Sem') (t0:V):M Res :=
 let o:=V.int .u8 0
 (G zej [V.nils,t0]).bind fun t7 =>
 uO zae (V.agg [o,o,o,o,o,o,o,o,o,o,o,o,o,o,o,o,o,o,o,o,o,o,o,o,o,o,o,o,o,o,o,o]) fun t3 =>
 uT 32 t3 t7 fun _ =>
 uL (zaz (.arr 32) 1 t3 none none none) fun t9 =>
 (mslit zad 18 [o] [(0,1,(ub 83)),(1,1,(ub 70)),(2,1,(ub 114)),(3,1,(ub 97)),(4,1,(ub 109)),(5,1,(ub 101)),(6,1,(ub 32)),(7,1,(ub 49)),(8,1,(ub 46)),(9,1,(ub 48)),(10,1,(ub 32)),(11,1,(ub 82)),(12,1,(ub 97)),(13,1,(ub 116)),(14,1,(ub 99)),(15,1,(ub 104)),(16,1,(ub 101)),(17,1,(ub 116))]).bind fun t10 =>
 (mremark zad t10).bind fun t11 =>
 (G zd3 [t9,t11,(uc 32)]).bind fun t12 =>
 uE 0 t12 fun t13 =>
 uE 1 t12 fun t14 =>
 M.pure (.ret [t13])
theorem zmx {t0:V}:OkT zeJ [t0] (zjw (sem T) t0):=okT (by kernel_rfl) (by kernel_rfl) (by kernel_rfl)
def zgs (G:Sem') (t0 t1 t2:V):M Res :=
 uNFM 3 t0 fun t14 =>
 (mlookup .int V.nilp false t14 t1).bind fun t16 =>
 uL (eqr .ptr true t16 V.nilp) fun t18 =>
 M.ite t18
 (M.pure (.ret [t16,(uc 0)]))
 (uNFM 0 t0 fun t24 =>
 (G zbS [t24,t1,t2]).bind fun t27 =>
 uE 0 t27 fun t28 =>
 uE 1 t27 fun t29 =>
 uB .eql t29 (uc 0) fun t31 =>
 M.join (M.ite t31
 (uNFM 3 t0 fun t35 =>
 (mmapset .int t35 t1 t28).bind fun _ =>
 M.pure (.nrm []))
 (M.pure (.nrm []))) fun _ =>
 M.pure (.ret [t28,t29]))
theorem zji {t0 t1 t2:V}:OkT zc6 [t0,t1,t2] (zgs (sem T) t0 t1 t2):=okT (by kernel_rfl) (by kernel_rfl) (by kernel_rfl)
def zho (G:Sem') (t0 t1 t2:V):M Res :=
 (G zdQ [t1]).bind fun t17 =>
 uE 0 t17 fun t18 =>
 uE 1 t17 fun t19 =>
 uE 2 t17 fun t20 =>
 uE 3 t17 fun t21 =>
 uL (vlen t1) fun t23 =>
 uB .sub t23 t20 fun t25 =>
 uNFM 1 t0 fun t29 =>
 uB .sub t25 t29 fun t30 =>
 M.blk 0 (
 uB .neq t21 (uc 0) fun t33 =>
 M.ite t33
 (M.pure (.ret [V.nils,(uq 0),t21]))
 (uNFM 0 t0 fun t40 =>
 uB .neq t18 t40 fun t41 =>
 M.ite t41
 (M.pure (.ret [V.nils,(uq 0),(uc 10)]))
 (uB .lss t30 (uc 0) fun t44 =>
 M.ite t44
 (M.pure (.ret [V.nils,(uq 0),(uc 3)]))
 (uB .gtr t30 (uc 1000) fun t47 =>
 M.ite t47
 (M.pure (.ret [V.nils,(uq 0),(uc 4)]))
 (M.pure (.nrm [t19])))))) fun L0 =>
 uL (zaz .sl 1 t1 none (some t20) none) fun t50 =>
 uB .add t20 t30 fun t55 =>
 uL (zaz .sl 1 t1 (some t20) (some t55) none) fun t56 =>
 (G zcv [t0,(ug L0 0)]).bind fun t59 =>
 uB .add t20 t30 fun t69 =>
 uL (zaz .sl 1 t1 (some t69) none none) fun t70 =>
 (G zb4 [t0,t59,t50,t2,t56]).bind fun t65 =>
 (G zhQ [t65,t70]).bind fun t71 =>
 uL (Ax.un .not t71) fun t72 =>
 M.ite t72
 (M.pure (.ret [V.nils,(uq 0),(uc 8)]))
 ((G zcw [t0,t59,t56]).bind fun t76 =>
 M.pure (.ret [t76,(ug L0 0),(uc 0)]))
theorem zkh {t0 t1 t2:V}:OkT zdE [t0,t1,t2] (zho (sem T) t0 t1 t2):=okT (by kernel_rfl) (by kernel_rfl) (by kernel_rfl)
def ziR (G:Sem') (t13 t0 t1 t4:V) (L:List V):M Res :=
 uB .lss (ug L 1) t13 fun t15 =>
 M.ite t15
 (M.blk 1 (
 uIM none 1 t0 (ug L 1) fun t21 =>
 uIM none 1 t1 (ug L 1) fun t25 =>
 uB .xor t21 t25 fun t26 =>
 uB .or (ug L 0) t26 fun t27 =>
 M.pure (.nrm [t27])) fun L0 =>
 uB .add (ug L 1) (uc 1) fun t28 =>
 M.pure (.nrm [(ug L0 0),t28]))
 (M.pure (.ex 0 [(ug L 0)]))
def zn4 (G:Sem') (t0 t1:V):M Res :=
 uL (vlen t0) fun t8 =>
 uL (vlen t1) fun t10 =>
 uB .neq t8 t10 fun t11 =>
 M.ite t11
 (M.pure (.ret [(V.bool false)]))
 (uL (vlen t0) fun t13 =>
 M.blk 0 (
 M.iter (ziR G t13 t0 t1 (V.bool false)) [(ub 0),(uc 0)]) fun L1 =>
 uB .eql (ug L1 0) (ub 0) fun t30 =>
 M.pure (.ret [t30]))
theorem zqC {t0 t1:V}:OkT zhQ [t0,t1] (zn4 (sem T) t0 t1):=okT (by kernel_rfl) (by kernel_rfl) (by kernel_rfl)
def zkC (G:Sem') (t0 t1:V):M Res :=
 uO zat t0 fun t2 =>
 uO zat (V.agg [(V.bool false),(uq 0),(uq 0)]) fun t4 =>
 uS 3 t2 fun t7 =>
 (G zeH [t7,t1]).bind fun t9 =>
 uB .neq t9 (uc 0) fun t11 =>
 M.ite t11
 (uL (Ax.build [(V.bool false),(uq 0),(uq 0)] []) fun t12 =>
 uT 3 t4 t12 fun _ =>
 uS 3 t4 fun r0 =>
 M.pure (.ret [r0,t9]))
 (M.blk 0 (
 uFM 0 t2 fun t16 =>
 uL (Ax.un .not t16) fun t17 =>
 M.ite t17
 (uL (Ax.build [(V.bool false),(uq 0),(uq 0)] [(0,1,(V.bool true)),(1,1,t1),(2,1,(uq 1))]) fun t19 =>
 uT 3 t4 t19 fun _ =>
 uS 3 t4 fun r0 =>
 M.pure (.ret [r0,(uc 0)]))
 (uFM 1 t2 fun t23 =>
 uB .gtr t1 t23 fun t24 =>
 M.ite t24
 (uFM 2 t2 fun t27 =>
 uFM 1 t2 fun t30 =>
 uB .sub t1 t30 fun t31 =>
 uB .shl t27 t31 fun t32 =>
 uB .or t32 (uq 1) fun t33 =>
 uL (Ax.build [(V.bool false),(uq 0),(uq 0)] [(0,1,(V.bool true)),(1,1,t1),(2,1,t33)]) fun t34 =>
 uT 3 t4 t34 fun _ =>
 uS 3 t4 fun r0 =>
 M.pure (.ret [r0,(uc 0)]))
 (M.pure (.nrm [])))) fun _ =>
 uFM 2 t2 fun t36 =>
 uFM 1 t2 fun t38 =>
 uB .sub t38 t1 fun t40 =>
 uB .shl (uq 1) t40 fun t41 =>
 uB .or t36 t41 fun t42 =>
 uF 2 t2 fun t43 =>
 uT 1 t43 t42 fun _ =>
 uS 3 t2 fun t44 =>
 uT 3 t4 t44 fun _ =>
 uS 3 t4 fun r0 =>
 M.pure (.ret [r0,(uc 0)]))
theorem znv {t0 t1:V}:OkT zfi [t0,t1] (zkC (sem T) t0 t1):=okT (by kernel_rfl) (by kernel_rfl) (by kernel_rfl)
def ze1 (G:Sem') (t0:V):M Res :=
 M.blk 0 (
 uB .eql t0 (uc 1) fun t7 =>
 M.ite t7
 (M.pure (.ret [(uc 16),(uc 10),(V.bool true)]))
 (uB .eql t0 (uc 2) fun t9 =>
 M.ite t9
 (M.pure (.ret [(uc 16),(uc 8),(V.bool true)]))
 (uB .eql t0 (uc 3) fun t11 =>
 M.ite t11
 (M.pure (.ret [(uc 16),(uc 4),(V.bool true)]))
 (uB .eql t0 (uc 16) fun t13 =>
 M.ite t13
 (M.pure (.ret [(uc 32),(uc 10),(V.bool true)]))
 (M.pure (.nrm [])))))) fun _ =>
 M.pure (.ret [(uc 0),(uc 0),(V.bool false)])
theorem zhI {t0:V}:OkT za9 [t0] (ze1 (sem T) t0):=okT (by kernel_rfl) (by kernel_rfl) (by kernel_rfl)
def zfS (G:Sem') (t0 t1 t2:V):M Res :=
 uB .lss t0 (uc 0) fun t9 =>
 uG t9 false (M.pure t0) fun t11 =>
 uH t9 false (Ax.bin .gtr t11 (uc 65535)) fun t12 =>
 uL (Ax.pick t9 (V.bool true) t12) fun t13 =>
 uG t13 false (M.pure t1) fun t15 =>
 uH t13 false (Ax.bin .lss t15 (uc 0)) fun t16 =>
 uL (Ax.pick t13 (V.bool true) t16) fun t17 =>
 uG t17 false (M.pure t1) fun t19 =>
 uH t17 false (Ax.bin .gtr t19 (uc 31)) fun t20 =>
 uL (Ax.pick t17 (V.bool true) t20) fun t21 =>
 uG t21 false (M.pure t2) fun t23 =>
 uH t21 false (Ax.bin .lss t23 (uc 0)) fun t24 =>
 uL (Ax.pick t21 (V.bool true) t24) fun t25 =>
 uG t25 false (M.pure t2) fun t27 =>
 uH t25 false (Ax.bin .gtr t27 (uc 7)) fun t28 =>
 uL (Ax.pick t25 (V.bool true) t28) fun t29 =>
 M.ite t29
 (M.pure (.ret [(uq 0),(uc 1)]))
 (uL (Ax.cint .u64 t0) fun t31 =>
 uB .shl t31 (uq 8) fun t32 =>
 uL (Ax.cint .u64 t1) fun t34 =>
 uB .shl t34 (uq 3) fun t35 =>
 uB .or t32 t35 fun t36 =>
 uL (Ax.cint .u64 t2) fun t38 =>
 uB .or t36 t38 fun t39 =>
 M.pure (.ret [t39,(uc 0)]))
theorem ziz {t0 t1 t2:V}:OkT zbW [t0,t1,t2] (zfS (sem T) t0 t1 t2):=okT (by kernel_rfl) (by kernel_rfl) (by kernel_rfl)
def zeP (G:Sem') (t0 t1 t2:V):M Res :=
 let o:=V.int .u8 0
 uO zah (V.agg SU.Z261) fun t6 =>
 (G za9 [t0]).bind fun t21 =>
 uE 0 t21 fun t22 =>
 uE 1 t21 fun t23 =>
 uE 2 t21 fun t24 =>
 uL (Ax.un .not t24) fun t26 =>
 M.ite t26
 (uL (Ax.build SU.Z261 []) fun t27 =>
 uT 261 t6 t27 fun _ =>
 uS 261 t6 fun r0 =>
 M.pure (.ret [r0,(uc 1)]))
 ((G zbp [V.nils,t2]).bind fun t29 =>
 uO zae (V.agg [o,o,o,o,o,o,o,o,o,o,o,o,o,o,o,o,o,o,o,o,o,o,o,o,o,o,o,o,o,o,o,o]) fun t11 =>
 uT 32 t11 t29 fun _ =>
 (G zaS [V.nils,t1,(uc 8)]).bind fun t31 =>
 uL (Ax.cint .u64 t0) fun t33 =>
 (G zaS [t31,t33,(uc 2)]).bind fun t34 =>
 uL (zaz (.arr 32) 1 t11 none none none) fun t36 =>
 uB .add t22 (uc 32) fun t42 =>
 (mslit zad 22 [o] [(0,1,(ub 83)),(1,1,(ub 70)),(2,1,(ub 114)),(3,1,(ub 97)),(4,1,(ub 109)),(5,1,(ub 101)),(6,1,(ub 32)),(7,1,(ub 49)),(8,1,(ub 46)),(9,1,(ub 48)),(10,1,(ub 32)),(11,1,(ub 83)),(12,1,(ub 101)),(13,1,(ub 99)),(14,1,(ub 114)),(15,1,(ub 101)),(16,1,(ub 116)),(17,1,(ub 32)),(18,1,(ub 107)),(19,1,(ub 101)),(20,1,(ub 121)),(21,1,(ub 32))]).bind fun t37 =>
 (mremark zad t37).bind fun t38 =>
 (mappend zad 1 1 t38 t34).bind fun t40 =>
 (G za8 [t36,t40,t42]).bind fun t43 =>
 uE 0 t43 fun t44 =>
 uE 1 t43 fun t45 =>
 uL (zaz (.arr 32) 1 t11 none none none) fun t47 =>
 (mslit zad 23 [o] [(0,1,(ub 83)),(1,1,(ub 70)),(2,1,(ub 114)),(3,1,(ub 97)),(4,1,(ub 109)),(5,1,(ub 101)),(6,1,(ub 32)),(7,1,(ub 49)),(8,1,(ub 46)),(9,1,(ub 48)),(10,1,(ub 32)),(11,1,(ub 83)),(12,1,(ub 101)),(13,1,(ub 99)),(14,1,(ub 114)),(15,1,(ub 101)),(16,1,(ub 116)),(17,1,(ub 32)),(18,1,(ub 115)),(19,1,(ub 97)),(20,1,(ub 108)),(21,1,(ub 116)),(22,1,(ub 32))]).bind fun t48 =>
 (mremark zad t48).bind fun t49 =>
 (mappend zad 1 1 t49 t34).bind fun t51 =>
 (G za8 [t47,t51,(uc 12)]).bind fun t52 =>
 uE 0 t52 fun t53 =>
 uE 1 t52 fun t54 =>
 uL (zaz .sl 1 t44 none (some t22) none) fun t58 =>
 (G zcb [t58]).bind fun t59 =>
 uE 0 t59 fun t60 =>
 uE 1 t59 fun t61 =>
 uO zak (V.agg [o,o,o,o,o,o,o,o,o,o,o,o,o,o,o,o,o,o,o,o,o,o,o,o,o,o,o,o,o,o,o,o,o,o,o,o,o,o,o,o,o,o,o,o,o,o,o,o,o,o,o,o,o,o,o,o,o,o,o,o,o,o,o,o,o,o,o,o,o,o,o,o,o,o,o,o,o,o,o,o,o,o,o,o,o,o,o,o,o,o,o,o,o,o,o,o,o,o,o,o,o,o,o,o,o,o,o,o,o,o,o,o,o,o,o,o,o,o,o,o,o,o,o,o,o,o,o,o,o,o,o,o,o,o,o,o,o,o,o,o,o,o,o,o,o,o,o,o,o,o,o,o,o,o,o,o,o,o,o,o,o,o,o,o,o,o,o,o,o,o,o,o,o,o,o,o,o,o,o,o,o,o,o,o,o,o,o,o,o,o,o,o,o,o,o,o,o,o,o,o,o,o,o,o,o,o,o,o,o,o,o,o,o,o,o,o,o,o,o,o,o,o,o,o,o,o,o,o,o,o,o,o,o,o,o,o,o,o,o,o,o,o,o,o,o,o,o,o,o,o,o,o,o,o,o,o,V.nils]) fun t17 =>
 uT 257 t17 t60 fun _ =>
 uS 257 t17 fun t62 =>
 uL (zaz .sl 1 t44 (some t22) none none) fun t65 =>
 uL (Ax.build SU.Z261 [(0,257,t62),(257,1,t65),(258,1,t53),(259,1,t1),(260,1,t23)]) fun t69 =>
 uT 261 t6 t69 fun _ =>
 uS 261 t6 fun r0 =>
 M.pure (.ret [r0,(uc 0)]))
theorem zhg {t0 t1 t2:V}:OkT zbq [t0,t1,t2] (zeP (sem T) t0 t1 t2):=okT (by kernel_rfl) (by kernel_rfl) (by kernel_rfl)
end Go.Ax
/- FnS5 -/
namespace Go.Ax
open Go.Proofs
def zb2 (G:Sem') (t8 t5 t9 t2 t3 t7:V) (L:List V):M Res :=
 uB .lss (ug L 1) (uc 4) fun t122 =>
 M.ite t122
 (M.blk 3 (
 uB .sub t8 t5 fun t129 =>
 uB .mul (uc 4) t129 fun t130 =>
 uB .add t130 (ug L 1) fun t132 =>
 uL (Ax.iaddr none 1 (ug L 0) t132) fun t133 =>
 uM t133 fun t134 =>
 uIM (some 4) 1 t9 (ug L 1) fun t137 =>
 uB .xor t134 t137 fun t138 =>
 (mslit zad 1 [(ub 0)] [(0,1,t138)]).bind fun t139 =>
 (mappend zad 1 1 (ug L 0) t139).bind fun t140 =>
 M.pure (.nrm [t140])) fun L2 =>
 uB .add (ug L 1) (uc 1) fun t124 =>
 M.pure (.nrm [(ug L2 0),t124]))
 (M.pure (.ex 2 [(ug L 0)]))
def zbt (G:Sem') (t4 t5 t2 t3:V) (L:List V):M Res :=
 let o:=V.int .u8 0
 uB .add t5 (uc 7) fun t33 =>
 uB .mul (uc 4) t33 fun t34 =>
 uB .lss (ug L 2) t34 fun t35 =>
 M.ite t35
 (M.blk 1 (
 uB .mul (uc 4) (ug L 2) fun t40 =>
 uB .sub t40 (uc 4) fun t41 =>
 uL (Ax.iaddr none 1 (ug L 0) t41) fun t42 =>
 uM t42 fun t43 =>
 uB .mul (uc 4) (ug L 2) fun t46 =>
 uB .sub t46 (uc 3) fun t47 =>
 uL (Ax.iaddr none 1 (ug L 0) t47) fun t48 =>
 uM t48 fun t49 =>
 uB .mul (uc 4) (ug L 2) fun t52 =>
 uB .sub t52 (uc 2) fun t53 =>
 uL (Ax.iaddr none 1 (ug L 0) t53) fun t54 =>
 uM t54 fun t55 =>
 uB .mul (uc 4) (ug L 2) fun t58 =>
 uB .sub t58 (uc 1) fun t59 =>
 uL (Ax.iaddr none 1 (ug L 0) t59) fun t60 =>
 uM t60 fun t61 =>
 uL (Ax.build [o,o,o,o] [(0,1,t43),(1,1,t49),(2,1,t55),(3,1,t61)]) fun t62 =>
 uO zav (V.agg [o,o,o,o]) fun t9 =>
 uT 4 t9 t62 fun _ =>
 uB .rem (ug L 2) t5 fun t65 =>
 uB .eql t65 (uc 0) fun t66 =>
 M.join (M.ite t66
 (uIM (some 4) 1 t9 (uc 1) fun t68 =>
 uF 0 t4 fun t69 =>
 uIM (some 256) 1 t69 t68 fun t71 =>
 uB .xor t71 (ug L 1) fun t73 =>
 uIM (some 4) 1 t9 (uc 2) fun t75 =>
 uF 0 t4 fun t76 =>
 uIM (some 256) 1 t76 t75 fun t78 =>
 uIM (some 4) 1 t9 (uc 3) fun t80 =>
 uF 0 t4 fun t81 =>
 uIM (some 256) 1 t81 t80 fun t83 =>
 uIM (some 4) 1 t9 (uc 0) fun t85 =>
 uF 0 t4 fun t86 =>
 uIM (some 256) 1 t86 t85 fun t88 =>
 uL (Ax.build [o,o,o,o] [(0,1,t73),(1,1,t78),(2,1,t83),(3,1,t88)]) fun t89 =>
 uT 4 t9 t89 fun _ =>
 (G zax [(ug L 1),(ub 2)]).bind fun t91 =>
 M.pure (.nrm [t91]))
 (uB .eql t5 (uc 8) fun t93 =>
 uG t93 true (M.pure (ug L 2)) fun t95 =>
 uG t93 true (M.pure t5) fun t96 =>
 uH t93 true (Ax.bin .rem t95 t96) fun t97 =>
 uH t93 true (Ax.bin .eql t97 (uc 4)) fun t98 =>
 uL (Ax.pick t93 t98 (V.bool false)) fun t99 =>
 M.join (M.ite t99
 (uIM (some 4) 1 t9 (uc 0) fun t101 =>
 uF 0 t4 fun t102 =>
 uIM (some 256) 1 t102 t101 fun t104 =>
 uIM (some 4) 1 t9 (uc 1) fun t106 =>
 uF 0 t4 fun t107 =>
 uIM (some 256) 1 t107 t106 fun t109 =>
 uIM (some 4) 1 t9 (uc 2) fun t111 =>
 uF 0 t4 fun t112 =>
 uIM (some 256) 1 t112 t111 fun t114 =>
 uIM (some 4) 1 t9 (uc 3) fun t116 =>
 uF 0 t4 fun t117 =>
 uIM (some 256) 1 t117 t116 fun t119 =>
 uL (Ax.build [o,o,o,o] [(0,1,t104),(1,1,t109),(2,1,t114),(3,1,t119)]) fun t120 =>
 uT 4 t9 t120 fun _ =>
 M.pure (.nrm []))
 (M.pure (.nrm []))) fun _ =>
 M.pure (.nrm [(ug L 1)]))) fun L1 =>
 M.blk 2 (
 M.iter (zb2 G (ug L 2) t5 t9 t2 t3 (ug L1 0)) [(ug L 0),(uc 0)]) fun L3 =>
 M.pure (.nrm [(ug L3 0),(ug L1 0)])) fun L4 =>
 uB .add (ug L 2) (uc 1) fun t37 =>
 M.pure (.nrm [(ug L4 0),(ug L4 1),t37]))
 (M.pure (.ex 0 [(ug L 0)]))
def zbs (G:Sem') (t6 t4 t2 t3:V) (L:List V):M Res :=
 let o:=V.int .u8 0
 uL (vlen t6) fun t143 =>
 uB .lss (ug L 0) t143 fun t144 =>
 M.ite t144
 (M.blk 5 (
 uO zaa (V.agg [o,o,o,o,o,o,o,o,o,o,o,o,o,o,o,o]) fun t12 =>
 uL (zaz (.arr 16) 1 t12 none none none) fun t147 =>
 uB .add (ug L 0) (uc 16) fun t151 =>
 uL (zaz .sl 1 t6 (some (ug L 0)) (some t151) none) fun t152 =>
 (mcopy 1 t147 t152).bind fun t153 =>
 uFM 256 t4 fun t155 =>
 uS 16 t12 fun t156 =>
 (mslit zaa 1 [o,o,o,o,o,o,o,o,o,o,o,o,o,o,o,o] [(0,16,t156)]).bind fun t157 =>
 (mappend zaa 16 16 t155 t157).bind fun t158 =>
 uF 256 t4 fun t159 =>
 uT 1 t159 t158 fun _ =>
 M.pure (.nrm [])) fun _ =>
 uB .add (ug L 0) (uc 16) fun t146 =>
 M.pure (.nrm [t146]))
 (M.pure (.ex 4 []))
def zeW (G:Sem') (t0:V):M Res :=
 let o:=V.int .u8 0
 uO zak (V.agg [o,o,o,o,o,o,o,o,o,o,o,o,o,o,o,o,o,o,o,o,o,o,o,o,o,o,o,o,o,o,o,o,o,o,o,o,o,o,o,o,o,o,o,o,o,o,o,o,o,o,o,o,o,o,o,o,o,o,o,o,o,o,o,o,o,o,o,o,o,o,o,o,o,o,o,o,o,o,o,o,o,o,o,o,o,o,o,o,o,o,o,o,o,o,o,o,o,o,o,o,o,o,o,o,o,o,o,o,o,o,o,o,o,o,o,o,o,o,o,o,o,o,o,o,o,o,o,o,o,o,o,o,o,o,o,o,o,o,o,o,o,o,o,o,o,o,o,o,o,o,o,o,o,o,o,o,o,o,o,o,o,o,o,o,o,o,o,o,o,o,o,o,o,o,o,o,o,o,o,o,o,o,o,o,o,o,o,o,o,o,o,o,o,o,o,o,o,o,o,o,o,o,o,o,o,o,o,o,o,o,o,o,o,o,o,o,o,o,o,o,o,o,o,o,o,o,o,o,o,o,o,o,o,o,o,o,o,o,o,o,o,o,o,o,o,o,o,o,o,o,o,o,o,o,o,o,V.nils]) fun t2 =>
 uL (vlen t0) fun t14 =>
 uB .neq t14 (uc 16) fun t15 =>
 uG t15 true (M.pure t0) fun t17 =>
 uH t15 true (vlen t17) fun t18 =>
 uH t15 true (Ax.bin .neq t18 (uc 32)) fun t19 =>
 uL (Ax.pick t15 t19 (V.bool false)) fun t20 =>
 M.ite t20
 (uL (Ax.build [o,o,o,o,o,o,o,o,o,o,o,o,o,o,o,o,o,o,o,o,o,o,o,o,o,o,o,o,o,o,o,o,o,o,o,o,o,o,o,o,o,o,o,o,o,o,o,o,o,o,o,o,o,o,o,o,o,o,o,o,o,o,o,o,o,o,o,o,o,o,o,o,o,o,o,o,o,o,o,o,o,o,o,o,o,o,o,o,o,o,o,o,o,o,o,o,o,o,o,o,o,o,o,o,o,o,o,o,o,o,o,o,o,o,o,o,o,o,o,o,o,o,o,o,o,o,o,o,o,o,o,o,o,o,o,o,o,o,o,o,o,o,o,o,o,o,o,o,o,o,o,o,o,o,o,o,o,o,o,o,o,o,o,o,o,o,o,o,o,o,o,o,o,o,o,o,o,o,o,o,o,o,o,o,o,o,o,o,o,o,o,o,o,o,o,o,o,o,o,o,o,o,o,o,o,o,o,o,o,o,o,o,o,o,o,o,o,o,o,o,o,o,o,o,o,o,o,o,o,o,o,o,o,o,o,o,o,o,o,o,o,o,o,o,o,o,o,o,o,o,o,o,o,o,o,o,V.nils] []) fun t21 =>
 uT 257 t2 t21 fun _ =>
 uS 257 t2 fun r0 =>
 M.pure (.ret [r0,(uc 1)]))
 ((G zb5 []).bind fun t22 =>
 uL (Ax.build [o,o,o,o,o,o,o,o,o,o,o,o,o,o,o,o,o,o,o,o,o,o,o,o,o,o,o,o,o,o,o,o,o,o,o,o,o,o,o,o,o,o,o,o,o,o,o,o,o,o,o,o,o,o,o,o,o,o,o,o,o,o,o,o,o,o,o,o,o,o,o,o,o,o,o,o,o,o,o,o,o,o,o,o,o,o,o,o,o,o,o,o,o,o,o,o,o,o,o,o,o,o,o,o,o,o,o,o,o,o,o,o,o,o,o,o,o,o,o,o,o,o,o,o,o,o,o,o,o,o,o,o,o,o,o,o,o,o,o,o,o,o,o,o,o,o,o,o,o,o,o,o,o,o,o,o,o,o,o,o,o,o,o,o,o,o,o,o,o,o,o,o,o,o,o,o,o,o,o,o,o,o,o,o,o,o,o,o,o,o,o,o,o,o,o,o,o,o,o,o,o,o,o,o,o,o,o,o,o,o,o,o,o,o,o,o,o,o,o,o,o,o,o,o,o,o,o,o,o,o,o,o,o,o,o,o,o,o,o,o,o,o,o,o,o,o,o,o,o,o,o,o,o,o,o,o,V.nils] [(0,256,t22)]) fun t23 =>
 uO zak (V.agg [o,o,o,o,o,o,o,o,o,o,o,o,o,o,o,o,o,o,o,o,o,o,o,o,o,o,o,o,o,o,o,o,o,o,o,o,o,o,o,o,o,o,o,o,o,o,o,o,o,o,o,o,o,o,o,o,o,o,o,o,o,o,o,o,o,o,o,o,o,o,o,o,o,o,o,o,o,o,o,o,o,o,o,o,o,o,o,o,o,o,o,o,o,o,o,o,o,o,o,o,o,o,o,o,o,o,o,o,o,o,o,o,o,o,o,o,o,o,o,o,o,o,o,o,o,o,o,o,o,o,o,o,o,o,o,o,o,o,o,o,o,o,o,o,o,o,o,o,o,o,o,o,o,o,o,o,o,o,o,o,o,o,o,o,o,o,o,o,o,o,o,o,o,o,o,o,o,o,o,o,o,o,o,o,o,o,o,o,o,o,o,o,o,o,o,o,o,o,o,o,o,o,o,o,o,o,o,o,o,o,o,o,o,o,o,o,o,o,o,o,o,o,o,o,o,o,o,o,o,o,o,o,o,o,o,o,o,o,o,o,o,o,o,o,o,o,o,o,o,o,o,o,o,o,o,o,V.nils]) fun t4 =>
 uT 257 t4 t23 fun _ =>
 uL (vlen t0) fun t25 =>
 uB .quo t25 (uc 4) fun t26 =>
 (mslit zad 0 [o] []).bind fun t27 =>
 (mappend zad 1 1 t27 t0).bind fun t29 =>
 M.blk 0 (
 M.iter (zbt G t4 t26 t2 (uc 0)) [t29,(ub 1),t26]) fun L5 =>
 M.blk 4 (
 M.iter (zbs G (ug L5 0) t4 t2 (uc 0)) [(uc 0)]) fun _ =>
 uS 257 t4 fun t160 =>
 uT 257 t2 t160 fun _ =>
 uS 257 t2 fun r0 =>
 M.pure (.ret [r0,(uc 0)]))
theorem zhD {t0:V}:OkT zcb [t0] (zeW (sem T) t0):=okT (by kernel_rfl) (by kernel_rfl) (by kernel_rfl)
def zdS (G:Sem') (t1 t0:V) (L:List V):M Res :=
 uB .lss (ug L 2) (uc 255) fun t7 =>
 M.ite t7
 (M.blk 1 (
 (G zax [(ug L 0),(ub 3)]).bind fun t11 =>
 (G zax [(ug L 1),(ub 246)]).bind fun t13 =>
 (G zaM [t13,(uq 1)]).bind fun t17 =>
 uB .xor t13 t17 fun t18 =>
 (G zaM [t13,(uq 2)]).bind fun t20 =>
 uB .xor t18 t20 fun t21 =>
 (G zaM [t13,(uq 3)]).bind fun t23 =>
 uB .xor t21 t23 fun t24 =>
 (G zaM [t13,(uq 4)]).bind fun t26 =>
 uB .xor t24 t26 fun t27 =>
 uB .xor t27 (ub 99) fun t28 =>
 uI (some 256) 1 t1 t11 fun t29 =>
 uT 1 t29 t28 fun _ =>
 M.pure (.nrm [t11,t13])) fun L0 =>
 uB .add (ug L 2) (uc 1) fun t9 =>
 M.pure (.nrm [(ug L0 0),(ug L0 1),t9]))
 (M.pure (.ex 0 []))
def zgr (G:Sem'):M Res :=
 let o:=V.int .u8 0
 uO zaU (V.agg [o,o,o,o,o,o,o,o,o,o,o,o,o,o,o,o,o,o,o,o,o,o,o,o,o,o,o,o,o,o,o,o,o,o,o,o,o,o,o,o,o,o,o,o,o,o,o,o,o,o,o,o,o,o,o,o,o,o,o,o,o,o,o,o,o,o,o,o,o,o,o,o,o,o,o,o,o,o,o,o,o,o,o,o,o,o,o,o,o,o,o,o,o,o,o,o,o,o,o,o,o,o,o,o,o,o,o,o,o,o,o,o,o,o,o,o,o,o,o,o,o,o,o,o,o,o,o,o,o,o,o,o,o,o,o,o,o,o,o,o,o,o,o,o,o,o,o,o,o,o,o,o,o,o,o,o,o,o,o,o,o,o,o,o,o,o,o,o,o,o,o,o,o,o,o,o,o,o,o,o,o,o,o,o,o,o,o,o,o,o,o,o,o,o,o,o,o,o,o,o,o,o,o,o,o,o,o,o,o,o,o,o,o,o,o,o,o,o,o,o,o,o,o,o,o,o,o,o,o,o,o,o,o,o,o,o,o,o,o,o,o,o,o,o,o,o,o,o,o,o,o,o,o,o,o,o]) fun t0 =>
 uO zaU (V.agg [o,o,o,o,o,o,o,o,o,o,o,o,o,o,o,o,o,o,o,o,o,o,o,o,o,o,o,o,o,o,o,o,o,o,o,o,o,o,o,o,o,o,o,o,o,o,o,o,o,o,o,o,o,o,o,o,o,o,o,o,o,o,o,o,o,o,o,o,o,o,o,o,o,o,o,o,o,o,o,o,o,o,o,o,o,o,o,o,o,o,o,o,o,o,o,o,o,o,o,o,o,o,o,o,o,o,o,o,o,o,o,o,o,o,o,o,o,o,o,o,o,o,o,o,o,o,o,o,o,o,o,o,o,o,o,o,o,o,o,o,o,o,o,o,o,o,o,o,o,o,o,o,o,o,o,o,o,o,o,o,o,o,o,o,o,o,o,o,o,o,o,o,o,o,o,o,o,o,o,o,o,o,o,o,o,o,o,o,o,o,o,o,o,o,o,o,o,o,o,o,o,o,o,o,o,o,o,o,o,o,o,o,o,o,o,o,o,o,o,o,o,o,o,o,o,o,o,o,o,o,o,o,o,o,o,o,o,o,o,o,o,o,o,o,o,o,o,o,o,o,o,o,o,o,o,o]) fun t1 =>
 uI (some 256) 1 t1 (uc 0) fun t5 =>
 (mstore 1 t5 (ub 99)).bind fun _ =>
 M.blk 0 (
 M.iter (zdS G t1 t0) [(ub 1),(ub 1),(uc 0)]) fun _ =>
 uS 256 t1 fun t30 =>
 uT 256 t0 t30 fun _ =>
 uS 256 t0 fun r0 =>
 M.pure (.ret [r0])
theorem zjh:OkT zb5 [] (zgr (sem T)):=okT (by kernel_rfl) (by kernel_rfl) (by kernel_rfl)
def zdx:Fn':=irOf zax
theorem zh8:T zax = some zdx:=by kernel_rfl
def zb9 (G:Sem') (t0 t1:V):M Res :=
 uB .shl t0 t1 fun t7 =>
 uB .sub (uq 8) t1 fun t10 =>
 uB .shr t0 t10 fun t11 =>
 uB .or t7 t11 fun t12 =>
 M.pure (.ret [t12])
theorem zcN {t0 t1:V}:OkT zaM [t0,t1] (zb9 (sem T) t0 t1):=okT (by kernel_rfl) (by kernel_rfl) (by kernel_rfl)
def zd7 (G:Sem') (t0 t1 t2 t3:V):M Res :=
 uO zah t0 fun t4 =>
 uL (vlen t3) fun t14 =>
 uB .gtr t14 (uc 1000) fun t15 =>
 M.ite t15
 (M.pure (.ret [V.nils,(uc 4)]))
 (uFM 259 t4 fun t17 =>
 uS 261 t4 fun t20 =>
 M.getH.bind fun h0 =>
 (G zb1 [t17,t1]).bind fun t19 =>
 M.getH.bind fun h0' =>
 uU t4 h0 h0' fun _ =>
 (G za1 [t20,t1]).bind fun t22 =>
 uS 261 t4 fun t23 =>
 (G za2 [t23,t22,t3]).bind fun t26 =>
 uS 261 t4 fun t29 =>
 (G zbe [t29,t22,t19,t2,t26]).bind fun t34 =>
 (mslit zar 3 [V.nils] [(0,1,t19),(1,1,t26),(2,1,t34)]).bind fun t35 =>
 (G zbV [t35]).bind fun t36 =>
 M.pure (.ret [t36,(uc 0)]))
theorem zgc {t0 t1 t2 t3:V}:OkT zbD [t0,t1,t2,t3] (zd7 (sem T) t0 t1 t2 t3):=okT (by kernel_rfl) (by kernel_rfl) (by kernel_rfl)
def zeO (G:Sem') (t0 t1:V):M Res :=
 (G zbC [t0]).bind fun t11 =>
 uE 0 t11 fun t12 =>
 uE 1 t11 fun t13 =>
 (G zbC [t1]).bind fun t16 =>
 uE 0 t16 fun t17 =>
 uE 1 t16 fun t18 =>
 uB .shl t12 (uq 4) fun t20 =>
 uB .or t20 t17 fun t22 =>
 (mslit zad 1 [(ub 0)] [(0,1,t22)]).bind fun t23 =>
 (mappend zad 1 1 t23 t13).bind fun t25 =>
 (mappend zad 1 1 t25 t18).bind fun t27 =>
 M.pure (.ret [t27])
theorem zhf {t0 t1:V}:OkT zb1 [t0,t1] (zeO (sem T) t0 t1):=okT (by kernel_rfl) (by kernel_rfl) (by kernel_rfl)
def zde (G:Sem') (t0 t2 t3:V) (L:List V):M Res :=
 uB .lss (ug L 0) (uc 8) fun t10 =>
 uG t10 true (M.pure t0) fun t12 =>
 uG t10 true (M.pure (ug L 0)) fun t13 =>
 uH t10 true (Ax.bin .mul (uc 8) t13) fun t14 =>
 uH t10 true (Ax.cint .u64 t14) fun t15 =>
 uH t10 true (Ax.bin .shr t12 t15) fun t16 =>
 uH t10 true (Ax.bin .neq t16 (uq 0)) fun t17 =>
 uL (Ax.pick t10 t17 (V.bool false)) fun t18 =>
 M.ite t18
 (M.blk 1 (
 uB .add (ug L 0) (uc 1) fun t20 =>
 M.pure (.nrm [t20])) fun L0 =>
 M.pure (.nrm [(ug L0 0)]))
 (M.pure (.ex 0 [(ug L 0)]))
def ze0 (G:Sem') (t0:V):M Res :=
 uB .lss t0 (uq 8) fun t6 =>
 M.ite t6
 (uL (Ax.cint .u8 t0) fun t8 =>
 M.pure (.ret [t8,V.nils]))
 (M.blk 0 (
 M.iter (zde G t0 (ub 0) V.nils) [(uc 1)]) fun L1 =>
 uB .add (uc 8) (ug L1 0) fun t22 =>
 uB .sub t22 (uc 1) fun t23 =>
 uL (Ax.cint .u8 t23) fun t24 =>
 (G zaS [V.nils,t0,(ug L1 0)]).bind fun t27 =>
 M.pure (.ret [t24,t27]))
theorem zhH {t0:V}:OkT zbC [t0] (ze0 (sem T) t0):=okT (by kernel_rfl) (by kernel_rfl) (by kernel_rfl)
def zb3 (G:Sem') (t5 t1 t4:V) (L:List V):M Res :=
 uB .lss (ug L 0) (uc 8) fun t12 =>
 M.ite t12
 (M.blk 1 (
 uB .add (uc 4) (ug L 0) fun t17 =>
 uB .add (uc 4) (ug L 0) fun t20 =>
 uIM none 1 t5 t20 fun t22 =>
 uB .mul (uc 8) (ug L 0) fun t25 =>
 uB .sub (uc 56) t25 fun t26 =>
 uL (Ax.cint .u64 t26) fun t27 =>
 uB .shr t1 t27 fun t28 =>
 uL (Ax.cint .u8 t28) fun t29 =>
 uB .xor t22 t29 fun t30 =>
 uI none 1 t5 t17 fun t31 =>
 uT 1 t31 t30 fun _ =>
 M.pure (.nrm [])) fun _ =>
 uB .add (ug L 0) (uc 1) fun t14 =>
 M.pure (.nrm [t14]))
 (M.pure (.ex 0 []))
def zdT (G:Sem') (t0 t1:V):M Res :=
 uO zah t0 fun t2 =>
 (mslit zad 0 [(ub 0)] []).bind fun t7 =>
 uFM 258 t2 fun t9 =>
 (mappend zad 1 1 t7 t9).bind fun t10 =>
 M.blk 0 (
 M.iter (zb3 G t10 t1 V.nils) [(uc 0)]) fun _ =>
 M.pure (.ret [t10])
theorem zfY {t0 t1:V}:OkT za1 [t0,t1] (zdT (sem T) t0 t1):=okT (by kernel_rfl) (by kernel_rfl) (by kernel_rfl)
def zdU (G:Sem') (t0 t1 t2:V):M Res :=
 let o:=V.int .u8 0
 uO zah t0 fun t3 =>
 uO zaa (V.agg [o,o,o,o,o,o,o,o,o,o,o,o,o,o,o,o]) fun t7 =>
 uL (zaz (.arr 16) 1 t7 none none none) fun t10 =>
 (mcopy 1 t10 t1).bind fun t12 =>
 uF 0 t3 fun t14 =>
 uS 257 t14 fun t15 =>
 uS 16 t7 fun t16 =>
 (G zcC [t15,t16,(uc 0),t2]).bind fun t18 =>
 uE 0 t18 fun t19 =>
 uE 1 t18 fun t20 =>
 M.pure (.ret [t19])
theorem zfZ {t0 t1 t2:V}:OkT za2 [t0,t1,t2] (zdU (sem T) t0 t1 t2):=okT (by kernel_rfl) (by kernel_rfl) (by kernel_rfl)
def zck (G:Sem') (t4 t5 t2 t10 t11 t8 t9:V) (L:List V):M Res :=
 uL (vlen t10) fun t25 =>
 uB .lss (ug L 0) t25 fun t26 =>
 M.ite t26
 (M.blk 1 (
 uB .add t2 (ug L 0) fun t31 =>
 uB .rem t31 (uc 16) fun t32 =>
 uB .eql (ug L 0) (uc 0) fun t34 =>
 uG t34 false (M.pure t32) fun t36 =>
 uH t34 false (Ax.bin .eql t36 (uc 0)) fun t37 =>
 uL (Ax.pick t34 (V.bool true) t37) fun t38 =>
 M.join (M.ite t38
 (uS 257 t4 fun t39 =>
 uS 16 t5 fun t40 =>
 uB .add t2 (ug L 0) fun t43 =>
 uB .quo t43 (uc 16) fun t44 =>
 uL (Ax.cint .u64 t44) fun t45 =>
 M.getH.bind fun h0 =>
 (G zbU [t40,t45]).bind fun t46 =>
 M.getH.bind fun h0' =>
 uU t4 h0 h0' fun _ =>
 (G zbd [t39,t46]).bind fun t47 =>
 uT 16 t11 t47 fun _ =>
 M.pure (.nrm []))
 (M.pure (.nrm []))) fun _ =>
 uIM none 1 t10 (ug L 0) fun t53 =>
 uIM (some 16) 1 t11 t32 fun t56 =>
 uB .xor t53 t56 fun t57 =>
 uI none 1 t10 (ug L 0) fun t58 =>
 uT 1 t58 t57 fun _ =>
 M.pure (.nrm [])) fun _ =>
 uB .add (ug L 0) (uc 1) fun t28 =>
 M.pure (.nrm [t28]))
 (M.pure (.ex 0 []))
def zfv (G:Sem') (t0 t1 t2 t3:V):M Res :=
 let o:=V.int .u8 0
 uO zak t0 fun t4 =>
 uO zaa t1 fun t5 =>
 uB .lss t2 (uc 0) fun t15 =>
 uG t15 false (M.pure t2) fun t17 =>
 uH t15 false (Ax.bin .gtr t17 (uc 1099511627776)) fun t18 =>
 uL (Ax.pick t15 (V.bool true) t18) fun t19 =>
 M.ite t19
 (M.pure (.ret [V.nils,(uc 1)]))
 ((mslit zad 0 [o] []).bind fun t20 =>
 (mappend zad 1 1 t20 t3).bind fun t22 =>
 uO zaa (V.agg [o,o,o,o,o,o,o,o,o,o,o,o,o,o,o,o]) fun t11 =>
 M.blk 0 (
 M.iter (zck G t4 t5 t2 t22 t11 V.nils (uc 0)) [(uc 0)]) fun _ =>
 M.pure (.ret [t22,(uc 0)]))
theorem zib {t0 t1 t2 t3:V}:OkT zcC [t0,t1,t2,t3] (zfv (sem T) t0 t1 t2 t3):=okT (by kernel_rfl) (by kernel_rfl) (by kernel_rfl)
def zdz (G:Sem') (t2 t4:V) (L:List V):M Res :=
 uB .geq (ug L 2) (uc 0) fun t9 =>
 M.ite t9
 (M.blk 1 (
 uIM (some 16) 1 t2 (ug L 2) fun t14 =>
 uL (Ax.cint .u64 t14) fun t15 =>
 uB .and (ug L 0) (uq 255) fun t17 =>
 uB .add t15 t17 fun t18 =>
 uB .add t18 (ug L 1) fun t20 =>
 uL (Ax.cint .u8 t20) fun t23 =>
 uI (some 16) 1 t2 (ug L 2) fun t24 =>
 uT 1 t24 t23 fun _ =>
 uB .shr t20 (uq 8) fun t26 =>
 uB .shr (ug L 0) (uq 8) fun t28 =>
 M.pure (.nrm [t28,t26])) fun L0 =>
 uB .sub (ug L 2) (uc 1) fun t11 =>
 M.pure (.nrm [(ug L0 0),(ug L0 1),t11]))
 (M.pure (.ex 0 []))
def zfO (G:Sem') (t0 t1:V):M Res :=
 let o:=V.int .u8 0
 uO zaa t0 fun t2 =>
 uO zaa (V.agg [o,o,o,o,o,o,o,o,o,o,o,o,o,o,o,o]) fun t4 =>
 M.blk 0 (
 M.iter (zdz G t2 t4) [t1,(uq 0),(uc 15)]) fun _ =>
 uS 16 t2 fun t29 =>
 uT 16 t4 t29 fun _ =>
 uS 16 t4 fun r0 =>
 M.pure (.ret [r0])
theorem ziv {t0 t1:V}:OkT zbU [t0,t1] (zfO (sem T) t0 t1):=okT (by kernel_rfl) (by kernel_rfl) (by kernel_rfl)
def zbH (G:Sem') (t5 t2 t7 t4:V) (L:List V):M Res :=
 uB .lss (ug L 0) (uc 16) fun t23 =>
 M.ite t23
 (M.blk 3 (
 uB .rem (ug L 0) (uc 4) fun t29 =>
 uB .mul (uc 4) t29 fun t30 =>
 uB .add (ug L 0) t30 fun t31 =>
 uB .rem t31 (uc 16) fun t32 =>
 uIM (some 16) 1 t5 t32 fun t34 =>
 uF 0 t2 fun t35 =>
 uIM (some 256) 1 t35 t34 fun t37 =>
 uI (some 16) 1 t7 (ug L 0) fun t38 =>
 uT 1 t38 t37 fun _ =>
 M.pure (.nrm [])) fun _ =>
 uB .add (ug L 0) (uc 1) fun t25 =>
 M.pure (.nrm [t25]))
 (M.pure (.ex 2 []))
def zcy (G:Sem') (t2 t5 t4:V) (L:List V):M Res :=
 let o:=V.int .u8 0
 uFM 256 t2 fun t17 =>
 uL (vlen t17) fun t18 =>
 uB .lss (ug L 0) t18 fun t19 =>
 M.ite t19
 (M.blk 1 (
 uO zaa (V.agg [o,o,o,o,o,o,o,o,o,o,o,o,o,o,o,o]) fun t7 =>
 M.blk 2 (
 M.iter (zbH G t5 t2 t7 t4) [(uc 0)]) fun _ =>
 uFM 256 t2 fun t41 =>
 uL (vlen t41) fun t42 =>
 uB .sub t42 (uc 1) fun t43 =>
 uB .lss (ug L 0) t43 fun t44 =>
 M.join (M.ite t44
 (uS 16 t7 fun t45 =>
 (G zb0 [t45]).bind fun t46 =>
 uT 16 t7 t46 fun _ =>
 M.pure (.nrm []))
 (M.pure (.nrm []))) fun _ =>
 uS 16 t7 fun t47 =>
 uFM 256 t2 fun t49 =>
 uI none 16 t49 (ug L 0) fun t51 =>
 uS 16 t51 fun t52 =>
 (G zbT [t47,t52]).bind fun t53 =>
 uT 16 t5 t53 fun _ =>
 M.pure (.nrm [])) fun _ =>
 uB .add (ug L 0) (uc 1) fun t21 =>
 M.pure (.nrm [t21]))
 (M.pure (.ex 0 []))
def zel (G:Sem') (t0 t1:V):M Res :=
 let o:=V.int .u8 0
 uO zak t0 fun t2 =>
 uO zaa t1 fun t3 =>
 uO zaa (V.agg [o,o,o,o,o,o,o,o,o,o,o,o,o,o,o,o]) fun t4 =>
 uS 16 t3 fun t9 =>
 uFM 256 t2 fun t11 =>
 uI none 16 t11 (uc 0) fun t12 =>
 uS 16 t12 fun t13 =>
 (G zbT [t9,t13]).bind fun t14 =>
 uO zaa (V.agg [o,o,o,o,o,o,o,o,o,o,o,o,o,o,o,o]) fun t5 =>
 uT 16 t5 t14 fun _ =>
 M.blk 0 (
 M.iter (zcy G t2 t5 t4) [(uc 1)]) fun _ =>
 uS 16 t5 fun t54 =>
 uT 16 t4 t54 fun _ =>
 uS 16 t4 fun r0 =>
 M.pure (.ret [r0])
theorem zgA {t0 t1:V}:OkT zbd [t0,t1] (zel (sem T) t0 t1):=okT (by kernel_rfl) (by kernel_rfl) (by kernel_rfl)
def zdy (G:Sem') (t3 t2 t4:V) (L:List V):M Res :=
 uB .lss (ug L 0) (uc 16) fun t7 =>
 M.ite t7
 (M.blk 1 (
 uIM (some 16) 1 t2 (ug L 0) fun t13 =>
 uIM (some 16) 1 t3 (ug L 0) fun t16 =>
 uB .xor t13 t16 fun t17 =>
 uI (some 16) 1 t2 (ug L 0) fun t18 =>
 uT 1 t18 t17 fun _ =>
 M.pure (.nrm [])) fun _ =>
 uB .add (ug L 0) (uc 1) fun t9 =>
 M.pure (.nrm [t9]))
 (M.pure (.ex 0 []))
def zfN (G:Sem') (t0 t1:V):M Res :=
 let o:=V.int .u8 0
 uO zaa t0 fun t2 =>
 uO zaa t1 fun t3 =>
 uO zaa (V.agg [o,o,o,o,o,o,o,o,o,o,o,o,o,o,o,o]) fun t4 =>
 M.blk 0 (
 M.iter (zdy G t3 t2 t4) [(uc 0)]) fun _ =>
 uS 16 t2 fun t19 =>
 uT 16 t4 t19 fun _ =>
 uS 16 t4 fun r0 =>
 M.pure (.ret [r0])
theorem ziu {t0 t1:V}:OkT zbT [t0,t1] (zfN (sem T) t0 t1):=okT (by kernel_rfl) (by kernel_rfl) (by kernel_rfl)
def zc4 (G:Sem') (t4 t1 t3 t2:V) (L:List V):M Res :=
 uB .lss (ug L 0) (uc 4) fun t11 =>
 M.ite t11
 (M.blk 3 (
 uB .add t4 (ug L 0) fun t16 =>
 uB .add t4 (ug L 0) fun t19 =>
 uIM (some 16) 1 t1 t19 fun t21 =>
 uB .add (ug L 0) (uc 1) fun t25 =>
 uB .rem t25 (uc 4) fun t26 =>
 uB .add t4 t26 fun t27 =>
 uI (some 16) 1 t1 t27 fun t28 =>
 uM t28 fun t29 =>
 uB .add (ug L 0) (uc 2) fun t34 =>
 uB .rem t34 (uc 4) fun t35 =>
 uB .add t4 t35 fun t36 =>
 uI (some 16) 1 t1 t36 fun t37 =>
 uM t37 fun t38 =>
 uB .add (ug L 0) (uc 3) fun t42 =>
 uB .rem t42 (uc 4) fun t43 =>
 uB .add t4 t43 fun t44 =>
 uI (some 16) 1 t1 t44 fun t45 =>
 uM t45 fun t46 =>
 M.getH.bind fun h0 =>
 (G zax [t21,(ub 2)]).bind fun t22 =>
 M.getH.bind fun h0' =>
 uU t45 h0 h0' fun _ =>
 uU t37 h0 h0' fun _ =>
 uU t28 h0 h0' fun _ =>
 M.getH.bind fun h1 =>
 (G zax [t29,(ub 3)]).bind fun t30 =>
 M.getH.bind fun h1' =>
 uU t45 h1 h1' fun _ =>
 uU t37 h1 h1' fun _ =>
 uB .xor t22 t30 fun t31 =>
 uB .xor t31 t38 fun t39 =>
 uB .xor t39 t46 fun t47 =>
 uI (some 16) 1 t3 t16 fun t48 =>
 uT 1 t48 t47 fun _ =>
 M.pure (.nrm [])) fun _ =>
 uB .add (ug L 0) (uc 1) fun t13 =>
 M.pure (.nrm [t13]))
 (M.pure (.ex 2 []))
def zc3 (G:Sem') (t1 t3 t2:V) (L:List V):M Res :=
 uB .lss (ug L 0) (uc 16) fun t7 =>
 M.ite t7
 (M.blk 1 (
 M.blk 2 (
 M.iter (zc4 G (ug L 0) t1 t3 t2) [(uc 0)]) fun _ =>
 M.pure (.nrm [])) fun _ =>
 uB .add (ug L 0) (uc 4) fun t9 =>
 M.pure (.nrm [t9]))
 (M.pure (.ex 0 []))
def zeM (G:Sem') (t0:V):M Res :=
 let o:=V.int .u8 0
 uO zaa t0 fun t1 =>
 uO zaa (V.agg [o,o,o,o,o,o,o,o,o,o,o,o,o,o,o,o]) fun t2 =>
 uO zaa (V.agg [o,o,o,o,o,o,o,o,o,o,o,o,o,o,o,o]) fun t3 =>
 M.blk 0 (
 M.iter (zc3 G t1 t3 t2) [(uc 0)]) fun _ =>
 uS 16 t3 fun t49 =>
 uT 16 t2 t49 fun _ =>
 uS 16 t2 fun r0 =>
 M.pure (.ret [r0])
theorem zhd {t0:V}:OkT zb0 [t0] (zeM (sem T) t0):=okT (by kernel_rfl) (by kernel_rfl) (by kernel_rfl)
def zem (G:Sem') (t0 t1 t2 t3 t4:V):M Res :=
 let o:=V.int .u8 0
 uO zah t0 fun t5 =>
 uL (vlen t2) fun t14 =>
 uL (vlen t3) fun t16 =>
 uB .add t14 t16 fun t17 =>
 uL (Ax.cint .u64 t17) fun t18 =>
 (G zaS [V.nils,t18,(uc 8)]).bind fun t19 =>
 uL (vlen t4) fun t22 =>
 uL (Ax.cint .u64 t22) fun t23 =>
 (G zaS [t19,t23,(uc 8)]).bind fun t24 =>
 uFM 260 t5 fun t27 =>
 uL (Ax.cint .u64 t27) fun t28 =>
 (G zaS [t24,t28,(uc 8)]).bind fun t29 =>
 uF 257 t5 fun t30 =>
 uM t30 fun t31 =>
 (mslit zar 5 [V.nils] [(0,1,t29),(1,1,t1),(2,1,t2),(3,1,t3),(4,1,t4)]).bind fun t37 =>
 M.getH.bind fun h0 =>
 (G zbV [t37]).bind fun t38 =>
 M.getH.bind fun h0' =>
 uU t30 h0 h0' fun _ =>
 (G zbo [t31,t38]).bind fun t39 =>
 uO zae (V.agg [o,o,o,o,o,o,o,o,o,o,o,o,o,o,o,o,o,o,o,o,o,o,o,o,o,o,o,o,o,o,o,o]) fun t12 =>
 uT 32 t12 t39 fun _ =>
 uFM 260 t5 fun t41 =>
 uL (zaz (.arr 32) 1 t12 none (some t41) none) fun t42 =>
 M.pure (.ret [t42])
theorem zgB {t0 t1 t2 t3 t4:V}:OkT zbe [t0,t1,t2,t3,t4] (zem (sem T) t0 t1 t2 t3 t4):=okT (by kernel_rfl) (by kernel_rfl) (by kernel_rfl)
end Go.Ax
/- FnS6 -/
namespace Go.Ax
open Go.Proofs
def zdA (G:Sem') (t0 t2:V) (L:List V):M Res :=
 uL (vlen t0) fun t8 =>
 uB .lss (ug L 1) t8 fun t9 =>
 M.ite t9
 (M.blk 1 (
 uIM none 1 t0 (ug L 1) fun t16 =>
 (mappend zad 1 1 (ug L 0) t16).bind fun t17 =>
 M.pure (.nrm [t17])) fun L0 =>
 uB .add (ug L 1) (uc 1) fun t11 =>
 M.pure (.nrm [(ug L0 0),t11]))
 (M.pure (.ex 0 [(ug L 0)]))
def zfP (G:Sem') (t0:V):M Res :=
 (mslit zad 0 [(ub 0)] []).bind fun t5 =>
 M.blk 0 (
 M.iter (zdA G t0 V.nils) [t5,(uc 0)]) fun L1 =>
 M.pure (.ret [(ug L1 0)])
theorem ziw {t0:V}:OkT zbV [t0] (zfP (sem T) t0):=okT (by kernel_rfl) (by kernel_rfl) (by kernel_rfl)
def ze2 (G:Sem') (t0:V):M Res :=
 uB .geq t0 (uq 16777216) fun t7 =>
 M.ite t7
 (M.pure (.ret [(uc 0),(uc 0),(uc 0),(V.bool false)]))
 (uB .shr t0 (uq 8) fun t9 =>
 uL (Ax.cint .i64 t9) fun t10 =>
 uB .shr t0 (uq 3) fun t12 =>
 uB .and t12 (uq 31) fun t13 =>
 uL (Ax.cint .i64 t13) fun t14 =>
 uB .and t0 (uq 7) fun t16 =>
 uL (Ax.cint .i64 t16) fun t17 =>
 M.pure (.ret [t10,t14,t17,(V.bool true)]))
theorem zhJ {t0:V}:OkT zcd [t0] (ze2 (sem T) t0):=okT (by kernel_rfl) (by kernel_rfl) (by kernel_rfl)
def zbv (G:Sem') (t1 t0 t5 t10:V) (L:List V):M Res :=
 uL (vlen t1) fun t56 =>
 uB .lss (ug L 0) t56 fun t57 =>
 uG t57 true (M.pure (ug L 0)) fun t59 =>
 uH t57 true (Ax.bin .lss t59 (uc 30)) fun t60 =>
 uL (Ax.pick t57 t60 (V.bool false)) fun t61 =>
 M.ite t61
 (M.blk 1 (
 uI none 9 t1 (ug L 0) fun t66 =>
 uS 9 t66 fun t67 =>
 uO zh7 (V.agg [(uc 0),(uc 0),(uc 0),(uc 0),(uq 0),(uc 0),(ub 0),V.nils,V.nils]) fun t12 =>
 uT 9 t12 t67 fun _ =>
 uFM 7 t12 fun t69 =>
 uL (vlen t69) fun t70 =>
 uB .gtr t70 (uc 1000) fun t71 =>
 M.ite t71
 (M.pure (.ret [(V.bool true)]))
 (uFM 0 t12 fun t73 =>
 M.blk 2 (
 uB .eql t73 (uc 0) fun t158 =>
 M.join (M.ite t158
 (uFM 1 t12 fun t161 =>
 uFM 2 t12 fun t163 =>
 uFM 3 t12 fun t165 =>
 uFM 8 t12 fun t167 =>
 uF 1 t12 fun t170 =>
 uM t170 fun t171 =>
 uF 2 t12 fun t172 =>
 uM t172 fun t173 =>
 uF 3 t12 fun t174 =>
 uM t174 fun t175 =>
 uF 8 t12 fun t176 =>
 uM t176 fun t177 =>
 M.getH.bind fun h0 =>
 (G zb7 [t5,t161,t163,t165,t167]).bind fun t168 =>
 M.getH.bind fun h0' =>
 uU t176 h0 h0' fun _ =>
 uU t174 h0 h0' fun _ =>
 uU t172 h0 h0' fun _ =>
 uU t170 h0 h0' fun _ =>
 (G zbi [t10,t171,t173,t175,t177]).bind fun t178 =>
 uB .neq t168 t178 fun t179 =>
 M.ite t179
 (M.pure (.ret [(V.bool false)]))
 (M.pure (.nrm [])))
 (uB .eql t73 (uc 1) fun t181 =>
 M.join (M.ite t181
 (uFM 1 t12 fun t184 =>
 (G zcQ [t5,t184]).bind fun t185 =>
 uFM 1 t12 fun t188 =>
 (G zbb [t10,t188]).bind fun t189 =>
 M.pure (.nrm []))
 (uFM 7 t12 fun t75 =>
 uFM 0 t12 fun t77 =>
 uB .eql t77 (uc 3) fun t78 =>
 M.join (M.ite t78
 (uFM 1 t12 fun t81 =>
 uFM 3 t12 fun t83 =>
 uFM 2 t12 fun t85 =>
 (G zbW [t81,t83,t85]).bind fun t86 =>
 uE 0 t86 fun t87 =>
 uE 1 t86 fun t88 =>
 uB .neq t88 (uc 0) fun t90 =>
 M.ite t90
 (M.pure (.ex 1 []))
 (uFM 8 t12 fun t95 =>
 (G zbq [t0,t87,t95]).bind fun t96 =>
 uE 0 t96 fun t97 =>
 uE 1 t96 fun t98 =>
 uO zah (V.agg SU.Z261) fun t16 =>
 uT 261 t16 t97 fun _ =>
 uS 261 t16 fun t100 =>
 uFM 4 t12 fun t102 =>
 uFM 7 t12 fun t104 =>
 (G zbD [t100,t102,V.nils,t104]).bind fun t105 =>
 uE 0 t105 fun t106 =>
 uE 1 t105 fun t107 =>
 uL (vlen t106) fun t110 =>
 uB .sub t110 (uc 1) fun t111 =>
 uFM 5 t12 fun t113 =>
 uL (Ax.minmax true (uc 0) [t113]) fun t114 =>
 uL (vlen t106) fun t116 =>
 uB .rem t114 t116 fun t117 =>
 uB .sub t111 t117 fun t118 =>
 uL (vlen t106) fun t121 =>
 uB .sub t121 (uc 1) fun t122 =>
 uFM 5 t12 fun t124 =>
 uL (Ax.minmax true (uc 0) [t124]) fun t125 =>
 uL (vlen t106) fun t127 =>
 uB .rem t125 t127 fun t128 =>
 uB .sub t122 t128 fun t129 =>
 uIM none 1 t106 t129 fun t131 =>
 uFM 6 t12 fun t133 =>
 uB .xor t131 t133 fun t134 =>
 uI none 1 t106 t118 fun t135 =>
 uT 1 t135 t134 fun _ =>
 M.pure (.nrm [t106])))
 (M.pure (.nrm [t75]))) fun L0 =>
 (G zbr [t5,V.nils,(ug L0 0)]).bind fun t139 =>
 uE 0 t139 fun t140 =>
 uE 1 t139 fun t141 =>
 uO zaJ (V.agg [(uc 0),(uc 0),(uc 0),(uq 0),V.nils]) fun t18 =>
 uT 5 t18 t140 fun _ =>
 (G zba [t10,V.nils,(ug L0 0)]).bind fun t145 =>
 uE 0 t145 fun t146 =>
 uE 1 t145 fun t147 =>
 uO zaq (V.agg [(uc 0),(uc 0),(uc 0),(uq 0),V.nils]) fun t20 =>
 uT 5 t20 t146 fun _ =>
 uB .neq t141 t147 fun t150 =>
 uG t150 false (mload (some 5) t18) fun t152 =>
 uG t150 false (mload (some 5) t20) fun t153 =>
 uG t150 false (G zbP [t152,t153]) fun t154 =>
 uH t150 false (Ax.un .not t154) fun t155 =>
 uL (Ax.pick t150 (V.bool true) t155) fun t156 =>
 M.ite t156
 (M.pure (.ret [(V.bool false)]))
 (M.pure (.nrm [])))) fun _ =>
 M.pure (.nrm []))) fun _ =>
 M.pure (.nrm [])) fun _ =>
 uFM 1 t12 fun t192 =>
 uFM 2 t12 fun t194 =>
 uF 1 t12 fun t197 =>
 uM t197 fun t198 =>
 uF 2 t12 fun t199 =>
 uM t199 fun t200 =>
 M.getH.bind fun h1 =>
 (G zb6 [t5,t192,t194]).bind fun t195 =>
 M.getH.bind fun h1' =>
 uU t199 h1 h1' fun _ =>
 uU t197 h1 h1' fun _ =>
 (G zaO [t10,t198,t200]).bind fun t201 =>
 uB .geq t201 (uc 0) fun t202 =>
 uL (eqr .bool true t195 t202) fun t203 =>
 M.ite t203
 (M.pure (.ret [(V.bool false)]))
 (M.pure (.nrm [])))) fun _ =>
 uB .add (ug L 0) (uc 1) fun t63 =>
 M.pure (.nrm [t63]))
 (M.pure (.ex 0 []))
def zd9 (G:Sem') (t0 t1:V):M Res :=
 (G zbO [t0]).bind fun t24 =>
 uE 0 t24 fun t25 =>
 uE 1 t24 fun t26 =>
 (G za9 [t0]).bind fun t29 =>
 uE 0 t29 fun t30 =>
 uE 1 t29 fun t31 =>
 uE 2 t29 fun t32 =>
 (G zcf []).bind fun t33 =>
 uL (Ax.un .not t33) fun t34 =>
 uG t34 false (M.pure t26) fun t36 =>
 uH t34 false (Ax.bin .eql t36 (uc 0)) fun t37 =>
 uG t34 false (M.pure t32) fun t38 =>
 uH t34 false (eqr .bool true t37 t38) fun t39 =>
 uL (Ax.pick t34 (V.bool true) t39) fun t40 =>
 uG t40 false (M.pure t25) fun t42 =>
 uH t40 false (eqr .ptr true t42 V.nilp) fun t43 =>
 uG t40 false (M.pure t32) fun t44 =>
 uH t40 false (eqr .bool true t43 t44) fun t45 =>
 uL (Ax.pick t40 (V.bool true) t45) fun t46 =>
 M.ite t46
 (M.pure (.ret [(V.bool false)]))
 (uL (Ax.un .not t32) fun t48 =>
 M.ite t48
 (uB .eql t26 (uc 1) fun t50 =>
 M.pure (.ret [t50]))
 (uL (Ax.build [(uc 0),V.nils] [(0,1,t0)]) fun t52 =>
 uO zd5 t52 fun t53 =>
 M.blk 0 (
 M.iter (zbv G t1 t0 t25 t53) [(uc 0)]) fun _ =>
 M.pure (.ret [(V.bool true)])))
theorem zge {t0 t1:V}:OkT zbF [t0,t1] (zd9 (sem T) t0 t1):=okT (by kernel_rfl) (by kernel_rfl) (by kernel_rfl)
def zds (G:Sem') (t0 t1 t2 t3 t4:V):M Res :=
 (G zbW [t1,t3,t2]).bind fun t17 =>
 uE 0 t17 fun t18 =>
 uE 1 t17 fun t19 =>
 M.blk 0 (
 uB .neq t19 (uc 0) fun t22 =>
 M.ite t22
 (M.pure (.ret [t19]))
 ((G zaO [t0,t1,t2]).bind fun t28 =>
 uB .geq t28 (uc 0) fun t29 =>
 M.ite t29
 (M.pure (.ret [(uc 7)]))
 (uNFM 1 t0 fun t34 =>
 uL (vlen t34) fun t35 =>
 uB .geq t35 (uc 64) fun t36 =>
 M.ite t36
 (M.pure (.ret [(uc 5)]))
 (M.pure (.nrm []))))) fun _ =>
 (mslit zaL 0 SU.zC []).bind fun t38 =>
 uNFM 1 t0 fun t42 =>
 (mappend zaL 100 816 t38 t42).bind fun t43 =>
 (mslit zad 0 [(ub 0)] []).bind fun t47 =>
 (mappend zad 1 1 t47 t4).bind fun t49 =>
 uL (Ax.build SU.zC [(0,1,t1),(1,1,t2),(2,1,t3),(3,1,t49)]) fun t50 =>
 (mslit zaL 1 SU.zC [(0,100,t50)]).bind fun t51 =>
 (mappend zaL 100 816 t43 t51).bind fun t52 =>
 uNF 1 t0 fun t54 =>
 uT 1 t54 t52 fun _ =>
 M.pure (.ret [(uc 0)])
theorem zfn {t0 t1 t2 t3 t4:V}:OkT zbi [t0,t1,t2,t3,t4] (zds (sem T) t0 t1 t2 t3 t4):=okT (by kernel_rfl) (by kernel_rfl) (by kernel_rfl)
def zbY (G:Sem') (t1 t0 t2:V) (L:List V):M Res :=
 uNFM 1 t0 fun t12 =>
 uL (vlen t12) fun t13 =>
 uB .lss (ug L 0) t13 fun t14 =>
 M.ite t14
 (M.blk 1 (
 uNFM 1 t0 fun t20 =>
 uI none 100 t20 (ug L 0) fun t22 =>
 uFM 0 t22 fun t24 =>
 uB .eql t24 t1 fun t26 =>
 uG t26 true (M.pure t0) fun t28 =>
 uH t26 true (Ax.nilck t28) fun t29 =>
 uH t26 true (Ax.faddr 1 t29) fun t30 =>
 uG t26 true (mload none t30) fun t31 =>
 uG t26 true (M.pure (ug L 0)) fun t32 =>
 uH t26 true (Ax.iaddr none 100 t31 t32) fun t33 =>
 uH t26 true (Ax.faddr 1 t33) fun t34 =>
 uG t26 true (mload none t34) fun t35 =>
 uG t26 true (M.pure t2) fun t36 =>
 uH t26 true (Ax.bin .eql t35 t36) fun t37 =>
 uL (Ax.pick t26 t37 (V.bool false)) fun t38 =>
 M.ite t38
 (M.pure (.ret [(ug L 0)]))
 (M.pure (.nrm []))) fun _ =>
 uB .add (ug L 0) (uc 1) fun t16 =>
 M.pure (.nrm [t16]))
 (M.pure (.ex 0 []))
def zdI (G:Sem') (t0 t1 t2:V):M Res :=
 M.blk 0 (
 M.iter (zbY G t1 t0 t2) [(uc 0)]) fun _ =>
 M.pure (.ret [(uc (-1))])
theorem zfD {t0 t1 t2:V}:OkT zaO [t0,t1,t2] (zdI (sem T) t0 t1 t2):=okT (by kernel_rfl) (by kernel_rfl) (by kernel_rfl)
def zfU (G:Sem') (t0 t1:V):M Res :=
 (mmapdrop true 1 t0 t1).bind fun t2 =>
 (mmapdrop false 2 t0 t1).bind fun t3 =>
 (mmapdrop false 3 t0 t1).bind fun t4 =>
 M.pure (.ret [])
theorem ziB {t0 t1:V}:OkT zcQ [t0,t1] (zfU (sem T) t0 t1):=okT (by kernel_rfl) (by kernel_rfl) (by kernel_rfl)
def za5 (G:Sem') (t1 t0:V) (L:List V):M Res :=
 uNFM 1 t0 fun t10 =>
 uL (vlen t10) fun t11 =>
 uB .lss (ug L 1) t11 fun t12 =>
 M.ite t12
 (M.blk 1 (
 uNFM 1 t0 fun t18 =>
 uI none 100 t18 (ug L 1) fun t20 =>
 uFM 0 t20 fun t22 =>
 uB .geq t22 t1 fun t24 =>
 M.join (M.ite t24
 (uNFM 1 t0 fun t29 =>
 uI none 100 t29 (ug L 1) fun t31 =>
 uS 100 t31 fun t32 =>
 (mslit zaL 1 SU.zC [(0,100,t32)]).bind fun t33 =>
 (mappend zaL 100 816 (ug L 0) t33).bind fun t34 =>
 M.pure (.nrm [t34]))
 (M.pure (.nrm [(ug L 0)]))) fun L0 =>
 M.pure (.nrm [(ug L0 0)])) fun L1 =>
 uB .add (ug L 1) (uc 1) fun t14 =>
 M.pure (.nrm [(ug L1 0),t14]))
 (M.pure (.ex 0 [(ug L 0)]))
def zdi (G:Sem') (t0 t1:V):M Res :=
 M.blk 0 (
 M.iter (za5 G t1 t0) [V.nils,(uc 0)]) fun L2 =>
 uNF 1 t0 fun t38 =>
 (mstore 1 t38 (ug L2 0)).bind fun _ =>
 M.pure (.ret [])
theorem ze7 {t0 t1:V}:OkT zbb [t0,t1] (zdi (sem T) t0 t1):=okT (by kernel_rfl) (by kernel_rfl) (by kernel_rfl)
def zdh (G:Sem') (t0 t1 t2:V):M Res :=
 uO zaq (V.agg [(uc 0),(uc 0),(uc 0),(uq 0),V.nils]) fun t6 =>
 (G zaW [t2]).bind fun t26 =>
 uE 0 t26 fun t27 =>
 uE 1 t26 fun t28 =>
 uE 2 t26 fun t29 =>
 uE 3 t26 fun t30 =>
 uB .neq t30 (uc 0) fun t32 =>
 M.ite t32
 (uL (Ax.build [(uc 0),(uc 0),(uc 0),(uq 0),V.nils] []) fun t33 =>
 uT 5 t6 t33 fun _ =>
 uS 5 t6 fun r0 =>
 M.pure (.ret [r0,t30]))
 ((G zcd [t27]).bind fun t37 =>
 uE 0 t37 fun t38 =>
 uE 1 t37 fun t39 =>
 uE 2 t37 fun t40 =>
 uE 3 t37 fun t41 =>
 uL (Ax.un .not t41) fun t43 =>
 M.ite t43
 (uL (Ax.build [(uc 0),(uc 0),(uc 0),(uq 0),V.nils] []) fun t44 =>
 uT 5 t6 t44 fun _ =>
 uS 5 t6 fun r0 =>
 M.pure (.ret [r0,(uc 2)]))
 ((G zaO [t0,t38,t40]).bind fun t48 =>
 uB .lss t48 (uc 0) fun t50 =>
 uG t50 false (M.pure t39) fun t52 =>
 uG t50 false (M.pure t0) fun t53 =>
 uH t50 false (Ax.nilck t53) fun t54 =>
 uH t50 false (Ax.faddr 1 t54) fun t55 =>
 uG t50 false (mload none t55) fun t56 =>
 uG t50 false (M.pure t48) fun t57 =>
 uH t50 false (Ax.iaddr none 100 t56 t57) fun t58 =>
 uH t50 false (Ax.faddr 2 t58) fun t59 =>
 uG t50 false (mload none t59) fun t60 =>
 uH t50 false (Ax.bin .lss t52 t60) fun t61 =>
 uL (Ax.pick t50 (V.bool true) t61) fun t62 =>
 M.ite t62
 (uL (Ax.build [(uc 0),(uc 0),(uc 0),(uq 0),V.nils] []) fun t63 =>
 uT 5 t6 t63 fun _ =>
 uS 5 t6 fun r0 =>
 M.pure (.ret [r0,(uc 10)]))
 (uNFM 1 t0 fun t68 =>
 uI none 100 t68 t48 fun t71 =>
 uF 4 t71 fun t72 =>
 uI (some 32) 3 t72 t39 fun t73 =>
 uS 3 t73 fun t74 =>
 (G zcD [t74,t28]).bind fun t76 =>
 uE 0 t76 fun t77 =>
 uE 1 t76 fun t78 =>
 uO za3 (V.agg [(V.bool false),(uq 0),(uq 0)]) fun t17 =>
 uT 3 t17 t77 fun _ =>
 uB .neq t78 (uc 0) fun t80 =>
 M.ite t80
 (uL (Ax.build [(uc 0),(uc 0),(uc 0),(uq 0),V.nils] []) fun t81 =>
 uT 5 t6 t81 fun _ =>
 uS 5 t6 fun r0 =>
 M.pure (.ret [r0,t78]))
 (uNFM 1 t0 fun t87 =>
 uI none 100 t87 t48 fun t89 =>
 uFM 3 t89 fun t91 =>
 uNFM 1 t0 fun t96 =>
 uI none 100 t96 t48 fun t98 =>
 uFM 2 t98 fun t100 =>
 uB .sub t39 t100 fun t101 =>
 (G zce [t91,t101]).bind fun t102 =>
 uE 0 t102 fun t103 =>
 uE 1 t102 fun t104 =>
 uNFM 0 t0 fun t109 =>
 (G zbq [t109,t27,t103]).bind fun t112 =>
 uE 0 t112 fun t113 =>
 uE 1 t112 fun t114 =>
 uO zah (V.agg SU.Z261) fun t20 =>
 uT 261 t20 t113 fun _ =>
 uS 261 t20 fun t116 =>
 (G zbE [t116,t2,t1]).bind fun t119 =>
 uE 0 t119 fun t120 =>
 uE 1 t119 fun t121 =>
 uE 2 t119 fun t122 =>
 uB .neq t122 (uc 0) fun t124 =>
 M.ite t124
 (uL (Ax.build [(uc 0),(uc 0),(uc 0),(uq 0),V.nils] []) fun t125 =>
 uT 5 t6 t125 fun _ =>
 uS 5 t6 fun r0 =>
 M.pure (.ret [r0,t122]))
 ((mslit zaL 0 SU.zC []).bind fun t128 =>
 uNFM 1 t0 fun t132 =>
 (mappend zaL 100 816 t128 t132).bind fun t133 =>
 uNF 1 t0 fun t135 =>
 uT 1 t135 t133 fun _ =>
 uNFM 1 t0 fun t139 =>
 uS 3 t17 fun t142 =>
 uI none 100 t139 t48 fun t143 =>
 uF 4 t143 fun t144 =>
 uI (some 32) 3 t144 t39 fun t145 =>
 uT 3 t145 t142 fun _ =>
 uL (Ax.build [(uc 0),(uc 0),(uc 0),(uq 0),V.nils] [(0,1,t38),(1,1,t39),(2,1,t40),(3,1,t28),(4,1,t120)]) fun t151 =>
 uT 5 t6 t151 fun _ =>
 uS 5 t6 fun r0 =>
 M.pure (.ret [r0,(uc 0)]))))))
theorem ze6 {t0 t1 t2:V}:OkT zba [t0,t1,t2] (zdh (sem T) t0 t1 t2):=okT (by kernel_rfl) (by kernel_rfl) (by kernel_rfl)
def zdJ (G:Sem') (t0:V):M Res :=
 uL (vlen t0) fun t13 =>
 uB .eql t13 (uc 0) fun t14 =>
 M.ite t14
 (M.pure (.ret [(uq 0),(uq 0),(uc 0),(uc 3)]))
 (uIM none 1 t0 (uc 0) fun t17 =>
 uB .shr t17 (uq 4) fun t18 =>
 uI none 1 t0 (uc 0) fun t21 =>
 uM t21 fun t22 =>
 uB .and t22 (ub 15) fun t23 =>
 M.getH.bind fun h0 =>
 (G zbN [t18]).bind fun t19 =>
 M.getH.bind fun h0' =>
 uU t21 h0 h0' fun _ =>
 (G zbN [t23]).bind fun t24 =>
 uL (vlen t0) fun t26 =>
 uB .add (uc 1) t19 fun t28 =>
 uB .add t28 t24 fun t30 =>
 uB .lss t26 t30 fun t31 =>
 M.ite t31
 (M.pure (.ret [(uq 0),(uq 0),(uc 0),(uc 3)]))
 (uIM none 1 t0 (uc 0) fun t35 =>
 uB .shr t35 (uq 4) fun t36 =>
 uB .add (uc 1) t19 fun t39 =>
 uL (zaz .sl 1 t0 (some (uc 1)) (some t39) none) fun t40 =>
 (G zbB [t36,t40]).bind fun t41 =>
 uE 0 t41 fun t42 =>
 uE 1 t41 fun t43 =>
 uIM none 1 t0 (uc 0) fun t47 =>
 uB .and t47 (ub 15) fun t48 =>
 uB .add (uc 1) t19 fun t51 =>
 uB .add (uc 1) t19 fun t53 =>
 uB .add t53 t24 fun t55 =>
 uL (zaz .sl 1 t0 (some t51) (some t55) none) fun t56 =>
 (G zbB [t48,t56]).bind fun t57 =>
 uE 0 t57 fun t58 =>
 uE 1 t57 fun t59 =>
 uL (Ax.un .not t43) fun t61 =>
 uG t61 false (M.pure t59) fun t63 =>
 uH t61 false (Ax.un .not t63) fun t64 =>
 uL (Ax.pick t61 (V.bool true) t64) fun t65 =>
 M.ite t65
 (M.pure (.ret [(uq 0),(uq 0),(uc 0),(uc 2)]))
 (uB .add (uc 1) t19 fun t69 =>
 uB .add t69 t24 fun t71 =>
 M.pure (.ret [t42,t58,t71,(uc 0)]))))
theorem zfE {t0:V}:OkT zaW [t0] (zdJ (sem T) t0):=okT (by kernel_rfl) (by kernel_rfl) (by kernel_rfl)
def zfw (G:Sem') (t0:V):M Res :=
 uB .lss t0 (ub 8) fun t4 =>
 M.ite t4
 (M.pure (.ret [(uc 0)]))
 (uB .sub t0 (ub 8) fun t6 =>
 uL (Ax.cint .i64 t6) fun t7 =>
 uB .add t7 (uc 1) fun t8 =>
 M.pure (.ret [t8]))
theorem zic {t0:V}:OkT zbN [t0] (zfw (sem T) t0):=okT (by kernel_rfl) (by kernel_rfl) (by kernel_rfl)
def zdd (G:Sem') (t1 t4 t5:V) (L:List V):M Res :=
 uL (vlen t1) fun t14 =>
 uB .lss (ug L 1) t14 fun t15 =>
 M.ite t15
 (M.blk 1 (
 uB .shl (ug L 0) (uq 8) fun t19 =>
 uIM none 1 t1 (ug L 1) fun t23 =>
 uL (Ax.cint .u64 t23) fun t24 =>
 uB .or t19 t24 fun t25 =>
 M.pure (.nrm [t25])) fun L0 =>
 uB .add (ug L 1) (uc 1) fun t17 =>
 M.pure (.nrm [(ug L0 0),t17]))
 (M.pure (.ex 0 [(ug L 0)]))
def zeZ (G:Sem') (t0 t1:V):M Res :=
 uB .lss t0 (ub 8) fun t9 =>
 M.ite t9
 (uL (Ax.cint .u64 t0) fun t11 =>
 M.pure (.ret [t11,(V.bool true)]))
 (M.blk 0 (
 M.iter (zdd G t1 (uq 0) (V.bool false)) [(uq 0),(uc 0)]) fun L1 =>
 uIM none 1 t1 (uc 0) fun t29 =>
 uB .neq t29 (ub 0) fun t30 =>
 uG t30 true (M.pure t1) fun t32 =>
 uH t30 true (vlen t32) fun t33 =>
 uH t30 true (Ax.bin .gtr t33 (uc 1)) fun t34 =>
 uG t30 true (M.pure t34) fun t35 =>
 uG t35 false (M.pure (ug L1 0)) fun t36 =>
 uH t35 false (Ax.bin .gtr t36 (uq 7)) fun t37 =>
 uH t30 true (Ax.pick t35 (V.bool true) t37) fun t38 =>
 uL (Ax.pick t30 t38 (V.bool false)) fun t39 =>
 M.pure (.ret [(ug L1 0),t39]))
theorem zhG {t0 t1:V}:OkT zbB [t0,t1] (zeZ (sem T) t0 t1):=okT (by kernel_rfl) (by kernel_rfl) (by kernel_rfl)
def zfx (G:Sem') (t0 t1:V):M Res :=
 uO za3 t0 fun t2 =>
 uO za3 (V.agg [(V.bool false),(uq 0),(uq 0)]) fun t4 =>
 uS 3 t2 fun t9 =>
 (G zcP [t9,t1]).bind fun t11 =>
 uB .neq t11 (uc 0) fun t13 =>
 M.ite t13
 (uL (Ax.build [(V.bool false),(uq 0),(uq 0)] []) fun t14 =>
 uT 3 t4 t14 fun _ =>
 uS 3 t4 fun r0 =>
 M.pure (.ret [r0,t11]))
 (uFM 0 t2 fun t17 =>
 uL (Ax.un .not t17) fun t18 =>
 M.ite t18
 (uL (Ax.build [(V.bool false),(uq 0),(uq 0)] [(0,1,(V.bool true)),(1,1,t1),(2,1,(uq 1))]) fun t20 =>
 uT 3 t4 t20 fun _ =>
 uS 3 t4 fun r0 =>
 M.pure (.ret [r0,(uc 0)]))
 (uFM 1 t2 fun t23 =>
 uB .lss t1 t23 fun t24 =>
 M.ite t24
 (uFM 2 t2 fun t26 =>
 uFM 1 t2 fun t28 =>
 uB .sub t28 t1 fun t30 =>
 uB .shl (uq 1) t30 fun t31 =>
 uB .or t26 t31 fun t32 =>
 uF 2 t2 fun t33 =>
 uT 1 t33 t32 fun _ =>
 uS 3 t2 fun t34 =>
 uT 3 t4 t34 fun _ =>
 uS 3 t4 fun r0 =>
 M.pure (.ret [r0,(uc 0)]))
 (uFM 1 t2 fun t37 =>
 uB .sub t1 t37 fun t38 =>
 uB .lss t38 (uq 64) fun t40 =>
 M.join (M.ite t40
 (uFM 2 t2 fun t42 =>
 uB .shl t42 t38 fun t44 =>
 M.pure (.nrm [t44]))
 (M.pure (.nrm [(uq 0)]))) fun L0 =>
 uB .or (ug L0 0) (uq 1) fun t47 =>
 uL (Ax.build [(V.bool false),(uq 0),(uq 0)] [(0,1,(V.bool true)),(1,1,t1),(2,1,t47)]) fun t48 =>
 uT 3 t4 t48 fun _ =>
 uS 3 t4 fun r0 =>
 M.pure (.ret [r0,(uc 0)]))))
theorem zid {t0 t1:V}:OkT zcD [t0,t1] (zfx (sem T) t0 t1):=okT (by kernel_rfl) (by kernel_rfl) (by kernel_rfl)
def zfR (G:Sem') (t0 t1:V):M Res :=
 uO za3 t0 fun t2 =>
 uS 3 t2 fun t5 =>
 (G zbu [t5]).bind fun t6 =>
 uL (Ax.un .not t6) fun t7 =>
 M.ite t7
 (M.pure (.ret [(uc 1)]))
 (uFM 0 t2 fun t9 =>
 uG t9 true (M.pure t1) fun t11 =>
 uH t9 true (Ax.faddr 1 t2) fun t12 =>
 uG t9 true (mload none t12) fun t13 =>
 uH t9 true (Ax.bin .leq t11 t13) fun t14 =>
 uL (Ax.pick t9 t14 (V.bool false)) fun t15 =>
 uH t15 true (Ax.faddr 1 t2) fun t17 =>
 uG t15 true (mload none t17) fun t18 =>
 uG t15 true (M.pure t1) fun t19 =>
 uH t15 true (Ax.bin .sub t18 t19) fun t20 =>
 uH t15 true (Ax.bin .geq t20 (uq 64)) fun t21 =>
 uG t15 true (M.pure t21) fun t22 =>
 uH t22 false (Ax.faddr 2 t2) fun t23 =>
 uG t22 false (mload none t23) fun t24 =>
 uH t22 false (Ax.faddr 1 t2) fun t25 =>
 uG t22 false (mload none t25) fun t26 =>
 uG t22 false (M.pure t1) fun t27 =>
 uH t22 false (Ax.bin .sub t26 t27) fun t28 =>
 uH t22 false (Ax.bin .shr t24 t28) fun t29 =>
 uH t22 false (Ax.bin .and t29 (uq 1)) fun t30 =>
 uH t22 false (Ax.bin .eql t30 (uq 1)) fun t31 =>
 uH t15 true (Ax.pick t22 (V.bool true) t31) fun t32 =>
 uL (Ax.pick t15 t32 (V.bool false)) fun t33 =>
 M.ite t33
 (M.pure (.ret [(uc 9)]))
 (M.pure (.ret [(uc 0)])))
theorem ziy {t0 t1:V}:OkT zcP [t0,t1] (zfR (sem T) t0 t1):=okT (by kernel_rfl) (by kernel_rfl) (by kernel_rfl)
def zdV (G:Sem') (t0:V):M Res :=
 uO za3 t0 fun t1 =>
 uFM 0 t1 fun t4 =>
 uL (Ax.un .not t4) fun t5 =>
 M.ite t5
 (uFM 1 t1 fun t7 =>
 uB .eql t7 (uq 0) fun t8 =>
 uH t8 true (Ax.faddr 2 t1) fun t10 =>
 uG t8 true (mload none t10) fun t11 =>
 uH t8 true (Ax.bin .eql t11 (uq 0)) fun t12 =>
 uL (Ax.pick t8 t12 (V.bool false)) fun t13 =>
 M.pure (.ret [t13]))
 (uFM 2 t1 fun t15 =>
 uB .and t15 (uq 1) fun t16 =>
 uB .eql t16 (uq 1) fun t17 =>
 uH t17 true (Ax.faddr 1 t1) fun t19 =>
 uG t17 true (mload none t19) fun t20 =>
 uH t17 true (Ax.bin .geq t20 (uq 63)) fun t21 =>
 uG t17 true (M.pure t21) fun t22 =>
 uH t22 false (Ax.faddr 2 t1) fun t23 =>
 uG t22 false (mload none t23) fun t24 =>
 uH t22 false (Ax.faddr 1 t1) fun t25 =>
 uG t22 false (mload none t25) fun t26 =>
 uH t22 false (Ax.bin .add t26 (uq 1)) fun t27 =>
 uH t22 false (Ax.bin .shr t24 t27) fun t28 =>
 uH t22 false (Ax.bin .eql t28 (uq 0)) fun t29 =>
 uH t17 true (Ax.pick t22 (V.bool true) t29) fun t30 =>
 uL (Ax.pick t17 t30 (V.bool false)) fun t31 =>
 M.pure (.ret [t31]))
theorem zf0 {t0:V}:OkT zbu [t0] (zdV (sem T) t0):=okT (by kernel_rfl) (by kernel_rfl) (by kernel_rfl)
def zd8 (G:Sem') (t0 t1 t2:V):M Res :=
 uO zah t0 fun t3 =>
 (G zaW [t1]).bind fun t17 =>
 uE 0 t17 fun t18 =>
 uE 1 t17 fun t19 =>
 uE 2 t17 fun t20 =>
 uE 3 t17 fun t21 =>
 uB .neq t21 (uc 0) fun t23 =>
 M.ite t23
 (M.pure (.ret [V.nils,(uq 0),t21]))
 (uFM 259 t3 fun t27 =>
 uB .neq t18 t27 fun t28 =>
 M.ite t28
 (M.pure (.ret [V.nils,(uq 0),(uc 10)]))
 (uL (vlen t1) fun t30 =>
 uB .sub t30 t20 fun t32 =>
 uFM 260 t3 fun t34 =>
 uB .lss t32 t34 fun t35 =>
 M.ite t35
 (M.pure (.ret [V.nils,(uq 0),(uc 3)]))
 (uL (vlen t1) fun t39 =>
 uFM 260 t3 fun t41 =>
 uB .sub t39 t41 fun t42 =>
 uL (zaz .sl 1 t1 (some t20) (some t42) none) fun t43 =>
 uL (vlen t43) fun t45 =>
 uB .gtr t45 (uc 1000) fun t46 =>
 M.ite t46
 (M.pure (.ret [V.nils,(uq 0),(uc 4)]))
 (uS 261 t3 fun t47 =>
 (G za1 [t47,t19]).bind fun t49 =>
 uS 261 t3 fun t50 =>
 uL (zaz .sl 1 t1 none (some t20) none) fun t54 =>
 uL (vlen t1) fun t61 =>
 uF 260 t3 fun t62 =>
 uM t62 fun t63 =>
 uB .sub t61 t63 fun t64 =>
 uL (zaz .sl 1 t1 (some t64) none none) fun t65 =>
 (mtostr t65).bind fun t66 =>
 M.getH.bind fun h0 =>
 (G zbe [t50,t49,t54,t2,t43]).bind fun t57 =>
 M.getH.bind fun h0' =>
 uU t65 h0 h0' fun _ =>
 uU t62 h0 h0' fun _ =>
 (mtostr t57).bind fun t58 =>
 uB .neq t58 t66 fun t67 =>
 M.ite t67
 (M.pure (.ret [V.nils,(uq 0),(uc 8)]))
 (uS 261 t3 fun t68 =>
 (G za2 [t68,t49,t43]).bind fun t71 =>
 M.pure (.ret [t71,t19,(uc 0)]))))))
theorem zgd {t0 t1 t2:V}:OkT zbE [t0,t1,t2] (zd8 (sem T) t0 t1 t2):=okT (by kernel_rfl) (by kernel_rfl) (by kernel_rfl)
def zey (G:Sem') (t0 t1:V):M Res :=
 uO zaq t0 fun t2 =>
 uO zaq t1 fun t3 =>
 uFM 0 t2 fun t6 =>
 uFM 0 t3 fun t8 =>
 uB .eql t6 t8 fun t9 =>
 uH t9 true (Ax.faddr 1 t2) fun t11 =>
 uG t9 true (mload none t11) fun t12 =>
 uH t9 true (Ax.faddr 1 t3) fun t13 =>
 uG t9 true (mload none t13) fun t14 =>
 uH t9 true (Ax.bin .eql t12 t14) fun t15 =>
 uL (Ax.pick t9 t15 (V.bool false)) fun t16 =>
 uH t16 true (Ax.faddr 2 t2) fun t18 =>
 uG t16 true (mload none t18) fun t19 =>
 uH t16 true (Ax.faddr 2 t3) fun t20 =>
 uG t16 true (mload none t20) fun t21 =>
 uH t16 true (Ax.bin .eql t19 t21) fun t22 =>
 uL (Ax.pick t16 t22 (V.bool false)) fun t23 =>
 uH t23 true (Ax.faddr 3 t2) fun t25 =>
 uG t23 true (mload none t25) fun t26 =>
 uH t23 true (Ax.faddr 3 t3) fun t27 =>
 uG t23 true (mload none t27) fun t28 =>
 uH t23 true (Ax.bin .eql t26 t28) fun t29 =>
 uL (Ax.pick t23 t29 (V.bool false)) fun t30 =>
 uH t30 true (Ax.faddr 4 t2) fun t32 =>
 uG t30 true (mload none t32) fun t33 =>
 uG t30 true (mtostr t33) fun t34 =>
 uH t30 true (Ax.faddr 4 t3) fun t35 =>
 uG t30 true (mload none t35) fun t36 =>
 uG t30 true (mtostr t36) fun t37 =>
 uH t30 true (Ax.bin .eql t34 t37) fun t38 =>
 uL (Ax.pick t30 t38 (V.bool false)) fun t39 =>
 M.pure (.ret [t39])
theorem zgX {t0 t1:V}:OkT zbP [t0,t1] (zey (sem T) t0 t1):=okT (by kernel_rfl) (by kernel_rfl) (by kernel_rfl)
end Go.Ax
/- FnS7 -/
namespace Go.Ax
open Go.Proofs
end Go.Ax
/- Ax21 -/
namespace Go.Ax.Cc
def zpX {α:Type} (n:Nat) (k:Nat → α):α:=Nat.rec (k 0) (fun m _=>k (Nat.succ m)) n
theorem zva {α:Type} (n:Nat) (k:Nat → α):zpX n k = k n:=by cases n <;> rfl
def zr0 {α:Type} (v:V) (k:V → α):α :=
 match v with
 | .int kk (.ofNat n)=>zpX n fun n=>k (.int kk (.ofNat n))
 | .int kk (.negSucc n)=>zpX n fun n=>k (.int kk (.negSucc n))
 | .lit (.float kk b)=>zpX b fun b=>k (.lit (.float kk b))
 | .bool true=>k (.bool true)
 | .bool false=>k (.bool false)
 | v=>k v
theorem zpW {α:Type} (v:V) (k:V → α):zr0 v k = k v:=by
 unfold zr0;split <;> first | rfl | exact zva ..
namespace M
end M
section
variable {α β:Type}
end
end Go.Ax.Cc
/- Ax27 -/
namespace Go.Ax.Cp
open Go.Ax.Cc (zpX zr0 zpW)
abbrev M (α:Type):Type:=Option α
abbrev Sem':Type:=FuncId → List V → M V
abbrev Heap:Type:=Unit
namespace M
def pure {α:Type} (a:α):M α:=some a
def fail {α:Type}:M α:=none
def bind {α β:Type} (x:M α) (f:α → M β):M β:=match x with | some r=>f r | none=>none
def lift (o:Option V):M V:=match o with | some a=>zr0 a fun a=>some a | none=>none
def getH:M Heap:=some ()
def ite {α:Type} (c:V) (x y:M α):M α:=match c with
 | .bool b=>if b then x else y
 | _=>fail
end M
def mload (n:Option Nat) (p:V):M V :=
 match p with
 | .rp cells off=>ldc n cells off
 | _=>none
def mstore (size:Nat) (p x:V):M V:=none
def mbox (ty:TypeId) (x:V):M V:=none
def mslit (ty:TypeId) (len:Nat) (zero:List V) (parts:List (Nat × Nat × V)):M V:=none
def mappend (ty esz bytes:Nat) (x y:V):M V:=none
def mappendz (ty bytes:Nat) (zero:List V) (x n:V):M V:=none
def mcopy (esz:Nat) (d s:V):M V:=none
def mslice2 (esz:Nat) (x lo hi:V):M V:=none
def mclear (zero:List V) (x:V):M V:=none
def mtostr (x:V):M V:=none
def mtobytes (ty:TypeId) (x:V):M V:=none
def mremark (ty:TypeId) (x:V):M V:=none
def mmkslice (ty bytes:Nat) (zero:List V) (len cap:V):M V:=none
def mmknz (ty:TypeId) (n:V):M V:=none
def mmkmap (ty:TypeId):M V:=none
def mlookup (mk:MK) (zero:V) (ok:Bool) (x k:V):M V:=none
def mmapset (mk:MK) (x k v:V):M V:=none
def mmaplen (x:V):M V:=none
def matoload (k:IntKind) (x:V):M V:=none
def matoadd (k:IntKind) (x y:V):M V:=none
def mmapdrop (p:Bool) (o:Nat) (x n:V):M V:=none
def M.unch (v:V) (h h':Heap):M Unit:=some ()
def callv (G:Sem') (x:V) (args:List V):M V :=
 match x with
 | .fn f caps=>G f (args ++ caps)
 | _=>M.fail
def with1 {α:Type} (A:Fr) (x:Arg) (k:V → M α):M α:=match x.ev A with | some v=>k v | none=>M.fail
def withs {α:Type} (A:Fr) (xs:List Arg) (k:List V → M α):M α:=match evs A xs with | some v=>k v | none=>M.fail
def I.run (G:Sem') (A:Fr):I → M V
 | .mv x=>with1 A x M.pure
 | .pick c a b=>with1 A c fun c=>with1 A a fun a=>with1 A b fun b=>M.lift (Ax.pick c a b)
 | .box ty x=>with1 A x fun x=>mbox ty x
 | .build zero parts=>match zcz A parts with | some ps=>M.lift (Ax.build zero ps) | none=>M.fail
 | .slit ty l zero parts=>match zcz A parts with | some ps=>mslit ty l zero ps | none=>M.fail
 | .load n x=>with1 A x fun x=>mload n x
 | .store size p x=>with1 A p fun p=>with1 A x fun x=>mstore size p x
 | .nilck x=>with1 A x fun x=>M.lift (Ax.nilck x)
 | .bin op x y=>with1 A x fun x=>with1 A y fun y=>M.lift (Ax.bin op x y)
 | .eq k neg x y=>with1 A x fun x=>with1 A y fun y=>M.lift (eqr k neg x y)
 | .un op x=>with1 A x fun x=>M.lift (Ax.un op x)
 | .cint k x=>with1 A x fun x=>M.lift (Ax.cint k x)
 | .tostr x=>with1 A x fun x=>mtostr x
 | .tobytes ty x=>with1 A x fun x=>mtobytes ty x
 | .faddr o x=>with1 A x fun x=>M.lift (Ax.faddr o x)
 | .iaddr alen esz x i=>with1 A x fun x=>with1 A i fun i=>M.lift (Ax.iaddr alen esz x i)
 | .index l esz n x i=>with1 A x fun x=>with1 A i fun i=>M.lift (Ax.index l esz n x i)
 | .sindex x i=>with1 A x fun x=>with1 A i fun i=>M.lift (Ax.sindex x i)
 | .field off n x=>with1 A x fun x=>M.lift (Ax.field off n x)
 | .ext i x=>with1 A x fun x=>M.lift (Ax.ext i x)
 | .len x=>with1 A x fun x=>M.lift (vlen x)
 | .slen x=>with1 A x fun x=>M.lift (Ax.slen x)
 | .slice ck esz x lo hi mx=>with1 A x fun x =>
  match zeU A lo,zeU A hi,zeU A mx with | some lo,some hi,some mx=>M.lift (zaz ck esz x lo hi mx) | _,_,_=>M.fail
 | .append ty esz bytes x y=>with1 A x fun x=>with1 A y fun y=>mappend ty esz bytes x y
 | .appendz ty bytes zero x y=>with1 A x fun x=>with1 A y fun y=>mappendz ty bytes zero x y
 | .slice2 esz x lo hi=>with1 A x fun x=>with1 A lo fun lo=>with1 A hi fun hi=>mslice2 esz x lo hi
 | .clear zero x=>with1 A x fun x=>mclear zero x
 | .op1 k x=>with1 A x fun x=>M.lift (Ax.op1 k x)
 | .mknz ty x=>with1 A x fun x=>mmknz ty x
 | .remark ty x=>with1 A x fun x=>mremark ty x
 | .copy esz x y=>with1 A x fun x=>with1 A y fun y=>mcopy esz x y
 | .mkslice ty bytes zero l c=>with1 A l fun l=>with1 A c fun c=>mmkslice ty bytes zero l c
 | .minmax mx x xs=>with1 A x fun x=>withs A xs fun xs=>M.lift (Ax.minmax mx x xs)
 | .call f args=>withs A args fun args=>G f args
 | .callv x args=>with1 A x fun x=>withs A args fun args=>callv G x args
 | .mkfn f caps=>withs A caps fun caps=>M.pure (.fn f caps)
 | .mkmap ty=>mmkmap ty
 | .lookup mk zero ok x k=>with1 A x fun x=>with1 A k fun k=>mlookup mk zero ok x k
 | .mapset mk x k v=>with1 A x fun x=>with1 A k fun k=>with1 A v fun v=>mmapset mk x k v
 | .maplen x=>with1 A x fun x=>mmaplen x
 | .aload k x=>with1 A x fun x=>matoload k x
 | .aadd k x y=>with1 A x fun x=>with1 A y fun y=>matoadd k x y
 | .mdrop p o x n=>with1 A x fun x=>with1 A n fun n=>mmapdrop p o x n
def guarded (A:Fr) (gd:Option (Nat × Bool)) (x:M V):M V :=
 match gd with
 | none=>x
 | some (s,want)=>match A.get s with
  | some (.bool b)=>if b = want then x else M.pure .undef
  | some (.tup [])=>M.pure .undef
  | _=>M.fail
def AO.run (G:Sem') (A:Fr) (o:AO):M V:=guarded A o.gd (I.run G A o.ins)
def step {α:Type} (G:Sem') (o:AO) (A:Fr) (k:V → M α):M α :=
 match o.gd,o.ins with
 | none,.mv x=>(match x.ev A with | some v=>k v | none=>M.fail)
 | _,_=>M.bind (AO.run G A o) k
def opsK {α:Type} (G:Sem'):List AO → Fr → (Fr → M α) → M α
 | [],A,k=>k A
 | o :: os,A,k=>step G o A fun v=>opsK G os (A.put o.dst v) k
def actsK {α:Type} (un:List (Nat × Nat)) (i:Nat) (a:V):List (Nat × Heap × Heap) → M α → M α
 | [],k=>k
 | (j,h,h') :: js,k=>if un.contains (i,j) then M.bind (M.unch a h h') fun _=>actsK un i a js k else actsK un i a js k
def readsK {α:Type} (un:List (Nat × Nat)) (j:Nat) (h h':Heap):List (Nat × V) → M α → M α
 | [],k=>k
 | (i,a) :: rs,k=>if un.contains (i,j) then M.bind (M.unch a h h') fun _=>readsK un j h h' rs k else readsK un j h h' rs k
def with1' {α:Type} (A:Fr) (x:Arg) (k:V → M α):M α:=match x.ev A with | some v=>k v | none=>k .undef
def drawK {α:Type} (G:Sem') (un:List (Nat × Nat)):Nat → List (Nat × V) → List (Nat × Heap × Heap) → List AO → Fr → (Fr → M α) → M α
 | _,_,_,[],A,k=>k A
 | p,rs,js,o :: os,A,k =>
  match o.ins.kind with
  | .read x =>
   if un.any (fun q=>q.1 == p) then
    with1' A x fun a=>step G o A fun v=>actsK un p a js (drawK G un (p + 1) ((p,a) :: rs) js os (A.put o.dst v) k)
   else step G o A fun v=>drawK G un (p + 1) rs js os (A.put o.dst v) k
  | .act =>
   if un.any (fun q=>q.2 == p) then
    M.bind M.getH fun h=>step G o A fun v=>M.bind M.getH fun h'=>readsK un p h h' rs (drawK G un (p + 1) rs ((p,h,h') :: js) os (A.put o.dst v) k)
   else step G o A fun v=>drawK G un (p + 1) rs js os (A.put o.dst v) k
  | _=>step G o A fun v=>drawK G un (p + 1) rs js os (A.put o.dst v) k
def M.join (x:M Res) (k:List V → M Res):M Res:=M.bind x fun r =>
 match r with
 | .nrm L=>k L
 | .ex id L=>M.pure (.ex id L)
 | .ret L=>M.pure (.ret L)
def M.blk (id:Nat) (x:M Res) (k:List V → M Res):M Res:=M.bind x fun r =>
 match r with
 | .nrm L=>k L
 | .ex i L=>if i = id then k L else M.pure (.ex i L)
 | .ret L=>M.pure (.ret L)
def iterN (body:List V → M Res):Nat → List V → M Res
 | 0,_=>M.fail
 | n + 1,L=>M.join (body L) (iterN body n)
def M.iter (body:List V → M Res) (L:List V):M Res:=iterN body 1000000000 L
def resK {α:Type} (A:Fr):List RV → (List V → M α) → M α
 | [],k=>k []
 | .tmp t :: rs,k=>match A.get t with | some v=>resK A rs fun vs=>k (v :: vs) | none=>M.fail
 | .cell t n :: rs,k=>match A.get t with | some a=>M.bind (mload n a) fun v=>resK A rs fun vs=>k (v :: vs) | none=>M.fail
def execK (G:Sem') (rv:List RV):C → List (Nat × List Nat) → List Nat → Fr → M Res
 | .done,_,J,A=>match zdp A J with | some L=>M.pure (.nrm L) | none=>M.fail
 | .bad,_,_,_=>M.fail
 | .ops l k,cx,J,A=>opsK G l A fun A'=>execK G rv k cx J A'
 | .draw l un k,cx,J,A=>drawK G un 0 [] [] l A fun A'=>execK G rv k cx J A'
 | .cond x a b,cx,J,A=>match x.ev A with | some c=>M.ite c (execK G rv a cx J A) (execK G rv b cx J A) | none=>M.fail
 | .condJ x a b J' W k,cx,J,A=>match x.ev A with
  | some c=>M.join (M.ite c (execK G rv a cx J' A) (execK G rv b cx J' A)) fun L=>execK G rv k cx J (A.join J' W L)
  | none=>M.fail
 | .blk id a J' W k,cx,J,A=>M.blk id (execK G rv a ((id,J') :: cx) J' A) fun L=>execK G rv k cx J (A.join J' W L)
 | .loop a K W,cx,_,A=>match zdp A K with | some L=>M.iter (fun L=>execK G rv a cx K (A.join K W L)) L | none=>M.fail
 | .exit id,cx,_,A=>match zm7 cx id with | some J=>(match zdp A J with | some L=>M.pure (.ex id L) | none=>M.fail) | none=>M.fail
 | .ret,_,_,A=>resK A rv fun L=>M.pure (.ret L)
def fin (x:M Res):M V:=M.bind x fun r =>
 match r with
 | .ret L=>M.pure (zgD L)
 | _=>M.fail
/-! It does what the abstract machine does,in whatever memory,and leaves it as it is. -/
def SimH {α:Type} (H:Ax.Heap) (x:M α) (y:Ax.M α):Prop:=∀ v,x = some v → y H = some (v,H)
def Sim {α:Type} (x:M α) (y:Ax.M α):Prop:=∀ H,SimH H x y
def Sims (g:Sem') (G:Ax.Sem'):Prop:=∀ f args,Sim (g f args) (G f args)
section
variable {α β:Type} {H:Ax.Heap}
theorem zen (v:α):SimH H (M.pure v) (Ax.M.pure v):=by
 intro u h;simp only [M.pure,Option.some.injEq] at h;subst h;rfl
theorem zbL {y:Ax.M α}:SimH H (none:Option α) y:=by intro v h; cases h
theorem zbc {y:Ax.M α}:SimH H M.fail y:=zbL
theorem zaV {y:Ax.M α}:Sim M.fail y:=fun _=>zbL
theorem zcA (o:Option V):SimH H (M.lift o) (Ax.M.lift o):=by
 intro u h;cases o with
 | none=>cases h
 | some a =>
  simp only [M.lift,zpW,Option.some.injEq] at h;subst h;rfl
theorem zhA {x:M α} {y:Ax.M α} {f:α → M β} {g:α → Ax.M β} (h:SimH H x y) (k:∀ v,SimH H (f v) (g v)):SimH H (M.bind x f) (y.bind g):=by
 intro v e;unfold M.bind at e;split at e
 ·rename_i u;rw [bind_ok (h u rfl)];exact k u v e
 ·cases e
theorem ztR (c:V) {x x':M α} {y y':Ax.M α} (h:SimH H x y) (k:SimH H x' y'):SimH H (M.ite c x x') (Ax.M.ite c y y'):=by
 cases c <;> first | exact zbc | skip
 rename_i b;cases b
 ·exact k
 ·exact h
theorem zrA (n:Option Nat) (p:V):SimH H (mload n p) (Ax.mload n p):=by
 intro v h;unfold mload at h;split at h
 ·simp only [Ax.mload,h,Option.map_some]
 ·cases h
theorem zrz (v:V) (h h':Heap):SimH H (M.unch v h h') (Ax.M.unch v H H):=by
 intro u _;unfold Ax.M.unch;rw [if_pos fun _ _=>rfl]
theorem ztP {g:Sem'} {G:Ax.Sem'} (hg:Sims g G) (A:Fr) (ins:I):SimH H (I.run g A ins) (ins.run G A):=by
 have w1:∀ (x:Arg) {k:V → M V} {k':V → Ax.M V},(∀ v,SimH H (k v) (k' v)) → SimH H (with1 A x k) (Ax.with1 A x k'):=by
  intro x k k' h;unfold with1 Ax.with1;cases x.ev A with
  | none=>exact zbc
  | some v=>exact h v
 have ws:∀ (x:List Arg) {k:List V → M V} {k':List V → Ax.M V},(∀ v,SimH H (k v) (k' v)) → SimH H (withs A x k) (Ax.withs A x k'):=by
  intro x k k' h;unfold withs Ax.withs;cases evs A x with
  | none=>exact zbc
  | some v=>exact h v
 cases ins <;> simp only [I.run,Ax.I.run]
 case mv x=>exact w1 x zen
 case pick c a b=>exact w1 _ fun _=>w1 _ fun _=>w1 _ fun _=>zcA _
 case box=>exact w1 _ fun _=>zbL
 case build z ps=>cases zcz A ps <;> first | exact zbc | exact zcA _
 case slit z ps=>cases zcz A ps <;> first | exact zbc | exact zbL
 case load=>exact w1 _ fun _=>zrA _ _
 case store=>exact w1 _ fun _=>w1 _ fun _=>zbL
 case nilck=>exact w1 _ fun _=>zcA _
 case bin=>exact w1 _ fun _=>w1 _ fun _=>zcA _
 case eq=>exact w1 _ fun _=>w1 _ fun _=>zcA _
 case un=>exact w1 _ fun _=>zcA _
 case cint=>exact w1 _ fun _=>zcA _
 case tostr=>exact w1 _ fun _=>zbL
 case tobytes=>exact w1 _ fun _=>zbL
 case faddr=>exact w1 _ fun _=>zcA _
 case iaddr=>exact w1 _ fun _=>w1 _ fun _=>zcA _
 case index=>exact w1 _ fun _=>w1 _ fun _=>zcA _
 case sindex=>exact w1 _ fun _=>w1 _ fun _=>zcA _
 case field=>exact w1 _ fun _=>zcA _
 case ext=>exact w1 _ fun _=>zcA _
 case len=>exact w1 _ fun _=>zcA _
 case slen=>exact w1 _ fun _=>zcA _
 case slice ck e x lo hi mx =>
  refine w1 _ fun _=>?_;cases zeU A lo <;> cases zeU A hi <;> cases zeU A mx <;> first | exact zbc | exact zcA _
 case append=>exact w1 _ fun _=>w1 _ fun _=>zbL
 case appendz=>exact w1 _ fun _=>w1 _ fun _=>zbL
 case copy=>exact w1 _ fun _=>w1 _ fun _=>zbL
 case mkslice=>exact w1 _ fun _=>w1 _ fun _=>zbL
 case slice2=>exact w1 _ fun _=>w1 _ fun _=>w1 _ fun _=>zbL
 case clear=>exact w1 _ fun _=>zbL
 case op1=>exact w1 _ fun _=>zcA _
 case mknz=>exact w1 _ fun _=>zbL
 case remark=>exact w1 _ fun _=>zbL
 case minmax=>exact w1 _ fun _=>ws _ fun _=>zcA _
 case call=>exact ws _ fun _=>hg _ _ _
 case callv =>
  refine w1 _ fun v=>ws _ fun _=>?_;cases v <;> first | exact zbc | exact hg _ _ _
 case mkfn=>exact ws _ fun _=>zen _
 case mkmap=>exact zbL
 case lookup=>exact w1 _ fun _=>w1 _ fun _=>zbL
 case mapset=>exact w1 _ fun _=>w1 _ fun _=>w1 _ fun _=>zbL
 case mdrop=>exact w1 _ fun _=>w1 _ fun _=>zbL
 case maplen=>exact w1 _ fun _=>zbL
 case aload=>exact w1 _ fun _=>zbL
 case aadd=>exact w1 _ fun _=>w1 _ fun _=>zbL
theorem sim_ao {g:Sem'} {G:Ax.Sem'} (hg:Sims g G) (A:Fr) (o:AO):SimH H (AO.run g A o) (o.run G A):=by
 unfold AO.run Ax.AO.run guarded Ax.guarded;cases o.gd with
 | none=>exact ztP hg A o.ins
 | some p =>
  obtain ⟨s,want⟩:=p;dsimp only;cases A.get s with
  | none=>exact zbc
  | some v =>
   cases v with
   | bool b =>
    dsimp only;by_cases hb:b = want
    ·simp only [if_pos hb]; exact ztP hg A o.ins
    ·simp only [if_neg hb]; exact zen _
   | tup vs =>
    cases vs with
    | nil=>exact zen _
    | cons _ _=>exact zbc
   | _=>exact zbc
theorem zgE {g:Sem'} {G:Ax.Sem'} (hg:Sims g G) (A:Fr) (o:AO) {k:V → M α} {k':V → Ax.M α} (h:∀ v,SimH H (k v) (k' v)):SimH H (step g o A k) (Ax.step G o A k'):=by
 have hr:=zhA (sim_ao hg A o) h;obtain ⟨d,gd,ins⟩:=o;cases gd with
 | some _=>exact hr
 | none =>
  cases ins <;> first | exact hr | skip
  rename_i x;show SimH H (match x.ev A with | some v=>k v | none=>M.fail) (match x.ev A with | some v=>k' v | none=>Ax.M.fail);cases x.ev A with
  | none=>exact zbc
  | some v=>exact h v
theorem sim_ops {g:Sem'} {G:Ax.Sem'} (hg:Sims g G) {k:Fr → M α} {k':Fr → Ax.M α} (h:∀ A,SimH H (k A) (k' A)):∀ (l:List AO) (A:Fr),SimH H (opsK g l A k) (Ax.opsK G l A k'):=by
 intro l
 induction l with
 | nil=>intro A; exact h A
 | cons o l ih=>intro A; exact zgE hg A o fun v=>ih _
def absJ (H:Ax.Heap) (js:List (Nat × Heap × Heap)):List (Nat × Ax.Heap × Ax.Heap):=js.map fun q=>(q.1,H,H)
theorem zrD {un:List (Nat × Nat)} {i:Nat} {a:V} {k:M α} {k':Ax.M α} (h:SimH H k k'):∀ js,SimH H (actsK un i a js k) (Ax.actsK un i a (absJ H js) k'):=by
 intro js
 induction js with
 | nil=>exact h
 | cons q js ih =>
  obtain ⟨j,h1,h2⟩:=q;show SimH H (if un.contains (i,j) then M.bind (M.unch a h1 h2) fun _=>actsK un i a js k else actsK un i a js k)
   (if un.contains (i,j) then (Ax.M.unch a H H).bind fun _=>Ax.actsK un i a (absJ H js) k' else Ax.actsK un i a (absJ H js) k')
  split
  ·exact zhA (zrz _ h1 h2) fun _=>ih
  ·exact ih
theorem ztQ {un:List (Nat × Nat)} {j:Nat} {h1 h2:Heap} {k:M α} {k':Ax.M α} (h:SimH H k k'):∀ rs,SimH H (readsK un j h1 h2 rs k) (Ax.readsK un j H H rs k'):=by
 intro rs
 induction rs with
 | nil=>exact h
 | cons q rs ih =>
  obtain ⟨i,a⟩:=q;show SimH H (if un.contains (i,j) then M.bind (M.unch a h1 h2) fun _=>readsK un j h1 h2 rs k else readsK un j h1 h2 rs k)
   (if un.contains (i,j) then (Ax.M.unch a H H).bind fun _=>Ax.readsK un j H H rs k' else Ax.readsK un j H H rs k')
  split
  ·exact zhA (zrz _ h1 h2) fun _=>ih
  ·exact ih
theorem zrC {f:Heap → M α} {f':Ax.Heap → Ax.M α} (h:∀ c,SimH H (f c) (f' H)):SimH H (M.bind M.getH f) (Ax.M.getH.bind f'):=by
 intro v e;exact h () v e
theorem sim_draw {g:Sem'} {G:Ax.Sem'} (hg:Sims g G) {un:List (Nat × Nat)} {k:Fr → M α} {k':Fr → Ax.M α} (h:∀ A,SimH H (k A) (k' A)):∀ (l:List AO) (p:Nat) (rs:List (Nat × V)) (js:List (Nat × Heap × Heap)) (A:Fr),
  SimH H (drawK g un p rs js l A k) (Ax.drawK G un p rs (absJ H js) l A k'):=by
 intro l
 induction l with
 | nil=>intro p rs js A; exact h A
 | cons o l ih =>
  intro p rs js A;unfold drawK Ax.drawK;cases hk:o.ins.kind with
  | read x =>
   dsimp only;split
   ·unfold with1' zbK.with1';cases x.ev A with
    | none=>exact zgE hg A o fun v=>zrD (ih _ _ _ _) js
    | some a=>exact zgE hg A o fun v=>zrD (ih _ _ _ _) js
   ·exact zgE hg A o fun v=>ih _ _ _ _
  | act =>
   dsimp only;split
   ·exact zrC fun h1=>zgE hg A o fun v=>zrC fun h2=>ztQ (h1:=h1) (h2:=h2) (ih _ _ ((p,h1,h2) :: js) _) rs
   ·exact zgE hg A o fun v=>ih _ _ _ _
  | pure=>exact zgE hg A o fun v=>ih _ _ _ _
  | new=>exact zgE hg A o fun v=>ih _ _ _ _
theorem zrB {x:M Res} {y:Ax.M Res} {k:List V → M Res} {k':List V → Ax.M Res} (h:SimH H x y) (hk:∀ L,SimH H (k L) (k' L)):SimH H (M.join x k) (Ax.M.join y k'):=by
 refine zhA h fun r=>?_;cases r with
 | nrm L=>exact hk L
 | ex id L=>exact zen _
 | ret L=>exact zen _
theorem sim_blk {id:Nat} {x:M Res} {y:Ax.M Res} {k:List V → M Res} {k':List V → Ax.M Res} (h:SimH H x y) (hk:∀ L,SimH H (k L) (k' L)):SimH H (M.blk id x k) (Ax.M.blk id y k'):=by
 refine zhA h fun r=>?_;cases r with
 | nrm L=>exact hk L
 | ex i L =>
  dsimp only;by_cases e:i = id
  ·simp only [if_pos e]; exact hk L
  ·simp only [if_neg e]; exact zen _
 | ret L=>exact zen _
theorem sim_iter {body:List V → M Res} {b:List V → Ax.M Res} (h:∀ L,SimH H (body L) (b L)) (L:List V):SimH H (M.iter body L) (Ax.M.iter b L):=by
 have key:∀ (n:Nat) (L:List V),SimH H (iterN body n L) (Ax.iterN b n L):=by
  intro n
  induction n with
  | zero=>intro L; exact zbc
  | succ n ih=>intro L; exact zrB (h L) ih
 intro v e;exact zmR (key _ L v e)
theorem sim_res {A:Fr}:∀ (rv:List RV) {k:List V → M α} {k':List V → Ax.M α},(∀ L,SimH H (k L) (k' L)) → SimH H (resK A rv k) (Ax.resK A rv k'):=by
 intro rv
 induction rv with
 | nil=>intro k k' h; exact h []
 | cons x rv ih =>
  intro k k' h;cases x with
  | tmp t =>
   simp only [resK,Ax.resK];cases A.get t with
   | none=>exact zbc
   | some v=>exact ih fun vs=>h _
  | cell t n =>
   simp only [resK,Ax.resK];cases A.get t with
   | none=>exact zbc
   | some v=>exact zhA (zrA _ _) fun u=>ih fun vs=>h _
theorem sim_exec {g:Sem'} {G:Ax.Sem'} (hg:Sims g G) (rv:List RV):∀ (c:C) (cx:List (Nat × List Nat)) (J:List Nat) (A:Fr),SimH H (execK g rv c cx J A) (Ax.execK G rv c cx J A):=by
 intro c
 induction c with
 | done=>intro cx J A; simp only [execK,Ax.execK]; cases zdp A J <;> first | exact zbc | exact zen _
 | bad=>intro cx J A; exact zbc
 | ops l k ih=>intro cx J A; exact sim_ops hg (fun A'=>ih _ _ _) l A
 | draw l un k ih=>intro cx J A; exact sim_draw hg (fun A'=>ih _ _ _) l 0 [] [] A
 | cond x a b iha ihb =>
  intro cx J A;simp only [execK,Ax.execK];cases x.ev A with
  | none=>exact zbc
  | some c=>exact ztR c (iha _ _ _) (ihb _ _ _)
 | condJ x a b J' W k iha ihb ihk =>
  intro cx J A;simp only [execK,Ax.execK];cases x.ev A with
  | none=>exact zbc
  | some c=>exact zrB (ztR c (iha _ _ _) (ihb _ _ _)) fun L=>ihk _ _ _
 | blk id a J' W k iha ihk=>intro cx J A; exact sim_blk (iha _ _ _) fun L=>ihk _ _ _
 | loop a K W iha =>
  intro cx J A;simp only [execK,Ax.execK];cases zdp A K with
  | none=>exact zbc
  | some L=>exact sim_iter (fun L=>iha _ _ _) L
 | exit id =>
  intro cx J A;simp only [execK,Ax.execK];cases zm7 cx id with
  | none=>exact zbc
  | some J=>dsimp only; cases zdp A J <;> first | exact zbc | exact zen _
 | ret=>intro cx J A; exact sim_res rv fun L=>zen _
theorem sim_fin {x:M Res} {y:Ax.M Res} (h:SimH H x y):SimH H (fin x) (Ax.fin y):=by
 refine zhA h fun r=>?_;cases r with
 | ret L=>exact zen _
 | _=>exact zbc
end
theorem zf9 {T:FuncId → Option Fn'} {f:FuncId} {ir:Fn'} (hT:T f = some ir) {args:List V} (hl:args.length ≤ ir.ntmps) {g:Sem'} (hg:Sims g (sem T)) {x:M Res} (hx:execK g ir.rv ir.body [] [] (params 0 args) = x):Sim (fin x) (sem T f args):=by
 intro H v h;refine zrG hT hl rfl ?_;exact sim_fin (hx ▸ sim_exec hg ir.rv ir.body [] [] (params 0 args)) v h
theorem zcM {α:Type} {p:Prop} [Decidable p] {x x':M α} {y:Ax.M α} (h:p → Sim x y) (k:Sim x' y):Sim (if p then x else x') y:=by
 by_cases hp:p
 ·rw [if_pos hp]; exact h hp
 ·rw [if_neg hp]; exact k
end Go.Ax.Cp
/- CpS -/
namespace Go.Ax.Cp
open Go.Proofs
def zhS (G:Sem') (t1 t4:V) (L:List V):M Res :=
 (M.lift (Ax.bin .lss (L.getD 2 .undef) (V.int .i64 8))).bind fun t11 =>
 M.ite t11
 (M.blk 1 (
 (M.lift (Ax.cint .u64 (L.getD 2 .undef))).bind fun t16 =>
 (M.lift (Ax.bin .shr t1 t16)).bind fun t17 =>
 (M.lift (Ax.bin .and t17 (V.int .u8 1))).bind fun t18 =>
 (M.lift (Ax.bin .eql t18 (V.int .u8 1))).bind fun t19 =>
 M.join (M.ite t19
 ((M.lift (Ax.bin .xor (L.getD 0 .undef) (L.getD 1 .undef))).bind fun t22 =>
 M.pure (.nrm [t22]))
 (M.pure (.nrm [(L.getD 0 .undef)]))) fun L0 =>
 (M.lift (Ax.bin .shr (L.getD 1 .undef) (V.int .u64 7))).bind fun t24 =>
 (M.lift (Ax.bin .shl (L.getD 1 .undef) (V.int .u64 1))).bind fun t26 =>
 (M.lift (Ax.bin .mul t24 (V.int .u8 27))).bind fun t28 =>
 (M.lift (Ax.bin .xor t26 t28)).bind fun t29 =>
 M.pure (.nrm [(L0.getD 0 .undef),t29])) fun L1 =>
 (M.lift (Ax.bin .add (L.getD 2 .undef) (V.int .i64 1))).bind fun t13 =>
 M.pure (.nrm [(L1.getD 0 .undef),(L1.getD 1 .undef),t13]))
 (M.pure (.ex 0 [(L.getD 0 .undef)]))
def zfu (G:Sem') (t0 t1:V):M Res :=
 M.blk 0 (
 M.iter (zhS G t1 (V.int .u8 0)) [(V.int .u8 0),t0,(V.int .i64 0)]) fun L2 =>
 M.pure (.ret [(L2.getD 0 .undef)])
theorem zii (G:Sem') (t0 t1:V):execK G zdx.rv zdx.body [] [] (params 0 [t0,t1]) = zfu G t0 t1:=by kernel_rfl
def zdZ (G:Sem'):List V → M V
 | [t0,t1]=>fin (zfu G t0 t1)
 | _=>M.fail
theorem zil {g:Sem'} (hg:Sims g (sem T)) (args:List V):Sim (zdZ g args) (sem T zax args):=by
 unfold zdZ;split
 ·exact zf9 zh8 (Nat.le_of_ble_eq_true rfl) hg (zii g _ _)
 ·exact zaV
def f_block_twice (G:Sem') (t0:V):M Res :=
 (M.lift (Ax.bin .geq t0 (V.int .u8 128))).bind fun t4 =>
 M.ite t4
 ((M.lift (Ax.bin .shl t0 (V.int .u64 1))).bind fun t6 =>
 (M.lift (Ax.bin .xor t6 (V.int .u8 27))).bind fun t7 =>
 M.pure (.ret [t7]))
 ((M.lift (Ax.bin .shl t0 (V.int .u64 1))).bind fun t9 =>
 M.pure (.ret [t9]))
theorem eq_block_twice (G:Sem') (t0:V):execK G zef.rv zef.body [] [] (params 0 [t0]) = f_block_twice G t0:=by kernel_rfl
def zhW (G:Sem'):List V → M V
 | [t0]=>fin (f_block_twice G t0)
 | _=>M.fail
theorem zoq {g:Sem'} (hg:Sims g (sem T)) (args:List V):Sim (zhW g args) (sem T zbk args):=by
 unfold zhW;split
 ·exact zf9 znq (Nat.le_of_ble_eq_true rfl) hg (eq_block_twice g _)
 ·exact zaV
def zm0 (G:Sem') (t4:V) (L:List V):M Res :=
 (M.lift (Ax.bin .gtr (L.getD 1 .undef) (V.int .u8 0))).bind fun t7 =>
 M.ite t7
 (M.blk 1 (
 (M.lift (Ax.bin .and (L.getD 1 .undef) (V.int .u8 1))).bind fun t11 =>
 (M.lift (Ax.bin .eql t11 (V.int .u8 1))).bind fun t12 =>
 M.join (M.ite t12
 ((M.lift (Ax.bin .xor (L.getD 2 .undef) (L.getD 0 .undef))).bind fun t15 =>
 M.pure (.nrm [t15]))
 (M.pure (.nrm [(L.getD 2 .undef)]))) fun L0 =>
 (G zbk [(L.getD 0 .undef)]).bind fun t17 =>
 M.pure (.nrm [t17,(L0.getD 0 .undef)])) fun L1 =>
 (M.lift (Ax.bin .shr (L.getD 1 .undef) (V.int .u64 1))).bind fun t9 =>
 M.pure (.nrm [(L1.getD 0 .undef),t9,(L1.getD 1 .undef)]))
 (M.pure (.ex 0 [(L.getD 2 .undef)]))
def zkO (G:Sem') (t0 t1:V):M Res :=
 M.blk 0 (
 M.iter (zm0 G (V.int .u8 0)) [t0,t1,(V.int .u8 0)]) fun L2 =>
 M.pure (.ret [(L2.getD 0 .undef)])
theorem znJ (G:Sem') (t0 t1:V):execK G zg0.rv zg0.body [] [] (params 0 [t0,t1]) = zkO G t0 t1:=by kernel_rfl
def zhX (G:Sem'):List V → M V
 | [t0,t1]=>fin (zkO G t0 t1)
 | _=>M.fail
theorem zor {g:Sem'} (hg:Sims g (sem T)) (args:List V):Sim (zhX g args) (sem T zcq args):=by
 unfold zhX;split
 ·exact zf9 znr (Nat.le_of_ble_eq_true rfl) hg (znJ g _ _)
 ·exact zaV
def zoR (G:Sem') (t0 t2:V) (L:List V):M Res :=
 (M.lift (Ax.bin .leq (L.getD 1 .undef) (V.int .i64 4))).bind fun t7 =>
 M.ite t7
 (M.blk 1 (
 (G za4 [t0,(L.getD 1 .undef)]).bind fun t13 =>
 (M.lift (Ax.bin .xor (L.getD 0 .undef) t13)).bind fun t14 =>
 M.pure (.nrm [t14])) fun L0 =>
 (M.lift (Ax.bin .add (L.getD 1 .undef) (V.int .i64 1))).bind fun t9 =>
 M.pure (.nrm [(L0.getD 0 .undef),t9]))
 (M.pure (.ex 0 [(L.getD 0 .undef)]))
def zmZ (G:Sem') (t0:V):M Res :=
 M.blk 0 (
 M.iter (zoR G t0 (V.int .u8 0)) [t0,(V.int .i64 1)]) fun L1 =>
 (M.lift (Ax.bin .xor (L1.getD 0 .undef) (V.int .u8 99))).bind fun t16 =>
 M.pure (.ret [t16])
theorem zp3 (G:Sem') (t0:V):execK G ziL.rv ziL.body [] [] (params 0 [t0]) = zmZ G t0:=by kernel_rfl
def zj5 (G:Sem'):List V → M V
 | [t0]=>fin (zmZ G t0)
 | _=>M.fail
theorem zqt {g:Sem'} (hg:Sims g (sem T)) (args:List V):Sim (zj5 g args) (sem T zcp args):=by
 unfold zj5;split
 ·exact zf9 zpb (Nat.le_of_ble_eq_true rfl) hg (zp3 g _)
 ·exact zaV
def zeQ (G:Sem') (t0 t1:V):M Res :=
 (M.lift (Ax.cint .u64 t1)).bind fun t7 =>
 (M.lift (Ax.bin .and t7 (V.int .u64 7))).bind fun t8 =>
 (M.lift (Ax.bin .shl t0 t8)).bind fun t11 =>
 (M.lift (Ax.bin .sub (V.int .u64 8) t8)).bind fun t14 =>
 (M.lift (Ax.bin .shr t0 t14)).bind fun t15 =>
 (M.lift (Ax.bin .or t11 t15)).bind fun t16 =>
 M.pure (.ret [t16])
theorem zhv (G:Sem') (t0 t1:V):execK G zc9.rv zc9.body [] [] (params 0 [t0,t1]) = zeQ G t0 t1:=by kernel_rfl
def zdn (G:Sem'):List V → M V
 | [t0,t1]=>fin (zeQ G t0 t1)
 | _=>M.fail
theorem zhC {g:Sem'} (hg:Sims g (sem T)) (args:List V):Sim (zdn g args) (sem T za4 args):=by
 unfold zdn;split
 ·exact zf9 zg9 (Nat.le_of_ble_eq_true rfl) hg (zhv g _ _)
 ·exact zaV
def zlR (G:Sem') (t0:V) (L:List V):M Res :=
 (M.lift (Ax.bin .mul (L.getD 0 .undef) (L.getD 0 .undef))).bind fun t6 =>
 (M.lift (Ax.bin .leq t6 t0)).bind fun t8 =>
 M.ite t8
 (M.blk 1 (
 (M.lift (Ax.bin .rem t0 (L.getD 0 .undef))).bind fun t13 =>
 (M.lift (Ax.bin .eql t13 (V.int .i64 0))).bind fun t14 =>
 M.ite t14
 (M.pure (.ret [(V.bool false)]))
 (M.pure (.nrm []))) fun _ =>
 (M.lift (Ax.bin .add (L.getD 0 .undef) (V.int .i64 1))).bind fun t10 =>
 M.pure (.nrm [t10]))
 (M.pure (.ex 0 []))
def zjA (G:Sem') (t0:V):M Res :=
 M.blk 0 (
 M.iter (zlR G t0) [(V.int .i64 2)]) fun _ =>
 (M.lift (Ax.bin .gtr t0 (V.int .i64 1))).bind fun t16 =>
 M.pure (.ret [t16])
theorem zm2 (G:Sem') (t0:V):execK G zgi.rv zgi.body [] [] (params 0 [t0]) = zjA G t0:=by kernel_rfl
def zg5 (G:Sem'):List V → M V
 | [t0]=>fin (zjA G t0)
 | _=>M.fail
theorem znt {g:Sem'} (hg:Sims g (sem T)) (args:List V):Sim (zg5 g args) (sem T zbX args):=by
 unfold zg5;split
 ·exact zf9 zme (Nat.le_of_ble_eq_true rfl) hg (zm2 g _)
 ·exact zaV
def zmX (G:Sem') (t0 t2:V) (L:List V):M Res :=
 (G zcx [(L.getD 0 .undef),t0]).bind fun t11 =>
 (M.lift (Ax.un .not t11)).bind fun t12 =>
 M.ite t12
 (M.blk 1 (
 (M.lift (Ax.bin .sub (L.getD 0 .undef) (V.int .u64 1))).bind fun t14 =>
 M.pure (.nrm [t14])) fun L0 =>
 M.pure (.nrm [(L0.getD 0 .undef)]))
 (M.pure (.ex 0 [(L.getD 0 .undef)]))
def zmW (G:Sem') (t0 t2:V) (L:List V):M Res :=
 (M.lift (Ax.bin .add (L.getD 0 .undef) (V.int .u64 1))).bind fun t16 =>
 (G zcx [t16,t0]).bind fun t18 =>
 M.ite t18
 (M.blk 3 (
 (M.lift (Ax.bin .add (L.getD 0 .undef) (V.int .u64 1))).bind fun t20 =>
 M.pure (.nrm [t20])) fun L2 =>
 M.pure (.nrm [(L2.getD 0 .undef)]))
 (M.pure (.ex 2 [(L.getD 0 .undef)]))
def zkM (G:Sem') (t0:V):M Res :=
 (M.lift (Ax.op1 (.itof .f64) t0)).bind fun t5 =>
 (G zew [t5]).bind fun t6 =>
 (M.lift (Ax.bin .mul t6 (V.lit (.float .f64 4751297606875873280)))).bind fun t7 =>
 (M.lift (Ax.cint .u64 t7)).bind fun t8 =>
 M.blk 0 (
 M.iter (zmX G t0 (V.int .u32 0)) [t8]) fun L1 =>
 M.blk 2 (
 M.iter (zmW G t0 (V.int .u32 0)) [(L1.getD 0 .undef)]) fun L3 =>
 (M.lift (Ax.cint .u32 (L3.getD 0 .undef))).bind fun t22 =>
 M.pure (.ret [t22])
theorem znI (G:Sem') (t0:V):execK G zgZ.rv zgZ.body [] [] (params 0 [t0]) = zkM G t0:=by kernel_rfl
def zhV (G:Sem'):List V → M V
 | [t0]=>fin (zkM G t0)
 | _=>M.fail
theorem zop {g:Sem'} (hg:Sims g (sem T)) (args:List V):Sim (zhV g args) (sem T zco args):=by
 unfold zhV;split
 ·exact zf9 znp (Nat.le_of_ble_eq_true rfl) hg (znI g _)
 ·exact zaV
def zmU (G:Sem') (t0:V):M Res :=
 M.ite (V.bool false)
 ((G zcI [t0]).bind fun t4 =>
 M.pure (.ret [t4]))
 ((G zev [t0]).bind fun t6 =>
 M.pure (.ret [t6]))
theorem zp2 (G:Sem') (t0:V):execK G ziK.rv ziK.body [] [] (params 0 [t0]) = zmU G t0:=by kernel_rfl
def zj4 (G:Sem'):List V → M V
 | [t0]=>fin (zmU G t0)
 | _=>M.fail
theorem zqs {g:Sem'} (hg:Sims g (sem T)) (args:List V):Sim (zj4 g args) (sem T zew args):=by
 unfold zj4;split
 ·exact zf9 zpa (Nat.le_of_ble_eq_true rfl) hg (zp2 g _)
 ·exact zaV
def zjB (G:Sem') (t0 t1:V):M Res :=
 (G zbG [t0,t0]).bind fun t12 =>
 (M.lift (Ax.ext 0 t12)).bind fun t13 =>
 (M.lift (Ax.ext 1 t12)).bind fun t14 =>
 (G zbG [t14,t0]).bind fun t18 =>
 (M.lift (Ax.ext 0 t18)).bind fun t19 =>
 (M.lift (Ax.ext 1 t18)).bind fun t20 =>
 (M.lift (Ax.bin .mul t13 t0)).bind fun t24 =>
 (M.lift (Ax.bin .add t19 t24)).bind fun t25 =>
 (M.lift (Ax.bin .shl t1 (V.int .u64 32))).bind fun t28 =>
 (M.lift (Ax.bin .lss t25 t28)).bind fun t29 =>
 (guarded [(0,t29)] (some (0,false)) (M.pure t25)).bind fun t31 =>
 (guarded [(0,t29)] (some (0,false)) (M.pure t1)).bind fun t32 =>
 (guarded [(0,t29)] (some (0,false)) (M.lift (Ax.bin .shl t32 (V.int .u64 32)))).bind fun t33 =>
 (guarded [(0,t29)] (some (0,false)) (M.lift (Ax.bin .eql t31 t33))).bind fun t34 =>
 (guarded [(0,t29)] (some (0,false)) (M.pure t34)).bind fun t35 =>
 (guarded [(0,t35)] (some (0,true)) (M.pure t20)).bind fun t36 =>
 (guarded [(0,t35)] (some (0,true)) (M.lift (Ax.bin .eql t36 (V.int .u64 0)))).bind fun t37 =>
 (guarded [(0,t29)] (some (0,false)) (M.lift (Ax.pick t35 t37 (V.bool false)))).bind fun t38 =>
 (M.lift (Ax.pick t29 (V.bool true) t38)).bind fun t39 =>
 M.pure (.ret [t39])
theorem zm3 (G:Sem') (t0 t1:V):execK G zgj.rv zgj.body [] [] (params 0 [t0,t1]) = zjB G t0 t1:=by kernel_rfl
def zg6 (G:Sem'):List V → M V
 | [t0,t1]=>fin (zjB G t0 t1)
 | _=>M.fail
theorem znu {g:Sem'} (hg:Sims g (sem T)) (args:List V):Sim (zg6 g args) (sem T zcx args):=by
 unfold zg6;split
 ·exact zf9 zmf (Nat.le_of_ble_eq_true rfl) hg (zm3 g _ _)
 ·exact zaV
def ziT (G:Sem') (t0:V):M Res :=
 M.fail
theorem zlS (G:Sem') (t0:V):execK G zfF.rv zfF.body [] [] (params 0 [t0]) = ziT G t0:=by kernel_rfl
def zgz (G:Sem'):List V → M V
 | [t0]=>fin (ziT G t0)
 | _=>M.fail
theorem zml {g:Sem'} (hg:Sims g (sem T)) (args:List V):Sim (zgz g args) (sem T zcI args):=by
 unfold zgz;split
 ·exact zf9 zlN (Nat.le_of_ble_eq_true rfl) hg (zlS g _)
 ·exact zaV
def zmT (G:Sem') (t0:V):M Res :=
 M.blk 0 (
 (M.lift (Ax.bin .eql t0 (V.lit (.float .f64 0)))).bind fun t10 =>
 (guarded [(0,t10)] (some (0,false)) (M.pure t0)).bind fun t12 =>
 (guarded [(0,t10)] (some (0,false)) (G zd1 [t12])).bind fun t13 =>
 (M.lift (Ax.pick t10 (V.bool true) t13)).bind fun t14 =>
 (guarded [(0,t14)] (some (0,false)) (M.pure t0)).bind fun t16 =>
 (guarded [(0,t14)] (some (0,false)) (G zd2 [t16,(V.int .i64 0)])).bind fun t17 =>
 (M.lift (Ax.pick t14 (V.bool true) t17)).bind fun t18 =>
 M.ite t18
 (M.pure (.ret [t0]))
 (M.pure (.nrm []))) fun _ =>
 (M.lift (Ax.bin .lss t0 (V.lit (.float .f64 0)))).bind fun t21 =>
 M.join (M.ite t21
 ((M.lift (Ax.un .neg t0)).bind fun t23 =>
 M.pure (.nrm [t23,(V.bool true)]))
 (M.pure (.nrm [t0,(V.bool false)]))) fun L1 =>
 (M.lift (Ax.op1 .fbits (L1.getD 0 .undef))).bind fun t25 =>
 (M.lift (Ax.bin .quo t25 (V.int .u64 3))).bind fun t26 =>
 (M.lift (Ax.bin .add t26 (V.int .u64 3071306043645493248))).bind fun t27 =>
 (M.lift (Ax.op1 .ffrom t27)).bind fun t28 =>
 (M.lift (Ax.bin .lss (L1.getD 0 .undef) (V.lit (.float .f64 4503599627370496)))).bind fun t30 =>
 M.join (M.ite t30
 ((M.lift (Ax.bin .mul (V.lit (.float .f64 4850376798678024192)) (L1.getD 0 .undef))).bind fun t33 =>
 (M.lift (Ax.op1 .fbits t33)).bind fun t35 =>
 (M.lift (Ax.bin .quo t35 (V.int .u64 3))).bind fun t36 =>
 (M.lift (Ax.bin .add t36 (V.int .u64 2990241250352824320))).bind fun t37 =>
 (M.lift (Ax.op1 .ffrom t37)).bind fun t38 =>
 M.pure (.nrm [t38]))
 (M.pure (.nrm [t28]))) fun L2 =>
 (M.lift (Ax.bin .mul (L2.getD 0 .undef) (L2.getD 0 .undef))).bind fun t41 =>
 (M.lift (Ax.bin .quo t41 (L1.getD 0 .undef))).bind fun t43 =>
 (M.lift (Ax.bin .mul t43 (L2.getD 0 .undef))).bind fun t46 =>
 (M.lift (Ax.bin .add (V.lit (.float .f64 4603064841997850097)) t46)).bind fun t47 =>
 (M.lift (Ax.bin .add t47 (V.lit (.float .f64 4609048195788499471)))).bind fun t50 =>
 (M.lift (Ax.bin .quo (V.lit (.float .f64 13827900089180538932)) t47)).bind fun t52 =>
 (M.lift (Ax.bin .add t50 t52)).bind fun t53 =>
 (M.lift (Ax.bin .quo (V.lit (.float .f64 4609916747145206638)) t53)).bind fun t54 =>
 (M.lift (Ax.bin .add (V.lit (.float .f64 4600105333671292343)) t54)).bind fun t55 =>
 (M.lift (Ax.bin .mul (L2.getD 0 .undef) t55)).bind fun t56 =>
 (M.lift (Ax.op1 .fbits t56)).bind fun t58 =>
 (M.lift (Ax.bin .and t58 (V.int .u64 18446744072635809792))).bind fun t59 =>
 (M.lift (Ax.bin .add t59 (V.int .u64 1073741824))).bind fun t60 =>
 (M.lift (Ax.op1 .ffrom t60)).bind fun t61 =>
 (M.lift (Ax.bin .mul t61 t61)).bind fun t64 =>
 (M.lift (Ax.bin .quo (L1.getD 0 .undef) t64)).bind fun t67 =>
 (M.lift (Ax.bin .add t61 t61)).bind fun t70 =>
 (M.lift (Ax.bin .sub t67 t61)).bind fun t73 =>
 (M.lift (Ax.bin .add t70 t67)).bind fun t76 =>
 (M.lift (Ax.bin .quo t73 t76)).bind fun t77 =>
 (M.lift (Ax.bin .mul t61 t77)).bind fun t81 =>
 (M.lift (Ax.bin .add t61 t81)).bind fun t82 =>
 M.join (M.ite (L1.getD 1 .undef)
 ((M.lift (Ax.un .neg t82)).bind fun t85 =>
 M.pure (.nrm [t85]))
 (M.pure (.nrm [t82]))) fun L3 =>
 M.pure (.ret [(L3.getD 0 .undef)])
theorem zp1 (G:Sem') (t0:V):execK G ziJ.rv ziJ.body [] [] (params 0 [t0]) = zmT G t0:=by kernel_rfl
def zj3 (G:Sem'):List V → M V
 | [t0]=>fin (zmT G t0)
 | _=>M.fail
theorem zqr {g:Sem'} (hg:Sims g (sem T)) (args:List V):Sim (zj3 g args) (sem T zev args):=by
 unfold zj3;split
 ·exact zf9 zo9 (Nat.le_of_ble_eq_true rfl) hg (zp1 g _)
 ·exact zaV
def zhq (G:Sem') (t0 t1:V):M Res :=
 (M.lift (Ax.bin .and t0 (V.int .u64 4294967295))).bind fun t15 =>
 (M.lift (Ax.bin .shr t0 (V.int .u64 32))).bind fun t17 =>
 (M.lift (Ax.bin .and t1 (V.int .u64 4294967295))).bind fun t19 =>
 (M.lift (Ax.bin .shr t1 (V.int .u64 32))).bind fun t21 =>
 (M.lift (Ax.bin .mul t15 t19)).bind fun t24 =>
 (M.lift (Ax.bin .mul t17 t19)).bind fun t27 =>
 (M.lift (Ax.bin .shr t24 (V.int .u64 32))).bind fun t29 =>
 (M.lift (Ax.bin .add t27 t29)).bind fun t30 =>
 (M.lift (Ax.bin .and t30 (V.int .u64 4294967295))).bind fun t32 =>
 (M.lift (Ax.bin .shr t30 (V.int .u64 32))).bind fun t34 =>
 (M.lift (Ax.bin .mul t15 t21)).bind fun t38 =>
 (M.lift (Ax.bin .add t32 t38)).bind fun t39 =>
 (M.lift (Ax.bin .mul t17 t21)).bind fun t42 =>
 (M.lift (Ax.bin .add t42 t34)).bind fun t44 =>
 (M.lift (Ax.bin .shr t39 (V.int .u64 32))).bind fun t46 =>
 (M.lift (Ax.bin .add t44 t46)).bind fun t47 =>
 (M.lift (Ax.bin .mul t0 t1)).bind fun t50 =>
 M.pure (.ret [t47,t50])
theorem zkR (G:Sem') (t0 t1:V):execK G zeG.rv zeG.body [] [] (params 0 [t0,t1]) = zhq G t0 t1:=by kernel_rfl
def zfe (G:Sem'):List V → M V
 | [t0,t1]=>fin (zhq G t0 t1)
 | _=>M.fail
theorem zk1 {g:Sem'} (hg:Sims g (sem T)) (args:List V):Sim (zfe g args) (sem T zbG args):=by
 unfold zfe;split
 ·exact zf9 zkb (Nat.le_of_ble_eq_true rfl) hg (zkR g _ _)
 ·exact zaV
def zlD (G:Sem') (t0:V):M Res :=
 (M.lift (Ax.bin .neq t0 t0)).bind fun t5 =>
 M.pure (.ret [t5])
theorem zoU (G:Sem') (t0:V):execK G zhM.rv zhM.body [] [] (params 0 [t0]) = zlD G t0:=by kernel_rfl
def ziY (G:Sem'):List V → M V
 | [t0]=>fin (zlD G t0)
 | _=>M.fail
theorem zpk {g:Sem'} (hg:Sims g (sem T)) (args:List V):Sim (ziY g args) (sem T zd1 args):=by
 unfold ziY;split
 ·exact zf9 zoi (Nat.le_of_ble_eq_true rfl) hg (zoU g _)
 ·exact zaV
def zlE (G:Sem') (t0 t1:V):M Res :=
 (M.lift (Ax.bin .eql t1 (V.int .i64 0))).bind fun t6 =>
 M.join (M.ite t6
 ((G zfa [t0]).bind fun t8 =>
 M.pure (.nrm [t8]))
 ((M.lift (Ax.bin .lss t1 (V.int .i64 0))).bind fun t10 =>
 M.join (M.ite t10
 ((M.lift (Ax.un .neg t0)).bind fun t12 =>
 M.pure (.nrm [t12]))
 (M.pure (.nrm [t0]))) fun L0 =>
 M.pure (.nrm [(L0.getD 0 .undef)]))) fun L1 =>
 (M.lift (Ax.bin .gtr (L1.getD 0 .undef) (V.lit (.float .f64 9218868437227405311)))).bind fun t14 =>
 M.pure (.ret [t14])
theorem zoV (G:Sem') (t0 t1:V):execK G zhN.rv zhN.body [] [] (params 0 [t0,t1]) = zlE G t0 t1:=by kernel_rfl
def ziZ (G:Sem'):List V → M V
 | [t0,t1]=>fin (zlE G t0 t1)
 | _=>M.fail
theorem zpl {g:Sem'} (hg:Sims g (sem T)) (args:List V):Sim (ziZ g args) (sem T zd2 args):=by
 unfold ziZ;split
 ·exact zf9 zoj (Nat.le_of_ble_eq_true rfl) hg (zoV g _ _)
 ·exact zaV
def zn5 (G:Sem') (t0:V):M Res :=
 (M.lift (Ax.op1 .fbits t0)).bind fun t4 =>
 (M.lift (Ax.bin .andNot t4 (V.int .u64 9223372036854775808))).bind fun t5 =>
 (M.lift (Ax.op1 .ffrom t5)).bind fun t6 =>
 M.pure (.ret [t6])
theorem zq1 (G:Sem') (t0:V):execK G zjW.rv zjW.body [] [] (params 0 [t0]) = zn5 G t0:=by kernel_rfl
def zlg (G:Sem'):List V → M V
 | [t0]=>fin (zn5 G t0)
 | _=>M.fail
theorem zsA {g:Sem'} (hg:Sims g (sem T)) (args:List V):Sim (zlg g args) (sem T zfa args):=by
 unfold zlg;split
 ·exact zf9 zqm (Nat.le_of_ble_eq_true rfl) hg (zq1 g _)
 ·exact zaV
def disp (G:Sem') (f:FuncId) (args:List V):M V :=
 if f < 136 then (if f < 106 then (if f < 86 then (if f = zax then zdZ G args else M.fail) else (if f < 105 then (if f = zbk then zhW G args else M.fail) else (if f = zcq then zhX G args else M.fail))) else (if f < 129 then (if f < 116 then (if f = zcp then zj5 G args else M.fail) else (if f = za4 then zdn G args else M.fail)) else (if f < 130 then (if f = zbX then zg5 G args else M.fail) else (if f = zco then zhV G args else M.fail)))) else (if f < 148 then (if f < 146 then (if f < 137 then (if f = zew then zj4 G args else M.fail) else (if f = zcx then zg6 G args else M.fail)) else (if f < 147 then (if f = zcI then zgz G args else M.fail) else (if f = zev then zj3 G args else M.fail))) else (if f < 157 then (if f < 156 then (if f = zbG then zfe G args else M.fail) else (if f = zd1 then ziY G args else M.fail)) else (if f < 160 then (if f = zd2 then ziZ G args else M.fail) else (if f = zfa then zlg G args else M.fail))))
theorem ztO {g:Sem'} (hg:Sims g (sem T)):Sims (disp g) (sem T):=fun f args =>
 (zcM (fun _=>(zcM (fun _=>(zcM (fun _=>(zcM (fun e=>e ▸ zil hg args) zaV)) (zcM (fun _=>(zcM (fun e=>e ▸ zoq hg args) zaV)) (zcM (fun e=>e ▸ zor hg args) zaV)))) (zcM (fun _=>(zcM (fun _=>(zcM (fun e=>e ▸ zqt hg args) zaV)) (zcM (fun e=>e ▸ zhC hg args) zaV))) (zcM (fun _=>(zcM (fun e=>e ▸ znt hg args) zaV)) (zcM (fun e=>e ▸ zop hg args) zaV))))) (zcM (fun _=>(zcM (fun _=>(zcM (fun _=>(zcM (fun e=>e ▸ zqs hg args) zaV)) (zcM (fun e=>e ▸ znu hg args) zaV))) (zcM (fun _=>(zcM (fun e=>e ▸ zml hg args) zaV)) (zcM (fun e=>e ▸ zqr hg args) zaV)))) (zcM (fun _=>(zcM (fun _=>(zcM (fun e=>e ▸ zk1 hg args) zaV)) (zcM (fun e=>e ▸ zpk hg args) zaV))) (zcM (fun _=>(zcM (fun e=>e ▸ zpl hg args) zaV)) (zcM (fun e=>e ▸ zsA hg args) zaV)))))
def cs:Nat → Sem'
 | 0=>fun _ _=>M.fail
 | n + 1=>disp (cs n)
theorem sims_cs:∀ n,Sims (cs n) (sem T)
 | 0=>fun _ _=>zaV
 | n + 1=>ztO (sims_cs n)
end Go.Ax.Cp
/- Su7 -/
namespace Go.Ax.SU
open Go.Ax
theorem callv_fn {G:Sem'} {f:FuncId} {caps:List V}:callv G (.fn f caps) [] = G f caps:=rfl
theorem zpz {H:Heap} {c off:Nat} {b:Blk} {g:V} (hg:H.get c = some b) (h0:b.cells[off]? = some (.int .u32 1)):Ok (sem T zda [.ptr c off,g]) H fun r H'=>r = .tup [] ∧ H' = H:=by
 refine zis ?_;unfold zg1 uM uF uB;simp (maxSteps:=1000000) (disch:=first | omega | (simp only [RY] <;> omega) | decide) only [↓RD,RZ,eq_self,Int.reduceToNat,Int.reduceAdd,Int.reduceSub,Int.reduceMul,Nat.reduceAdd,Nat.reduceSub,Nat.reduceMul,Nat.reduceDiv,Nat.reduceMod,Nat.reduceBEq,Nat.reduceLeDiff,hg,h0];rfl
theorem zpy {H:Heap} {c off ty:Nat} {cells:List V} {o:Option Nat} {f:FuncId} {caps:List V} {P:Heap → Prop} (hg:H.get c = some ⟨ty,cells,o⟩) (h0:cells[off]? = some (.int .u32 0)) (h1:cells[off + 1]? = some (.int .i32 0))
  (hf:Ok (sem T f caps) (H.set c (some ⟨ty,splice cells (off + 1) [.int .i32 1],o⟩)) fun _ H2=>∃ cells2,H2.get c = some ⟨ty,cells2,o⟩ ∧ cells2[off]? = some (.int .u32 0) ∧ cells2[off + 1]? = some (.int .i32 1) ∧
   P ((H2.set c (some ⟨ty,splice cells2 off [.int .u32 1],o⟩)).set c (some ⟨ty,splice (splice cells2 off [.int .u32 1]) (off + 1) [.int .i32 0],o⟩))):Ok (sem T zda [.ptr c off,.fn f caps]) H fun r H'=>r = .tup [] ∧ P H':=by
 have hl:off + 1 < cells.length:=(List.getElem?_eq_some_iff.1 h1).1;refine zis ?_;unfold zg1 uM uF uB;simp (maxSteps:=1000000) (disch:=first | omega | (simp only [RY] <;> omega) | decide) only [↓RD,RZ,eq_self,Int.reduceToNat,Int.reduceAdd,Int.reduceSub,Int.reduceMul,Nat.reduceAdd,Nat.reduceSub,Nat.reduceMul,Nat.reduceDiv,Nat.reduceMod,Nat.reduceBEq,Nat.reduceLeDiff,hg,h0,h1,callv_fn];refine ⟨by omega,zag hf ?_⟩;rintro _ H2 ⟨cells2,g2,k0,k1,hP⟩;have hl2:off + 1 < cells2.length:=(List.getElem?_eq_some_iff.1 k1).1;have hl3:(splice cells2 off [.int .u32 1]).length = cells2.length:=zeB _ _ _ (by simpa using (by omega:off + 1 ≤ cells2.length));simp (maxSteps:=1000000) (disch:=first | omega | (simp only [RY] <;> omega) | decide) only [↓RD,RZ,eq_self,Int.reduceToNat,Int.reduceAdd,Int.reduceSub,Int.reduceMul,Nat.reduceAdd,Nat.reduceSub,Nat.reduceMul,Nat.reduceDiv,Nat.reduceMod,Nat.reduceBEq,Nat.reduceLeDiff,g2,k0,k1,hl3];exact ⟨by omega,by omega,rfl,hP⟩
theorem zj6 {n:Nat} {f:FuncId} {args:List V} {v:V} (h:Cp.cs n f args = some v):sem T f args = M.pure v:=funext fun H=>Cp.sims_cs n f args H v h
/-! Primes and roots,computed. -/
def pchk (n:Nat):Bool:=match Cp.cs 3 zbX [.int .i64 n] with
 | some (.bool b)=>b == primes.contains n
 | _=>false
theorem zt1:(List.range 312).all pchk = true:=by kernel_rfl
theorem prime_eq {n:Nat} (h:n < 312):sem T zbX [.int .i64 n] = M.pure (.bool (primes.contains n)):=by
 have h1:=List.all_eq_true.1 zt1 n (List.mem_range.2 h);unfold pchk at h1;split at h1
 ·rename_i b hb;rw [zj6 hb];simp only [beq_iff_eq] at h1;rw [h1]
 ·cases h1
def rchk (i:Nat):Bool:=match Cp.cs 9 zco [.int .u64 (prv (i + 1))] with
 | some (.int .u32 k)=>k == ((kc.getD i 0).toNat:Int)
 | _=>false
theorem root_all:(List.range 64).all rchk = true:=by kernel_rfl
theorem root_eq {i:Nat} (h:i < 64):sem T zco [.int .u64 (prv (i + 1))] = M.pure (w32 (kc.getD i 0)):=by
 have h1:=List.all_eq_true.1 root_all i (List.mem_range.2 h);unfold rchk at h1;split at h1
 ·rename_i b hb;rw [zj6 hb];simp only [beq_iff_eq] at h1;rw [h1]; rfl
 ·cases h1
end Go.Ax.SU
/- Su8 -/
namespace Go.Ax.SU
open Go.Ax
theorem wg {ws:List UInt32} {i:Nat} (h:i < ws.length):(ws.map w32)[i]? = some (w32 (ws.getD i 0)):=by
 rw [List.getElem?_map,List.getElem?_eq_getElem h,List.getD_eq_getElem?_getD,List.getElem?_eq_getElem h]; rfl
theorem wga {ws:List UInt32} {r:List V} {i:Nat} (h:i < ws.length):(ws.map w32 ++ r)[i]? = some (w32 (ws.getD i 0)):=by
 rw [List.getElem?_append_left (by rw [List.length_map]; exact h),wg h]
theorem set_next {l:List V} {n k:Nat} {z x:V} (hl:l.length = k) (h:k < n):(l ++ List.replicate (n - k) z).set k x = (l ++ [x]) ++ List.replicate (n - (k + 1)) z:=by
 rw [List.set_append_right _ _ (by omega),hl,Nat.sub_self,show n - k = (n - (k + 1)) + 1 by omega,List.replicate_succ,List.set_cons_zero,List.append_assoc];rfl
theorem zaZ {l:List V} {n k:Nat} {z x:V} (hl:l.length = k) (h:k < n):splice (l ++ List.replicate (n - k) z) k [x] = (l ++ [x]) ++ List.replicate (n - (k + 1)) z:=by
 rw [zlq _ _ _ (by rw [List.length_append,List.length_replicate]; omega),set_next hl h]
theorem zjJ (y:V) (l:List V) (k:Nat) (xs:List V):splice (y :: l) (k + 1) xs = y :: splice l k xs:=by
 unfold splice;rw [List.take_succ_cons,show k + 1 + xs.length = (k + xs.length) + 1 by omega,List.drop_succ_cons]; rfl
theorem At1.step {k:Nat} {H H':Heap} (h:At1 k H H') {F:List Nat} (hk:k ∈ F):Step H H' F F:=⟨h.next,fun i hi hF=>h.same i hi fun e=>hF (e ▸ hk),fun i hi=>.inl hi⟩
theorem kc_take {k:Nat} (h:k < 64):(kc.take k).map w32 ++ [w32 (kc.getD k 0)] = (kc.take (k + 1)).map w32:=by
 have hl:=zlz;rw [List.take_add_one,List.getElem?_eq_getElem (by omega),List.getD_eq_getElem?_getD,List.getElem?_eq_getElem (by omega)];simp only [List.map_append,Option.toList_some,List.map_cons,List.map_nil,Option.getD_some]
theorem all_1_ok {H:Heap} {b c:Nat} {x0 x1 x2:V} (hb:H.get b = some ⟨zbh,[.ptr c 0],none⟩) (hc:H.get c = some ⟨zaH,x0 :: x1 :: x2 :: List.replicate 64 (.int .u32 0),none⟩) (hbc:b ≠ c) (hbl:b < H.next) :
  Ok (sem T zcE [.ptr b 0]) H fun _ H'=>H'.get c = some ⟨zaH,x0 :: x1 :: x2 :: kc.map w32,none⟩ ∧ At1 c H H':=by
 refine zie ?_;unfold zfy uc;simp (disch:=omega) only [↓RD,RZ,eq_self,seval];refine zaE (fun k L H'=>L = [.int .i64 (prv k:Nat),.int .i64 (k:Nat)] ∧ H'.get c = some ⟨zaH,x0 :: x1 :: x2 :: ((kc.take k).map w32 ++ List.replicate (64 - k) (.int .u32 0)),none⟩ ∧ At1 c H H') 64 ?_ ?_ ?_
 ·exact ⟨rfl,by simpa using hc,At1.refl _ _⟩
 ·rintro k L H1 hk ⟨rfl,g1,s1⟩;obtain ⟨p1,p2,p3,p4⟩:=zt0 hk;have hb1:H1.get b = _:=(s1.same b hbl hbc).trans hb;unfold zdm uL uM uT uNF uB uI uU uc ug;simp (disch:=omega) only [↓RD,RZ,eq_self,seval];refine zas (Q:=fun r H'=>r = Res.ex 2 [.int .i64 (prv (k + 1):Nat)] ∧ H' = H1) ?_ ?_
  ·refine ok_while (fun L H' m=>∃ n:Nat,L = [.int .i64 (n:Nat)] ∧ prv k < n ∧ n ≤ prv (k + 1) ∧ m = prv (k + 1) - n ∧ H' = H1) (prv (k + 1) - (prv k + 1)) ⟨prv k + 1,by simp,by omega,by omega,rfl,rfl⟩ ?_;rintro L H2 m ⟨n,rfl,n1,n2,rfl,rfl⟩;have e:=prime_eq (n:=n) (by omega);unfold zeR uL uB uc ug;cases hp:primes.contains n with
   | true =>
    have:n = prv (k + 1):=by
     rcases Nat.lt_or_ge n (prv (k + 1)) with h | h
     ·rw [p4 n n1 h] at hp; cases hp
     ·omega
    subst this;simp (disch:=omega) only [↓RD,RZ,eq_self,seval,e,hp]
   | false =>
    have:n ≠ prv (k + 1):=by
     rintro rfl;rw [p2] at hp; cases hp
    simp (disch:=omega) only [↓RD,RZ,eq_self,seval,e,hp];exact ⟨prv (k + 1) - (n + 1),by omega,n + 1,rfl,by omega,by omega,rfl⟩
  ·rintro r H2 ⟨rfl,rfl⟩;have er:=root_eq hk;have hl:(((kc.take k).map w32)).length = k:=by rw [List.length_map,List.length_take,zlz]; omega
   have e3:3 + k = k + 1 + 1 + 1:=by omega
   simp (disch:=omega) only [↓RD,RZ,eq_self,seval,hb1,er,g1,e3,zjJ,zaZ hl hk,w_ok,zhz];exact ⟨by rw [List.length_append,List.length_replicate,hl]; omega,rfl,by rw [kc_take hk],s1.trans (At1.set c _ _)⟩
 ·rintro L H1 ⟨rfl,g1,s1⟩;unfold zdm uL uM uT uNF uB uI uU uc ug;simp (disch:=omega) only [↓RD,RZ,eq_self,seval];refine ⟨?_,s1⟩;rw [g1,List.take_of_length_le (by rw [zlz]; exact Nat.le_refl _)];simp
def conC:Bool → List V
 | false=>.int .u32 0 :: .int .i32 0 :: .int .u32 0 :: List.replicate 64 (.int .u32 0)
 | true=>.int .u32 1 :: .int .i32 0 :: .int .u32 0 :: kc.map w32
theorem zvr {H:Heap} {c:Nat} {d:Bool} (hc:H.get c = some ⟨zaH,conC d,none⟩) (hcl:c < H.next) :
  Ok (sem T zc7 [.ptr c 0]) H fun r H'=>r = .ptr c 3 ∧ H'.get c = some ⟨zaH,conC true,none⟩ ∧ Step H H' [c] [c]:=by
 refine zjl ?_;unfold zgv uM uNF uO;simp (disch:=omega) only [↓RD,RZ,eq_self,seval];have s1:=Grow.new H ⟨zbh,[.ptr c 0],none⟩;have gb:(H.new ⟨zbh,[.ptr c 0],none⟩).get H.next = _:=zab _ _;have gc:=(s1.same c hcl).trans hc;have nb:H.next < (H.new ⟨zbh,[.ptr c 0],none⟩).next:=by rw [zaf]; omega
 have hne:H.next ≠ c:=by omega
 have n1:=s1.next;generalize hgb:H.next = b at *;generalize H.new _ = H1 at *;refine zag (P:=fun r H'=>H'.get b = some ⟨zbh,[.ptr c 0],none⟩ ∧ H'.get c = some ⟨zaH,conC true,none⟩ ∧ At1 c H1 H') ?_ ?_
 ·cases d with
  | true =>
   refine zas (zpz gc rfl) ?_;rintro _ _ ⟨rfl,rfl⟩;exact ⟨gb,gc,At1.refl _ _⟩
  | false =>
   refine zas (zpy (P:=fun H'=>H'.get b = some ⟨zbh,[.ptr c 0],none⟩ ∧ H'.get c = some ⟨zaH,conC true,none⟩ ∧ At1 c H1 H') gc rfl rfl ?_) ?_
   ·refine zas (all_1_ok (c:=c) (by rw [zai _ _ hne]; exact gb) (by rw [zal]; rfl) hne (by rw [zan]; exact nb)) ?_;rintro _ H2 ⟨g2,s2⟩;have hb2:H2.get b = some ⟨zbh,[.ptr c 0],none⟩:=by rw [s2.same b (by rw [zan]; exact nb) hne,zai _ _ hne]; exact gb
    refine ⟨_,g2,rfl,rfl,?_,?_,?_⟩
    ·rw [zai _ _ hne,zai _ _ hne,hb2]
    ·rw [zal]; rfl
    ·exact (At1.set c H1 _).trans (s2.trans ((At1.set c H2 _).trans (At1.set c _ _)))
   ·rintro _ H2 ⟨_,h2⟩;exact h2
 ·rintro r H2 ⟨g1,g2,s2⟩;simp (disch:=omega) only [↓RD,RZ,eq_self,seval,g1];exact ⟨g2,⟨Nat.le_trans (by omega) s2.next,fun i hi hF=>by rw [s2.same i (by omega) (by simpa using hF),s1.same i (by omega)],fun i hi=>.inl hi⟩⟩
/-! Words. -/
theorem zgU (x:UInt32) (n:Nat) (h0:0 < n) (h1:n < 32):sem T zaD [w32 x,.int .i64 (n:Nat)] = M.pure (w32 (rotr x n)):=by
 refine zdv fun H=>?_;refine znE ?_;unfold zkL uL;have e1:IntKind.i64.wrap (0 - (n:Int)) = -(n:Int):=by rw [wrap_i64 (by omega) (by omega)]; omega
 have e2:IntKind.u64.wrap (-(n:Int)) = ((18446744073709551616 - n:Nat):Int):=by rw [wrap_u64]; omega
 have e3:Ax.bin .and (.int .u64 ((18446744073709551616 - n:Nat):Int)) (.int .u64 31) = some (.int .u64 ((32 - n:Nat):Int)):=by
  rw [zvJ (by omega) (by omega) (by omega) (by omega)];congr 3;rw [Int.toNat_natCast];show (18446744073709551616 - n) &&& (2 ^ 5 - 1) = 32 - n;rw [Nat.and_two_pow_sub_one_eq_mod];omega
 have e4:Ax.bin .sub (.int .u64 32) (.int .u64 ((32 - n:Nat):Int)) = some (.int .u64 (n:Nat)):=by
  rw [zrc,wrap_u64];congr 2;omega
 have e5:=w_rot x (k:=.u64) (k':=.u64) (n:=n) (a:=((32 - n:Nat):Int)) (b:=(n:Nat)) rfl rfl;have e6:Ok (sem T zbQ [w32 x,.int .i64 (-(n:Int))]) H fun r H'=>r = w32 (rotr x n) ∧ H' = H:=by
  refine zgY ?_;unfold zez uL uB uq;obtain ⟨u,hu,hu2⟩:=Option.bind_eq_some_iff.1 e5;obtain ⟨v,hv,hv2⟩:=Option.bind_eq_some_iff.1 hu2;simp (disch:=omega) only [↓RD,RZ,eq_self,seval,e2,e3,hu,e4,hv,hv2]
 simp (disch:=omega) only [↓RD,RZ,eq_self,seval,e1];exact zag e6 (by rintro _ _ ⟨rfl,rfl⟩; simp (disch:=omega) only [↓RD,RZ,eq_self,seval])
theorem zjo (a b k:Nat) (h:b < 2 ^ k):a * 2 ^ k ||| b = a * 2 ^ k + b:=by
 have:=Nat.shiftLeft_add_eq_or_of_lt (i:=k) (b:=b) h a;rw [Nat.shiftLeft_eq] at this;exact this.symm
theorem word_ok {lo:Nat} {H:Heap} {v:V} {l:List Nat} (h:By lo H v l) (h8:Ok8 l) (hl:4 ≤ l.length):Ok (sem T zfl [v]) H fun r H'=>r = w32 (word l 0) ∧ H' = H:=by
 refine znD ?_;unfold zkK uL uB uIM uc uq;obtain ⟨p0,i0,l0,-⟩:=zfL h (i:=0) (by omega) (by omega);obtain ⟨p1,i1,l1,-⟩:=zfL h (i:=1) (by omega) (by omega);obtain ⟨p2,i2,l2,-⟩:=zfL h (i:=2) (by omega) (by omega);obtain ⟨p3,i3,l3,-⟩:=zfL h (i:=3) (by omega) (by omega);have b0:=h8.getD 0;have b1:=h8.getD 1;have b2:=h8.getD 2;have b3:=h8.getD 3;have e0:(0:Int).toNat = 0:=rfl;have e1:(1:Int).toNat = 1:=rfl;have e2:(2:Int).toNat = 2:=rfl;have e3:(3:Int).toNat = 3:=rfl;rw [e0] at l0;rw [e1] at l1;rw [e2] at l2;rw [e3] at l3;have hw:word l 0 = UInt32.ofNat (be [l.getD 0 0,l.getD 1 0,l.getD 2 0,l.getD 3 0]):=rfl;rw [hw,← w_nat _ (by simp only [be,List.foldl_cons,List.foldl_nil]; omega)];have hb:be [l.getD 0 0,l.getD 1 0,l.getD 2 0,l.getD 3 0] = l.getD 0 0 * 16777216 + l.getD 1 0 * 65536 + l.getD 2 0 * 256 + l.getD 3 0:=by simp only [be,List.foldl_cons,List.foldl_nil]; omega
 rw [hb];generalize l.getD 0 0 = a0 at *;generalize l.getD 1 0 = a1 at *;generalize l.getD 2 0 = a2 at *;generalize l.getD 3 0 = a3 at *;have m0:a0 * 16777216 % 4294967296 = a0 * 16777216:=Nat.mod_eq_of_lt (by omega);have m1:a1 * 65536 % 4294967296 = a1 * 65536:=Nat.mod_eq_of_lt (by omega);have m2:a2 * 256 % 4294967296 = a2 * 256:=Nat.mod_eq_of_lt (by omega);have o1:a0 * 16777216 ||| a1 * 65536 = a0 * 16777216 + a1 * 65536:=zjo a0 _ 24 (by omega);have o2:a0 * 16777216 + a1 * 65536 ||| a2 * 256 = a0 * 16777216 + a1 * 65536 + a2 * 256:=by
  have:=zjo (a0 * 256 + a1) (a2 * 256) 16 (by omega);rw [show (a0 * 256 + a1) * 2 ^ 16 = a0 * 16777216 + a1 * 65536 by omega] at this;exact this
 have o3:a0 * 16777216 + a1 * 65536 + a2 * 256 ||| a3 = a0 * 16777216 + a1 * 65536 + a2 * 256 + a3:=by
  have:=zjo (a0 * 65536 + a1 * 256 + a2) a3 8 (by omega);rw [show (a0 * 65536 + a1 * 256 + a2) * 2 ^ 8 = a0 * 16777216 + a1 * 65536 + a2 * 256 by omega] at this;exact this
 simp (disch:=omega) only [↓RD,RZ,eq_self,seval,i0,l0,i1,l1,i2,l2,i3,l3,m0,m1,m2,o1,o2,o3]
end Go.Ax.SU
/- Su9 -/
namespace Go.Ax.SU
open Go.Ax
theorem t7 (x:UInt32):sem T zaD [w32 x,.int .i64 7] = M.pure (w32 (rotr x 7)):=zgU x 7 (by omega) (by omega)
theorem t18 (x:UInt32):sem T zaD [w32 x,.int .i64 18] = M.pure (w32 (rotr x 18)):=zgU x 18 (by omega) (by omega)
theorem t17 (x:UInt32):sem T zaD [w32 x,.int .i64 17] = M.pure (w32 (rotr x 17)):=zgU x 17 (by omega) (by omega)
theorem t19 (x:UInt32):sem T zaD [w32 x,.int .i64 19] = M.pure (w32 (rotr x 19)):=zgU x 19 (by omega) (by omega)
theorem t6 (x:UInt32):sem T zaD [w32 x,.int .i64 6] = M.pure (w32 (rotr x 6)):=zgU x 6 (by omega) (by omega)
theorem t11 (x:UInt32):sem T zaD [w32 x,.int .i64 11] = M.pure (w32 (rotr x 11)):=zgU x 11 (by omega) (by omega)
theorem t25 (x:UInt32):sem T zaD [w32 x,.int .i64 25] = M.pure (w32 (rotr x 25)):=zgU x 25 (by omega) (by omega)
theorem t2 (x:UInt32):sem T zaD [w32 x,.int .i64 2] = M.pure (w32 (rotr x 2)):=zgU x 2 (by omega) (by omega)
theorem t13 (x:UInt32):sem T zaD [w32 x,.int .i64 13] = M.pure (w32 (rotr x 13)):=zgU x 13 (by omega) (by omega)
theorem t22 (x:UInt32):sem T zaD [w32 x,.int .i64 22] = M.pure (w32 (rotr x 22)):=zgU x 22 (by omega) (by omega)
theorem s3 (x:UInt32):Ax.bin .shr (w32 x) (.int .u64 3) = some (w32 (zjK x 3)):=zsu x (by omega)
theorem s10 (x:UInt32):Ax.bin .shr (w32 x) (.int .u64 10) = some (w32 (zjK x 10)):=zsu x (by omega)
theorem word_at (l:List Nat) (k:Nat) (n:Nat) (hn:4 ≤ n):word ((l.drop (4 * k)).take n) 0 = word l k:=by
 unfold word;congr 2;simp only [getD_take (show 4 * 0 < n by omega),getD_take (show 4 * 0 + 1 < n by omega),getD_take (show 4 * 0 + 2 < n by omega),getD_take (show 4 * 0 + 3 < n by omega),getD_drop];rfl
theorem zoe (l:List Nat) (k:Nat):wl l (k + 1) = wl l k ++ [if k < 16 then word l k else wnext (wl l k) k]:=rfl
theorem zt5 {lo wb:Nat} {H:Heap} {v:V} {l:List Nat} (hv:By lo H v l) (h8:Ok8 l) (hl:l.length = 64) (hw:H.get wb = some ⟨zau,List.replicate 64 (.int .u32 0),none⟩) (hp:v.pid ≠ some wb) (hwl:wb < H.next) :
  Ok (M.iter (zcn (sem T) v (.ptr wb 0)) [.int .i64 0]) H fun r H'=>r = .ex 0 [] ∧ H'.get wb = some ⟨zau,(wl l 64).map w32,none⟩ ∧ At1 wb H H':=by
 refine zaE (fun k L H'=>L = [.int .i64 (k:Nat)] ∧ H'.get wb = some ⟨zau,(wl l k).map w32 ++ List.replicate (64 - k) (.int .u32 0),none⟩ ∧ At1 wb H H') 64 ?_ ?_ ?_
 ·exact ⟨rfl,hw,At1.refl _ _⟩
 ·rintro k L H1 hk ⟨rfl,g1,s1⟩;have hv1:=hv.at1 s1 hp;have hln:(wl l k).length = k:=zo7 l k;have hlm:((wl l k).map w32).length = k:=by rw [List.length_map,hln]
  have hlr:((wl l k).map w32 ++ List.replicate (64 - k) (V.int .u32 0)).length = 64:=by rw [List.length_append,hlm,List.length_replicate]; omega
  unfold zcn uL uM uT uB uI uIM uU uc uq ug;by_cases h16:k < 16
  ·obtain ⟨v',hs,-,hs',hv',-⟩:=zbl hv1 (x:=((4 * k:Nat):Int)) (y:=(l.length:Nat)) (by omega) (by omega) (by omega);have hs2:∀ {k':IntKind},zaz .sl 1 v (some (.int k' ((4 * k:Nat):Int))) none none = some v':=hs' rfl;have e4:(4:Int) * (k:Int) = ((4 * k:Nat):Int):=by omega
   have hlen:((l.drop (4 * k)).take (l.length - 4 * k)).length = l.length - 4 * k:=by rw [List.length_take,List.length_drop]; omega
   have ew:=@zbM _ _ _ _ (word_ok hv' ((h8.drop _).take _) (by simp only [Int.toNat_natCast]; omega));simp only [Int.toNat_natCast] at ew;rw [word_at l k _ (by omega)] at ew;simp (disch:=omega) only [↓RD,RZ,eq_self,seval,e4,hs2,ew,g1,zaZ hlm hk,w_ok,zhz,hlr];refine ⟨by omega,rfl,?_,s1.trans (At1.set wb _ _)⟩;rw [zoe,if_pos h16];simp
  ·have w15:=wga (ws:=wl l k) (r:=List.replicate (64 - k) (V.int .u32 0)) (i:=k - 15) (by omega);have w2:=wga (ws:=wl l k) (r:=List.replicate (64 - k) (V.int .u32 0)) (i:=k - 2) (by omega);have w16:=wga (ws:=wl l k) (r:=List.replicate (64 - k) (V.int .u32 0)) (i:=k - 16) (by omega);have w7:=wga (ws:=wl l k) (r:=List.replicate (64 - k) (V.int .u32 0)) (i:=k - 7) (by omega);have e15:(k:Int) - 15 = ((k - 15:Nat):Int):=by omega
   have e2:(k:Int) - 2 = ((k - 2:Nat):Int):=by omega
   have e16:(k:Int) - 16 = ((k - 16:Nat):Int):=by omega
   have e7:(k:Int) - 7 = ((k - 7:Nat):Int):=by omega
   simp (disch:=omega) only [↓RD,RZ,eq_self,seval,e15,e2,e16,e7,w15,w2,w16,w7,t7,t18,t17,t19,s3,s10,zsv,w_xor,g1,zaZ hlm hk,w_ok,zhz,hlr];refine ⟨by omega,rfl,?_,s1.trans (At1.set wb _ _)⟩;rw [zoe,if_neg h16];simp [wnext,sg0,sg1]
 ·rintro L H1 ⟨rfl,g1,s1⟩;unfold zcn uL uM uT uB uI uIM uU uc uq ug;simp (disch:=omega) only [↓RD,RZ,eq_self,seval];refine ⟨?_,s1⟩;rw [g1];simp
theorem zt4 {c wb vb:Nat} {H:Heap} {l:List Nat} {h:List UInt32} {x0 x1 x2:V} (hh:h.length = 8) (hc:H.get c = some ⟨zaH,x0 :: x1 :: x2 :: kc.map w32,none⟩) (hw:H.get wb = some ⟨zau,(wl l 64).map w32,none⟩)
  (hb:H.get vb = some ⟨zap,h.map w32,none⟩) (h1:vb ≠ c) (h2:vb ≠ wb) (hcl:c < H.next) (hwl:wb < H.next) :
  Ok (M.iter (zcm (sem T) (.ptr c 3) (.ptr wb 0) (.ptr vb 0)) [.int .i64 0]) H fun r H'=>r = .ex 2 [] ∧ H'.get vb = some ⟨zap,(rnds kc (wl l 64) h 64).map w32,none⟩ ∧ At1 vb H H':=by
 refine zaE (fun k L H'=>L = [.int .i64 (k:Nat)] ∧ H'.get vb = some ⟨zap,(rnds kc (wl l 64) h k).map w32,none⟩ ∧ At1 vb H H') 64 ?_ ?_ ?_
 ·exact ⟨rfl,hb,At1.refl _ _⟩
 ·rintro k L H1 hk ⟨rfl,g1,s1⟩;have gc:=(s1.same c hcl (Ne.symm h1)).trans hc;have gw:=(s1.same wb hwl (Ne.symm h2)).trans hw;have hl8:(rnds kc (wl l 64) h k).length = 8:=zlV hh k;have hlm:((rnds kc (wl l 64) h k).map w32).length = 8:=by rw [List.length_map,hl8]
  have v0:=wg (ws:=rnds kc (wl l 64) h k) (i:=0) (by omega);have v1:=wg (ws:=rnds kc (wl l 64) h k) (i:=1) (by omega);have v2:=wg (ws:=rnds kc (wl l 64) h k) (i:=2) (by omega);have v3:=wg (ws:=rnds kc (wl l 64) h k) (i:=3) (by omega);have v4:=wg (ws:=rnds kc (wl l 64) h k) (i:=4) (by omega);have v5:=wg (ws:=rnds kc (wl l 64) h k) (i:=5) (by omega);have v6:=wg (ws:=rnds kc (wl l 64) h k) (i:=6) (by omega);have v7:=wg (ws:=rnds kc (wl l 64) h k) (i:=7) (by omega);have wk:=wg (ws:=wl l 64) (i:=k) (by rw [zo7]; exact hk);have kk:=wg (ws:=kc) (i:=k) (by rw [zlz]; exact hk);have e3:3 + k = k + 1 + 1 + 1:=by omega
  have hsp:∀ (L:List V),L.length = 8 → splice ((rnds kc (wl l 64) h k).map w32) 0 L = L:=fun L hL=>by
   unfold splice;rw [List.take_zero,List.nil_append,hL,List.drop_of_length_le (by rw [hlm]; omega),List.append_nil]
  unfold zcm uL uM uT uN uB uI uIM uU uc ug;have er:rnds kc (wl l 64) h (k + 1) = rnd (rnds kc (wl l 64) h k) (kc.getD k 0) ((wl l 64).getD k 0):=rfl;rw [er];generalize rnds kc (wl l 64) h k = vs at *;simp (disch:=omega) only [↓RD,RZ,eq_self,seval,g1,v0,v1,v2,v3,v4,v5,v6,v7,gc,gw,e3,wk,kk,t6,t11,t25,t2,t13,t22,zsv,w_xor,w_and,w_not,w_ok,zhz,hlm];refine ⟨rfl,?_,s1.trans (At1.set vb _ _)⟩;rw [hsp _ rfl];rfl
 ·rintro L H1 ⟨rfl,g1,s1⟩;unfold zcm uL uM uT uN uB uI uIM uU uc ug;simp (disch:=omega) only [↓RD,RZ,eq_self,seval];exact ⟨g1,s1⟩
end Go.Ax.SU
/- Su10 -/
namespace Go.Ax.SU
open Go.Ax
theorem gD {α:Type} (l:List α) (d:α) {i:Nat} (h:i < l.length):l[i] = l.getD i d:=by rw [List.getD_eq_getElem?_getD,List.getElem?_eq_getElem h]; rfl
def part (h w:List UInt32) (k:Nat):List UInt32:=(List.range 8).map fun i=>if i < k then h.getD i 0 + w.getD i 0 else h.getD i 0
theorem zfh (h w:List UInt32) (k:Nat):(part h w k).length = 8:=by simp [part]
theorem ziq (h w:List UInt32) (k:Nat) {i:Nat} (hi:i < 8):(part h w k).getD i 0 = if i < k then h.getD i 0 + w.getD i 0 else h.getD i 0:=by
 unfold part;rw [List.getD_eq_getElem?_getD,List.getElem?_map,List.getElem?_range hi]; rfl
theorem zps {h:List UInt32} (w:List UInt32) (hh:h.length = 8):part h w 0 = h:=by
 refine List.ext_getElem (by rw [zfh,hh]) fun i h1 h2=>?_;have:=ziq h w 0 (i:=i) (by omega);rw [List.getD_eq_getElem?_getD,List.getD_eq_getElem?_getD,List.getElem?_eq_getElem h1,List.getElem?_eq_getElem h2] at this;simpa using this
theorem zrK {h w:List UInt32} {k:Nat} (hk:k < 8):(part h w k).set k (h.getD k 0 + w.getD k 0) = part h w (k + 1):=by
 refine List.ext_getElem (by rw [List.length_set,zfh,zfh]) fun i h1 h2=>?_;have hi:i < 8:=by rw [zfh] at h2; exact h2
 rw [List.getElem_set,gD _ 0 h2,ziq h w (k + 1) hi];by_cases e:k = i
 ·subst e; rw [if_pos rfl,if_pos (by omega)]
 ·rw [if_neg e,gD (part h w k) 0 (by rw [zfh]; exact hi),ziq h w k hi];by_cases hl:i < k
  ·rw [if_pos hl,if_pos (by omega)]
  ·rw [if_neg hl,if_neg (by omega)]
theorem zt3 {s vb:Nat} {H:Heap} {h ws:List UInt32} {r:List V} (hh:h.length = 8) (hw:ws.length = 8) (hs:H.get s = some ⟨zaw,h.map w32 ++ r,none⟩) (hb:H.get vb = some ⟨zap,ws.map w32,none⟩) (hne:vb ≠ s) (hvl:vb < H.next) :
  Ok (M.iter (zcl (sem T) (.ptr s 0) (.ptr vb 0)) [.int .i64 0]) H fun x H'=>x = .ex 4 [] ∧ H'.get s = some ⟨zaw,((List.range 8).map fun i=>h.getD i 0 + ws.getD i 0).map w32 ++ r,none⟩ ∧ At1 s H H':=by
 refine zaE (fun k L H'=>L = [.int .i64 (k:Nat)] ∧ H'.get s = some ⟨zaw,(part h ws k).map w32 ++ r,none⟩ ∧ At1 s H H') 8 ?_ ?_ ?_
 ·exact ⟨rfl,by rw [zps ws hh]; exact hs,At1.refl _ _⟩
 ·rintro k L H1 hk ⟨rfl,g1,s1⟩;have gb:=(s1.same vb hvl hne).trans hb;have i1:=wga (ws:=part h ws k) (r:=r) (i:=k) (by rw [zfh]; exact hk);have i2:=wg (ws:=ws) (i:=k) (by omega);rw [ziq h ws k hk,if_neg (by omega)] at i1;have hl:((part h ws k).map w32 ++ r).length = 8 + r.length:=by rw [List.length_append,List.length_map,zfh]
  have hsp:splice ((part h ws k).map w32 ++ r) k [w32 (h.getD k 0 + ws.getD k 0)] = (part h ws (k + 1)).map w32 ++ r:=by
   rw [zlq _ _ _ (by rw [hl]; omega),List.set_append_left _ _ (by rw [List.length_map,zfh]; exact hk),← List.map_set,zrK hk]
  unfold zcl uT uNF uB uI uIM uc ug;simp (disch:=omega) only [↓RD,RZ,eq_self,seval,g1,gb,i1,i2,zsv,w_ok,zhz,hsp,hl];exact ⟨by omega,rfl,s1.trans (At1.set s _ _)⟩
 ·rintro L H1 ⟨rfl,g1,s1⟩;unfold zcl uT uNF uB uI uIM uc ug;simp (disch:=omega) only [↓RD,RZ,eq_self,seval];refine ⟨?_,s1⟩;rw [g1];have:part h ws 8 = (List.range 8).map fun i=>h.getD i 0 + ws.getD i 0:=List.map_congr_left fun i hi=>by rw [if_pos (List.mem_range.1 hi)]
  rw [this]
theorem st8 {h:List UInt32} (hh:h.length = 8) (a b c:V):(h.map w32 ++ [a,b,c])[8]? = some a:=by rw [List.getElem?_append_right (by rw [List.length_map]; omega),List.length_map,hh]; rfl
theorem st9 {h:List UInt32} (hh:h.length = 8) (a b c:V):(h.map w32 ++ [a,b,c])[9]? = some b:=by rw [List.getElem?_append_right (by rw [List.length_map]; omega),List.length_map,hh]; rfl
theorem st10 {h:List UInt32} (hh:h.length = 8) (a b c:V):(h.map w32 ++ [a,b,c])[10]? = some c:=by rw [List.getElem?_append_right (by rw [List.length_map]; omega),List.length_map,hh]; rfl
theorem stl {h:List UInt32} (hh:h.length = 8) (a b c:V):(h.map w32 ++ [a,b,c]).length = 11:=by rw [List.length_append,List.length_map,hh]; rfl
theorem sp8 {h:List UInt32} (hh:h.length = 8) (a b c x:V):splice (h.map w32 ++ [a,b,c]) 8 [x] = h.map w32 ++ [x,b,c]:=by
 rw [zlq _ _ _ (by rw [stl hh]; omega),List.set_append_right _ _ (by rw [List.length_map]; omega),List.length_map,hh]; rfl
theorem sp9 {h:List UInt32} (hh:h.length = 8) (a b c x:V):splice (h.map w32 ++ [a,b,c]) 9 [x] = h.map w32 ++ [a,x,c]:=by
 rw [zlq _ _ _ (by rw [stl hh]; omega),List.set_append_right _ _ (by rw [List.length_map]; omega),List.length_map,hh]; rfl
theorem ld8 {h:List UInt32} (hh:h.length = 8) (r:List V):ldc (some 8) (h.map w32 ++ r) 0 = some (.agg (h.map w32)):=by
 rw [zdj (by rw [List.length_append,List.length_map,hh]; omega),List.drop_zero,List.take_left' (by rw [List.length_map,hh])]
theorem piece_ok {lo s c:Nat} {H:Heap} {v bv nv:V} {l:List Nat} {h:List UInt32} {d:Bool} (hs:H.get s = some ⟨zaw,h.map w32 ++ [bv,nv,.ptr c 0],none⟩) (hh:h.length = 8) (hc:H.get c = some ⟨zaH,conC d,none⟩)
  (hv:By lo H v l) (h8:Ok8 l) (hl:l.length = 64) (hne:s ≠ c) (hvs:v.pid ≠ some s) (hvc:v.pid ≠ some c) (hsl:s < H.next) (hcl:c < H.next) :
  Ok (sem T zbj [.ptr s 0,v]) H fun r H'=>r = .tup [] ∧ H'.get s = some ⟨zaw,(comp kc h l).map w32 ++ [bv,nv,.ptr c 0],none⟩ ∧ H'.get c = some ⟨zaH,conC true,none⟩ ∧ Step H H' [s,c] [s,c]:=by
 refine zif ?_;unfold zfz uS uT uNFM uNF uO uc;have i10:=st10 hh bv nv (.ptr c 0);simp (disch:=first | omega | (simp only [RY] <;> omega) | decide) only [↓RD,RZ,eq_self,seval,hs,i10];refine zag (zvr hc hcl) ?_;rintro _ H1 ⟨rfl,gc1,s1⟩;have gs1:=(s1.same s hsl (by simpa using hne)).trans hs;have hv1:By lo H1 v l:=hv.at1 ⟨s1.next,fun i hi hk=>s1.same i hi (by simpa using hk)⟩ hvc;have n1:=s1.next;simp (disch:=first | omega | (simp only [RY] <;> omega) | decide) only [↓RD,RZ,eq_self,seval];have e64:[V.int .u32 0,.int .u32 0,.int .u32 0,.int .u32 0,.int .u32 0,.int .u32 0,.int .u32 0,.int .u32 0,.int .u32 0,.int .u32 0,.int .u32 0,.int .u32 0,.int .u32 0,.int .u32 0,.int .u32 0,.int .u32 0,.int .u32 0,.int .u32 0,.int .u32 0,.int .u32 0,.int .u32 0,.int .u32 0,.int .u32 0,.int .u32 0,.int .u32 0,.int .u32 0,.int .u32 0,.int .u32 0,.int .u32 0,.int .u32 0,.int .u32 0,.int .u32 0,.int .u32 0,.int .u32 0,.int .u32 0,.int .u32 0,.int .u32 0,.int .u32 0,.int .u32 0,.int .u32 0,.int .u32 0,.int .u32 0,.int .u32 0,.int .u32 0,.int .u32 0,.int .u32 0,.int .u32 0,.int .u32 0,.int .u32 0,.int .u32 0,.int .u32 0,.int .u32 0,.int .u32 0,.int .u32 0,.int .u32 0,.int .u32 0,.int .u32 0,.int .u32 0,.int .u32 0,.int .u32 0,.int .u32 0,.int .u32 0,.int .u32 0,.int .u32 0] = List.replicate 64 (.int .u32 0):=rfl;rw [e64];have s2:=Grow.new H1 ⟨zau,List.replicate 64 (.int .u32 0),none⟩;have gw2:(H1.new ⟨zau,List.replicate 64 (.int .u32 0),none⟩).get H1.next = _:=zab _ _;have nb2:H1.next < (H1.new ⟨zau,List.replicate 64 (.int .u32 0),none⟩).next:=by rw [zaf]; omega
 have gs2:=(s2.same s (by omega)).trans gs1;have gc2:=(s2.same c (by omega)).trans gc1;have hv2:=hv1.ext s2;have hvw:v.pid ≠ some H1.next:=fun e=>by have:=(hv1.own _ e).2; omega
 have n2:=s2.next;generalize hwb:H1.next = wb at *;generalize H1.new _ = H2 at *;refine zas (zt5 hv2 h8 hl gw2 hvw nb2) ?_;rintro _ H3 ⟨rfl,gw3,s3⟩;have n3:=s3.next;have gs3:=(s3.same s (by omega) (by omega)).trans gs2;have gc3:=(s3.same c (by omega) (by omega)).trans gc2;have e8:=ld8 hh [bv,nv,.ptr c 0];have hlm:(h.map w32).length = 8:=by rw [List.length_map,hh]
 have hok:V.okc (.agg (h.map w32)) = true:=by
  simp only [V.okc,List.all_map,List.all_eq_true]
  try (intro x _; rfl)
 have hsp:∀ L:List V,L.length = 8 → splice L 0 (h.map w32) = h.map w32:=fun L hL=>by
  unfold splice;rw [List.take_zero,List.nil_append,hlm,List.drop_of_length_le (by omega),List.append_nil]
 simp (disch:=first | omega | (simp only [RY] <;> omega) | decide) only [↓RD,RZ,eq_self,seval,gs3,e8,hok,hlm,hsp];have g4:∀ i,i < H3.next → ((H3.new ⟨zap,[V.int .u32 0,.int .u32 0,.int .u32 0,.int .u32 0,.int .u32 0,.int .u32 0,.int .u32 0,.int .u32 0],none⟩).set H3.next (some ⟨zap,h.map w32,none⟩)).get i = H3.get i:=fun i hi=>by rw [zai _ _ (by omega),zaX _ _ (by omega)]
 have gv4:((H3.new ⟨zap,[V.int .u32 0,.int .u32 0,.int .u32 0,.int .u32 0,.int .u32 0,.int .u32 0,.int .u32 0,.int .u32 0],none⟩).set H3.next (some ⟨zap,h.map w32,none⟩)).get H3.next = _:=zal _ _ _;have n4:((H3.new ⟨zap,[V.int .u32 0,.int .u32 0,.int .u32 0,.int .u32 0,.int .u32 0,.int .u32 0,.int .u32 0,.int .u32 0],none⟩).set H3.next (some ⟨zap,h.map w32,none⟩)).next = H3.next + 1:=by rw [zan,zaf]
 generalize hvb:H3.next = vb at *;generalize (H3.new _).set _ _ = H4 at *;have gc4:=(g4 c (by omega)).trans gc3;have gs4:=(g4 s (by omega)).trans gs3;have gw4:=(g4 wb (by omega)).trans gw3;refine zas (zt4 hh gc4 gw4 gv4 (by omega) (by omega) (by omega) (by omega)) ?_;rintro _ H5 ⟨rfl,gv5,s5⟩;have n5:=s5.next;have gs5:=(s5.same s (by omega) (by omega)).trans gs4;have gc5:=(s5.same c (by omega) (by omega)).trans gc4;simp (disch:=first | omega | (simp only [RY] <;> omega) | decide) only [↓RD,RZ,eq_self,seval];refine zas (zt3 hh (zlV hh 64) gs5 gv5 (by omega) (by omega)) ?_;rintro _ H6 ⟨rfl,gs6,s6⟩;have n6:=s6.next;simp (disch:=first | omega | (simp only [RY] <;> omega) | decide) only [↓RD,RZ,eq_self,seval];refine ⟨rfl,gs6,(s6.same c (by omega) (Ne.symm hne)).trans gc5,⟨by omega,fun i hi hF=>?_,fun i hi=>.inl hi⟩⟩;simp only [List.mem_cons,List.not_mem_nil,or_false,not_or] at hF;rw [s6.same i (by omega) hF.1,s5.same i (by omega) (by omega),g4 i (by omega),s3.same i (by omega) (by omega),s2.same i (by omega),s1.same i hi (by simpa using hF.2)]
end Go.Ax.SU
/- Su11 -/
namespace Go.Ax.SU
open Go.Ax
theorem _root_.Go.Ax.Lc.stepF {e lo n:Nat} {H H':Heap} {v:V} {cells:List V} {F F':List Nat} (h:Lc e lo H v cells n) (s:Step H H' F F') (hd:∀ i,v.pid = some i → i ∉ F):Lc e lo H' v cells n :=
 ⟨by rw [zhb fun i hi=>s.same i (h.own i hi).2 (hd i hi)]; exact h.rc,fun i hi=>⟨(h.own i hi).1,Nat.lt_of_lt_of_le (h.own i hi).2 s.next⟩,h.cap⟩
structure St (H:Heap) (s c:Nat) (bv:V) (h:List UInt32) (b Fb:List Nat) (n:Nat):Prop where
 gs:H.get s = some ⟨zaw,h.map w32 ++ [bv,.int .u64 (n:Nat),.ptr c 0],none⟩
 gc:∃ d,H.get c = some ⟨zaH,conC d,none⟩
 bf:Buf H bv b Fb
 hl:h.length = 8
 ne:s ≠ c
 sb:s ∉ Fb
 cb:c ∉ Fb
 sl:s < H.next
 cl:c < H.next
def Str (H:Heap) (s:Nat) (m F:List Nat):Prop:=∃ c bv Fb,F = s :: c :: Fb ∧ St H s c bv (hs kc m) (tl m) Fb m.length ∧ Ok8 m
theorem St.low {H:Heap} {s c:Nat} {bv:V} {h:List UInt32} {b Fb:List Nat} {n:Nat} (h:St H s c bv h b Fb n):∀ i ∈ s :: c :: Fb,i < H.next:=by
 intro i hi;rcases List.mem_cons.1 hi with rfl | hi
 ·exact h.sl
 ·rcases List.mem_cons.1 hi with rfl | hi
  ·exact h.cl
  ·exact h.bf.low i hi
theorem St.to {H H':Heap} {s c:Nat} {bv:V} {h:List UInt32} {b Fb:List Nat} {n:Nat} (k:St H s c bv h b Fb n) (hn:H.next ≤ H'.next) (hs:∀ i ∈ s :: c :: Fb,H'.get i = H.get i):St H' s c bv h b Fb n :=
 ⟨by rw [hs s (by simp)]; exact k.gs,by obtain ⟨d,hd⟩:=k.gc; exact ⟨d,by rw [hs c (by simp)]; exact hd⟩,k.bf.to hn fun i hi=>hs i (by simp [hi]),k.hl,k.ne,k.sb,k.cb,Nat.lt_of_lt_of_le k.sl hn,Nat.lt_of_lt_of_le k.cl hn⟩
theorem St.piece {lo:Nat} {H:Heap} {s c:Nat} {bv v:V} {h:List UInt32} {b Fb l:List Nat} {n:Nat} (k:St H s c bv h b Fb n) (hv:By lo H v l) (h8:Ok8 l) (hl:l.length = 64) (hvs:v.pid ≠ some s) (hvc:v.pid ≠ some c) :
  Ok (sem T zbj [.ptr s 0,v]) H fun r H'=>r = .tup [] ∧ St H' s c bv (comp kc h l) b Fb n ∧ Step H H' [s,c] [s,c]:=by
 obtain ⟨d,hd⟩:=k.gc;refine zas (piece_ok k.gs k.hl hd hv h8 hl k.ne hvs hvc k.sl k.cl) ?_;rintro _ H' ⟨rfl,g1,g2,s1⟩;refine ⟨rfl,⟨g1,⟨true,g2⟩,k.bf.to s1.next fun i hi=>s1.same i (k.bf.low i hi) fun e=>?_,zl6 _ _ _,k.ne,k.sb,k.cb,Nat.lt_of_lt_of_le k.sl s1.next,Nat.lt_of_lt_of_le k.cl s1.next⟩,s1⟩;simp only [List.mem_cons,List.not_mem_nil,or_false] at e;rcases e with rfl | rfl
 ·exact k.sb hi
 ·exact k.cb hi
theorem zpf {H H':Heap} {s c:Nat} (h:Step H H' [s,c] [s,c]) (Fb:List Nat):Step H H' (s :: c :: Fb) (s :: c :: Fb) :=
 ⟨h.next,fun i hi hF=>h.same i hi fun k=>hF (by simp only [List.mem_cons,List.not_mem_nil,or_false] at k; simp only [List.mem_cons]; rcases k with rfl | rfl <;> simp),fun i hi=>.inl hi⟩
theorem zt2 {lo:Nat} {H:Heap} {s c:Nat} {bv v:V} {m Fb p:List Nat} {n:Nat} (k:St H s c bv (hs kc m) [] Fb n) (hm:m.length % 64 = 0) (hv:By lo H v p) (h8:Ok8 p) (hd:∀ i,v.pid = some i → i ∉ s :: c :: Fb) :
  Ok (M.iter (zcX (sem T) (.ptr s 0)) [v]) H fun r H'=>∃ v',r = .ex 0 [v'] ∧ v'.pid = v.pid ∧ By lo H' v' (p.drop (64 * (p.length / 64))) ∧ St H' s c bv (hs kc (m ++ p.take (64 * (p.length / 64)))) [] Fb n ∧ Step H H' (s :: c :: Fb) (s :: c :: Fb):=by
 refine zaE (fun j L H'=>∃ v',L = [v'] ∧ v'.pid = v.pid ∧ By lo H' v' (p.drop (64 * j)) ∧ St H' s c bv (hs kc (m ++ p.take (64 * j))) [] Fb n ∧ Step H H' (s :: c :: Fb) (s :: c :: Fb)) (p.length / 64) ?_ ?_ ?_
 ·exact ⟨v,rfl,rfl,by simpa using hv,by simpa using k,Step.refl _ _⟩
 ·rintro j L H1 hj ⟨v1,rfl,p1,b1,k1,s1⟩;have hlen:(p.drop (64 * j)).length = p.length - 64 * j:=List.length_drop;have hvs:v1.pid ≠ some s:=fun e=>hd s (p1 ▸ e) (by simp);have hvc:v1.pid ≠ some c:=fun e=>hd c (p1 ▸ e) (by simp);obtain ⟨va,-,ha,-,hva,pa⟩:=zbl b1 (x:=0) (y:=64) (by omega) (by omega) (by omega);have ha2:∀ {k':IntKind},zaz .sl 1 v1 none (some (.int k' 64)) none = some va:=ha rfl;obtain ⟨vb,-,-,hb,hvb,pb⟩:=zbl b1 (x:=64) (y:=((p.drop (64 * j)).length:Nat)) (by omega) (by omega) (by omega);have hb2:∀ {k':IntKind},zaz .sl 1 v1 (some (.int k' 64)) none none = some vb:=hb rfl;have hvl:=b1.vlen;have hle:(64:Int) ≤ ((p.drop (64 * j)).length:Nat):=by omega
  have e64:(64:Int).toNat = 64:=rfl;have e0:(0:Int).toNat = 0:=rfl;rw [e64,e0,List.drop_zero] at hva;rw [e64,Int.toNat_natCast,List.drop_drop] at hvb;unfold zcX uL uB uc ug;simp (disch:=omega) only [↓RD,RZ,hvl,hle,ha2];refine zag (k1.piece hva ((h8.drop _).take _) (by rw [List.length_take,hlen]; omega) (by rw [pa]; exact hvs) (by rw [pa]; exact hvc)) ?_;rintro _ H2 ⟨rfl,k2,s2⟩;have hm1:(m ++ p.take (64 * j)).length % 64 = 0:=by rw [List.length_append,List.length_take]; omega
  have e2:comp kc (hs kc (m ++ p.take (64 * j))) ((p.drop (64 * j)).take (64 - 0)) = hs kc (m ++ p.take (64 * (j + 1))):=by
   rw [← hs_piece hm1 (by rw [List.length_take,hlen]; omega),List.append_assoc,← List.take_add];rfl
  rw [e2] at k2;have hvb2:By lo H2 vb (p.drop (64 * (j + 1))):=by
   have e3:(p.drop (64 * j + 64)).take ((p.drop (64 * j)).length - 64) = p.drop (64 * (j + 1)):=by
    rw [List.take_of_length_le (by rw [List.length_drop,hlen]; omega)]; rfl
   rw [e3] at hvb;exact hvb.stepF s2 fun i hi=>by rw [pb,p1] at hi; have:=hd i hi; simp only [List.mem_cons,not_or] at this; simp only [List.mem_cons,List.not_mem_nil,or_false,not_or]; exact ⟨this.1,this.2.1⟩
  simp (disch:=omega) only [↓RD,RZ,hb2];exact ⟨vb,rfl,by rw [pb,p1],hvb2,k2,s1.trans (zpf s2 Fb)⟩
 ·rintro L H1 ⟨v1,rfl,p1,b1,k1,s1⟩;have hvl:=b1.vlen;have hlen:(p.drop (64 * (p.length / 64))).length = p.length - 64 * (p.length / 64):=List.length_drop;have hlt:((p.drop (64 * (p.length / 64))).length:Int) < 64:=by omega
  unfold zcX uL uB uc ug;simp (disch:=omega) only [↓RD,RZ,hvl,hlt];exact ⟨v1,rfl,p1,b1,k1,s1⟩
theorem St.rest {β:Type} {lo:Nat} {H:Heap} {s c:Nat} {bv v:V} {h:List UInt32} {b Fb p:List Nat} {n:Nat} {f:V → M β} {Q:β → Heap → Prop} (k:St H s c bv h b Fb n) (hv:By lo H v p) (hp:b.length + p.length ≤ 64)
  (hQ:∀ bv' H' Fb',St (H'.set s (some ⟨zaw,h.map w32 ++ [bv',.int .u64 (n:Nat),.ptr c 0],none⟩)) s c bv' h (b ++ p) Fb' n → H'.get s = some ⟨zaw,h.map w32 ++ [bv,.int .u64 (n:Nat),.ptr c 0],none⟩ →
   bv'.cells = [bv'] → bv'.okc = true → Step H H' Fb Fb' → (∀ i ∈ Fb',i ≠ s ∧ i ≠ c) → Ok (f bv') H' Q):Ok ((mappend zad 1 1 bv v).bind f) H Q:=by
 refine zug k.bf hv.ac hp fun bv' H' Fb' b1 s1=>?_;have nss:∀ i ∈ Fb',i ≠ s ∧ i ≠ c:=fun i hi=>by
  rcases s1.own i hi with h1 | h1
  ·exact ⟨fun e=>k.sb (e ▸ h1),fun e=>k.cb (e ▸ h1)⟩
  ·have:=k.sl; have:=k.cl;exact ⟨by omega,by omega⟩
 have gs:=(s1.same s k.sl k.sb).trans k.gs;obtain ⟨d,hd⟩:=k.gc;have gc:=(s1.same c k.cl k.cb).trans hd;refine hQ bv' H' Fb' ⟨zal _ _ _,⟨d,by rw [zai _ _ (Ne.symm k.ne)]; exact gc⟩,b1.to (by rw [zan]; exact Nat.le_refl _) fun i hi=>zai _ _ (nss i hi).1,k.hl,k.ne,fun e=>(nss s e).1 rfl,fun e=>(nss c e).2 rfl,?_,?_⟩ gs b1.cells1 b1.okc s1 nss
 ·rw [zan]; exact Nat.lt_of_lt_of_le k.sl s1.next
 ·rw [zan]; exact Nat.lt_of_lt_of_le k.cl s1.next
theorem zsp {lo:Nat} {H:Heap} {s:Nat} {v:V} {m F p:List Nat} (k:Str H s m F) (hv:By lo H v p) (h8:Ok8 p) (hd:∀ i,v.pid = some i → i ∉ F) (hlen:m.length + p.length ≤ 1125899906842624) :
  Ok (sem T zbg [.ptr s 0,v]) H fun r H'=>r = .tup [] ∧ ∃ F',Str H' s (m ++ p) F' ∧ Step H H' F F':=by
 obtain ⟨c,bv,Fb,rfl,k,hm8⟩:=k;refine zjn ?_;unfold zgx uL uT uNFM uNF uB uc ug;have hvl:=hv.vlen;have i8:=st8 k.hl;have i9:=st9 k.hl;have q8:=sp8 k.hl;have q9:=sp9 k.hl;have ql:=stl k.hl;have hm:(m.length:Int) + (p.length:Int) = ((m.length + p.length:Nat):Int):=rfl;have hbl:=k.bf.vlen;have gs:=k.gs;have tll:=zrv m;have k1:St (H.set s (some ⟨zaw,(hs kc m).map w32 ++ [bv,.int .u64 ((m.length + p.length:Nat):Int),.ptr c 0],none⟩)) s c bv (hs kc m) (tl m) Fb (m.length + p.length):=by
  obtain ⟨d,hdc⟩:=k.gc;exact ⟨zal _ _ _,⟨d,by rw [zai _ _ (Ne.symm k.ne)]; exact hdc⟩,k.bf.to (by rw [zan]; exact Nat.le_refl _) fun i hi=>zai _ _ fun e=>k.sb (e ▸ hi),k.hl,k.ne,k.sb,k.cb,by rw [zan]; exact k.sl,by rw [zan]; exact k.cl⟩
 have s1:Step H (H.set s (some ⟨zaw,(hs kc m).map w32 ++ [bv,.int .u64 ((m.length + p.length:Nat):Int),.ptr c 0],none⟩)) (s :: c :: Fb) (s :: c :: Fb):=Step.set _ (by simp);have hv1:=hv.stepF s1 hd;simp (disch:=omega) only [↓RD,RZ,eq_self,seval,gs,i8,i9,hvl,hm,q9,ql,hbl];clear gs;generalize H.set s _ = H1 at *;have gs1:=k1.gs;refine zas (Q:=fun r H'=>(r = .ret [] ∧ ∃ F',Str H' s (m ++ p) F' ∧ Step H1 H' (s :: c :: Fb) F') ∨
  (∃ v1 q bv1 Fb1,r = .nrm [v1] ∧ q ≤ p.length ∧ (m.length + q) % 64 = 0 ∧ v1.pid = v.pid ∧ By lo H' v1 (p.drop q) ∧ St H' s c bv1 (hs kc (m ++ p.take q)) [] Fb1 (m.length + p.length) ∧ Step H1 H' (s :: c :: Fb) (s :: c :: Fb1))) ?_ ?_
 ·refine zbw (fun hpos=>?_) fun hpos=>?_
  ·have hr:0 < (tl m).length:=by omega
   have hr2:(tl m).length < 64:=by omega
   rcases Nat.lt_or_ge p.length (64 - (tl m).length) with hc | hc
   ·have hmin:Ax.minmax false (.int .i64 (64 - ((tl m).length:Nat):Int)) [.int .i64 (p.length:Nat)] = some (.int .i64 (p.length:Nat)):=by
     simp only [Ax.minmax,min2];rw [if_neg (by decide),if_pos (by omega)];rfl
    obtain ⟨va,-,ha,-,hva,pa⟩:=zbl hv1 (x:=0) (y:=(p.length:Nat)) (by omega) (by omega) (by omega);have ha2:∀ {k':IntKind},zaz .sl 1 v none (some (.int k' ((p.length:Nat):Int))) none = some va:=ha rfl;have e0:(0:Int).toNat = 0:=rfl;rw [e0,List.drop_zero,Int.toNat_natCast,Nat.sub_zero,List.take_length] at hva;simp (disch:=omega) only [↓RD,RZ,gs1,i8,hbl,hvl,hmin,ha2];refine k1.rest hva (by omega) fun bv2 H2 Fb2 k2 g2 c2 o2 s2 n2=>?_;obtain ⟨vb,-,-,hb,-,-⟩:=zbl hv1 (x:=((p.length:Nat):Int)) (y:=(p.length:Nat)) (by omega) (by omega) (by omega);have hb2:∀ {k':IntKind},zaz .sl 1 v (some (.int k' ((p.length:Nat):Int))) none none = some vb:=hb rfl;have hbl2:=k2.bf.vlen;have hlt:(((tl m ++ p).length:Nat):Int) < 64:=by rw [List.length_append]; omega
    simp (disch:=omega) only [↓RD,RZ,eq_self,seval,g2,i8,q8,ql,c2,o2,hb2,hbl2,hlt];refine .inl ⟨s :: c :: Fb2,⟨c,bv2,Fb2,rfl,?_,hm8.app h8⟩,((s2.cons c).cons s).trans (Step.set _ (by simp))⟩;obtain ⟨e1,e2⟩:=hs_few (ks:=kc) (m:=m) (l:=p) (by omega);rw [e1,e2,List.length_append];exact k2
   ·have hmin:Ax.minmax false (.int .i64 (64 - ((tl m).length:Nat):Int)) [.int .i64 (p.length:Nat)] = some (.int .i64 ((64 - (tl m).length:Nat):Int)):=by
     simp only [Ax.minmax,min2];rw [if_neg (by decide)];by_cases e:((p.length:Nat):Int) < 64 - ((tl m).length:Nat)
     ·omega
     ·rw [if_neg e];show some (V.int .i64 _) = _;congr 2;omega
    generalize hq:64 - (tl m).length = q at *;obtain ⟨va,-,ha,-,hva,pa⟩:=zbl hv1 (x:=0) (y:=(q:Nat)) (by omega) (by omega) (by omega);have ha2:∀ {k':IntKind},zaz .sl 1 v none (some (.int k' ((q:Nat):Int))) none = some va:=ha rfl;have e0:(0:Int).toNat = 0:=rfl;rw [e0,List.drop_zero,Int.toNat_natCast,Nat.sub_zero] at hva;have hlq:(p.take q).length = q:=by rw [List.length_take]; omega
    simp (disch:=omega) only [↓RD,RZ,gs1,i8,hbl,hvl,hmin,ha2];refine k1.rest hva (by omega) fun bv2 H2 Fb2 k2 g2 c2 o2 s2 n2=>?_;obtain ⟨vb,-,-,hb,hvb,pb⟩:=zbl hv1 (x:=((q:Nat):Int)) (y:=(p.length:Nat)) (by omega) (by omega) (by omega);have hb2:∀ {k':IntKind},zaz .sl 1 v (some (.int k' ((q:Nat):Int))) none none = some vb:=hb rfl;rw [Int.toNat_natCast,Int.toNat_natCast,List.take_of_length_le (by rw [List.length_drop]; exact Nat.le_refl _)] at hvb;have hbl2:=k2.bf.vlen;have hl64:(tl m ++ p.take q).length = 64:=by rw [List.length_append]; omega
    have hlt:(64:Int) ≤ (((tl m ++ p.take q).length:Nat):Int):=by omega
    have st2:Step H1 (H2.set s (some ⟨zaw,(hs kc m).map w32 ++ [bv2,.int .u64 ((m.length + p.length:Nat):Int),.ptr c 0],none⟩)) (s :: c :: Fb) (s :: c :: Fb2):=((s2.cons c).cons s).trans (Step.set _ (by simp));simp (disch:=omega) only [↓RD,RZ,eq_self,seval,g2,i8,q8,ql,c2,o2,hb2,hbl2,hlt];clear g2;generalize H2.set s _ = H3 at *;have g3:=k2.gs;have npid:bv2.pid ≠ some s ∧ bv2.pid ≠ some c:=⟨fun e=>(n2 s (k2.bf.pid s e)).1 rfl,fun e=>(n2 c (k2.bf.pid c e)).2 rfl⟩;refine zag (k2.piece k2.bf.by (Ok8.app (Ok8.drop hm8 _) (h8.take q)) hl64 npid.1 npid.2) ?_;rintro _ H4 ⟨rfl,k4,s4⟩;rw [← hs_fill (by omega)] at k4;obtain ⟨bv5,hcut,b5⟩:=k4.bf.cut hl64;have hcut2:∀ {k':IntKind},zaz .sl 1 bv2 none (some (.int k' 0)) none = some bv5:=hcut;have j8:=st8 k4.hl;have r8:=sp8 k4.hl;have rl:=stl k4.hl;have g4:=k4.gs;have c5:=b5.cells1;have o5:=b5.okc;simp (disch:=omega) only [↓RD,RZ,eq_self,seval,g4,j8,hcut2,r8,rl,c5,o5];have st5:=st2.trans ((zpf s4 Fb2).trans (Step.set (H:=H4) (some ⟨zaw,(hs kc (m ++ p.take q)).map w32 ++ [bv5,.int .u64 ((m.length + p.length:Nat):Int),.ptr c 0],none⟩) (by simp:s ∈ s :: c :: Fb2)));refine .inr ⟨vb,q,bv5,Fb2,rfl,by omega,by omega,pb,hvb.stepF st5 fun i hi=>hd i (pb ▸ hi),?_,st5⟩;obtain ⟨d4,hd4⟩:=k4.gc;exact ⟨zal _ _ _,⟨d4,by rw [zai _ _ (Ne.symm k4.ne)]; exact hd4⟩,b5.to (by rw [zan]; exact Nat.le_refl _) fun i hi=>zai _ _ (n2 i hi).1,k4.hl,k4.ne,k4.sb,k4.cb,by rw [zan]; exact k4.sl,by rw [zan]; exact k4.cl⟩
  ·simp (disch:=omega) only [↓RD,RZ];refine .inr ⟨v,0,bv,Fb,rfl,by omega,by omega,rfl,by simpa using hv1,?_,Step.refl _ _⟩;have:tl m = []:=List.eq_nil_of_length_eq_zero (by omega);rw [this] at k1;simpa using k1
 ·rintro r H2 (⟨rfl,F',k2,s2⟩ | ⟨v1,q,bv1,Fb1,rfl,hq,hmq,p1,b1,k2,s2⟩)
  ·simp (disch:=omega) only [↓RD,RZ];exact ⟨rfl,F',k2,s1.trans s2⟩
  ·have hlq:(p.take q).length = q:=by rw [List.length_take]; omega
   have hlm:(m ++ p.take q).length = m.length + q:=by rw [List.length_append,hlq]
   have hd1:∀ i,v1.pid = some i → i ∉ s :: c :: Fb1:=fun i hi hF=>by
    have:=hd i (p1 ▸ hi);rcases s2.own i hF with h | h
    ·exact this h
    ·have:=(hv1.own i (p1 ▸ hi)).2;omega
   simp (disch:=omega) only [↓RD,RZ];refine zas (zt2 k2 (by rw [hlm]; exact hmq) b1 (h8.drop q) hd1) ?_;rintro _ H3 ⟨v3,rfl,p3,b3,k3,s3⟩;have i8':=st8 k3.hl;have r8:=sp8 k3.hl;have rl:=stl k3.hl;have g3:=k3.gs;have hld:(p.drop q).length = p.length - q:=List.length_drop;have hlt:((p.drop q).drop (64 * ((p.drop q).length / 64))).length < 64:=by rw [List.length_drop]; omega
   have hk3m:(m ++ p.take q ++ (p.drop q).take (64 * ((p.drop q).length / 64))).length % 64 = 0:=by rw [List.length_append,hlm,List.length_take]; omega
   simp (disch:=omega) only [↓RD,RZ,g3,i8'];refine k3.rest b3 (by rw [List.length_nil]; omega) fun bv4 H4 Fb4 k4 g4 c4 o4 s4 n4=>?_;simp (disch:=omega) only [↓RD,RZ,eq_self,seval,g4,r8,rl,c4,o4];refine ⟨rfl,s :: c :: Fb4,⟨c,bv4,Fb4,rfl,?_,hm8.app h8⟩,s1.trans (s2.trans (s3.trans (((s4.cons c).cons s).trans (Step.set _ (by simp)))))⟩;have ep:m ++ p = (m ++ p.take q ++ (p.drop q).take (64 * ((p.drop q).length / 64))) ++ (p.drop q).drop (64 * ((p.drop q).length / 64)):=by
    rw [List.append_assoc,List.take_append_drop,List.append_assoc,List.take_append_drop]
   obtain ⟨e1,e2⟩:=hs_few (ks:=kc) (m:=m ++ p.take q ++ (p.drop q).take (64 * ((p.drop q).length / 64))) (l:=(p.drop q).drop (64 * ((p.drop q).length / 64))) (by omega);rw [tl_whole hk3m] at e2;rw [List.length_append];rw [ep,e1,e2];exact k4
end Go.Ax.SU
/- Su12 -/
namespace Go.Ax.SU
open Go.Ax
theorem Str.low {H:Heap} {s:Nat} {m F:List Nat} (h:Str H s m F):∀ i ∈ F,i < H.next:=by
 obtain ⟨c,bv,Fb,rfl,k,_⟩:=h;exact k.low
theorem Str.to {H H':Heap} {s:Nat} {m F:List Nat} (h:Str H s m F) (hn:H.next ≤ H'.next) (hs:∀ i ∈ F,H'.get i = H.get i):Str H' s m F:=by
 obtain ⟨c,bv,Fb,rfl,k,h8⟩:=h;exact ⟨c,bv,Fb,rfl,k.to hn hs,h8⟩
theorem Str.grow {H H':Heap} {s:Nat} {m F:List Nat} (h:Str H s m F) (g:Grow H H'):Str H' s m F:=h.to g.next fun i hi=>g.same i (h.low i hi)
theorem New_ok {H:Heap}:Ok (sem T zeL []) H fun r H'=>∃ s F,r = .ptr s 0 ∧ Str H' s [] F ∧ (∀ i ∈ F,H.next ≤ i) ∧ Grow H H':=by
 refine zoA ?_;unfold zlG uL uO uq;simp (disch:=omega) only [↓RD,RZ,eq_self,seval];have gc:((H.new ⟨zaH,conC false,none⟩).new ⟨zaw,h0.map w32 ++ [.nils,.int .u64 ((0:Nat):Int),.ptr H.next 0],none⟩).get H.next = some ⟨zaH,conC false,none⟩:=by
  rw [zaX _ _ (by rw [zaf]; omega),zab]
 have gs:((H.new ⟨zaH,conC false,none⟩).new ⟨zaw,h0.map w32 ++ [.nils,.int .u64 ((0:Nat):Int),.ptr H.next 0],none⟩).get (H.next + 1) = some ⟨zaw,h0.map w32 ++ [.nils,.int .u64 ((0:Nat):Int),.ptr H.next 0],none⟩:=by
  rw [zpV _ _ (by rw [zaf])]
 have nx:((H.new ⟨zaH,conC false,none⟩).new ⟨zaw,h0.map w32 ++ [.nils,.int .u64 ((0:Nat):Int),.ptr H.next 0],none⟩).next = H.next + 2:=by rw [zaf,zaf]
 refine ⟨H.next + 1,[H.next + 1,H.next],rfl,⟨H.next,.nils,[],rfl,⟨gs,⟨false,gc⟩,.nil,rfl,by omega,by simp,by simp,?_,?_⟩,Ok8.nil⟩,fun i hi=>?_,(Grow.new _ _).trans (Grow.new _ _)⟩
 ·show H.next + 1 < _;exact Nat.lt_of_lt_of_eq (by omega) nx.symm
 ·show H.next < _;exact Nat.lt_of_lt_of_eq (by omega) nx.symm
 ·simp only [List.mem_cons,List.not_mem_nil,or_false] at hi;omega
theorem Copy_ok {H:Heap} {s:Nat} {m F:List Nat} (k:Str H s m F):Ok (sem T zcR [.ptr s 0]) H fun r H'=>∃ t c Fb,r = .ptr t 0 ∧ Str H' t m (t :: c :: Fb) ∧ c ∈ F ∧ H.next ≤ t ∧ (∀ i ∈ Fb,H.next ≤ i) ∧ Grow H H':=by
 obtain ⟨c,bv,Fb,rfl,k,hm8⟩:=k;refine ziC ?_;unfold zfV uS uT uF uNFM uN uO uq;have gs:=k.gs;have ql:=stl k.hl bv (.int .u64 (m.length:Nat)) (.ptr c 0);have hld:ldc (some 11) ((hs kc m).map w32 ++ [bv,.int .u64 (m.length:Nat),.ptr c 0]) 0 = some (.agg ((hs kc m).map w32 ++ [bv,.int .u64 (m.length:Nat),.ptr c 0])):=by
  rw [zdj (by omega),List.drop_zero,List.take_of_length_le (by omega)]
 have hok:V.okc (.agg ((hs kc m).map w32 ++ [bv,.int .u64 (m.length:Nat),.ptr c 0])) = true:=by
  have o:=k.bf.okc;simp only [V.okc,List.all_append,List.all_map,Bool.and_eq_true]
  skip
 have hsp:∀ L:List V,L.length = 11 → splice L 0 ((hs kc m).map w32 ++ [bv,.int .u64 (m.length:Nat),.ptr c 0]) = (hs kc m).map w32 ++ [bv,.int .u64 (m.length:Nat),.ptr c 0]:=fun L hL=>by
  unfold splice;rw [List.take_zero,List.nil_append,ql,List.drop_of_length_le (by omega),List.append_nil]
 have i8:=st8 k.hl;have hsl:=k.sl;have hcl:=k.cl;have hsp2:=sp8 k.hl;have h1:∀ i,i < H.next → ((H.new ⟨zaw,[.int .u32 0,.int .u32 0,.int .u32 0,.int .u32 0,.int .u32 0,.int .u32 0,.int .u32 0,.int .u32 0,.nils,.int .u64 0,.nilp],none⟩).set H.next (some ⟨zaw,(hs kc m).map w32 ++ [bv,.int .u64 (m.length:Nat),.ptr c 0],none⟩)).get i = H.get i:=fun i hi=>by rw [zai _ _ (by omega),zaX _ _ (by omega)]
 have g1:((H.new ⟨zaw,[.int .u32 0,.int .u32 0,.int .u32 0,.int .u32 0,.int .u32 0,.int .u32 0,.int .u32 0,.int .u32 0,.nils,.int .u64 0,.nilp],none⟩).set H.next (some ⟨zaw,(hs kc m).map w32 ++ [bv,.int .u64 (m.length:Nat),.ptr c 0],none⟩)).get H.next = _:=zal _ _ _;have n1:((H.new ⟨zaw,[.int .u32 0,.int .u32 0,.int .u32 0,.int .u32 0,.int .u32 0,.int .u32 0,.int .u32 0,.int .u32 0,.nils,.int .u64 0,.nilp],none⟩).set H.next (some ⟨zaw,(hs kc m).map w32 ++ [bv,.int .u64 (m.length:Nat),.ptr c 0],none⟩)).next = H.next + 1:=by rw [zan,zaf]
 simp (disch:=first | omega | (simp only [RY] <;> omega) | decide) only [↓RD,RZ,eq_self,seval,gs,hld,hok,hsp,ql,i8];clear gs;generalize hnx:H.next = t at *;generalize (H.new _).set _ _ = H1 at *;have b1:=k.bf.to (H':=H1) (by omega) fun i hi=>h1 i (hnx ▸ k.bf.low i hi);refine zug .nil b1.by.ac (by have:=zrv m; rw [List.length_nil]; omega) fun x' H2 F2 b2 s2=>?_;have gt2:=(s2.same t (by omega) (by simp)).trans g1;have c2:=b2.cells1;have o2:=b2.okc;have q2:=stl k.hl bv (.int .u64 (m.length:Nat)) (.ptr c 0);have n2:=s2.next;have f2:∀ i ∈ F2,t < i:=fun i hi=>by
  rcases s2.own i hi with h | h
  ·cases h
  ·omega
 simp (disch:=first | omega | (simp only [RY] <;> omega) | decide) only [↓RD,RZ,eq_self,seval,gt2,hsp2,q2,c2,o2];obtain ⟨d,hd⟩:=k.gc;have gc2:H2.get c = some ⟨zaH,conC d,none⟩:=by rw [s2.same c (by omega) (by simp),h1 c hcl]; exact hd
 refine ⟨t,c,F2,rfl,⟨c,x',F2,rfl,⟨zal _ _ _,⟨d,by rw [zai _ _ (by omega)]; exact gc2⟩,?_,k.hl,by omega,fun e=>by have:=f2 t e; omega,fun e=>by have:=f2 c e; omega,by rw [zan]; omega,by rw [zan]; omega⟩,hm8⟩,by simp,Nat.le_refl _,fun i hi=>by have:=f2 i hi; omega,⟨by rw [zan]; omega,fun i hi=>?_⟩⟩
 ·rw [List.nil_append] at b2;exact b2.to (by rw [zan]; exact Nat.le_refl _) fun i hi=>zai _ _ (by have:=f2 i hi; omega)
 ·rw [zai _ _ (by omega),s2.same i (by omega) (by simp),h1 i (by omega)]
end Go.Ax.SU
