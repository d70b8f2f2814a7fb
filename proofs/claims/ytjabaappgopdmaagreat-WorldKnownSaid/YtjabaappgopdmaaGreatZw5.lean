/-
  Texts of mine, put together by program (wip/slim.py), for law_worldKnown: part 5.
-/
import Derived.Test.YtjabaappgopdmaaGreatZw4
import Derived.Laws.Externs
import Derived.KernelRfl
noncomputable section
set_option linter.unusedVariables false
set_option linter.unusedSimpArgs false
set_option linter.defProp false
set_option maxRecDepth 100000
/- Ax12 -/
namespace Go.Ax
section
variable {P:Program} {m:Map} {Z:Nat->Prop} {H H':Heap} {w:World} {A:Fr} {a:Act} {G:Sem'}
def zaa{x:Arg}{k:V->M V}{r:V×Heap}(h:with1 A x k H=some r):∃v,x.ev A=some v/\k v H=some r:=by
 unfold with1 at h;cases hv:x.ev A with
 | some v=>rw[hv]at h;exact⟨v,rfl,h⟩
 | none=>rw[hv]at h;cases h
def zbF{xs:List Arg}{k:List V->M V}{r:V×Heap}(h:withs A xs k H=some r):∃vs,evs A xs=some vs/\k vs H=some r:=by
 unfold withs at h;cases hv:evs A xs with
 | some v=>rw[hv]at h;exact⟨v,rfl,h⟩
 | none=>rw[hv]at h;cases h
def zap{α:Type}{x:Option α}{v:α} (h:M.lift x H=some (v,H')):x=some v/\H'=H:=by
 simp only[M.lift,yac,yae]at h;obtain⟨_,h1,rfl,rfl⟩:=h;exact⟨h1,rfl⟩
def zkU{x:Option Operand}{y:Option Arg}{v:Option V}(hc:zfm x=some y)(he:zbA A y=some v)(hf:RelF m Z w A a.tmps) :
  (v=none/\x.map a.eval=none)\/∃u z,v=some u/\x.map a.eval=some z/\Rep m Z w u z:=by
 cases x with
 | none=>
  simp only[zfm,yab]at hc;subst hc;simp only[zbA,yab]at he;subst he;exact .inl ⟨rfl,rfl⟩
 | some x=>
  simp only[zfm,yac]at hc;obtain⟨y',hy,rfl⟩:=hc;simp only[zbA,yac]at he;obtain⟨u,hu,rfl⟩:=he;exact .inr ⟨u,_,rfl,rfl,zao hy hu hf⟩
def zs6{fs:Array Field}:∀{xs:List (Nat×Operand)} {ys:List (Nat×Nat×Arg)} {vs:List (Nat×Nat×V)},zdO P fs xs=some ys->zaF A ys=some vs->RelF m Z w A a.tmps ->
  zfq m Z w ((fs.map λf=>(f.offset,P.cellsOf f.type))[·]?) vs (xs.map λ(i,x)=>(i,a.eval x)):=by
 intro xs
 induction xs with
 | nil=>intro ys vs hc he _;simp[zdO]at hc;subst hc;simp[zaF]at he;subst he;trivial
 | cons p xs ih=>
  intro ys vs hc he hf;obtain⟨i,x⟩:=p;simp only[zdO,yaa,yac]at hc;obtain⟨f,hfi,s,hs,y,hy,ys',hys,rfl⟩:=hc;simp only[zaF,yaa,yac]at he;obtain⟨v,hv,vs',hvs,rfl⟩:=he;refine⟨?_,zao hy hv hf,ih hys hvs hf⟩;show(fs.map λf=>(f.offset,P.cellsOf f.type))[i]? = _;rw[ycJ,hfi,yas,(za4 (w:=w) hs).2.1]
def zp5{s:Nat}:∀{xs:List (Nat×Operand)} {ys:List (Nat×Nat×Arg)} {vs:List (Nat×Nat×V)},zd8 s xs=some ys->zaF A ys=some vs->RelF m Z w A a.tmps ->
  zfq m Z w (λi=>some (i*s,s)) vs (xs.map λ(i,x)=>(i,a.eval x)):=by
 intro xs
 induction xs with
 | nil=>intro ys vs hc he _;simp[zd8]at hc;subst hc;simp[zaF]at he;subst he;trivial
 | cons p xs ih=>
  intro ys vs hc he hf;obtain⟨i,x⟩:=p;simp only[zd8,yaa,yac]at hc;obtain⟨y,hy,ys',hys,rfl⟩:=hc;simp only[zaF,yaa,yac]at he;obtain⟨v,hv,vs',hvs,rfl⟩:=he;exact⟨rfl,zao hy hv hf,ih hys hvs hf⟩
def zrj{op:BinOp}{t:TypeId}{ox oy:Operand}{x y:Arg}{ins:I}{v:V}(hc:zlR P op t x y=some ins) (h:ins.run G A H=some (v,H')) (hx:∀u,x.ev A=some u->Rep m Z w u (a.eval ox))
  (hy:∀u,y.ev A=some u->Rep m Z w u (a.eval oy)) :
  H'=H/\∃r,(do eqGuard op t ox oy (a.eval ox) (a.eval oy);binOp op t (a.eval ox) (a.eval oy):Sem Value).run P w = .ok r w/\Rep m Z w v r:=by
 have hbin:ins = .bin op x y->H'=H/\∃r,(do eqGuard op t ox oy (a.eval ox) (a.eval oy);binOp op t (a.eval ox) (a.eval oy):Sem Value).run P w = .ok r w/\Rep m Z w v r:=by
  rintro rfl;simp only[I.run]at h;obtain⟨u,hu,h⟩:=zaa h;obtain⟨u',hu',h⟩:=zaa h;obtain⟨hl,rfl⟩:=zap h;exact⟨rfl,bin_run hl (hx u hu) (hy u' hu')⟩
 have heq:∀(k:EK) (neg:Bool),ins = .eq k neg x y->EqOk P t k->op=(if neg then .neq else .eql) ->
   H'=H/\∃r,(do eqGuard op t ox oy (a.eval ox) (a.eval oy);binOp op t (a.eval ox) (a.eval oy):Sem Value).run P w = .ok r w/\Rep m Z w v r:=by
  rintro k neg rfl hk rfl;simp only[I.run]at h;obtain⟨u,hu,h⟩:=zaa h;obtain⟨u',hu',h⟩:=zaa h;obtain⟨hl,rfl⟩:=zap h;exact⟨rfl,eq_run hk hl (hx u hu) (hy u' hu')⟩
 have hce:∀neg,znf P neg t x y=some ins->op=(if neg then .neq else .eql) ->
   H'=H/\∃r,(do eqGuard op t ox oy (a.eval ox) (a.eval oy);binOp op t (a.eval ox) (a.eval oy):Sem Value).run P w = .ok r w/\Rep m Z w v r:=by
  intro neg hc ho;unfold znf at hc;split at hc
  ·rename_i ht;injection hc with hc;exact heq _ neg hc.symm (.bool ht) ho
  ·rename_i ht;injection hc with hc;exact heq _ neg hc.symm (.ptr ht) ho
  ·rename_i ht;injection hc with hc;exact heq _ neg hc.symm (.sl ht) ho
  ·rename_i n e ht;split at hc
   ·rename_i k he;split at hc
    ·rename_i hh;injection hc with hc
     exact heq _ neg hc.symm (.arr ht he hh.1 hh.2.1 hh.2.2) ho
    ·cases hc
   ·cases hc
  ·rename_i ht;split at hc
   ·rename_i ks hks;injection hc with hc
    exact heq _ neg hc.symm (.st hks) ho
   ·simp only[yac]at hc;obtain⟨ks,hks,hc⟩:=hc;exact heq _ neg hc.symm (.dp ht hks) ho
  ·cases hc
 unfold zlR at hc;split at hc
 ·injection hc with hc;exact hbin hc.symm
 ·injection hc with hc;exact hbin hc.symm
 ·injection hc with hc;exact hbin hc.symm
 ·split at hc
  ·exact hce false hc rfl
  ·exact hce true hc rfl
  ·cases hc
 ·cases hc
def zfr {f:FuncId} {args:Array Operand} {ts:Array TypeId} {ty:TypeId} {fn:Func} (hfn:P.funcs[f]? = some fn) (hb:fn.body.isSome = true) (hn:(fn.name == "runtime.NumGoroutine") = false) (c:Operand) (caps:Array Value)
  (hc:a.eval c = .func (.func f) #[] caps) :
  (do let d <- resolve a.eval { callee:=.value c,args:=args,argTypes:=ts } ty;invoke d.target d.args:Sem Next).run P w = .ok (.enter f (args.map a.eval ++ caps)) w:=by
 have hnb:fn.body ≠ none:=by
  intro h;rw [h] at hb;cases hb
 have hn':fn.name ≠ "runtime.NumGoroutine":=by simpa using hn
 simp [resolve,hc,Deferred.ofValue,invoke,callFunc,hfn,hn',hnb]
theorem op_ok(hG:zgb P G){o:Oper}{ins:I}{v:V}(hc:zne P o.op=some ins) (h:ins.run G A H=some (v,H')) (hf:RelF m Z w A a.tmps) (r:RelH m Z H w) (hfr:Free m H H') {K:Act->World->Prop} {Q:Exit->Act->World->Prop}
  (hk:∀m' Z' x w',Ext m Z H w m' Z' H' w'->RelH m' Z' H' w'->Rep m' Z' w' v x->K (a.put o.dst x) w'):o.wp P a w K Q:=by
 -- an operation that looks at no memory
 have pureOp:H'=H->(∃x,(execOp a.eval o).run P w = .ok (.value x) w/\Rep m Z w v x)->o.wp P a w K Q:=by
  rintro rfl ⟨x,hx,hr⟩;exact wp_val hx (hk m Z x w (.refl _ _ _ _) r hr)
 have memOp:(∃m' x w',(execOp a.eval o).run P w = .ok (.value x) w'/\Rep m' Z w' v x/\RelH m' Z H' w'/\Ext m Z H w m' Z H' w')->o.wp P a w K Q:=by
  rintro⟨m',x,w',hx,hr,hh,he⟩;exact wp_val hx (hk m' Z x w' he hh hr)
 have mv:∀x:Operand,(zan x).map I.mv=some ins->(execOp a.eval o)=pure (.value (a.eval x))->o.wp P a w K Q:=by
  intro x hc he;simp only[yac]at hc;obtain⟨y,hy,rfl⟩:=hc;simp only[I.run]at h;obtain⟨u,hu,h⟩:=zaa h;simp only[M.pure,yab,yae]at h;obtain⟨rfl,rfl⟩:=h;exact pureOp rfl ⟨_,by rw[he];rfl,zao hy hu hf⟩
 unfold zne at hc;split at hc
 ·rename_i x ho;exact mv x hc (by simp only[execOp,ho])
 ·rename_i x ho;exact mv x hc (by simp only[execOp,ho])
 ·rename_i c x y ho;simp only[yaa,yac]at hc;obtain⟨c',hc',x',hx',y',hy',rfl⟩:=hc;simp only[I.run]at h;obtain⟨u,hu,h⟩:=zaa h;obtain⟨u1,hu1,h⟩:=zaa h;obtain⟨u2,hu2,h⟩:=zaa h;obtain⟨hl,rfl⟩:=zap h;exact pureOp rfl (by simp only[execOp,ho];exact pick_run hl (zao hc' hu hf) (zao hx' hu1 hf) (zao hy' hu2 hf))
 ·-- alloc
  rename_i t ho;simp only[yac]at hc;obtain⟨z,hz,rfl⟩:=hc;obtain⟨zv,hzr,hzc,hzs⟩:=zcE hz;obtain⟨_,h1,hr⟩:=zcf hzc;simp only[I.run]at h;obtain⟨u,hu,h⟩:=zaa h;simp only[Arg.ev,yab]at hu;subst hu;obtain⟨m',x,w',hx,hrep,hh,he⟩:=zvN (P:=P) (X:=.agg zv.cells) h (.agg hzs h1 λj v x hv hx=>hr j v x hv (by simpa using hx)) r hfr;refine memOp ⟨m',x,w',?_,hrep,hh,he⟩;simp only[execOp,ho];refine zaU ?_;have hb:(Instr.box t (.agg zv.cells)).run P w=(Instr.alloc t true (.tuple #[])).run P w:=by
   unfold Instr.box Instr.alloc;simp only[Sem.run_bind,hzr,Result.andThen_ok,newVar,Value.cells]
  rw[<-hb];exact hx
 ·rename_i t x ho;simp only[yac]at hc;obtain⟨y,hy,rfl⟩:=hc;simp only[I.run]at h;obtain⟨u,hu,h⟩:=zaa h;obtain⟨m',x',w',hx,hrep,hh,he⟩:=zvN (P:=P) h (zao hy hu hf) r hfr;exact memOp ⟨m',x',w',by simp only[execOp,ho];exact zaU hx,hrep,hh,he⟩
 ·-- build
  rename_i t parts ho;simp only[yaa]at hc;obtain⟨z,hz,hc⟩:=hc;have hparts:(parts.map λ(i,x)=>(i,a.eval x)).toList=parts.toList.map λ(i,x)=>(i,a.eval x):=by simp
  split at hc
  ·rename_i fs ht;split at hc
   ·rename_i hk';simp only[yac]at hc;obtain⟨ys,hys,rfl⟩:=hc;simp only[I.run]at h;cases hps:zaF A ys with
    | none=>rw[hps]at h;cases h
    | some ps=>
     rw[hps]at h;obtain⟨hl,rfl⟩:=zap h;obtain⟨x,hx,hrep⟩:=zkj (qs:=parts.map λ(i,x)=>(i,a.eval x)) ht hk' hz hl (by rw[hparts];exact zs6 hys hps hf);exact pureOp rfl ⟨x,by simp only[execOp,ho];exact zaU hx,hrep⟩
   ·cases hc
  ·rename_i n e ht;simp only[yaa,yac]at hc;obtain⟨s,hs,ys,hys,rfl⟩:=hc;simp only[I.run]at h;cases hps:zaF A ys with
   | none=>rw[hps]at h;cases h
   | some ps=>
    rw[hps]at h;obtain⟨hl,rfl⟩:=zap h;obtain⟨x,hx,hrep⟩:=zlX (qs:=parts.map λ(i,x)=>(i,a.eval x)) ht hs hz hl (by rw[hparts];exact zp5 hys hps hf);exact pureOp rfl ⟨x,by simp only[execOp,ho];exact zaU hx,hrep⟩
  ·cases hc
 ·-- buildSlice
  rename_i t len parts ho;simp only[yaa]at hc;obtain⟨e,he',s,hs,z,hz,hc⟩:=hc;split at hc
  ·rename_i hle;simp only[yac]at hc;obtain⟨ys,hys,rfl⟩:=hc;simp only[I.run]at h;cases hps:zaF A ys with
   | none=>rw[hps]at h;cases h
   | some ps=>
    rw[hps]at h;have hparts:(parts.map λ(i,x)=>(i,a.eval x)).toList=parts.toList.map λ(i,x)=>(i,a.eval x):=by simp
    obtain⟨m',x,w',hx,hrep,hh,he⟩:=slit_run (qs:=parts.map λ(i,x)=>(i,a.eval x)) (zcK he') hs hz hle.2 hle.1 h (by rw[hparts];exact zp5 hys hps hf) r hfr;exact memOp ⟨m',x,w',by simp only[execOp,ho];exact zaU hx,hrep,hh,he⟩
  ·cases hc
 ·-- load
  rename_i t x ho;simp only[yaa,yac]at hc;obtain⟨n,hn,y,hy,rfl⟩:=hc;simp only[I.run]at h;obtain⟨u,hu,h⟩:=zaa h;obtain⟨rfl,x',hx,hrep⟩:=zpn (P:=P) hn h (zao hy hu hf) r;exact pureOp rfl ⟨x',by simp only[execOp,ho];exact zaU hx,hrep⟩
 ·-- store
  rename_i t p x ho;simp only[yaa,yac]at hc;obtain⟨s,hs,p',hp',y,hy,rfl⟩:=hc;simp only[I.run]at h;obtain⟨u,hu,h⟩:=zaa h;obtain⟨u1,hu1,h⟩:=zaa h;obtain⟨rfl,w',hx,hh,he⟩:=ztK (P:=P) hs h (zao hp' hu hf) (zao hy hu1 hf) r;exact znm (by simp only[execOp,ho];exact znC hx) (hk m Z _ w' he hh (.tup rfl (by simp)))
 ·-- nilCheck
  rename_i x ho;simp only[yac]at hc;obtain⟨y,hy,rfl⟩:=hc;simp only[I.run]at h;obtain⟨u,hu,h⟩:=zaa h;obtain⟨hl,rfl⟩:=zap h;have hrep:=zao hy hu hf;refine pureOp rfl ⟨a.eval x,?_,?_⟩
  ·simp only[execOp,ho];generalize a.eval x=X at hrep;cases u<;>simp only[nilck,reduceCtorEq,yab]at hl<;>cases hrep<;>rfl
  ·cases u<;>simp only[nilck,reduceCtorEq,yab]at hl<;>(subst hl;exact hrep)
 ·-- binOp
  rename_i op t x y yt ho;simp only[yaa]at hc;obtain⟨x',hx',y',hy',hc⟩:=hc;obtain⟨rfl,x'',hx,hrep⟩:=zrj (a:=a) (ox:=x) (oy:=y) hc h (λu hu=>zao hx' hu hf) (λu hu=>zao hy' hu hf);exact pureOp rfl ⟨x'',by simp only[execOp,ho];exact zaU hx,hrep⟩
 ·-- unOp
  rename_i op t x ho;simp only[yac]at hc;obtain⟨y,hy,rfl⟩:=hc;simp only[I.run]at h;obtain⟨u,hu,h⟩:=zaa h;obtain⟨hl,rfl⟩:=zap h;obtain⟨x',hx,hrep⟩:=un_run (P:=P) (w:=w) hl (zao hy hu hf);exact pureOp rfl ⟨x',by simp only[execOp,ho];exact zaU hx,hrep⟩
 ·-- convert
  rename_i src dst x ho;split at hc
  ·rename_i d k hs hd;simp only[yac]at hc;obtain⟨y,hy,rfl⟩:=hc;simp only[I.run]at h;obtain⟨u,hu,h⟩:=zaa h;obtain⟨hl,rfl⟩:=zap h;obtain⟨x',hx,hrep⟩:=cint_run (P:=P) (w:=w) hs hd hl (zao hy hu hf);exact pureOp rfl ⟨x',by simp only[execOp,ho];exact zaU hx,hrep⟩
  ·rename_i k0 k hs hd;simp only[yac]at hc;obtain⟨y,hy,rfl⟩:=hc;simp only[I.run]at h;obtain⟨u,hu,h⟩:=zaa h;obtain⟨hl,rfl⟩:=zap h;obtain⟨x',hx,hrep⟩:=itof_run (P:=P) (w:=w) hs hd hl (zao hy hu hf);exact pureOp rfl ⟨x',by simp only[execOp,ho];exact zaU hx,hrep⟩
  ·rename_i e hs hd;split at hc
   ·rename_i he;simp only[yac]at hc;obtain⟨y,hy,rfl⟩:=hc;simp only[I.run]at h;obtain⟨u,hu,h⟩:=zaa h;obtain⟨rfl,x',hx,hrep⟩:=ztI (P:=P) hs hd he h (zao hy hu hf) r;exact pureOp rfl ⟨x',by simp only[execOp,ho];exact zaU hx,hrep⟩
   ·cases hc
  ·rename_i e hs hd;split at hc
   ·rename_i he;simp only[yac]at hc;obtain⟨y,hy,rfl⟩:=hc;simp only[I.run]at h;obtain⟨u,hu,h⟩:=zaa h;obtain⟨m',x',w',hx,hrep,hh,he'⟩:=zgZ (P:=P) (.inl hs) hd he h (zao hy hu hf) r hfr;exact memOp ⟨m',x',w',by simp only[execOp,ho];exact zaU hx,hrep,hh,he'⟩
   ·cases hc
  ·rename_i f e hs hd;split at hc
   ·rename_i he;split at hc
    ·rename_i hsd;have hsd:=eq_of_beq hsd;subst hsd;simp only[yac]at hc;obtain⟨y,hy,rfl⟩:=hc;simp only[I.run]at h;obtain⟨u,hu,h⟩:=zaa h;obtain⟨m',x',w',hx,hrep,hh,he'⟩:=zsB (P:=P) hd he h (zao hy hu hf) r hfr;exact memOp ⟨m',x',w',by simp only[execOp,ho];exact zaU hx,hrep,hh,he'⟩
    ·simp only[yac]at hc;obtain⟨y,hy,rfl⟩:=hc;simp only[I.run]at h;obtain⟨u,hu,h⟩:=zaa h;obtain⟨m',x',w',hx,hrep,hh,he'⟩:=zgZ (P:=P) (.inr ⟨f,hs⟩) hd he h (zao hy hu hf) r hfr;exact memOp ⟨m',x',w',by simp only[execOp,ho];exact zaU hx,hrep,hh,he'⟩
   ·cases hc
  ·cases hc
 ·-- fieldAddr
  rename_i s x f ho;split at hc
  ·rename_i fs hs;simp only[yaa]at hc;obtain⟨fd,hfd,n,hn,hc⟩:=hc;split at hc
   ·rename_i h0;simp only[yac]at hc;obtain⟨y,hy,rfl⟩:=hc;simp only[I.run]at h;obtain⟨u,hu,h⟩:=zaa h;obtain⟨hl,rfl⟩:=zap h;obtain⟨x',hx,hrep⟩:=zvo (P:=P) (w:=w) hs hfd hn h0 hl (zao hy hu hf);exact pureOp rfl ⟨x',by simp only[execOp,ho];exact zaU hx,hrep⟩
   ·cases hc
  ·cases hc
 ·-- indexAddr
  rename_i t x i ho;split at hc
  ·rename_i e ht;simp only[yaa,yac]at hc;obtain⟨s,hs,x',hx',i',hi',rfl⟩:=hc;simp only[I.run]at h;obtain⟨u,hu,h⟩:=zaa h;obtain⟨u1,hu1,h⟩:=zaa h;obtain⟨hl,rfl⟩:=zap h;obtain⟨x'',hx,hrep⟩:=zpt (P:=P) (w:=w) (.inl ⟨rfl,ht⟩) hs hl (zao hx' hu hf) (zao hi' hu1 hf);exact pureOp rfl ⟨x'',by simp only[execOp,ho];exact zaU hx,hrep⟩
  ·rename_i n e ht;simp only[yaa,yac]at hc;obtain⟨s,hs,x',hx',i',hi',rfl⟩:=hc;simp only[I.run]at h;obtain⟨u,hu,h⟩:=zaa h;obtain⟨u1,hu1,h⟩:=zaa h;obtain⟨hl,rfl⟩:=zap h;obtain⟨x'',hx,hrep⟩:=zpt (P:=P) (w:=w) (.inr ⟨n,rfl,ht⟩) hs hl (zao hx' hu hf) (zao hi' hu1 hf);exact pureOp rfl ⟨x'',by simp only[execOp,ho];exact zaU hx,hrep⟩
  ·cases hc
 ·-- index
  rename_i t x i ho;split at hc
  ·rename_i n e ht;simp only[yaa,yac]at hc;obtain⟨s,hs,l,hld,x',hx',i',hi',rfl⟩:=hc;simp only[I.run]at h;obtain⟨u,hu,h⟩:=zaa h;obtain⟨u1,hu1,h⟩:=zaa h;obtain⟨hl,rfl⟩:=zap h;obtain⟨x'',hx,hrep⟩:=zu3 (P:=P) (w:=w) ht hs hld hl (zao hx' hu hf) (zao hi' hu1 hf);exact pureOp rfl ⟨x'',by simp only[execOp,ho];exact zaU hx,hrep⟩
  ·rename_i ht;simp only[yaa,yac]at hc;obtain⟨x',hx',i',hi',rfl⟩:=hc;simp only[I.run]at h;obtain⟨u,hu,h⟩:=zaa h;obtain⟨u1,hu1,h⟩:=zaa h;obtain⟨hl,rfl⟩:=zap h;obtain⟨x'',hx,hrep⟩:=zso (P:=P) (w:=w) ht hl (zao hx' hu hf) (zao hi' hu1 hf);exact pureOp rfl ⟨x'',by simp only[execOp,ho];exact zaU hx,hrep⟩
  ·cases hc
 ·-- field
  rename_i t x f ho;split at hc
  ·rename_i fs ht;simp only[yaa,yac]at hc;obtain⟨fd,hfd,l,hld,y,hy,rfl⟩:=hc;simp only[I.run]at h;obtain⟨u,hu,h⟩:=zaa h;obtain⟨hl,rfl⟩:=zap h;obtain⟨x'',hx,hrep⟩:=zvm (P:=P) (w:=w) ht hfd hld hl (zao hy hu hf);exact pureOp rfl ⟨x'',by simp only[execOp,ho];exact zaU hx,hrep⟩
  ·cases hc
 ·-- extract
  rename_i x i ho;simp only[yac]at hc;obtain⟨y,hy,rfl⟩:=hc;simp only[I.run]at h;obtain⟨u,hu,h⟩:=zaa h;obtain⟨hl,rfl⟩:=zap h;obtain⟨x'',hx,hrep⟩:=ext_run (P:=P) (w:=w) hl (zao hy hu hf);exact pureOp rfl ⟨x'',by simp only[execOp,ho];exact zaU hx,hrep⟩
 ·-- slice to array
  rename_i t x ho;split at hc
  ·rename_i n e ht;simp only[yac]at hc;obtain⟨y,hy,rfl⟩:=hc;simp only[I.run]at h;obtain⟨u,hu,h⟩:=zaa h;obtain⟨hl,rfl⟩:=zap h;obtain⟨x'',hx,hrep⟩:=s2a_run (P:=P) (w:=w) ht hl (zao hy hu hf);exact pureOp rfl ⟨x'',by simp only[execOp,ho];exact zaU hx,hrep⟩
  ·cases hc
 ·-- slice
  rename_i t x lo hi mx ho;simp only[yaa]at hc;obtain⟨x',hx',lo',hlo',hi',hhi',mx',hmx',hc⟩:=hc;have key:∀ck esz,ins = .slice ck esz x' lo' hi' mx'->Cuts P t esz ck->o.wp P a w K Q:=by
   rintro ck esz rfl hcut;simp only[I.run]at h;obtain⟨u,hu,h⟩:=zaa h;cases hl1:zbA A lo' with
   | none=>rw[hl1]at h;cases h
   | some l1=>
    cases hh1:zbA A hi' with
    | none=>rw[hl1,hh1]at h;cases h
    | some h1=>
     cases hm1:zbA A mx' with
     | none=>rw[hl1,hh1,hm1]at h;cases h
     | some m1=>
      rw[hl1,hh1,hm1]at h;obtain⟨hl,rfl⟩:=zap h;have hrx:=zao (a:=a) hx' hu hf;obtain⟨x'',hx,hrep⟩:=zsm (P:=P) (w:=w) hcut hl hrx (zkU hlo' hl1 hf) (zkU hhi' hh1 hf) (zkU hmx' hm1 hf);exact pureOp rfl ⟨x'',by simp only[execOp,ho];exact zaU hx,hrep⟩
  split at hc
  ·rename_i e ht;simp only[yaa]at hc;obtain⟨s,hs,hc⟩:=hc;split at hc
   ·rename_i fs lo2 hi2 hst;split at hc
    ·rename_i hs0;injection hc with hc
     subst hc;simp only[I.run]at h;obtain⟨u,hu,h⟩:=zaa h;obtain⟨u1,hu1,h⟩:=zaa h;obtain⟨u2,hu2,h⟩:=zaa h;have hrx:=zao (a:=a) hx' hu hf;obtain⟨LO,hLO,hrl⟩:∃LO,lo.map a.eval=some LO/\Rep m Z w u1 LO:=by
      rcases zkU (a:=a) hlo' (show zbA A (some lo2)=some (some u1) by simp[zbA,hu1]) hf with⟨h1,_⟩|⟨v1,y1,h1,h2,h3⟩
      ·cases h1
      ·injection h1 with h1;subst h1;exact⟨y1,h2,h3⟩
     obtain⟨HI,hHI,hrh⟩:∃HI,hi.map a.eval=some HI/\Rep m Z w u2 HI:=by
      rcases zkU (a:=a) hhi' (show zbA A (some hi2)=some (some u2) by simp[zbA,hu2]) hf with⟨h1,_⟩|⟨v1,y1,h1,h2,h3⟩
      ·cases h1
      ·injection h1 with h1;subst h1;exact⟨y1,h2,h3⟩
     have hMX:mx.map a.eval=none:=by
      cases mx with
      | none=>rfl
      | some y=>simp only[zfm,yac]at hmx';obtain⟨_,_,h1⟩:=hmx';cases h1
     obtain⟨rfl,x'',hx,hrep⟩:=zsn (P:=P) (w:=w) ht hs hs0 h hrx hrl hrh r;exact pureOp rfl ⟨x'',by simp only[execOp,ho,hLO,hHI,hMX];exact zaU hx,hrep⟩
    ·cases hc
   ·injection hc with hc
    exact key _ _ hc.symm (.sl ht hs)
  ·rename_i n e ht;simp only[yac]at hc;obtain⟨s,hs,rfl⟩:=hc;exact key _ _ rfl (.arr ht hs)
  ·rename_i ht;injection hc with hc
   exact key _ _ hc.symm (.str ht)
  ·cases hc
 ·-- makeSlice
  rename_i t l c ho;simp only[yaa]at hc;obtain⟨e,he',i,hi,z,hz,hc⟩:=hc;split at hc
  ·rename_i hzl;simp only[yaa,yac]at hc;obtain⟨l',hl',c',hc',rfl⟩:=hc;simp only[I.run]at h;obtain⟨u,hu,h⟩:=zaa h;obtain⟨u1,hu1,h⟩:=zaa h;obtain⟨m',x,w',hx,hrep,hh,he⟩:=zqP (P:=P) (zcK he') hi hz hzl.1 hzl.2 h (zao hl' hu hf) (zao hc' hu1 hf) r hfr;exact memOp ⟨m',x,w',by simp only[execOp,ho];exact zaU hx,hrep,hh,he⟩
  ·cases hc
 ·-- makeFunc
  rename_i f first caps ho
  split at hc
  ·rename_i h0;simp only[yac]at hc;obtain⟨ys,hys,rfl⟩:=hc;simp only[I.run]at h;obtain⟨us,hus,h⟩:=zbF h;simp only[M.pure,yab,yae]at h;obtain⟨rfl,rfl⟩:=h;have hreps:=ziJ (a:=a) hys hus hf;have hfirst:first = #[]:=Array.eq_empty_of_size_eq_zero h0
   refine pureOp rfl ⟨.func (.func f) #[] (caps.map a.eval),?_,.fn (by have:=hreps.1;simpa using this) λj v x hv hx=>hreps.2 j v x hv ?_⟩
   ·simp only[execOp,ho,hfirst];exact zaU (by simp[Instr.makeFunc])
   ·rw[<-hx];simp
  ·cases hc
 ·-- makeMap
  rename_i t ho;split at hc
  ·rename_i k e ht;injection hc with hc
   subst hc;obtain⟨m',x,w',hx,hrep,hh,he⟩:=zuT (P:=P) h r hfr;exact memOp ⟨m',x,w',by simp only[execOp,ho];exact zaU hx,hrep,hh,he⟩
  ·cases hc
 ·-- lookup
  rename_i t x i ok ho;simp only[yaa,yac]at hc;obtain⟨q,hq,z,hz,x',hx',i',hi',rfl⟩:=hc;simp only[I.run]at h;obtain⟨u,hu,h⟩:=zaa h;obtain⟨u1,hu1,h⟩:=zaa h;obtain⟨rfl,x'',hx,hrep⟩:=zsQ (P:=P) hq hz h (zao hx' hu hf) (zao hi' hu1 hf) r;exact pureOp rfl ⟨x'',by simp only[execOp,ho];exact zaU hx,hrep⟩
 ·-- mapUpdate
  rename_i t x k v' ho;simp only[yaa,yac]at hc;obtain⟨q,hq,x',hx',k',hk',y,hy,rfl⟩:=hc;simp only[I.run]at h;obtain⟨u,hu,h⟩:=zaa h;obtain⟨u1,hu1,h⟩:=zaa h;obtain⟨u2,hu2,h⟩:=zaa h;obtain⟨rfl,w',hx,hh,he⟩:=zm2 (P:=P) hq h (zao hx' hu hf) (zao hk' hu1 hf) (zao hy hu2 hf) r;exact znm (by simp only[execOp,ho];exact znC hx) (hk m Z _ w' he hh (.tup rfl (by simp)))
 ·-- insert
  rename_i t x k v' ho;simp only[yaa,yac]at hc;obtain⟨q,hq,x',hx',k',hk',y,hy,rfl⟩:=hc;simp only[I.run]at h;obtain⟨u,hu,h⟩:=zaa h;obtain⟨u1,hu1,h⟩:=zaa h;obtain⟨u2,hu2,h⟩:=zaa h;obtain⟨rfl,w',hx,hh,he⟩:=zm2 (P:=P) hq h (zao hx' hu hf) (zao hk' hu1 hf) (zao hy hu2 hf) r;exact znm (by simp only[execOp,ho];exact znC hx) (hk m Z _ w' he hh (.tup rfl (by simp)))
 ·-- a call of a function by its name
  rename_i f args ts ho;simp only[yaa]at hc;obtain⟨ys,hys,hc⟩:=hc;have hexec:execOp a.eval o=(do let d <-resolve a.eval { callee:=.value (.func f),args:=args,argTypes:=ts } o.type;invoke d.target d.args):=by simp only[execOp,ho]
  unfold zkr at hc;split at hc
  rotate_left
  ·cases hc
  rename_i fn hfn;split at hc
  ·-- no body: what the model has in its place
   rename_i hb;split at hc
   ·rename_i hck;obtain⟨hname,hnx⟩:=hck;have hnx:Extern.findNext fn=none:=by simpa using hnx
    simp only[yaa]at hc;obtain⟨k,hk1,hc⟩:=hc;have hev:∀l,args.toList=l->args.map a.eval=(l.map a.eval).toArray:=by
     rintro l rfl;apply ybN;simp
    have ext:∀(e:Array Value->Sem Value),Extern.find fn=some e->∀(x:Value) (w':World),(e (args.map a.eval)).run P w = .ok x w'->(execOp a.eval o).run P w = .ok (.value x) w':=by
     intro e he x w' hx;rw[hexec];have:(do let d <-resolve a.eval { callee:=.value (.func f),args:=args,argTypes:=ts } o.type;invoke d.target d.args:Sem Next).run P w=(callFunc f (args.map a.eval)).run P w:=by
      simp[resolve,Act.eval,Deferred.ofValue,invoke]
     rw[this,run_callFunc_extern hfn hname hb hnx he,hx];rfl
    have one:∀(ins':I) (x:Arg),ys=[x]->∃o1:Operand,args.toList=[o1]/\zan o1=some x:=by
     intro ins' x hyx;subst hyx;cases hal:args.toList with
     | nil=>rw[hal]at hys;simp[zbr]at hys
     | cons o1 os=>
      rw[hal]at hys;simp only[zbr,yaa,yac,ycu]at hys;obtain⟨x1,hx1,xs1,hxs1,rfl,rfl⟩:=hys;cases os with
      | nil=>exact⟨o1,rfl,hx1⟩
      | cons o2 os=>
       simp only[zbr,yaa,yac]at hxs1;obtain⟨_,_,_,_,h9⟩:=hxs1;cases h9
    unfold extOf at hk1;split at hk1
    ·rename_i hn;injection hk1 with hk1
     subst hk1;unfold zf8 at hc;split at hc<;>simp only[reduceCtorEq,yab]at hc
     all_goals (rename_i hkk;first|cases hkk;done|skip)
     rename_i x;subst hc;obtain⟨o1,ha,hx1⟩:=one (.op1 .fbits x) x rfl;simp only[I.run]at h;obtain⟨u,hu,h⟩:=zaa h;obtain⟨hl,rfl⟩:=zap h;have hrx:=zao (a:=a) hx1 hu hf;have hfi:Extern.find fn=some Extern.MathFloatBits.float64bits:=by unfold Extern.find;rw[hn];kernel_rfl
     rw[hev _ ha]at ext;cases u<;>first|(cases hl;done)|skip
     rename_i xv;cases xv<;>first|(cases hl;done)|skip
     rename_i kf b;cases kf<;>first|(cases hl;done)|skip
     replace hl:some (V.int .u64 b)=some v:=hl;injection hl with hl
     subst hl;have hv:a.eval o1 = .float .f64 b:=by generalize a.eval o1=X at hrx;cases hrx;rfl
     exact pureOp rfl ⟨.int .u64 b,ext _ hfi _ _ (by rw[ya5,ycd,hv];rfl),.int _ _⟩
    ·split at hk1
     ·rename_i hn;injection hk1 with hk1
      subst hk1;unfold zf8 at hc;split at hc<;>simp only[reduceCtorEq,yab]at hc
      all_goals (rename_i hkk;first|cases hkk;done|skip)
      rename_i x;subst hc;obtain⟨o1,ha,hx1⟩:=one (.op1 .ffrom x) x rfl;simp only[I.run]at h;obtain⟨u,hu,h⟩:=zaa h;obtain⟨hl,rfl⟩:=zap h;have hrx:=zao (a:=a) hx1 hu hf;have hfi:Extern.find fn=some Extern.MathFloatBits.float64frombits:=by unfold Extern.find;rw[hn];kernel_rfl
      rw[hev _ ha]at ext;cases u<;>first|(cases hl;done)|skip
      rename_i kf b;cases kf<;>first|(cases hl;done)|skip
      replace hl:some (V.lit (.float .f64 b.toNat))=some v:=hl;injection hl with hl
      subst hl;have hv:a.eval o1 = .int .u64 b:=by generalize a.eval o1=X at hrx;cases hrx;rfl
      exact pureOp rfl ⟨.float .f64 b.toNat,ext _ hfi _ _ (by rw[ya5,ycd,hv];rfl),.lit _⟩
     ·split at hk1
      ·rename_i hn;simp only[yaa]at hk1;obtain⟨t,ht,hk1⟩:=hk1;split at hk1
       ·rename_i hsz;simp only[yac]at hk1;obtain⟨e,he,rfl⟩:=hk1;unfold zf8 at hc;split at hc<;>simp only[reduceCtorEq,yab]at hc
        all_goals (rename_i hkk;first|cases hkk;done|skip)
        rename_i e' x;injection hkk with hkk
        subst hkk;subst hc;obtain⟨o1,ha,hx1⟩:=one (.mknz e x) x rfl;simp only[I.run]at h;obtain⟨u,hu,h⟩:=zaa h;have hrt:fn.resultTypes = #[t]:=by
         apply Array.ext
         ·simp[hsz]
         ·intro i h1 h2;have:i=0:=by simp at h2;omega
          subst this;rw[yar h1]at ht;simpa using ht
        have hfi:Extern.find fn=some (Extern.BytealgMakeNoZero.makeNoZero fn.params #[t]):=by unfold Extern.find;rw[hn,hrt];kernel_rfl
        obtain⟨m',y,w',hrun,hrep,hh,hee⟩:=mknz_run (P:=P) (ps:=fn.params) (zcK he) h (zao (a:=a) hx1 hu hf) r hfr;rw[hev _ ha]at ext;exact memOp ⟨m',y,w',ext _ hfi _ _ hrun,hrep,hh,hee⟩
       ·cases hk1
      ·split at hk1
       ·rename_i hn;injection hk1 with hk1
        subst hk1;unfold zf8 at hc;split at hc<;>simp only[reduceCtorEq,yab]at hc
        all_goals (rename_i hkk;first|cases hkk;done|skip)
        rename_i k x;injection hkk with hkk
        subst hkk;subst hc;obtain⟨o1,ha,hx1⟩:=one (.aload .i64 x) x rfl;simp only[I.run]at h;obtain⟨u,hu,h⟩:=zaa h;have hfi:Extern.find fn=some (Extern.Atomic.loadT (.int .i64)):=by unfold Extern.find;rw[hn];kernel_rfl
        obtain⟨rfl,y,hrun,hrep⟩:=zpq P h (zao (a:=a) hx1 hu hf) r;rw[hev _ ha]at ext;exact pureOp rfl ⟨y,ext _ hfi _ _ hrun,hrep⟩
       ·split at hk1
        ·rename_i hn;injection hk1 with hk1
         subst hk1;unfold zf8 at hc;split at hc<;>simp only[reduceCtorEq,yab]at hc
         all_goals (rename_i hkk;first|cases hkk;done|skip)
         rename_i k x1 x2;injection hkk with hkk
         subst hkk;subst hc;obtain⟨o1,o2,ha,hx1,hx2⟩:∃o1 o2:Operand,args.toList=[o1,o2]/\zan o1=some x1/\zan o2=some x2:=by
          cases hal:args.toList with
          | nil=>rw[hal]at hys;simp[zbr]at hys
          | cons o1 os=>
           rw[hal]at hys;simp only[zbr,yaa,yac,ycu]at hys;obtain⟨y1,hy1,ys1,hys1,rfl,h9⟩:=hys;cases os with
           | nil=>simp[zbr]at hys1;rw[<-hys1]at h9;cases h9
           | cons o2 os=>
            simp only[zbr,yaa,yac]at hys1;obtain⟨y2,hy2,ys2,hys2,rfl⟩:=hys1;injection h9 with h9 h10
            subst h9 h10;cases os with
            | nil=>exact⟨o1,o2,rfl,hy1,hy2⟩
            | cons o3 os=>
             simp only[zbr,yaa,yac]at hys2;obtain⟨_,_,_,_,h11⟩:=hys2;cases h11
         simp only[I.run]at h;obtain⟨u,hu,h⟩:=zaa h;obtain⟨u2,hu2,h⟩:=zaa h;have hfi:Extern.find fn=some (Extern.Atomic.update (Op.intArith .add) .i64 true):=by unfold Extern.find;rw[hn];kernel_rfl
         obtain⟨y,w',hrun,hrep,hh,hee⟩:=zqS P h (zao (a:=a) hx1 hu hf) (zao (a:=a) hx2 hu2 hf) r;rw[hev _ ha]at ext;exact memOp ⟨m,y,w',ext _ hfi _ _ hrun,hrep,hh,hee⟩
        ·cases hk1
   ·cases hc
  injection hc with hc
  subst hc;simp only[I.run]at h;obtain⟨us,hus,h⟩:=zbF h;obtain⟨_,hcall,fn,hfn,hb,hname⟩:=hG f us H v H' h;have hreps:=ziJ (a:=a) hys hus hf;have hrun:=zfr (P:=P) (w:=w) (a:=a) (args:=args) (ts:=ts) (ty:=o.type) hfn hb hname (.func f) #[] rfl;unfold Oper.wp;rw[show execOp a.eval o=(do let d <-resolve a.eval { callee:=.value (.func f),args:=args,argTypes:=ts } o.type;invoke d.target d.args) from by simp only[execOp,ho],hrun];rw[Oper.upon_enter];have:=hcall m Z w (args.toList.map a.eval) r hfr hreps;rw[show(args.toList.map a.eval).toArray=args.map a.eval ++ #[] from by apply ybN;simp]at this;refine this.mono ?_;rintro e w' ⟨m',Z',x,rfl,hrep,hh,he⟩;exact hk m' Z' x w' he hh hrep
 ·-- a call of a function value
  rename_i x args ts hne ho;simp only[yaa,yac]at hc;obtain⟨x',hx',ys,hys,rfl⟩:=hc;simp only[I.run]at h;obtain⟨u,hu,h⟩:=zaa h;obtain⟨us,hus,h⟩:=zbF h;cases u with
  | fn f caps=>
   simp only[callv]at h;have hrx:=zao (a:=a) hx' hu hf;obtain⟨_,hcall,fn,hfn,hb,hname⟩:=hG f _ H v H' h;have hreps:=ziJ (a:=a) hys hus hf;obtain⟨cv,hcv,hcl,hcr⟩:∃cv:Array Value,a.eval x = .func (.func f) #[] cv/\cv.size=caps.length/\∀(j:Nat) (v:V) (x:Value),caps[j]?=some v->cv[j]?=some x->Rep m Z w v x:=by
    generalize a.eval x=X at hrx;cases hrx with
    | fn hl h=>exact⟨_,rfl,hl,h⟩
   have hrun:=zfr (P:=P) (w:=w) (a:=a) (args:=args) (ts:=ts) (ty:=o.type) hfn hb hname x cv hcv;unfold Oper.wp;rw[show execOp a.eval o=(do let d <-resolve a.eval { callee:=.value x,args:=args,argTypes:=ts } o.type;invoke d.target d.args) from by simp only[execOp,ho],hrun];rw[Oper.upon_enter];have:=hcall m Z w (args.toList.map a.eval++cv.toList) r hfr (zkQ hreps ⟨by simpa using hcl,λj v x hv hx=>hcr j v x hv (by simpa using hx)⟩);rw[show(args.toList.map a.eval++cv.toList).toArray=args.map a.eval++cv from by apply ybN;simp]at this;refine this.mono ?_;rintro e w' ⟨m',Z',x,rfl,hrep,hh,he⟩;exact hk m' Z' x w' he hh hrep
  | _=>simp only[callv]at h;cases h
 ·-- a builtin
  rename_i b args ts ho;have hexec:execOp a.eval o=(do let d <-resolve a.eval { callee:=.builtin b,args:=args,argTypes:=ts } o.type;invoke d.target d.args):=by simp only[execOp,ho]
  have hbv:∀(s:Sem Value) (x:Value) (w':World),(∀cs,builtin b ts o.type cs (args.map a.eval)=(do pure (.value (<-s))))->s.run P w = .ok x w'->(execOp a.eval o).run P w = .ok (.value x) w':=by
   intro s x w' hb hs;rw[hexec];simp only[resolve,Sem.run_bind,Sem.run_pure,Result.andThen_ok,invoke];rw[hb];exact zaU hs
  have hev:∀l,args.toList=l->args.map a.eval=(l.map a.eval).toArray:=by
   rintro l rfl;apply ybN;simp
  unfold zfo at hc;split at hc
  ·-- len
   rename_i x t hargs hts;have hts':ts = #[t]:=by apply ybN;simpa using hts
   subst hts';have ha:=hev _ hargs;split at hc
   ·rename_i ht;simp only[yac]at hc;obtain⟨y,hy,rfl⟩:=hc;simp only[I.run]at h;obtain⟨u,hu,h⟩:=zaa h;obtain⟨hl,rfl⟩:=zap h;obtain⟨x',hx,hrep⟩:=slen_run (P:=P) (w:=w) (ty:=o.type) ht hl (zao hy hu hf);exact pureOp rfl ⟨x',hbv _ _ _ (λ_=>rfl) (by rw[ha];exact hx),hrep⟩
   ·rename_i e ht;simp only[yac]at hc;obtain⟨y,hy,rfl⟩:=hc;simp only[I.run]at h;obtain⟨u,hu,h⟩:=zaa h;obtain⟨hl,rfl⟩:=zap h;obtain⟨x',hx,hrep⟩:=len_run (P:=P) (w:=w) (ty:=o.type) ht hl (zao hy hu hf);exact pureOp rfl ⟨x',hbv _ _ _ (λ_=>rfl) (by rw[ha];exact hx),hrep⟩
   ·rename_i n e ht;injection hc with hc
    subst hc;simp only[I.run,with1,Arg.ev,M.pure,yab,yae]at h;obtain⟨rfl,rfl⟩:=h;exact pureOp rfl ⟨.int .i64 (n:Int),hbv (Builtin.len_ #[t] o.type (args.map a.eval)) _ _ (λ_=>rfl) (by rw[ha];simp[Builtin.len_,run_underlying ht,goInt]),.int _ _⟩
   ·rename_i k e ht;simp only[yac]at hc;obtain⟨y,hy,rfl⟩:=hc;simp only[I.run]at h;obtain⟨u,hu,h⟩:=zaa h;obtain⟨rfl,x',hx,hrep⟩:=zsO (P:=P) (w:=w) (ty:=o.type) ht h (zao hy hu hf) r;exact pureOp rfl ⟨x',hbv _ _ _ (λ_=>rfl) (by rw[ha];exact hx),hrep⟩
   ·cases hc
  ·-- append
   rename_i x y t u hargs hts;have hts':ts = #[t,u]:=by apply ybN;simpa using hts
   subst hts';have ha:=hev _ hargs;simp only[yaa]at hc;obtain⟨e,he,i,hi,z,hz,hc⟩:=hc;split at hc
   ·rename_i hzz;have happ:AppTy P u:=by
     have:=hzz.1;unfold isApp at this;split at this
     ·rename_i e' he';exact .inl ⟨e',he'⟩
     ·rename_i he';exact .inr he'
     ·cases this
    simp only[yaa,yac]at hc;obtain⟨x',hx',y',hy',rfl⟩:=hc;simp only[I.run]at h;obtain⟨u1,hu1,h⟩:=zaa h;obtain⟨u2,hu2,h⟩:=zaa h;obtain⟨m',r',w',hx,hrep,hh,hee⟩:=ztn (P:=P) (ty:=o.type) (zcK he) happ hi hz hzz.2.1 hzz.2.2 h (zao hx' hu1 hf) (zao hy' hu2 hf) r hfr;exact memOp ⟨m',r',w',hbv _ _ _ (λ_=>rfl) (by rw[ha];exact hx),hrep,hh,hee⟩
   ·unfold zks at hc;split at hc
    ·rename_i k hk;simp only[yaa]at hc;obtain⟨zz,hzz,hc⟩:=hc;split at hc
     ·rename_i hzl;simp only[yaa,yac]at hc;obtain⟨x',hx',y',hy',rfl⟩:=hc;simp only[I.run]at h;obtain⟨u1,hu1,h⟩:=zaa h;obtain⟨u2,hu2,h⟩:=zaa h;obtain⟨m',r',w',hx,hrep,hh,hee⟩:=zro (P:=P) (ty:=o.type) (zcK he) hk hi hzz hzl.1 hzl.2 h (zao hx' hu1 hf) (zao hy' hu2 hf) r hfr;exact memOp ⟨m',r',w',hbv _ _ _ (λ_=>rfl) (by rw[ha];exact hx),hrep,hh,hee⟩
     ·cases hc
    ·cases hc
  ·-- copy
   rename_i x y t u hargs hts;have hts':ts = #[t,u]:=by apply ybN;simpa using hts
   subst hts';have ha:=hev _ hargs;simp only[yaa,yac]at hc;obtain⟨e,he,s,hs,x',hx',y',hy',rfl⟩:=hc;simp only[I.run]at h;obtain⟨u1,hu1,h⟩:=zaa h;obtain⟨u2,hu2,h⟩:=zaa h;obtain⟨r',w',hx,hrep,hh,hee⟩:=copy_run (P:=P) (ty:=o.type) (u:=u) (zcK he) hs h (zao hx' hu1 hf) (zao hy' hu2 hf) r;exact memOp ⟨m,r',w',hbv _ _ _ (λ_=>rfl) (by rw[ha];exact hx),hrep,hh,hee⟩
  ·-- clear
   rename_i x t hargs hts;have hts':ts = #[t]:=by apply ybN;simpa using hts
   subst hts';have ha:=hev _ hargs;simp only[yaa]at hc;obtain⟨e,he,z,hz,hc⟩:=hc;split at hc
   ·rename_i hzz;simp only[yac]at hc;obtain⟨x',hx',rfl⟩:=hc;simp only[I.run]at h;obtain⟨u1,hu1,h⟩:=zaa h;obtain⟨r',w',hx,hrep,hh,hee⟩:=zvy (P:=P) (ty:=o.type) (zcK he) hz hzz.2 h (zao hx' hu1 hf) r;exact memOp ⟨m,r',w',hbv _ _ _ (λ_=>rfl) (by rw[ha];exact hx),hrep,hh,hee⟩
   ·cases hc
  ·-- max
   rename_i x xs hargs;have ha:=hev _ hargs;simp only[yaa,yac]at hc;obtain⟨x',hx',ys,hys,rfl⟩:=hc;simp only[I.run]at h;obtain⟨u1,hu1,h⟩:=zaa h;obtain⟨us,hus,h⟩:=zbF h;obtain⟨hl,rfl⟩:=zap h;obtain⟨x'',hx,hrep⟩:=zm0 (P:=P) (w:=w) true us u1 v _ _ hl (zao hx' hu1 hf) (ziJ (a:=a) hys hus hf);exact pureOp rfl ⟨x'',hbv (Builtin.max_ ts o.type (args.map a.eval)) _ _ (λ_=>rfl) (by rw[ha];simpa [Builtin.max_]using hx),hrep⟩
  ·-- min
   rename_i x xs hargs;have ha:=hev _ hargs;simp only[yaa,yac]at hc;obtain⟨x',hx',ys,hys,rfl⟩:=hc;simp only[I.run]at h;obtain⟨u1,hu1,h⟩:=zaa h;obtain⟨us,hus,h⟩:=zbF h;obtain⟨hl,rfl⟩:=zap h;obtain⟨x'',hx,hrep⟩:=zm0 (P:=P) (w:=w) false us u1 v _ _ hl (zao hx' hu1 hf) (ziJ (a:=a) hys hus hf);exact pureOp rfl ⟨x'',hbv (Builtin.min_ ts o.type (args.map a.eval)) _ _ (λ_=>rfl) (by rw[ha];simpa [Builtin.min_]using hx),hrep⟩
  ·cases hc
 ·cases hc
end
section
variable {P:Program} {m:Map} {Z:Nat->Prop} {H H':Heap} {w:World} {A A':Fr} {a:Act} {G:Sem'} {ops:Array Oper}
def bind_some{α β:Type}{x:M α}{f:α->M β}{r:β×Heap} (h:(x.bind f) H=some r):∃v H1,x H=some (v,H1)/\f v H1=some r:=by
 simp only[M.bind,yaa]at h;obtain⟨⟨v,H1⟩,h1,h2⟩:=h;exact⟨v,H1,h1,h2⟩
def zar{α:Type}{x:α}{r:α×Heap}(h:M.pure x H=some r):r=(x,H):=by
 simp only[M.pure,yab]at h;exact h.symm
def zdg{o:Oper}{ao:AO}(h:zgY P ops o=some ao):zne P o.op=some ao.ins/\ao.dst=o.dst /\
  ((o.guard=none/\ao.gd=none)\/∃j want s,o.guard=some (j,want)/\(ops[j]?).bind (·.dst)=some s/\ao.gd=some (s,want)):=by
 simp only[zgY,yaa]at h;obtain⟨i,hi,h⟩:=h;cases hg:o.guard with
 | none=>
  rw[hg]at h;simp only[yab]at h;subst h;exact⟨hi,rfl,.inl ⟨rfl,rfl⟩⟩
 | some p=>
  obtain⟨j,want⟩:=p;rw[hg]at h;simp only[yac]at h;obtain⟨s,hs,rfl⟩:=h;exact⟨hi,rfl,.inr ⟨j,want,s,rfl,hs,rfl⟩⟩
def zfO{s:Nat}{b want:Bool}{x:M V} (h:A.get s=some (.bool b)):guarded A (some (s,want)) x=if b=want then x else M.pure .undef:=by
 unfold guarded;simp only[h]
def zfb{s:Nat}{want:Bool}{x:M V} (h:A.get s=some (.tup [])):guarded A (some (s,want)) x=M.pure .undef:=by
 unfold guarded;simp only[h]
def zfN{s:Nat}{want:Bool}{x:M V}{r:V×Heap} (h:guarded A (some (s,want)) x H=some r):(∃b,A.get s=some (.bool b))\/A.get s=some (.tup []):=by
 unfold guarded at h;cases hv:A.get s with
 | none=>simp only[hv]at h;cases h
 | some u=>
  cases u with
  | bool b=>exact .inl ⟨b,rfl⟩
  | tup vs=>
   cases vs with
   | nil=>exact .inr rfl
   | cons _ _=>simp only[hv]at h;cases h
  | _=>simp only[hv]at h;cases h
def guard_ok{o:Oper}{ao:AO}{v:V}(hc:zgY P ops o=some ao) (h:ao.run G A H=some (v,H')) (hf:RelF m Z w A a.tmps) :
  (Region.wanted o (yielded ops a.tmps)=true/\ao.ins.run G A H=some (v,H'))\/(Region.wanted o (yielded ops a.tmps)=false/\v = .undef/\H'=H):=by
 obtain⟨_,_,hg⟩:=zdg hc;unfold AO.run at h;rcases hg with⟨hg,hgd⟩|⟨j,want,s,hg,hs,hgd⟩
 ·rw[hgd]at h;exact .inl ⟨by simp[Region.wanted,hg],h⟩
 ·rw[hgd]at h;have hy:∀x,a.tmps[s]?=some x->yielded ops a.tmps j=(match x with | .bool b=>some b | _=>none):=by
   intro x hx;simp only[yielded,hs,Option.bind_some,hx];cases x<;>rfl
  rcases zfN h with⟨b,hb⟩|hb
  ·rw[zfO hb]at h;obtain⟨x,hx,hrep⟩:=hf s _ hb;have hyx:=hy x hx;cases hrep;by_cases hbw:b=want
   ·rw[if_pos hbw]at h;exact .inl ⟨by simp[Region.wanted,hg,hyx,hbw],h⟩
   ·rw[if_neg hbw]at h;have:=zar h;simp only[yae]at this;exact .inr ⟨by simp[Region.wanted,hg,hyx,hbw],this.1,this.2⟩
  ·rw[zfb hb]at h;obtain⟨x,hx,hrep⟩:=hf s _ hb;have hyx:=hy x hx;cases hrep;have:=zar h;simp only[yae]at this;exact .inr ⟨by simp[Region.wanted,hg,hyx],this.1,this.2⟩
def ztH:Rep m Z w .undef Go.undef:=.tup rfl (by simp)
def step_ok(hG:zgb P G){o:Oper}{ao:AO}{v:V}(hc:zgY P ops o=some ao) (h:ao.run G A H=some (v,H')) (hf:RelF m Z w A a.tmps) (r:RelH m Z H w) (hfr:Free m H H') {K:Act->World->Prop} {Q:Exit->Act->World->Prop}
  (hk:∀m' Z' x w',Ext m Z H w m' Z' H' w'->RelH m' Z' H' w'->Rep m' Z' w' v x->K (a.put o.dst x) w') :
  if Region.wanted o (yielded ops a.tmps)=true then o.wp P a w K Q else K (a.put o.dst Go.undef) w:=by
 rcases guard_ok hc h hf with⟨hw,hr⟩|⟨hw,rfl,rfl⟩
 ·rw[if_pos hw];exact op_ok hG (zdg hc).1 hr hf r hfr hk
 ·rw[if_neg (by rw[hw];exact yce)];exact hk m Z _ w (.refl _ _ _ _) r ztH
def Rel.put'{N:Nat}{m':Map}{Z':Nat->Prop}{w':World}{d:Option Nat}{v:V}{x:Value}(h:Rel N m Z A H a w)(he:Ext m Z H w m' Z' H' w')(hh:RelH m' Z' H' w')(hr:Rep m' Z' w' v x)(hd:∀t,d=some t->t<N) :
  Rel N m' Z' (A.put d v) H' (a.put d x) w':=by
 refine⟨?_,?_,?_,hh⟩
 ·cases d<;>simp[Act.put,h.size]
 ·cases d<;>exact h.defers
 ·exact(h.fr.mono h.hp he).put (λt ht=>by rw[h.size];exact hd t ht) hr a.defers
/-! Names are given one behind the other. -/
def le_refl(H:Heap):H.le H:=⟨yaj _,λh=>h⟩
def le_trans{H1 H2 H3:Heap}(h:H1.le H2)(k:H2.le H3):H1.le H3:=⟨yaA h.1 k.1,λw=>k.2 (h.2 w)⟩
def zgM(H:Heap)(b:Blk):H.le (H.new b):=⟨ybH _,λh id hi=>by
 simp only[Heap.new]at hi ⊢;rw[if_neg (by omega)];exact h id (by omega)⟩
def le_kill(H:Heap)(id:Nat):H.le (H.set id none):=⟨yaj _,λh i hi=>by
 simp only[Heap.set]at hi ⊢;split
 ·rfl
 ·exact h i hi⟩
def zft{H:Heap}{id:Nat}{b:Blk}(hb:H.get id=some b)(b':Option Blk):H.le (H.set id b'):=⟨yaj _,λh i hi=>by
 simp only[Heap.set]at hi ⊢;split
 ·rename_i e;rw[<-e,h i hi]at hb;cases hb
 ·exact h i hi⟩
def zlb{ty esz bytes:Nat}{q:List V×Nat}{x v:V} (h:mappendq ty esz bytes q x H=some (v,H')):H.le H':=by
  simp only[mappendq]at h;cases x with
  | nils=>
   dsimp only at h;split at h
   ·simp only[yab,yae]at h;rw[<-h.2];exact le_refl _
   ·split at h
    ·simp only[yab,yae]at h;rw[<-h.2];exact zgM _ _
    ·cases h
  | rs=>
   dsimp only at h;split at h
   ·simp only[yab,yae]at h;rw[<-h.2];exact le_refl _
   ·cases h
  | sl id off len cap=>
   simp only[yaa]at h;obtain⟨b,hb0,h⟩:=h;split at h
   ·cases cap with
    | fix c=>
     dsimp only at h;split at h
     ·split at h
      ·simp only[yab,yae]at h;rw[<-h.2];exact zft hb0 _
      ·cases h
     ·split at h
      ·simp only[yab,yae]at h;rw[<-h.2];exact zgM _ _
      ·cases h
    | opn e=>
     dsimp only at h;split at h
     ·split at h
      ·simp only[yab,yae]at h;rw[<-h.2];exact le_refl _
      ·split at h
       ·simp only[yab,yae]at h;rw[<-h.2];exact le_trans (le_kill _ _) (zgM _ _)
       ·cases h
     ·split at h
      ·simp only[yab,yae]at h;rw[<-h.2];exact le_refl _
      ·split at h
       ·simp only[yab,yae]at h;rw[<-h.2];exact zft hb0 _
       ·cases h
   ·cases h
  | _=>cases h
def run_le(hG:zgb P G){ins:I}{v:V} (h:ins.run G A H=some (v,H')):H.le H':=by
 have lift:∀{x:Option V},M.lift x H=some (v,H')->H.le H':=λh=>by rw[(zap h).2];exact le_refl _
 cases ins<;>simp only[I.run]at h
 case mv=>obtain⟨_,_,h⟩:=zaa h;have:=zar h;simp only[yae]at this;rw[this.2];exact le_refl _
 case pick=>obtain⟨_,_,h⟩:=zaa h;obtain⟨_,_,h⟩:=zaa h;obtain⟨_,_,h⟩:=zaa h;exact lift h
 case box=>
  obtain⟨_,_,h⟩:=zaa h;unfold mbox at h;split at h
  ·simp only[yab,yae]at h;rw[<-h.2];exact zgM _ _
  ·cases h
 case build zero parts=>
  cases hp:zaF A parts with
  | none=>rw[hp]at h;cases h
  | some ps=>rw[hp]at h;exact lift h
 case slit ty l zero parts=>
  cases hp:zaF A parts with
  | none=>rw[hp]at h;cases h
  | some ps=>
   rw[hp]at h;simp only[mslit,yac,yae]at h;obtain⟨_,_,_,rfl⟩:=h;exact zgM _ _
 case load=>
  obtain⟨p,_,h⟩:=zaa h;cases p<;>simp only[mload,yaa,yac,yae,reduceCtorEq]at h
  ·obtain⟨_,_,_,_,_,rfl⟩:=h;exact le_refl _
  ·obtain⟨_,_,_,rfl⟩:=h;exact le_refl _
 case store=>
  obtain⟨p,_,h⟩:=zaa h;obtain⟨x,_,h⟩:=zaa h;cases p<;>simp only[mstore,yaa,reduceCtorEq]at h
  obtain⟨_,hb0,h⟩:=h;split at h
  ·simp only[yab,yae]at h;rw[<-h.2];exact zft hb0 _
  ·cases h
 case nilck=>obtain⟨_,_,h⟩:=zaa h;exact lift h
 case bin=>obtain⟨_,_,h⟩:=zaa h;obtain⟨_,_,h⟩:=zaa h;exact lift h
 case eq=>obtain⟨_,_,h⟩:=zaa h;obtain⟨_,_,h⟩:=zaa h;exact lift h
 case un=>obtain⟨_,_,h⟩:=zaa h;exact lift h
 case cint=>obtain⟨_,_,h⟩:=zaa h;exact lift h
 case tobytes=>
  obtain⟨p,_,h⟩:=zaa h;unfold mtobytes at h;split at h
  ·split at h
   ·simp only[yab,yae]at h;rw[<-h.2];exact zgM _ _
   ·cases h
  ·cases h
 case tostr=>
  obtain⟨p,_,h⟩:=zaa h;simp only[mtostr,yaa,yac,yae]at h;obtain⟨_,_,_,_,_,rfl⟩:=h;exact le_refl _
 case faddr=>obtain⟨_,_,h⟩:=zaa h;exact lift h
 case iaddr=>obtain⟨_,_,h⟩:=zaa h;obtain⟨_,_,h⟩:=zaa h;exact lift h
 case index=>obtain⟨_,_,h⟩:=zaa h;obtain⟨_,_,h⟩:=zaa h;exact lift h
 case sindex=>obtain⟨_,_,h⟩:=zaa h;obtain⟨_,_,h⟩:=zaa h;exact lift h
 case field=>obtain⟨_,_,h⟩:=zaa h;exact lift h
 case ext=>obtain⟨_,_,h⟩:=zaa h;exact lift h
 case len=>obtain⟨_,_,h⟩:=zaa h;exact lift h
 case slen=>obtain⟨_,_,h⟩:=zaa h;exact lift h
 case slice ck esz x lo hi mx=>
  obtain⟨_,_,h⟩:=zaa h;cases hl:zbA A lo with
  | none=>rw[hl]at h;cases h
  | some l=>
   cases hh:zbA A hi with
   | none=>rw[hl,hh]at h;cases h
   | some h1=>
    cases hm:zbA A mx with
    | none=>rw[hl,hh,hm]at h;cases h
    | some m1=>rw[hl,hh,hm]at h;exact lift h
 case append=>
  obtain⟨x,_,h⟩:=zaa h;obtain⟨y,_,h⟩:=zaa h;simp only[mappend,yaa]at h;obtain⟨q,_,h⟩:=h;exact zlb h
 case appendz=>
  obtain⟨x,_,h⟩:=zaa h;obtain⟨y,_,h⟩:=zaa h;unfold mappendz at h;split at h
  ·split at h
   ·exact zlb h
   ·cases h
  ·cases h
 case copy=>
  obtain⟨x,_,h⟩:=zaa h;obtain⟨y,_,h⟩:=zaa h;simp only[mcopy,yaa]at h;obtain⟨q,_,h⟩:=h;cases x with
  | nils=>simp only[yab,yae]at h;rw[<-h.2];exact le_refl _
  | sl id off len cap=>
   simp only[yaa]at h;obtain⟨b,hb0,h⟩:=h;split at h
   ·simp only[yab,yae]at h;rw[<-h.2];exact zft hb0 _
   ·cases h
  | _=>cases h
 case mkslice=>
  obtain⟨x,_,h⟩:=zaa h;obtain⟨y,_,h⟩:=zaa h;unfold mmkslice at h;split at h
  ·split at h
   ·simp only[yab,yae]at h;rw[<-h.2];exact zgM _ _
   ·cases h
  ·cases h
 case slice2=>
  obtain⟨x,_,h⟩:=zaa h;obtain⟨y,_,h⟩:=zaa h;obtain⟨z,_,h⟩:=zaa h;unfold mslice2 at h;split at h
  ·simp only[yaa]at h;obtain⟨b,hb0,h⟩:=h;split at h
   ·simp only[yab,yae]at h;rw[<-h.2];exact le_refl _
   ·cases h
  ·cases h
 case remark=>
  obtain⟨x,_,h⟩:=zaa h;unfold mremark at h;split at h
  ·unfold mtobytes at h;dsimp only at h;split at h
   ·simp only[yab,yae]at h;rw[<-h.2];exact zgM _ _
   ·cases h
  ·simp only[yaa]at h;obtain⟨b,hb0,h⟩:=h;split at h
   ·cases h
   ·simp only[yab,yae]at h;rw[<-h.2];exact le_refl _
  ·cases h
 case clear=>
  obtain⟨x,_,h⟩:=zaa h;unfold mclear at h;split at h
  ·split at h
   ·simp only[yab,yae]at h;rw[<-h.2];exact le_refl _
   ·simp only[yaa]at h;obtain⟨b,hb0,h⟩:=h;split at h
    ·simp only[yab,yae]at h;rw[<-h.2];exact zft hb0 _
    ·cases h
  ·cases h
 case op1=>obtain⟨_,_,h⟩:=zaa h;exact lift h
 case mknz=>
  obtain⟨x,_,h⟩:=zaa h;unfold mmknz at h;split at h
  ·split at h
   ·simp only[yab,yae]at h;rw[<-h.2];exact zgM _ _
   ·cases h
  ·cases h
 case minmax=>obtain⟨_,_,h⟩:=zaa h;obtain⟨_,_,h⟩:=zbF h;exact lift h
 case call=>obtain⟨_,_,h⟩:=zbF h;exact(hG _ _ _ _ _ h).1
 case callv=>
  obtain⟨x,_,h⟩:=zaa h;obtain⟨_,_,h⟩:=zbF h;cases x<;>simp only[callv]at h<;>first|(cases h;done)|exact(hG _ _ _ _ _ h).1
 case mkfn=>obtain⟨_,_,h⟩:=zbF h;have:=zar h;simp only[yae]at this;rw[this.2];exact le_refl _
 case mkmap=>simp only[mmkmap,yab,yae]at h;rw[<-h.2];exact zgM _ _
 case lookup=>
  obtain⟨x,_,h⟩:=zaa h;obtain⟨k,_,h⟩:=zaa h;rw[(zjB h)];exact le_refl _
 case mapset=>
  obtain⟨x,_,h⟩:=zaa h;obtain⟨k,_,h⟩:=zaa h;obtain⟨u,_,h⟩:=zaa h;obtain⟨id,b,cs,_,hb,_,_,_,rfl⟩:=zjz h;exact zft hb _
 case maplen=>
  obtain⟨x,_,h⟩:=zaa h;obtain⟨id,b,_,_,_,rfl⟩:=zjA h;exact le_refl _
 case aload=>
  obtain⟨x,_,h⟩:=zaa h;obtain⟨rfl,_⟩:=zhU h;exact le_refl _
 case aadd=>
  obtain⟨x,_,h⟩:=zaa h;obtain⟨y,_,h⟩:=zaa h;obtain⟨id,off,_,_,b,_,_,_,hb,_,_,rfl⟩:=zjC h;exact zft hb _
 case mdrop=>
  obtain⟨x,_,h⟩:=zaa h;obtain⟨y,_,h⟩:=zaa h;obtain⟨id,off,n,b0,i,b,cs,_,_,_,_,hb,_,_,rfl⟩:=zdI h;exact zft hb _
def zoE(hG:zgb P G){o:AO}{v:V} (h:o.run G A H=some (v,H')):H.le H':=by
 unfold AO.run at h;cases hg:o.gd with
 | none=>rw[hg]at h;exact run_le hG h
 | some p=>
  obtain⟨s,want⟩:=p;rw[hg]at h;rcases zfN h with⟨b,hb⟩|hb
  ·rw[zfO hb]at h;by_cases hbw:b=want
   ·rw[if_pos hbw]at h;exact run_le hG h
   ·rw[if_neg hbw]at h;have:=zar h;simp only[yae]at this;rw[this.2];exact le_refl _
  ·rw[zfb hb]at h;have:=zar h;simp only[yae]at this;rw[this.2];exact le_refl _
def zo5(hG:zgb P G):∀(l:List AO) (A:Fr) (H:Heap),zdR G l A H=some (A',H')->H.le H':=by
 intro l
 induction l with
 | nil=>intro A H h;have:=zar h;simp only[yae]at this;rw[this.2];exact le_refl _
 | cons o l ih=>
  intro A H h;simp only[zdR]at h;obtain⟨v,H1,hv,h⟩:=bind_some h;exact le_trans (zoE hG hv) (ih _ _ h)
def ops_ok(hG:zgb P G){N:Nat}{Q:Exit->Act->World->Prop}:∀(l:List Oper) (aos:List AO) (m:Map) (Z:Nat->Prop) (A:Fr) (H:Heap) (a:Act) (w:World),zeH P ops l=some aos->zdR G aos A H=some (A',H') ->
  Rel N m Z A H a w->Free m H H'->(∀o∈l,∀d,o.dst=some d->d<N)->(∀m' Z' a' w',Ext m Z H w m' Z' H' w'->Rel N m' Z' A' H' a' w'->Q .normal a' w')->wpList P ops Q l a w:=by
 intro l
 induction l with
 | nil=>
  intro aos m Z A H a w hc h hr _ _ hq;simp only[zeH,yab]at hc;subst hc;have:=zar h;simp only[yae]at this;obtain⟨rfl,rfl⟩:=this;exact hq m Z a w (.refl _ _ _ _) hr
 | cons o l ih=>
  intro aos m Z A H a w hc h hr hfr hd hq;simp only[zeH,yaa,yac]at hc;obtain⟨ao,hao,aos',haos,rfl⟩:=hc;simp only[zdR]at h;obtain⟨v,H1,hv,h⟩:=bind_some h;have hdst:=(zdg hao).2.1;refine wpList_step λK hK=>?_;have hn2:=(zo5 hG _ _ _ h).1;refine step_ok hG hao hv hr.fr hr.hp (hfr.le hn2) λm' Z' x w' he hh hrep=>hK _ _ ?_;refine ih aos' m' Z' _ H1 _ w' haos h ?_ (hfr.later he) (λo' ho'=>hd o' (yaY _ ho')) λm2 Z2 a2 w2 he2 hr2=>hq m2 Z2 a2 w2 (he.trans he2) hr2;rw[hdst];exact hr.put' he hh hrep (hd o (ya1 ..))
end
section
variable {P:Program} {A A':Fr} {H H':Heap} {G:Sem'}
/-! An instruction looks at its slots alone. -/
def zal{x:Arg}(h:∀t∈x.slots,A'.get t=A.get t):x.ev A'=x.ev A:=by
 cases x with
 | s t=>exact h t (by simp[Arg.slots])
 | c v=>rfl
def ziB:∀{xs:List Arg},(∀t∈xs.flatMap Arg.slots,A'.get t=A.get t)->evs A' xs=evs A xs:=by
 intro xs
 induction xs with
 | nil=>intro _;rfl
 | cons x xs ih=>
  intro h;simp only[List.flatMap_cons,yaZ]at h;simp only[evs,zal λt ht=>h t (.inl ht),ih λt ht=>h t (.inr ht)]
def ziC:∀{xs:List (Nat×Nat×Arg)},(∀t∈(xs.flatMap λp=>p.2.2.slots),A'.get t=A.get t)->zaF A' xs=zaF A xs:=by
 intro xs
 induction xs with
 | nil=>intro _;rfl
 | cons x xs ih=>
  intro h;obtain⟨o,s,x⟩:=x;simp only[List.flatMap_cons,yaZ]at h;simp only[zaF,zal λt ht=>h t (.inl ht),ih λt ht=>h t (.inr ht)]
def zhv{x:Option Arg}(h:∀t∈zrJ x,A'.get t=A.get t):zbA A' x=zbA A x:=by
 cases x with
 | none=>rfl
 | some x=>simp only[zbA,zal h]
def zud{ins:I}(h:∀t∈ins.slots,A'.get t=A.get t):ins.run G A'=ins.run G A:=by
 cases ins<;>simp only[I.slots,yaZ]at h<;>simp only[I.run,with1,withs]
 case mv x=>rw[zal h]
 case pick c a b=>rw[zal λt ht=>h t (.inl (.inl ht)),zal λt ht=>h t (.inl (.inr ht)),zal λt ht=>h t (.inr ht)]
 case box t x=>rw[zal h]
 case build z ps=>rw[ziC h]
 case slit z ps=>rw[ziC h]
 case load n x=>rw[zal h]
 case store n p x=>rw[zal λt ht=>h t (.inl ht),zal λt ht=>h t (.inr ht)]
 case nilck x=>rw[zal h]
 case bin x y=>rw[zal λt ht=>h t (.inl ht),zal λt ht=>h t (.inr ht)]
 case eq x y=>rw[zal λt ht=>h t (.inl ht),zal λt ht=>h t (.inr ht)]
 case un x=>rw[zal h]
 case cint x=>rw[zal h]
 case tostr x=>rw[zal h]
 case tobytes x=>rw[zal h]
 case faddr x=>rw[zal h]
 case iaddr x y=>rw[zal λt ht=>h t (.inl ht),zal λt ht=>h t (.inr ht)]
 case index x y=>rw[zal λt ht=>h t (.inl ht),zal λt ht=>h t (.inr ht)]
 case sindex x y=>rw[zal λt ht=>h t (.inl ht),zal λt ht=>h t (.inr ht)]
 case field x=>rw[zal h]
 case ext x=>rw[zal h]
 case len x=>rw[zal h]
 case slen x=>rw[zal h]
 case slice x lo hi mx=>
  rw[zal λt ht=>h t (.inl (.inl (.inl ht))),zhv λt ht=>h t (.inl (.inl (.inr ht))),zhv λt ht=>h t (.inl (.inr ht)),zhv λt ht=>h t (.inr ht)]
 case append x y=>rw[zal λt ht=>h t (.inl ht),zal λt ht=>h t (.inr ht)]
 case appendz x y=>rw[zal λt ht=>h t (.inl ht),zal λt ht=>h t (.inr ht)]
 case copy x y=>rw[zal λt ht=>h t (.inl ht),zal λt ht=>h t (.inr ht)]
 case mkslice x y=>rw[zal λt ht=>h t (.inl ht),zal λt ht=>h t (.inr ht)]
 case slice2 c a b=>rw[zal λt ht=>h t (.inl (.inl ht)),zal λt ht=>h t (.inl (.inr ht)),zal λt ht=>h t (.inr ht)]
 case clear x=>rw[zal h]
 case op1 x=>rw[zal h]
 case mknz x=>rw[zal h]
 case remark x=>rw[zal h]
 case minmax x xs=>rw[zal λt ht=>h t (.inl ht),ziB λt ht=>h t (.inr ht)]
 case call xs=>rw[ziB h]
 case callv x xs=>rw[zal λt ht=>h t (.inl ht),ziB λt ht=>h t (.inr ht)]
 case mkfn xs=>rw[ziB h]
 case lookup x y=>rw[zal λt ht=>h t (.inl ht),zal λt ht=>h t (.inr ht)]
 case mapset c a b=>rw[zal λt ht=>h t (.inl (.inl ht)),zal λt ht=>h t (.inl (.inr ht)),zal λt ht=>h t (.inr ht)]
 case maplen x=>rw[zal h]
 case aload x=>rw[zal h]
 case aadd x y=>rw[zal λt ht=>h t (.inl ht),zal λt ht=>h t (.inr ht)]
 case mdrop x y=>rw[zal λt ht=>h t (.inl ht),zal λt ht=>h t (.inr ht)]
def zrq{o:AO}(h:∀t∈o.slots,A'.get t=A.get t):o.run G A'=o.run G A:=by
 simp only[AO.slots,yaZ]at h;unfold AO.run;rw[zud λt ht=>h t (.inl ht)];cases hg:o.gd with
 | none=>rfl
 | some p=>
  obtain⟨s,want⟩:=p;unfold guarded;simp only[h s (.inr (by simp[hg]))]
def Fr.cut(A:Fr):List Nat->Fr
 | []=>[]
 | t::ts=>match A.get t with
  | some v=>(t,v)::Fr.cut A ts
  | none=>Fr.cut A ts
def zvu(A:Fr):∀(ts:List Nat) (t:Nat),(A.cut ts).get t=if t∈ts then A.get t else none:=by
 intro ts
 induction ts with
 | nil=>intro t;simp[Fr.cut,Fr.get]
 | cons s ts ih=>
  intro t;unfold Fr.cut;cases hs:A.get s with
  | none=>
   simp only[ih t,yaD];by_cases e:t=s
   ·subst e;simp[hs]
   ·simp[e]
  | some v=>
   simp only[Fr.get,ih t,yaD];by_cases e:t=s
   ·subst e;simp[hs]
   ·rw[if_neg (λh=>e h.symm)];simp[e]
/-! What kind an operation is of. -/
def run_pure{ins:I}{v:V}(hk:ins.kind = .pure) (h:ins.run G A H=some (v,H')):H'=H/\∀H2,ins.run G A H2=some (v,H2):=by
 have lift:∀{x:Option V},M.lift x H=some (v,H')->H'=H/\∀H2:Heap,M.lift x H2=some (v,H2):=λh=>by
  obtain⟨h1,h2⟩:=zap h;exact⟨h2,λH2=>by rw[h1];rfl⟩
 have pur:∀{x:V},M.pure x H=some (v,H')->H'=H/\∀H2:Heap,M.pure x H2=some (v,H2):=λh=>by
  have:=zar h;simp only[yae]at this;exact⟨this.2,λH2=>by rw[this.1];rfl⟩
 cases ins<;>simp only[I.kind,reduceCtorEq,zqR]at hk<;>simp only[I.run]at h ⊢
 case mv x=>obtain⟨u,hu,h⟩:=zaa h;simp only[with1,hu];exact pur h
 case pick c a b=>obtain⟨u,hu,h⟩:=zaa h;obtain⟨u1,hu1,h⟩:=zaa h;obtain⟨u2,hu2,h⟩:=zaa h;simp only[with1,hu,hu1,hu2];exact lift h
 case build z ps=>
  cases hp:zaF A ps with
  | none=>rw[hp]at h;cases h
  | some ps=>rw[hp]at h;exact lift h
 case nilck x=>obtain⟨u,hu,h⟩:=zaa h;simp only[with1,hu];exact lift h
 case bin x y=>obtain⟨u,hu,h⟩:=zaa h;obtain⟨u1,hu1,h⟩:=zaa h;simp only[with1,hu,hu1];exact lift h
 case eq x y=>obtain⟨u,hu,h⟩:=zaa h;obtain⟨u1,hu1,h⟩:=zaa h;simp only[with1,hu,hu1];exact lift h
 case un x=>obtain⟨u,hu,h⟩:=zaa h;simp only[with1,hu];exact lift h
 case cint x=>obtain⟨u,hu,h⟩:=zaa h;simp only[with1,hu];exact lift h
 case op1 x=>obtain⟨u,hu,h⟩:=zaa h;simp only[with1,hu];exact lift h
 case faddr x=>obtain⟨u,hu,h⟩:=zaa h;simp only[with1,hu];exact lift h
 case iaddr x y=>obtain⟨u,hu,h⟩:=zaa h;obtain⟨u1,hu1,h⟩:=zaa h;simp only[with1,hu,hu1];exact lift h
 case index x y=>obtain⟨u,hu,h⟩:=zaa h;obtain⟨u1,hu1,h⟩:=zaa h;simp only[with1,hu,hu1];exact lift h
 case sindex x y=>obtain⟨u,hu,h⟩:=zaa h;obtain⟨u1,hu1,h⟩:=zaa h;simp only[with1,hu,hu1];exact lift h
 case field x=>obtain⟨u,hu,h⟩:=zaa h;simp only[with1,hu];exact lift h
 case ext x=>obtain⟨u,hu,h⟩:=zaa h;simp only[with1,hu];exact lift h
 case len x=>obtain⟨u,hu,h⟩:=zaa h;simp only[with1,hu];exact lift h
 case slen x=>obtain⟨u,hu,h⟩:=zaa h;simp only[with1,hu];exact lift h
 case slice ck esz x lo hi mx=>
  obtain⟨u,hu,h⟩:=zaa h;simp only[with1,hu];cases hl:zbA A lo with
  | none=>rw[hl]at h;cases h
  | some l=>
   cases hh:zbA A hi with
   | none=>rw[hl,hh]at h;cases h
   | some h1=>
    cases hm:zbA A mx with
    | none=>rw[hl,hh,hm]at h;cases h
    | some m1=>rw[hl,hh,hm]at h;exact lift h
 case minmax x xs=>obtain⟨u,hu,h⟩:=zaa h;obtain⟨u1,hu1,h⟩:=zbF h;simp only[with1,withs,hu,hu1];exact lift h
 case mkfn xs=>obtain⟨u1,hu1,h⟩:=zbF h;simp only[withs,hu1];exact pur h
def zrC{ins:I}{v:V}{x:Arg}(hk:ins.kind = .read x) (h:ins.run G A H=some (v,H')):H'=H/\∃p,x.ev A=some p /\
  ∀H2:Heap,(∀id b,p.pid=some id->H.get id=some b->H2.get id=some b)->ins.run G A H2=some (v,H2):=by
 cases ins<;>simp only[I.kind,reduceCtorEq,Kind.read.injEq,zg7]at hk
 case load n y=>
  subst hk;simp only[I.run]at h ⊢;obtain⟨p,hp,h⟩:=zaa h;simp only[with1,hp];cases p<;>simp only[mload,yaa,yac,yae,reduceCtorEq]at h
  ·obtain⟨b,hb,c,hc,rfl,rfl⟩:=h;refine⟨rfl,_,rfl,λH2 hH=>?_⟩;simp only[mload,hH _ b rfl hb,Option.bind_some,hc,yas]
  ·obtain⟨c,hc,rfl,rfl⟩:=h;exact⟨rfl,_,rfl,λH2 hH=>by simp only[mload,hc,yas]⟩
 case tostr y=>
  subst hk;simp only[I.run]at h ⊢;obtain⟨p,hp,h⟩:=zaa h;simp only[with1,hp];simp only[mtostr,yaa,yac,yae]at h;obtain⟨q,hq,l,hl,rfl,rfl⟩:=h;refine⟨rfl,_,rfl,λH2 hH=>?_⟩;have:rcells 1 H2 p=some q:=by
   cases p<;>simp only[rcells,reduceCtorEq]at hq ⊢
   case nils=>exact hq
   case sl=>
    simp only[yaa]at hq ⊢;obtain⟨b,hb,hq⟩:=hq;exact⟨b,hH _ b rfl hb,hq⟩
   case rs=>exact hq
  simp only[mtostr,this,Option.bind_some,hl,yas]
def run_new{ins:I}{v:V}(hk:ins.kind = .new) (h:ins.run G A H=some (v,H')):∃b,H'=H.new b/\∀H2:Heap,H2.next=H.next->ins.run G A H2=some (v,H2.new b):=by
 cases ins<;>simp only[I.kind,reduceCtorEq]at hk
 case mkmap ty=>
  simp only[I.run,mmkmap,yab,yae]at h ⊢;obtain⟨rfl,rfl⟩:=h;exact⟨_,rfl,λH2 e=>⟨by rw[e],rfl⟩⟩
 case box ty x=>
  simp only[I.run]at h ⊢;obtain⟨p,hp,h⟩:=zaa h;simp only[with1,hp];unfold mbox at h ⊢;split at h
  ·rename_i ho;simp only[yab,yae]at h;obtain⟨rfl,rfl⟩:=h;exact⟨_,rfl,λH2 e=>by rw[if_pos ho,e]⟩
  ·cases h
 case tobytes ty x=>
  simp only[I.run]at h ⊢;obtain⟨p,hp,h⟩:=zaa h;simp only[with1,hp];unfold mtobytes at h ⊢;split at h
  ·rename_i s;split at h
   ·rename_i ho;simp only[yab,yae]at h;obtain⟨rfl,rfl⟩:=h;exact⟨_,rfl,λH2 e=>by rw[if_pos ho,e]⟩
   ·cases h
  ·cases h
 case slit ty l z ps=>
  simp only[I.run]at h ⊢;cases hp:zaF A ps with
  | none=>rw[hp]at h;cases h
  | some qs=>
   rw[hp]at h;simp only[mslit,yac,yae]at h ⊢;obtain⟨cs,hcs,rfl,rfl⟩:=h;exact⟨_,rfl,λH2 e=>⟨cs,hcs,by rw[e],rfl⟩⟩
 case mkslice ty b z x y=>
  simp only[I.run]at h ⊢;obtain⟨p,hp,h⟩:=zaa h;obtain⟨q,hq,h⟩:=zaa h;simp only[with1,hp,hq];unfold mmkslice at h ⊢;split at h
  ·rename_i l c;split at h
   ·rename_i ho;simp only[yab,yae]at h;obtain⟨rfl,rfl⟩:=h;exact⟨_,rfl,λH2 e=>by rw[if_pos ho,e]⟩
   ·cases h
  ·cases h
def zfp{o:AO}{v:V} (h:o.run G A H=some (v,H')):(o.ins.run G A H=some (v,H')/\∀H2,o.run G A H2=o.ins.run G A H2)\/(H'=H/\∀H2,o.run G A H2=some (v,H2)):=by
 unfold AO.run at h ⊢;cases hg:o.gd with
 | none=>rw[hg]at h;exact .inl ⟨h,λ_=>rfl⟩
 | some p=>
  obtain⟨s,want⟩:=p;rw[hg]at h;rcases zfN h with⟨b,hb⟩|hb
  ·rw[zfO hb]at h ⊢;by_cases hbw:b=want
   ·rw[if_pos hbw]at h ⊢;exact .inl ⟨h,λ_=>rfl⟩
   ·rw[if_neg hbw]at h ⊢;have:=zar h;simp only[yae]at this;exact .inr ⟨this.2,λH2=>by rw[this.1];rfl⟩
  ·rw[zfb hb]at h ⊢;have:=zar h;simp only[yae]at this;exact .inr ⟨this.2,λH2=>by rw[this.1];rfl⟩
/-! Step by step. -/
structure Trace (G:Sem') (un:List (Nat×Nat)) (l:List AO) (A:Fr) (H:Heap) (A':Fr) (H':Heap) (As:Nat->Fr) (Hs:Nat->Heap) (vs:Nat->V):Prop where
 a0:As 0=A
 h0:Hs 0=H
 an:As l.length=A'
 hn:Hs l.length=H'
 step:∀p ao,l[p]?=some ao->ao.run G (As p) (Hs p)=some (vs p,Hs (p+1))/\As (p+1)=(As p).put ao.dst (vs p)
 unch:∀p j ap aj x a,l[p]?=some ap->ap.ins.kind = .read x->l[j]?=some aj->aj.ins.kind = .act->(p,j)∈un->x.ev (As p)=some a->∀id,a.pid=some id->(Hs (j+1)).get id=(Hs j).get id
def zoJ{v:V}{h h':Heap}{r:Unit×Heap}(e:M.unch v h h' H=some r):r=((),H)/\∀id,v.pid=some id->h'.get id=h.get id:=by
 unfold M.unch at e;split at e
 ·rename_i hp;simp only[yab]at e;exact⟨e.symm,hp⟩
 ·cases e
def zoy {un:List (Nat×Nat)} {j:Nat} {h h':Heap}:∀{rs:List (Nat×V)} {r:Unit×Heap},za3 un j h h' rs H=some r->r=((),H) /\
  ∀i a,(i,a)∈rs->(i,j)∈un->∀id,a.pid=some id->h'.get id=h.get id:=by
 intro rs
 induction rs with
 | nil=>intro r e;exact⟨zar e,λi a hm=>by cases hm⟩
 | cons q rs ih=>
  intro r e;obtain⟨i0,a0⟩:=q;simp only[za3]at e;split at e
  ·rename_i hc;obtain⟨_,H1,h1,ee⟩:=bind_some e;obtain⟨e1,e2⟩:=zoJ h1;simp only[yae]at e1;obtain⟨_,rfl⟩:=e1;obtain⟨e3,e4⟩:=ih ee;refine⟨e3,λi a hm hu=>?_⟩;rcases yaD.1 hm with hm|hm
   ·simp only[yae]at hm;rw[hm.2];exact e2
   ·exact e4 i a hm hu
  ·rename_i hc;obtain⟨e3,e4⟩:=ih e;refine⟨e3,λi a hm hu=>?_⟩;rcases yaD.1 hm with hm|hm
   ·simp only[yae]at hm;rw[hm.1]at hu;exact absurd (by simpa using hu) hc
   ·exact e4 i a hm hu
def zqb {un:List (Nat×Nat)} {i:Nat} {a:V}:∀{js:List (Nat×Heap×Heap)} {r:Unit×Heap},za6 un i a js H=some r->r=((),H) /\
  ∀j h h',(j,h,h')∈js->(i,j)∈un->∀id,a.pid=some id->h'.get id=h.get id:=by
 intro js
 induction js with
 | nil=>intro r e;exact⟨zar e,λj h h' hm=>by cases hm⟩
 | cons q js ih=>
  intro r e;obtain⟨j0,h0,h0'⟩:=q;simp only[za6]at e;split at e
  ·rename_i hc;obtain⟨_,H1,h1,ee⟩:=bind_some e;obtain⟨e1,e2⟩:=zoJ h1;simp only[yae]at e1;obtain⟨_,rfl⟩:=e1;obtain⟨e3,e4⟩:=ih ee;refine⟨e3,λj h h' hm hu=>?_⟩;rcases yaD.1 hm with hm|hm
   ·simp only[yae]at hm;rw[hm.2.1,hm.2.2];exact e2
   ·exact e4 j h h' hm hu
  ·rename_i hc;obtain⟨e3,e4⟩:=ih e;refine⟨e3,λj h h' hm hu=>?_⟩;rcases yaD.1 hm with hm|hm
   ·simp only[yae]at hm;rw[hm.1]at hu;exact absurd (by simpa using hu) hc
   ·exact e4 j h h' hm hu
def pre{α:Type}(x:α)(f:Nat->α):Nat->α
 | 0=>x
 | n+1=>f n
def znD {un:List (Nat×Nat)}:∀(l:List AO) (p0:Nat) (rs:List (Nat×V)) (js:List (Nat×Heap×Heap)) (A:Fr) (H:Heap),zaC G un p0 rs js l A H=some (A',H') ->
  ∃(As:Nat->Fr) (Hs:Nat->Heap) (vs:Nat->V),As 0=A/\Hs 0=H/\As l.length=A'/\Hs l.length=H' /\
   (∀p ao,l[p]?=some ao->ao.run G (As p) (Hs p)=some (vs p,Hs (p+1))/\As (p+1)=(As p).put ao.dst (vs p)) /\
   (∀p j ap aj x a,l[p]?=some ap->ap.ins.kind = .read x->l[j]?=some aj->aj.ins.kind = .act->(p0+p,p0+j)∈un->x.ev (As p)=some a->∀id,a.pid=some id->(Hs (j+1)).get id=(Hs j).get id) /\
   (∀i a,(i,a)∈rs->∀j aj,l[j]?=some aj->aj.ins.kind = .act->(i,p0+j)∈un->∀id,a.pid=some id->(Hs (j+1)).get id=(Hs j).get id) /\
   (∀j h h',(j,h,h')∈js->∀p ap x a,l[p]?=some ap->ap.ins.kind = .read x->(p0+p,j)∈un->x.ev (As p)=some a->∀id,a.pid=some id->h'.get id=h.get id):=by
 intro l
 induction l with
 | nil=>
  intro p0 rs js A H h;have:=zar h;simp only[yae]at this;obtain⟨rfl,rfl⟩:=this;exact⟨λ_=>A',λ_=>H',λ_=>.undef,rfl,rfl,rfl,rfl,by simp,by simp,by simp,by simp⟩
 | cons o l ih=>
  intro p0 rs js A H h
  -- what is behind,from what the rest says
  have wrap:∀(rs':List (Nat×V)) (js':List (Nat×Heap×Heap)) (v:V) (H1:Heap),o.run G A H=some (v,H1)->zaC G un (p0+1) rs' js' l (A.put o.dst v) H1=some (A',H') ->
    (∀q,q∈rs->q∈rs')->(∀q,q∈js->q∈js') ->
    (∀x a,o.ins.kind = .read x->x.ev A=some a->(p0,a)∈rs')->(o.ins.kind = .act->(p0,H,H1)∈js') ->
    (∀i a,(i,a)∈rs->o.ins.kind = .act->(i,p0)∈un->∀id,a.pid=some id->H1.get id=H.get id) ->
    (∀j h h',(j,h,h')∈js->∀x a,o.ins.kind = .read x->(p0,j)∈un->x.ev A=some a->∀id,a.pid=some id->h'.get id=h.get id) ->
    ∃(As:Nat->Fr) (Hs:Nat->Heap) (vs:Nat->V),As 0=A/\Hs 0=H/\As (o::l).length=A'/\Hs (o::l).length=H' /\
     (∀p ao,(o::l)[p]?=some ao->ao.run G (As p) (Hs p)=some (vs p,Hs (p+1))/\As (p+1)=(As p).put ao.dst (vs p)) /\
     (∀p j ap aj x a,(o::l)[p]?=some ap->ap.ins.kind = .read x->(o::l)[j]?=some aj->aj.ins.kind = .act->(p0+p,p0+j)∈un->x.ev (As p)=some a->∀id,a.pid=some id->(Hs (j+1)).get id=(Hs j).get id) /\
     (∀i a,(i,a)∈rs->∀j aj,(o::l)[j]?=some aj->aj.ins.kind = .act->(i,p0+j)∈un->∀id,a.pid=some id->(Hs (j+1)).get id=(Hs j).get id) /\
     (∀j h h',(j,h,h')∈js->∀p ap x a,(o::l)[p]?=some ap->ap.ins.kind = .read x->(p0+p,j)∈un->x.ev (As p)=some a->∀id,a.pid=some id->h'.get id=h.get id):=by
   intro rs' js' v H1 hv hrest hrs hjs hread hact hra hja;obtain⟨As,Hs,vs,h1,h2,h3,h4,h5,h6,h7,h8⟩:=ih (p0+1) rs' js' _ _ hrest;have sh:∀k,p0+(k+1)=p0+1+k:=λk=>by omega
   refine⟨pre A As,pre H Hs,pre v vs,rfl,rfl,by simpa [pre]using h3,by simpa [pre]using h4,?_,?_,?_,?_⟩
   ·intro p ao hp;cases p with
    | zero=>
     simp only[yaC,yab]at hp;subst hp;exact⟨by simp only[pre,h2];exact hv,by simp only[pre,h1]⟩
    | succ p=>exact h5 p ao (by simpa using hp)
   ·intro p j ap aj x a hp hk hj hkj hu hx id hid;cases p with
    | zero=>
     simp only[yaC,yab]at hp;subst hp;cases j with
     | zero=>
      simp only[yaC,yab]at hj;subst hj;rw[hk]at hkj;cases hkj
     | succ j=>
      rw[sh j]at hu;exact h7 p0 a (hread x a hk hx) j aj (by simpa using hj) hkj hu id hid
    | succ p=>
     rw[sh p]at hu;cases j with
     | zero=>
      simp only[yaC,yab]at hj;subst hj;simp only[pre,h2];exact h8 p0 H H1 (hact hkj) p ap x a (by simpa using hp) hk hu hx id hid
     | succ j=>
      rw[sh j]at hu;exact h6 p j ap aj x a (by simpa using hp) hk (by simpa using hj) hkj hu hx id hid
   ·intro i a hi j aj hj hkj hu id hid;cases j with
    | zero=>
     simp only[yaC,yab]at hj;subst hj;simp only[pre,h2];exact hra i a hi hkj hu id hid
    | succ j=>
     rw[sh j]at hu;exact h7 i a (hrs _ hi) j aj (by simpa using hj) hkj hu id hid
   ·intro j h h' hj p ap x a hp hk hu hx id hid;cases p with
    | zero=>
     simp only[yaC,yab]at hp;subst hp;exact hja j h h' hj x a hk hu hx id hid
    | succ p=>
     rw[sh p]at hu;exact h8 j h h' (hjs _ hj) p ap x a (by simpa using hp) hk hu hx id hid
  unfold zaC at h;cases hk:o.ins.kind with
  | read x=>
   rw[hk]at h;dsimp only at h;have hs:∃a,(∀a',x.ev A=some a'->a'=a)/\((o.run G A).bind λv=>(za6 un p0 a js).bind λ_=>zaC G un (p0+1) ((p0,a)::rs) js l (A.put o.dst v)) H=some (A',H'):=by
    cases hx:x.ev A with
    | some a=>
     simp only[zaC.with1',hx]at h;exact⟨a,λa' e=>by simpa using e.symm,h⟩
    | none=>
     simp only[zaC.with1',hx]at h;exact⟨.undef,λa' e=>by simp at e,h⟩
   obtain⟨a,ha,h⟩:=hs;obtain⟨v,H1,hv,h⟩:=bind_some h;obtain⟨_,H2,hc,h9⟩:=bind_some h;obtain⟨e1,e2⟩:=zqb hc;simp only[yae]at e1;obtain⟨_,rfl⟩:=e1;refine wrap ((p0,a)::rs) js v _ hv h9 (λq hq=>yaY _ hq) (λq hq=>hq) (λy a' hy ha'=>?_) (λhy=>by rw[hk]at hy;cases hy) (λi a' _ hy=>by rw[hk]at hy;cases hy) (λj h h' hj y a' hy hu ha' id hid=>?_)
   ·rw[hk]at hy;simp only[Kind.read.injEq]at hy;subst hy;rw[ha a' ha'];exact ya1 ..
   ·rw[hk]at hy;simp only[Kind.read.injEq]at hy;subst hy;rw[ha a' ha']at hid;exact e2 j h h' hj hu id hid
  | act=>
   rw[hk]at h;dsimp only at h;obtain⟨h0,H0,hh0,h⟩:=bind_some h;simp only[M.getH,yab,yae]at hh0;obtain⟨rfl,rfl⟩:=hh0;obtain⟨v,H1,hv,h⟩:=bind_some h;obtain⟨h0,H0,hh0,h⟩:=bind_some h;simp only[M.getH,yab,yae]at hh0;obtain⟨rfl,rfl⟩:=hh0;obtain⟨_,H2,hc,h9⟩:=bind_some h;obtain⟨e1,e2⟩:=zoy hc;simp only[yae]at e1;obtain⟨_,rfl⟩:=e1;exact wrap rs ((p0,_,_)::js) v _ hv h9 (λq hq=>hq) (λq hq=>yaY _ hq) (λy a' hy _=>by rw[hk]at hy;cases hy) (λ_=>ya1 ..) (λi a hi _ hu id hid=>e2 i a hi hu id hid) (λj h h' hj y a' hy=>by rw[hk]at hy;cases hy)
  | pure=>
   rw[hk]at h;dsimp only at h;obtain⟨v,H1,hv,h⟩:=bind_some h;exact wrap rs js v _ hv h (λq hq=>hq) (λq hq=>hq) (λy a' hy _=>by rw[hk]at hy;cases hy) (λhy=>by rw[hk]at hy;cases hy) (λi a' _ hy=>by rw[hk]at hy;cases hy) (λj h h' hj y a' hy=>by rw[hk]at hy;cases hy)
  | new=>
   rw[hk]at h;dsimp only at h;obtain⟨v,H1,hv,h⟩:=bind_some h;exact wrap rs js v _ hv h (λq hq=>hq) (λq hq=>hq) (λy a' hy _=>by rw[hk]at hy;cases hy) (λhy=>by rw[hk]at hy;cases hy) (λi a' _ hy=>by rw[hk]at hy;cases hy) (λj h h' hj y a' hy=>by rw[hk]at hy;cases hy)
def znp {un:List (Nat×Nat)} {l:List AO} (h:zaC G un 0 [] [] l A H=some (A',H')):∃As Hs vs,Trace G un l A H A' H' As Hs vs:=by
 obtain⟨As,Hs,vs,h1,h2,h3,h4,h5,h6,_,_⟩:=znD l 0 [] [] A H h;exact⟨As,Hs,vs,h1,h2,h3,h4,h5,λp j ap aj x a hp hk hj hkj hu=>h6 p j ap aj x a hp hk hj hkj (by simpa using hu)⟩
end
/-! Two heaps side by side: what a step does to a part of a heap,with the rest beside it. -/
structure Join (D:Nat->Prop) (Hx Hs Hs' Hx':Heap):Prop where
 in':∀id,D id->Hx'.get id=Hs'.get id
 out':∀id,¬D id->Hx'.get id=Hx.get id
 sub:∀id b,Hs.get id=some b->D id/\Hx.get id=some b
 all:∀id b,D id->Hx.get id=some b->Hs.get id=some b
 new:∀id,Hs.next<=id->id<Hs'.next->D id
 top:Hs'.next<=Hx.next
 nx:Hx'.next=Hx.next
section
variable {m m':Map} {Z Z':Nat->Prop} {Hx Hs Hs' Hx':Heap} {w w':World} {D:Nat->Prop}
def zkm(r:RelH m Z Hx w)(hs:∀id b,Hs.get id=some b->Hx.get id=some b)(hwf:Hs.wf):RelH m Z Hs w:=
 ⟨λid b hb=>r.live id b (hs id b hb),λid id' b b' l l' hb hb'=>r.inj id id' b b' l l' (hs _ _ hb) (hs _ _ hb'),hwf,r.zlt⟩
open Classical in
def zo8(j:Join D Hx Hs Hs' Hx')(r:RelH m Z Hx w)(hwf:Hs.wf)(e:Ext m Z Hs w m' Z' Hs' w')(r':RelH m' Z' Hs' w'):RelH m' Z' Hx' w':=by
 have rs:=zkm r (λid b hb=>(j.sub id b hb).2) hwf;have hq:=e.quiet rs
 -- a block of the rest is none of the part's
 have apart:∀id b l,¬D id->Hx.get id=some b->m id=some l->∀id1 b1 l1,Hs.get id1=some b1->m id1=some l1->l1.blk≠l.blk:=by
  intro id b l hd hb hm id1 b1 l1 hb1 hm1 e1;obtain⟨d1,x1⟩:=j.sub id1 b1 hb1;exact hd (r.inj id1 id b1 b l1 l x1 hb hm1 hm e1 ▸ d1)
 have mp:∀id b l,Hx.get id=some b->m' id=some l->m id=some l:=by
  intro id b l hb hm;obtain⟨l0,hm0,_⟩:=r.live id b hb;have:=e.map id l0 hm0;rw[this]at hm;rw[hm0];exact hm
 refine⟨λid b hb=>?_,λid id' b b' l l' hb hb' hm hm' hl=>?_,λid hid=>?_,r'.zlt⟩
 ·by_cases hd:D id
  ·rw[j.in' id hd]at hb;exact r'.live id b hb
  ·rw[j.out' id hd]at hb;obtain⟨l,hm,L⟩:=r.live id b hb;have hlt:=r.lt hb hm;refine⟨l,e.map id l hm,L.mono e.map e.zone hq (e.same l.blk hlt λid1 b1 l1 hb1 hm1=>apart id b l hd hb hm id1 b1 l1 hb1 hm1) λhz=>?_⟩;rcases e.zsrc _ hz with hz|hz|⟨id1,b1,l1,hb1,hm1,e1⟩
   ·exact L.out hz
   ·omega
   ·exact apart id b l hd hb hm id1 b1 l1 hb1 hm1 e1
 ·by_cases hd:D id<;>by_cases hd':D id'
  ·rw[j.in' _ hd]at hb;rw[j.in' _ hd']at hb';exact r'.inj id id' b b' l l' hb hb' hm hm' hl
  ·rw[j.in' _ hd]at hb;rw[j.out' _ hd']at hb';have hm1:=mp _ _ _ hb' hm';rcases e.src id b l hb hm with h1|⟨id0,b0,l0,hb0,hm0,e0⟩
   ·have:=r.lt hb' hm1;omega
   ·exact absurd (e0.trans hl) (apart id' b' l' hd' hb' hm1 id0 b0 l0 hb0 hm0)
  ·rw[j.out' _ hd]at hb;rw[j.in' _ hd']at hb';have hm1:=mp _ _ _ hb hm;rcases e.src id' b' l' hb' hm' with h1|⟨id0,b0,l0,hb0,hm0,e0⟩
   ·have:=r.lt hb hm1;omega
   ·exact absurd (e0.trans hl.symm) (apart id b l hd hb hm1 id0 b0 l0 hb0 hm0)
  ·rw[j.out' _ hd]at hb;rw[j.out' _ hd']at hb';exact r.inj id id' b b' l l' hb hb' (mp _ _ _ hb hm) (mp _ _ _ hb' hm') hl
 ·rw[j.nx]at hid;by_cases hd:D id
  ·rw[j.in' id hd];exact r'.dead id (yaA j.top hid)
  ·rw[j.out' id hd];exact r.dead id hid
open Classical in
def zr3{m0:Map}{Z0:Nat->Prop}{H0:Heap}{w0:World}(E:Ext m0 Z0 H0 w0 m Z Hx w)(j:Join D Hx Hs Hs' Hx')(e:Ext m Z Hs w m' Z' Hs' w')(hn:H0.next<=Hs.next):Ext m0 Z0 H0 w0 m' Z' Hx' w':=by
 have fromS:∀id1 b1 l1,Hs.get id1=some b1->m id1=some l1->w0.heap.size<=l1.blk\/∃id0 b0 l0,H0.get id0=some b0/\m0 id0=some l0/\l0.blk=l1.blk:=
  λid1 b1 l1 hb hm=>E.src id1 b1 l1 (j.sub id1 b1 hb).2 hm
 refine⟨λid l h=>e.map id l (E.map id l h),by rw[j.nx];exact E.next,λi hi=>?_,λb h=>e.zone b (E.zone b h),yaA E.size e.size,e.os.trans E.os,e.tape.trans E.tape,e.output.trans E.output,λk hk hk0=>?_,λid b l hb hm=>?_,λk hz=>?_⟩
 ·rw[j.nx]at hi;refine(e.keep i ?_).trans (E.keep i hi);exact hi.imp (λh=>yaq h hn) λh=>yaA j.top h
 ·refine(e.same k (yaq hk E.size) λid1 b1 l1 hb1 hm1 e1=>?_).trans (E.same k hk hk0);rcases fromS id1 b1 l1 hb1 hm1 with h|⟨id0,b0,l0,hb0,hm0,e0⟩
  ·omega
  ·exact hk0 id0 b0 l0 hb0 hm0 (e0.trans e1)
 ·by_cases hd:D id
  ·rw[j.in' id hd]at hb;rcases e.src id b l hb hm with h|⟨id1,b1,l1,hb1,hm1,e1⟩
   ·exact .inl (yaA E.size h)
   ·rw[<-e1];exact fromS id1 b1 l1 hb1 hm1
  ·rw[j.out' id hd]at hb;refine E.src id b l hb ?_;rw[<-e.keep id]
   ·exact hm
   ·by_cases h:id<Hs.next
    ·exact .inl h
    ·by_cases h':id<Hs'.next
     ·exact absurd (j.new id (by omega) h') hd
     ·exact .inr (by omega)
 ·rcases e.zsrc k hz with h|h|⟨id1,b1,l1,hb1,hm1,e1⟩
  ·exact E.zsrc k h
  ·exact .inr (.inl (yaA E.size h))
  ·rcases fromS id1 b1 l1 hb1 hm1 with h|h
   ·exact .inr (.inl (e1 ▸ h))
   ·exact .inr (.inr (by rw[<-e1];exact h))
end
structure Plan (P:Program) (ops:Array Oper) (l:List (Nat×AO)):Prop where
 comp:∀(p i:Nat) (ao:AO),l[p]?=some (i,ao)->∃o,ops[i]?=some o/\zgY P ops o=some ao
 all:∀i,i<ops.size->∃(p:Nat) (ao:AO),l[p]?=some (i,ao)
 uniq:∀(p p' i:Nat) (ao ao':AO),l[p]?=some (i,ao)->l[p']?=some (i,ao')->p=p'
 early:∀(p i:Nat) (ao:AO) (o:Oper) (e:Edge),l[p]?=some (i,ao)->ops[i]?=some o->e∈o.after.toList->Region.binds .any e=true->∃(p':Nat) (ao':AO),p'<p/\l[p']?=some (e.on,ao')
 masks:∀i j,i<ops.size->j<ops.size->ahead (Region.before ops) i j=true->∃o e,ops[j]?=some o/\e∈o.after.toList/\Region.binds .any e=true/\(e.on=i\/ahead (Region.before ops) i e.on=true)
 pair:∀(p p' i:Nat) (ai:AO) (j:Nat) (aj:AO),p<p'->l[p]?=some (i,ai)->l[p']?=some (j,aj)->zeJ (Region.before ops) i j ai aj=true
 un:∀(p p' i:Nat) (ai:AO) (j:Nat) (aj:AO) (x:Arg),l[p]?=some (i,ai)->l[p']?=some (j,aj)->ai.ins.kind = .read x->aj.ins.kind = .act ->
  (if p<p' then ahead (Region.before ops) i j else ahead (Region.before ops) j i)=false->(p,p')∈znn (Region.before ops) l
section
variable {P:Program} {ops:Array Oper} {l:List (Nat×AO)}
def zjN:∀{ord:List Nat} {l:List (Nat×AO)},zf9 P ops ord=some l->l.map (·.1)=ord/\∀(p i:Nat) (ao:AO),l[p]?=some (i,ao)->∃o,ops[i]?=some o/\zgY P ops o=some ao:=by
 intro ord
 induction ord with
 | nil=>intro l h;simp only[zf9,yab]at h;subst h;exact⟨rfl,by simp⟩
 | cons j ord ih=>
  intro l h;simp only[zf9,yaa,yac]at h;obtain⟨o,ho,a,ha,l',hl,rfl⟩:=h;obtain⟨h1,h2⟩:=ih hl;refine⟨by simp[h1],λp i ao hp=>?_⟩;cases p with
  | zero=>
   simp only[yaC,yab,yae]at hp;obtain⟨rfl,rfl⟩:=hp;exact⟨o,ho,ha⟩
  | succ p=>exact h2 p i ao (by simpa using hp)
def ziT:∀{ord seen:List Nat},zuz ops seen ord=true->∀(p i:Nat),ord[p]?=some i ->
  (∀o,ops[i]?=some o->∀e∈o.after.toList,Region.binds .any e=true->e.on∈seen\/∃p':Nat,p'<p/\ord[p']?=some e.on)/\i∉seen/\∀p':Nat,p'<p->ord[p']?≠some i:=by
 intro ord
 induction ord with
 | nil=>intro seen _ p i hp;simp at hp
 | cons j ord ih=>
  intro seen h p i hp;simp only[zuz,yal]at h;obtain⟨⟨h1,h2⟩,h3⟩:=h;cases p with
  | zero=>
   simp only[yaC,yab]at hp;subst hp;refine⟨λo ho e he hb=>?_,by simpa using h2,λp' h=>by omega⟩;rw[ho]at h1;simp only[yas,yaB,yaI,ybA,ybM]at h1;rcases h1 e he with h1|h1
   ·rw[hb]at h1;cases h1
   ·exact .inl (by simpa using h1)
  | succ p=>
   obtain⟨k1,k2,k3⟩:=ih h3 p i (by simpa using hp);refine⟨λo ho e he hb=>?_,λhm=>k2 (yaY _ hm),λp' hp'=>?_⟩
   ·rcases k1 o ho e he hb with h|⟨p',hp',he'⟩
    ·rcases yaD.1 h with h|h
     ·exact .inr ⟨0,by omega,by simp[h]⟩
     ·exact .inl h
    ·exact .inr ⟨p'+1,by omega,by simpa using he'⟩
   ·cases p' with
    | zero=>
     simp only[yaC,ne_eq,yab];rintro rfl;exact k2 (ya1 ..)
    | succ p'=>simpa using k3 p' (by omega)
def zpb{B:Array Nat}:∀{l:List (Nat×AO)},zkT B l=true->∀(p p' i:Nat) (ai:AO) (j:Nat) (aj:AO),p<p'->l[p]?=some (i,ai)->l[p']?=some (j,aj)->zeJ B i j ai aj=true:=by
 intro l
 induction l with
 | nil=>intro _ p p' i ai j aj _ hp;simp at hp
 | cons x l ih=>
  intro h p p' i ai j aj hpp hp hp';obtain⟨i0,a0⟩:=x;simp only[zkT,yal,yaI]at h;cases p' with
  | zero=>omega
  | succ p'=>
   cases p with
   | zero=>
    simp only[yaC,yab,yae]at hp;obtain⟨rfl,rfl⟩:=hp;exact h.1 (j,aj) (ybh (by simpa using hp'))
   | succ p=>exact ih h.2 p p' i ai j aj (by omega) (by simpa using hp) (by simpa using hp')
def plan_of{ord:List Nat}(hl:zf9 P ops ord=some l) (h1:zuz ops [] ord=true) (h2:zqT ops (Region.before ops) ord=true) (h3:zkT (Region.before ops) l=true)
  (h4:((List.range ops.size).all λi=>ord.contains i)=true):Plan P ops l:=by
 obtain⟨hm,hc⟩:=zjN hl;have get:∀(p i:Nat),ord[p]?=some i<->∃ao:AO,l[p]?=some (i,ao):=by
  intro p i;rw[<-hm,yaT];constructor
  ·intro h;cases hp:l[p]? with
   | none=>rw[hp]at h;cases h
   | some x=>rw[hp]at h;simp only[yas,yab]at h;exact⟨x.2,by rw[<-h]⟩
  ·rintro⟨ao,h⟩;rw[h];rfl
 have inOrd:∀i,i<ops.size->i∈ord:=by
  intro i hi;simp only[yaI,yaW]at h4;simpa using h4 i hi
 refine⟨hc,λi hi=>?_,λp p' i ao ao' hp hp'=>?_,λp i ao o e hp ho he hb=>?_,λi j hi hj ha=>?_,zpb h3,λp p' i ai j aj x hp hp' hk hk' hu=>?_⟩
 ·obtain⟨p,hp⟩:=List.getElem?_of_mem (inOrd i hi);obtain⟨ao,h⟩:=(get p i).1 hp;exact⟨p,ao,h⟩
 ·have e1:=(get p i).2 ⟨ao,hp⟩;have e2:=(get p' i).2 ⟨ao',hp'⟩;rcases ycf p p' with h|h|h
  ·exact absurd e1 ((ziT h1 p' i e2).2.2 p h)
  ·exact h
  ·exact absurd e2 ((ziT h1 p i e1).2.2 p' h)
 ·rcases(ziT h1 p i ((get p i).2 ⟨ao,hp⟩)).1 o ho e he hb with h|⟨p',hp',he'⟩
  ·cases h
  ·obtain⟨ao',h⟩:=(get p' e.on).1 he';exact⟨p',ao',hp',h⟩
 ·simp only[zqT,yaI]at h2;have:=h2 j (inOrd j hj) i (inOrd i hi);rw[ha]at this;simp only[ybj,ycI]at this;cases ho:ops[j]? with
  | none=>rw[ho]at this;simp at this
  | some o=>
   rw[ho]at this;simp only[yas,yaB,yb0,yal,ybA,beq_iff_eq]at this;obtain⟨e,he,hb,hq⟩:=this;exact⟨o,e,rfl,he,hb,hq⟩
 ·simp only[znn,List.mem_flatMap];refine⟨((i,ai),p),yc1.2 hp,?_⟩;simp only[hk,List.mem_filterMap];refine⟨((j,aj),p'),yc1.2 hp',?_⟩;simp only[hk'];rw[if_neg (by rw[hu];exact yce)]
def Val (l:List (Nat×AO)) (vs:Nat->V) (A0:Fr) (S:Nat->Prop) (t:Nat) (u:V):Prop:=
 (∃(p i:Nat) (ao:AO),S p/\l[p]?=some (i,ao)/\ao.dst=some t/\u=vs p)\/((∀(p i:Nat) (ao:AO),S p->l[p]?=some (i,ao)->ao.dst≠some t)/\A0.get t=some u)
structure Inv (N:Nat) (l:List (Nat×AO)) (Hs:Nat->Heap) (vs:Nat->V) (A0:Fr) (m0:Map) (Z0:Nat->Prop) (H0:Heap) (w0:World) (S:Nat->Prop) (q:Nat) (m:Map) (Z:Nat->Prop) (Hx:Heap) (a:Act) (w:World):Prop where
 ql:q<=l.length
 before:∀(p i:Nat) (ao:AO),p<q->l[p]?=some (i,ao)->(ao.ins.kind = .act\/ao.ins.kind = .new)->S p
 acts:∀(p i:Nat) (ao:AO),q<=p->l[p]?=some (i,ao)->ao.ins.kind = .act->¬S p
 hp:RelH m Z Hx w
 nx:Hx.next=(Hs l.length).next
 low:∀id,id<(Hs q).next->Hx.get id=(Hs q).get id
 high:∀id,(Hs q).next<=id->∀b,Hx.get id=some b<->∃(p i:Nat) (ao:AO),q<=p/\S p/\l[p]?=some (i,ao)/\ao.ins.kind = .new/\Hs (p+1)=(Hs p).new b/\(Hs p).next=id
 free:∀p,p<l.length->¬S p->∀id,(Hs p).next<=id->id<(Hs (p+1)).next->m id=none
 size:a.tmps.size=N
 defers:a.defers=[]
 fr:∀t u,Val l vs A0 S t u->∃x,a.tmps[t]?=some x/\Rep m Z w u x
 ext:Ext m0 Z0 H0 w0 m Z Hx w
end
section
variable {P:Program} {ops:Array Oper} {l:List (Nat×AO)} {G:Sem'} {N:Nat} {A0 A':Fr} {H0 H':Heap} {As:Nat->Fr} {Hs:Nat->Heap} {vs:Nat->V}
 {m0 m:Map} {Z0 Z:Nat->Prop} {w0 w:World} {S:Nat->Prop} {q:Nat} {Hx:Heap} {a:Act}
structure Way (P:Program) (ops:Array Oper) (l:List (Nat×AO)) (G:Sem') (N:Nat) (A0:Fr) (H0:Heap) (A':Fr) (H':Heap) (As:Nat->Fr) (Hs:Nat->Heap) (vs:Nat->V):Prop where
 ok:zgb P G
 plan:Plan P ops l
 tr:Trace G (znn (Region.before ops) l) (l.map (·.2)) A0 H0 A' H' As Hs vs
 wf0:H0.wf
 dst:∀(i:Nat) (o:Oper) (d:Nat),ops[i]?=some o->o.dst=some d->d<N
def Way.run(W:Way P ops l G N A0 H0 A' H' As Hs vs){p i:Nat}{ao:AO} (hp:l[p]?=some (i,ao)):ao.run G (As p) (Hs p)=some (vs p,Hs (p+1))/\As (p+1)=(As p).put ao.dst (vs p):=
 W.tr.step p ao (by rw[yaT,hp];rfl)
def Way.le1(W:Way P ops l G N A0 H0 A' H' As Hs vs){p:Nat}(hp:p<l.length):(Hs p).le (Hs (p+1)):=by
 have h:l[p]?=some (l[p].1,l[p].2):=by simp[hp]
 exact zoE W.ok (W.run h).1
def Way.le(W:Way P ops l G N A0 H0 A' H' As Hs vs){p:Nat}:∀{k:Nat},p<=k->k<=l.length->(Hs p).le (Hs k):=by
 intro k
 induction k with
 | zero=>intro h1 _;rw[Nat.le_zero.1 h1];exact le_refl _
 | succ k ih=>
  intro h1 h2;by_cases e:p=k+1
  ·rw[e];exact le_refl _
  ·exact le_trans (ih (by omega) (by omega)) (W.le1 (by omega))
def Way.wf(W:Way P ops l G N A0 H0 A' H' As Hs vs){k:Nat}(h:k<=l.length):(Hs k).wf:=by
 have:=W.le (yaJ k) h;refine this.2 ?_;rw[W.tr.h0];exact W.wf0
def zdl {l:List (Nat×AO)} {p:Nat} {x:Nat×AO} (h:l[p]?=some x):p<l.length:=by
 rw[yax]at h;exact h.1
def Way.quiet(W:Way P ops l G N A0 H0 A' H' As Hs vs){p i:Nat}{ao:AO} (hp:l[p]?=some (i,ao)) (h1:ao.ins.kind≠.act) (h2:ao.ins.kind≠.new):Hs (p+1)=Hs p:=by
 have h:=(W.run hp).1;rcases zfp h with⟨h3,_⟩|⟨h3,_⟩
 ·cases hk:ao.ins.kind with
  | pure=>exact(run_pure hk h3).1
  | read x=>exact(zrC hk h3).1
  | new=>exact absurd hk h2
  | act=>exact absurd hk h1
 ·exact h3
def Way.fresh(W:Way P ops l G N A0 H0 A' H' As Hs vs){p i:Nat}{ao:AO} (hp:l[p]?=some (i,ao)) (hk:ao.ins.kind = .new) :
  (Hs (p+1)=Hs p/\∀H2,ao.run G (As p) H2=some (vs p,H2))\/∃b,Hs (p+1)=(Hs p).new b/\∀H2:Heap,H2.next=(Hs p).next->ao.run G (As p) H2=some (vs p,H2.new b):=by
 have h:=(W.run hp).1;rcases zfp h with⟨h3,h4⟩|⟨h3,h4⟩
 ·obtain⟨b,hb,hb'⟩:=run_new hk h3;exact .inr ⟨b,hb,λH2 e=>by rw[h4];exact hb' H2 e⟩
 ·exact .inl ⟨h3,h4⟩
def zgd{H:Heap}{b:Blk}:(H.new b).next=H.next+1:=rfl
def zk9{H:Heap}{b:Blk}{id:Nat}:(H.new b).get id=if id=H.next then some b else H.get id:=rfl
def Inv.promote(W:Way P ops l G N A0 H0 A' H' As Hs vs)(I:Inv N l Hs vs A0 m0 Z0 H0 w0 S q m Z Hx a w){i:Nat}{ao:AO} (hp:l[q]?=some (i,ao)) (h1:ao.ins.kind≠.act) (h2:ao.ins.kind = .new->S q) :
  Inv N l Hs vs A0 m0 Z0 H0 w0 S (q+1) m Z Hx a w:=by
 have hcase:Hs (q+1)=Hs q\/∃b,ao.ins.kind = .new/\Hs (q+1)=(Hs q).new b:=by
  by_cases hk:ao.ins.kind = .new
  ·rcases W.fresh hp hk with⟨h,_⟩|⟨b,h,_⟩
   ·exact .inl h
   ·exact .inr ⟨b,hk,h⟩
  ·exact .inl (W.quiet hp h1 hk)
 have hle:=(W.le1 (zdl hp)).1;refine⟨zdl hp,λp j aj hpq hj hk=>?_,λp j aj hpq hj hk=>I.acts p j aj (by omega) hj hk,I.hp,I.nx,λid hid=>?_,λid hid b=>?_,I.free,I.size,I.defers,I.fr,I.ext⟩
 ·by_cases e:p=q
  ·subst e;rw[hp]at hj;simp only[yab,yae]at hj;obtain⟨rfl,rfl⟩:=hj;rcases hk with hk|hk
   ·exact absurd hk h1
   ·exact h2 hk
  ·exact I.before p j aj (by omega) hj hk
 ·rcases hcase with h|⟨b,hk,h⟩
  ·rw[h]at hid ⊢;exact I.low id hid
  ·rw[h]at hid ⊢;rw[zgd]at hid;rw[zk9];by_cases e:id=(Hs q).next
   ·rw[if_pos e];exact(I.high id (by omega) b).2 ⟨q,i,ao,yaj _,h2 hk,hp,hk,h,e.symm⟩
   ·rw[if_neg e];exact I.low id (by omega)
 ·rw[I.high id (by omega) b];constructor
  ·rintro⟨p,j,aj,h3,h4,h5,h6,h7,h8⟩;refine⟨p,j,aj,?_,h4,h5,h6,h7,h8⟩;by_cases e:p=q
   ·subst e;rw[h7,zgd]at hid;omega
   ·omega
  ·rintro⟨p,j,aj,h3,h4,h5,h6,h7,h8⟩;exact⟨p,j,aj,by omega,h4,h5,h6,h7,h8⟩
def Inv.promoteTo (W : Way P ops l G N A0 H0 A' H' As Hs vs) (I : Inv N l Hs vs A0 m0 Z0 H0 w0 S q m Z Hx a w) : ∀ {k : Nat}, q <= k -> k <= l.length -> (∀ (p i : Nat) (ao : AO), q <= p -> p < k -> l[p]? = some (i, ao) -> ao.ins.kind ≠ .act /\ (ao.ins.kind = .new -> S p)) ->
    Inv N l Hs vs A0 m0 Z0 H0 w0 S k m Z Hx a w:= by
  intro k
  induction k with
  | zero => intro h1 _ _; have : q = 0 := by omega
            subst this;exact I
  | succ k ih=>
    intro h1 h2 h
    by_cases e : q = k + 1
    · subst e;exact I
    · have I':= ih (by omega) (by omega) fun p i ao hp hpk=> h p i ao hp (by omega)
      have hp : l[k]? = some (l[k].1, l[k].2):= yag _
      have:= h k _ _ (by omega) (by omega) hp
      exact I'.promote W hp this.1 this.2
def Way.frames(W:Way P ops l G N A0 H0 A' H' As Hs vs):∀(k:Nat),k<=l.length->∀t u,(As k).get t=some u ->
  (∃(p i:Nat) (ao:AO),p<k/\l[p]?=some (i,ao)/\ao.dst=some t/\u=vs p)\/((∀(p i:Nat) (ao:AO),p<k->l[p]?=some (i,ao)->ao.dst≠some t)/\A0.get t=some u):=by
 intro k
 induction k with
 | zero=>intro _ t u h;rw[W.tr.a0]at h;exact .inr ⟨λp i ao hp=>by omega,h⟩
 | succ k ih=>
  intro hk t u h;have hp:l[k]?=some (l[k].1,l[k].2):=yag _;rw[(W.run hp).2]at h;by_cases hd:(l[k].2).dst=some t
  ·rw[hd]at h;simp only[Fr.put,Fr.get,if_true,yab]at h;exact .inl ⟨k,_,_,by omega,hp,hd,h.symm⟩
  ·have h':(As k).get t=some u:=by
    cases hd':(l[k].2).dst with
    | none=>rw[hd']at h;exact h
    | some d=>
     rw[hd']at h;simp only[Fr.put,Fr.get]at h;rw[if_neg (λe=>hd (by rw[hd',e]))]at h;exact h
   rcases ih (by omega) t u h' with⟨p,i,ao,h1,h2,h3,h4⟩|⟨h1,h2⟩
   ·exact .inl ⟨p,i,ao,by omega,h2,h3,h4⟩
   ·refine .inr ⟨λp i ao hpk hpi=>?_,h2⟩;by_cases e:p=k
    ·subst e;rw[hp]at hpi;simp only[yab,yae]at hpi;rw[<-hpi.2];exact hd
    ·exact h1 p i ao (by omega) hpi
/-! What the pairs of operations are to each other. -/
def zsF{B:Array Nat}{i j:Nat}{ai aj:AO}(h:zeJ B i j ai aj=true){t:Nat}(hd:ai.dst=some t)(hs:t∈aj.slots):ahead B i j=true:=by
 simp only[zeJ,hd,yal,ybA,ybM,ycy,decide_eq_false_iff_not]at h;exact h.1.1.1.resolve_right λhn=>hn hs
def zqF{B:Array Nat}{i j:Nat}{ai aj:AO}(h:zeJ B i j ai aj=true){t:Nat}(hd:aj.dst=some t)(hs:t∈ai.slots):ahead B i j=true:=by
 simp only[zeJ,hd,yal,ybA,ybM,ycy,decide_eq_false_iff_not]at h;exact h.1.2.resolve_right λhn=>hn hs
def zrI{B:Array Nat}{i j:Nat}{ai aj:AO}(h:zeJ B i j ai aj=true){t:Nat}(hd:ai.dst=some t):aj.dst≠some t:=by
 simp only[zeJ,hd,yal,bne_iff_ne]at h;exact h.1.1.2
def zpd{B:Array Nat}{i j:Nat}{ai aj:AO}(h:zeJ B i j ai aj=true)(hi:ai.ins.kind = .act\/ai.ins.kind = .new)(hj:aj.ins.kind = .act):ahead B i j=true:=by
 simp only[zeJ,yal,hj]at h;rcases hi with hi|hi<;>simpa [hi]using h.2
def zpc{B:Array Nat}{i j:Nat}{ai aj:AO}(h:zeJ B i j ai aj=true)(hi:ai.ins.kind = .new){x:Arg}(hj:aj.ins.kind = .read x):ahead B i j=true:=by
 simp only[zeJ,yal,hj,hi]at h;exact h.2
structure Next (ops:Array Oper) (l:List (Nat×AO)) (S:Nat->Prop) (p i:Nat) (ao:AO):Prop where
 at_:l[p]?=some (i,ao)
 not:¬S p
 ready:∀(p' i':Nat) (ao':AO),l[p']?=some (i',ao')->ahead (Region.before ops) i' i=true->S p'
 closed:∀(p1 i1:Nat) (a1:AO) (p2 i2:Nat) (a2:AO),l[p1]?=some (i1,a1)->l[p2]?=some (i2,a2)->S p2->ahead (Region.before ops) i1 i2=true->S p1
def Next.slots(W:Way P ops l G N A0 H0 A' H' As Hs vs){p i:Nat}{ao:AO}(n:Next ops l S p i ao){t:Nat}(ht:t∈ao.slots){u:V} (hu:(As p).get t=some u):Val l vs A0 S t u:=by
 rcases W.frames p (Nat.le_of_lt (zdl n.at_)) t u hu with⟨p',j,aj,h1,h2,h3,h4⟩|⟨h1,h2⟩
 ·exact .inl ⟨p',j,aj,n.ready p' j aj h2 (zsF (W.plan.pair p' p j aj i ao h1 h2 n.at_) h3 ht),h2,h3,h4⟩
 ·refine .inr ⟨λp' j aj hs hj hd=>?_,h2⟩;rcases ycf p' p with h|h|h
  ·exact h1 p' j aj h hj hd
  ·rw[h]at hs;exact n.not hs
  ·exact n.not (n.closed p i ao p' j aj n.at_ hj hs (zqF (W.plan.pair p p' i ao j aj h n.at_ hj) hd ht))
def Inv.put(W:Way P ops l G N A0 H0 A' H' As Hs vs)(I:Inv N l Hs vs A0 m0 Z0 H0 w0 S q m Z Hx a w){p i:Nat}{ao:AO}{o:Oper}(n:Next ops l S p i ao) (ho:ops[i]?=some o) (hdst:ao.dst=o.dst)
  {m':Map} {Z':Nat->Prop} {w':World} {x:Value} (hx:Rep m' Z' w' (vs p) x) (hm:∀u y,Rep m Z w u y->Rep m' Z' w' u y) :
  (a.put o.dst x).tmps.size=N/\(a.put o.dst x).defers=[]/\∀t u,Val l vs A0 (λk=>S k\/k=p) t u->∃y,(a.put o.dst x).tmps[t]?=some y/\Rep m' Z' w' u y:=by
 refine⟨?_,?_,λt u hv=>?_⟩
 ·cases o.dst<;>simp[Act.put,I.size]
 ·cases o.dst<;>exact I.defers
 ·by_cases hd:o.dst=some t
  ·have ht:t<N:=W.dst i o t ho hd;have hu:u=vs p:=by
    rcases hv with⟨p',j,aj,hs,hj,hdj,hu⟩|⟨h1,_⟩
    ·rcases hs with hs|hs
     ·exfalso;rcases ycf p' p with h|h|h
      ·exact zrI (W.plan.pair p' p j aj i ao h hj n.at_) hdj (hdst.trans hd)
      ·rw[h]at hs;exact n.not hs
      ·exact zrI (W.plan.pair p p' i ao j aj h n.at_ hj) (hdst.trans hd) hdj
     ·rw[hu,hs]
    ·exact absurd (hdst.trans hd) (h1 p i ao (.inr rfl) n.at_)
   subst hu;refine⟨x,?_,hx⟩;rw[hd];simp[Act.put,I.size,ht]
  ·have hv':Val l vs A0 S t u:=by
    rcases hv with⟨p',j,aj,hs,hj,hdj,hu⟩|⟨h1,h2⟩
    ·rcases hs with hs|hs
     ·exact .inl ⟨p',j,aj,hs,hj,hdj,hu⟩
     ·subst hs;rw[n.at_]at hj;simp only[yab,yae]at hj;rw[<-hj.2]at hdj;exact absurd (hdst.symm.trans hdj) hd
    ·exact .inr ⟨λp' j aj hs=>h1 p' j aj (.inl hs),h2⟩
   obtain⟨y,hy,hr⟩:=I.fr t u hv';refine⟨y,?_,hm u y hr⟩;cases hd':o.dst with
   | none=>exact hy
   | some d=>
    simp only[Act.put];rw[yaV (λe=>hd (by rw[hd',e]))];exact hy
def Inv.seen (W : Way P ops l G N A0 H0 A' H' As Hs vs) (I : Inv N l Hs vs A0 m0 Z0 H0 w0 S q m Z Hx a w) {p i : Nat} {ao : AO} (n : Next ops l S p i ao) {x : Arg} (hk : ao.ins.kind = .read x) {v : V} (hx : x.ev (As p) = some v)
    {id : Nat} {b : Blk} (hid : v.pid = some id) (hb : (Hs p).get id = some b) : Hx.get id = some b:= by
  have hpl:= zdl n.at_
  have base : (Hs q).get id = some b -> Hx.get id = some b:= fun h=> by
    have hlt : id < (Hs q).next:= ycV fun hle=> by rw [W.wf I.ql id hle] at h;cases h
    rw [I.low id hlt];exact h
  -- an act that is bound neither way leaves it
  have unb : ∀ (k j : Nat) (aj : AO), l[k]? = some (j, aj) -> aj.ins.kind = .act -> (if p < k then ahead (Region.before ops) i j else ahead (Region.before ops) j i) = false -> (Hs (k + 1)).get id = (Hs k).get id:= by
    intro k j aj hj hkj hu
    exact W.tr.unch p k ao aj x v (by rw [yaT, n.at_];rfl) hk (by rw [yaT, hj];rfl) hkj (W.plan.un p k i ao j aj x n.at_ hj hk hkj hu) hx id hid
  by_cases hq : q <= p
  · have key : ∀ k, q <= k -> k <= p -> (Hs k).get id = some b -> Hx.get id = some b := by
      intro k
      induction k with
      | zero => intro h _ hb; have : q = 0 := by omega
                subst this;exact base hb
      | succ k ih=>
        intro h1 h2 hb
        by_cases e : q = k + 1
        · subst e;exact base hb
        · have hj : l[k]? = some (l[k].1, l[k].2):= yag _
          generalize l[k].1 = j at hj
          generalize l[k].2 = aj at hj
          by_cases hka : aj.ins.kind = .act
          · rw [unb k j aj hj hka] at hb
            · exact ih (by omega) (by omega) hb
            · rw [if_neg (by omega)]
              cases hb' : ahead (Region.before ops) j i with
              | false=> rfl
              | true=> exact absurd (n.ready k j aj hj hb') (I.acts k j aj (by omega) hj hka)
          · by_cases hkn : aj.ins.kind = .new
            · rcases W.fresh hj hkn with ⟨h, _⟩ | ⟨b0, h, _⟩
              · rw [h] at hb;exact ih (by omega) (by omega) hb
              · rw [h, zk9] at hb
                by_cases e' : id = (Hs k).next
                · rw [if_pos e'] at hb
                  simp only [yab] at hb
                  subst hb
                  have hs:= n.ready k j aj hj (zpc (W.plan.pair k p j aj i ao (by omega) hj n.at_) hkn hk)
                  refine (I.high id ?_ b0).2 ⟨k, j, aj, by omega, hs, hj, hkn, h, e'.symm⟩
                  rw [e']
                  exact (W.le (p:= q) (k:= k) (by omega) (by omega)).1
                · rw [if_neg e'] at hb
                  exact ih (by omega) (by omega) hb
            · rw [W.quiet hj hka hkn] at hb
              exact ih (by omega) (by omega) hb
    exact key p hq (yaj _) hb
  · have key : ∀ k, p <= k -> k <= q -> (Hs k).get id = some b := by
      intro k
      induction k with
      | zero => intro h _; have : p = 0 := by omega
                subst this;exact hb
      | succ k ih=>
        intro h1 h2
        by_cases e : p = k + 1
        · subst e;exact hb
        · have hprev:= ih (by omega) (by omega)
          have hkl : k < l.length:= yaq h2 I.ql
          have hj : l[k]? = some (l[k].1, l[k].2):= yag _
          generalize l[k].1 = j at hj
          generalize l[k].2 = aj at hj
          by_cases hka : aj.ins.kind = .act
          · have hpk : p ≠ k := by
              rintro rfl
              have hat:= n.at_
              rw [hj] at hat
              simp only [yab, yae] at hat
              rw [hat.2, hk] at hka
              cases hka
            rw [unb k j aj hj hka]
            · exact hprev
            · rw [if_pos (by omega)]
              cases hb' : ahead (Region.before ops) i j with
              | false=> rfl
              | true=> exact absurd (n.closed p i ao k j aj n.at_ hj (I.before k j aj (by omega) hj (.inl hka)) hb') n.not
          · by_cases hkn : aj.ins.kind = .new
            · rcases W.fresh hj hkn with ⟨h, _⟩ | ⟨b0, h, _⟩
              · rw [h];exact hprev
              · rw [h, zk9, if_neg]
                · exact hprev
                · intro e'
                  rw [W.wf (Nat.le_of_lt hkl) id (by omega)] at hprev
                  cases hprev
            · rw [W.quiet hj hka hkn];exact hprev
    exact base (key q (by omega) (yaj _))
def Inv.step(W:Way P ops l G N A0 H0 A' H' As Hs vs)(I:Inv N l Hs vs A0 m0 Z0 H0 w0 S q m Z Hx a w){p i:Nat}{ao:AO}{o:Oper}(n:Next ops l S p i ao) (ho:ops[i]?=some o) (hc:zgY P ops o=some ao)
  {K:Act->World->Prop} {Q:Exit->Act->World->Prop} (hk:∀q' m' Z' Hx' a' w',Inv N l Hs vs A0 m0 Z0 H0 w0 (λk=>S k\/k=p) q' m' Z' Hx' a' w'->K a' w') :
  if Region.wanted o (yielded ops a.tmps)=true then o.wp P a w K Q else K (a.put o.dst Go.undef) w:=by
 have hpl:=zdl n.at_;have hrun:=(W.run n.at_).1;have hdst:=(zdg hc).2.1;have hcut:ao.run G ((As p).cut ao.slots)=ao.run G (As p):=zrq λt ht=>by rw[zvu,if_pos ht]
 have hfr:RelF m Z w ((As p).cut ao.slots) a.tmps:=λt u hu=>by
  rw[zvu]at hu;split at hu
  ·rename_i ht;exact I.fr t u (n.slots W ht hu)
  ·cases hu
 -- nothing happens to the memory
 have quiet:ao.ins.kind≠.act->Hs (p+1)=Hs p->ao.run G (As p) Hx=some (vs p,Hx)->if Region.wanted o (yielded ops a.tmps)=true then o.wp P a w K Q else K (a.put o.dst Go.undef) w:=by
  intro hka heq hr;refine step_ok W.ok hc (by rw[hcut];exact hr) hfr I.hp (λid h1 h2=>absurd h1 (by omega)) λm' Z' x w' e r' rep=>?_;obtain⟨f1,f2,f3⟩:=I.put W n ho hdst rep λu y h=>h.ext I.hp e;have hm:∀id,m' id=m id:=λid=>e.keep id (by omega);refine hk q m' Z' Hx _ w' ⟨I.ql,λk j aj h1 h2 h3=>.inl (I.before k j aj h1 h2 h3),λk j aj h1 h2 h3 h4=>?_,r',I.nx,I.low,λid hid b=>?_,λk h1 h2 id h3 h4=>?_,f1,f2,f3,I.ext.trans e⟩
  ·rcases h4 with h4|h4
   ·exact I.acts k j aj h1 h2 h3 h4
   ·subst h4;rw[n.at_]at h2;simp only[yab,yae]at h2;rw[<-h2.2]at h3;exact hka h3
  ·rw[I.high id hid b];constructor
   ·rintro⟨k,j,aj,h3,h4,h5,h6,h7,h8⟩;exact⟨k,j,aj,h3,.inl h4,h5,h6,h7,h8⟩
   ·rintro⟨k,j,aj,h3,h4,h5,h6,h7,h8⟩;rcases h4 with h4|h4
    ·exact⟨k,j,aj,h3,h4,h5,h6,h7,h8⟩
    ·subst h4;rw[heq]at h7;have:=congrArg Heap.next h7;rw[zgd]at this;omega
  ·rw[hm];exact I.free k h1 (λhs=>h2 (.inl hs)) id h3 h4
 cases hkind:ao.ins.kind with
 | pure=>
  refine quiet (by simp[hkind]) (W.quiet n.at_ (by simp[hkind]) (by simp[hkind])) ?_;rcases zfp hrun with⟨h1,h2⟩|⟨_,h2⟩
  ·rw[h2];exact(run_pure hkind h1).2 Hx
  ·exact h2 Hx
 | read x=>
  refine quiet (by simp[hkind]) (W.quiet n.at_ (by simp[hkind]) (by simp[hkind])) ?_;rcases zfp hrun with⟨h1,h2⟩|⟨_,h2⟩
  ·rw[h2];obtain⟨_,v,hv,h3⟩:=zrC hkind h1;exact h3 Hx λid b hid hb=>I.seen W n hkind hv hid hb
  ·exact h2 Hx
 | new=>
  rcases W.fresh n.at_ hkind with⟨h1,h2⟩|⟨b,h1,h2⟩
  ·exact quiet (by simp[hkind]) h1 (h2 Hx)
  ·have hqp:q<=p:=Nat.le_of_not_lt λh=>n.not (I.before p i ao h n.at_ (.inr hkind));have hnx:(Hs (p+1)).next=(Hs p).next+1:=by rw[h1];rfl
   have htop:=(W.le (p:=p+1) (k:=l.length) (by omega) (yaj _)).1;have hqp':=(W.le (p:=q) (k:=p) hqp (by omega)).1;refine step_ok (H:=⟨λ_=>none,(Hs p).next⟩) (H':=(⟨λ_=>none,(Hs p).next⟩:Heap).new b) W.ok hc (by rw[hcut];exact h2 _ rfl) hfr (zkm I.hp (λid b hb=>by cases hb) λ_ _=>rfl) (λid i1 i2=>?_) λm' Z' x w' e r' rep=>?_
   ·exact I.free p hpl n.not id i1 (by rw[hnx];exact i2)
   ·have j:Join (λid=>id=(Hs p).next) Hx ⟨λ_=>none,(Hs p).next⟩ ((⟨λ_=>none,(Hs p).next⟩:Heap).new b) ⟨λid=>if id=(Hs p).next then some b else Hx.get id,Hx.next⟩:=by
     refine⟨λid hd=>?_,λid hd=>?_,λid b hb=>?_,λid b0 hd hb=>?_,λid i1 i2=>?_,?_,rfl⟩
     ·show(if id=(Hs p).next then some b else Hx.get id) = _;rw[zk9,if_pos hd];exact(if_pos hd).symm
     ·exact if_neg hd
     ·cases hb
     ·exfalso;obtain⟨lo,hm,_⟩:=I.hp.live id b0 hb;rw[I.free p hpl n.not id (by omega) (by omega)]at hm;cases hm
     ·rw[zgd]at i2;dsimp only at i1 i2;omega
     ·rw[zgd,I.nx];dsimp only;omega
    have rs:=zkm (Hs:=⟨λ_=>none,(Hs p).next⟩) I.hp (λid b hb=>by cases hb) λ_ _=>rfl;obtain⟨f1,f2,f3⟩:=I.put W n ho hdst rep λu y h=>h.ext rs e;refine hk q m' Z' _ _ w' ⟨I.ql,λk j aj h1 h2 h3=>.inl (I.before k j aj h1 h2 h3),λk j1 aj g1 g2 g3 g4=>?_,zo8 j I.hp (λ_ _=>rfl) e r',I.nx,λid hid=>?_,λid hid b0=>?_,λk h3 h4 id h5 h6=>?_,f1,f2,f3,zr3 I.ext j e ?_⟩
    ·rcases g4 with g4|g4
     ·exact I.acts k _ aj g1 g2 g3 g4
     ·subst g4;rw[n.at_]at g2;simp only[yab,yae]at g2;rw[<-g2.2,hkind]at g3;cases g3
    ·show(if id=(Hs p).next then some b else Hx.get id) = _;rw[if_neg (by omega)];exact I.low id hid
    ·show(if id=(Hs p).next then some b else Hx.get id)=some b0<->_;by_cases e1:id=(Hs p).next
     ·rw[if_pos e1];constructor
      ·intro h;simp only[yab]at h;subst h;exact⟨p,i,ao,hqp,.inr rfl,n.at_,hkind,h1,e1.symm⟩
      ·rintro⟨k,j1,aj,g3,g4,g5,g6,g7,g8⟩;have hkl:=zdl g5;have g9:(Hs (k+1)).next=(Hs k).next+1:=by rw[g7];rfl
       rcases ycf k p with h|h|h
       ·have:=(W.le (p:=k+1) (k:=p) (by omega) (by omega)).1;omega
       ·subst h;rw[h1]at g7;have:=congrArg (λH:Heap=>H.get (Hs k).next) g7;simpa [zk9]using this
       ·have:=(W.le (p:=p+1) (k:=k) (by omega) (by omega)).1;omega
     ·rw[if_neg e1,I.high id hid b0];constructor
      ·rintro⟨k,j1,aj,g3,g4,g5,g6,g7,g8⟩;exact⟨k,j1,aj,g3,.inl g4,g5,g6,g7,g8⟩
      ·rintro⟨k,j1,aj,g3,g4,g5,g6,g7,g8⟩;rcases g4 with g4|g4
       ·exact⟨k,j1,aj,g3,g4,g5,g6,g7,g8⟩
       ·subst g4;exact absurd g8.symm e1
    ·have hne:k≠p:=λe'=>h4 (.inr e');rw[e.keep id]
     ·exact I.free k h3 (λhs=>h4 (.inl hs)) id h5 h6
     ·rw[zgd];dsimp only;rcases Nat.lt_or_gt_of_ne hne with h|h
      ·have:=(W.le (p:=k+1) (k:=p) (by omega) (by omega)).1;omega
      ·have:=(W.le (p:=p+1) (k:=k) (by omega) (by omega)).1;omega
    ·have:=(W.le (p:=0) (k:=p) (by omega) (by omega)).1;rw[W.tr.h0]at this;exact this
 | act=>
  have hqp:q<=p:=Nat.le_of_not_lt λh=>n.not (I.before p i ao h n.at_ (.inl hkind));have J:Inv N l Hs vs A0 m0 Z0 H0 w0 S p m Z Hx a w:=by
   refine I.promoteTo W hqp (by omega) λk j aj h1 h2 h3=>⟨λhka=>?_,λhkn=>?_⟩
   ·exact I.acts k j aj h1 h3 hka (n.ready k j aj h3 (zpd (W.plan.pair k p j aj i ao h2 h3 n.at_) (.inl hka) hkind))
   ·exact n.ready k j aj h3 (zpd (W.plan.pair k p j aj i ao h2 h3 n.at_) (.inr hkn) hkind)
  have hwf:(Hs p).wf:=W.wf (by omega);have hwf':(Hs (p+1)).wf:=W.wf (by omega);have hle:=(W.le1 hpl).1;have htop:=(W.le (p:=p+1) (k:=l.length) (by omega) (yaj _)).1;have hsub:∀id b,(Hs p).get id=some b->Hx.get id=some b:=λid b hb=>by
   have hlt:id<(Hs p).next:=ycV λh=>by rw[hwf id h]at hb;cases hb
   rw[J.low id hlt];exact hb
  have rs:=zkm J.hp hsub hwf;refine step_ok W.ok hc (by rw[hcut];exact hrun) hfr rs (λid i1 i2=>J.free p hpl n.not id i1 i2) λm' Z' x w' e r' rep=>?_;have j:Join (λid=>id<(Hs (p+1)).next) Hx (Hs p) (Hs (p+1)) ⟨λid=>if id<(Hs (p+1)).next then (Hs (p+1)).get id else Hx.get id,Hx.next⟩:=by
   refine⟨λid hd=>if_pos hd,λid hd=>if_neg hd,λid b hb=>⟨?_,hsub id b hb⟩,λid b hd hb=>?_,λid _ i2=>i2,by rw[J.nx];exact htop,rfl⟩
   ·have hlt:id<(Hs p).next:=ycV λh=>by rw[hwf id h]at hb;cases hb
    exact yaq hlt hle
   ·by_cases h:id<(Hs p).next
    ·rw[<-J.low id h];exact hb
    ·exfalso;obtain⟨k,j1,aj,g3,g4,g5,g6,g7,g8⟩:=(J.high id (by omega) b).1 hb;have hkl:=zdl g5;by_cases e1:k=p
     ·subst e1;exact n.not g4
     ·have:=(W.le (p:=p+1) (k:=k) (by omega) (by omega)).1;omega
  obtain⟨f1,f2,f3⟩:=J.put W n ho hdst rep λu y h=>h.ext rs e;refine hk (p+1) m' Z' _ _ w' ⟨by omega,λk j aj h1 h2 h3=>?_,λk j aj h1 h2 h3 h4=>?_,zo8 j J.hp hwf e r',J.nx,λid hid=>if_pos hid,λid hid b0=>?_,λk h3 h4 id h5 h6=>?_,f1,f2,f3,zr3 J.ext j e ?_⟩
  ·by_cases e1:k=p
   ·exact .inr e1
   ·exact .inl (J.before k j aj (by omega) h2 h3)
  ·rcases h4 with h4|h4
   ·exact J.acts k _ aj (by omega) h2 h3 h4
   ·omega
  ·show(if id<(Hs (p+1)).next then (Hs (p+1)).get id else Hx.get id)=some b0<->_;rw[if_neg (by omega),J.high id (by omega) b0];constructor
   ·rintro⟨k,j1,aj,g3,g4,g5,g6,g7,g8⟩;refine⟨k,j1,aj,?_,.inl g4,g5,g6,g7,g8⟩;by_cases e1:k=p
    ·subst e1;exact absurd g4 n.not
    ·omega
   ·rintro⟨k,j1,aj,g3,g4,g5,g6,g7,g8⟩;exact⟨k,j1,aj,by omega,g4.resolve_right (by omega),g5,g6,g7,g8⟩
  ·have hne:k≠p:=λe'=>h4 (.inr e');rw[e.keep id]
   ·exact J.free k h3 (λhs=>h4 (.inl hs)) id h5 h6
   ·rcases Nat.lt_or_gt_of_ne hne with h|h
    ·have:=(W.le (p:=k+1) (k:=p) (by omega) (by omega)).1;omega
    ·have:=(W.le (p:=p+1) (k:=k) (by omega) (by omega)).1;omega
  ·have:=(W.le (p:=0) (k:=p) (by omega) (by omega)).1;rw[W.tr.h0]at this;exact this
/-! All through. -/
def Inv.done(W:Way P ops l G N A0 H0 A' H' As Hs vs)(I:Inv N l Hs vs A0 m0 Z0 H0 w0 S q m Z Hx a w) (hs:∀(p i:Nat) (ao:AO),l[p]?=some (i,ao)->S p):Ext m0 Z0 H0 w0 m Z H' w/\Rel N m Z A' H' a w:=by
 have J:=I.promoteTo W I.ql (yaj _) λp i ao h1 _ h3=>⟨λhk=>I.acts p i ao h1 h3 hk (hs p i ao h3),λ_=>hs p i ao h3⟩;have e1:Hs l.length=H':=by have:=W.tr.hn;simpa using this
 have hx:Hx=H':=by
  have hn:=J.nx;have hl:=J.low;have hd:=J.hp.dead;have hwf:=W.wf (yaj l.length);rw[e1]at hn hl hwf;obtain⟨g,nx⟩:=Hx;dsimp only at hn hl hd;cases H';dsimp only at hn hl;simp only[Heap.mk.injEq];refine⟨funext λid=>?_,hn⟩;by_cases h:id<nx
  ·exact hl id (by omega)
  ·rw[hd id (by omega)];exact(hwf id (by dsimp only;omega)).symm
 subst hx;refine⟨J.ext,J.size,J.defers,λt u hu=>?_,J.hp⟩;have ea:As l.length=A':=by have:=W.tr.an;simpa using this
 rw[<-ea]at hu;refine J.fr t u ?_;rcases W.frames l.length (yaj _) t u hu with⟨p,i,ao,h1,h2,h3,h4⟩|⟨h1,h2⟩
 ·exact .inl ⟨p,i,ao,hs p i ao h2,h2,h3,h4⟩
 ·exact .inr ⟨λp i ao _ hp=>h1 p i ao (zdl hp) hp,h2⟩
def zl4 (l:List (Nat×AO)) (listed:Array Bool) (p:Nat):Prop:=∃(i:Nat) (ao:AO),l[p]?=some (i,ao)/\listed.getD i false=true
def zhY{listed:Array Bool}{i j:Nat}(hi:i<listed.size):(listed.setIfInBounds i true).getD j false=if j=i then true else listed.getD j false:=by
 simp only[ybe,Array.getElem?_setIfInBounds];by_cases h:i=j
 ·subst h;simp[hi]
 ·rw[if_neg h,if_neg (λe=>h e.symm)]
def any_ok(W:Way P ops l G N A0 H0 A' H' As Hs vs){Q:Exit->Act->World->Prop}(hq:∀m Z a w,Ext m0 Z0 H0 w0 m Z H' w->Rel N m Z A' H' a w->Q .normal a w) :
  ∀(fuel:Nat) (U:List Nat) (listed:Array Bool) (q:Nat) (m:Map) (Z:Nat->Prop) (Hx:Heap) (a:Act) (w:World),U.length=fuel->U.Nodup->listed.size=ops.size->(∀i,i<ops.size->(listed.getD i false=false<->i∈U)) ->
   (∀i j,i<ops.size->listed.getD j false=true->ahead (Region.before ops) i j=true->listed.getD i false=true) ->
   Inv N l Hs vs A0 m0 Z0 H0 w0 (zl4 l listed) q m Z Hx a w->wpAny P .any ops Q fuel listed a w:=by
 have idx:∀{p i:Nat} {ao:AO},l[p]?=some (i,ao)->i<ops.size:=λh=>by
  obtain⟨o,ho,_⟩:=W.plan.comp _ _ _ h;rw[yaG]at ho;exact ho.1
 have mem:∀{listed:Array Bool} {i:Nat},listed.size=ops.size->(i∈Region.ready .any ops listed<->i<ops.size/\listed.getD i false=false/\∃o,ops[i]?=some o/\∀e∈o.after.toList,Region.binds .any e=true->listed.getD e.on false=true):=by
  intro listed i hsz;simp only[Region.ready,ybn,yaW,yal,ybM];constructor
  ·rintro⟨h1,h2,h3⟩;have e:listed.getD i true=listed.getD i false:=by simp[ybe,hsz,h1]
   refine⟨h1,by rw[<-e];exact h2,?_⟩;cases ho:ops[i]? with
   | none=>rw[ho]at h3;cases h3
   | some o=>
    rw[ho]at h3;refine⟨o,rfl,λx hx hb=>?_⟩;simp only[yas,yaB,ycK,ybA,ybM]at h3;rcases h3 x (by simpa using hx) with h|h
    ·rw[hb]at h;cases h
    ·exact h
  ·rintro⟨h1,h2,o,ho,h3⟩;have e:listed.getD i true=listed.getD i false:=by simp[ybe,hsz,h1]
   refine⟨h1,by rw[e];exact h2,?_⟩;rw[ho];simp only[yas,yaB,ycK,ybA,ybM];intro x hx;cases hb:Region.binds .any x with
   | false=>exact .inl rfl
   | true=>exact .inr (h3 x (by simpa using hx) hb)
 -- nothing ready: all listed
 have full:∀{listed:Array Bool},listed.size=ops.size->Region.ready .any ops listed=[]->∀(p i:Nat) (ao:AO),l[p]?=some (i,ao)->zl4 l listed p:=by
  intro listed hsz hr p
  induction p using Nat.strongRecOn with
  | ind p ih=>
   intro i ao hp;refine⟨i,ao,hp,?_⟩;cases hl:listed.getD i false with
   | true=>rfl
   | false=>
    exfalso;obtain⟨o,ho,_⟩:=W.plan.comp _ _ _ hp;have:i∈Region.ready .any ops listed:=(mem hsz).2 ⟨idx hp,hl,o,ho,λe he hb=>by
     obtain⟨p',ao',h1,h2⟩:=W.plan.early p i ao o e hp ho he hb;obtain⟨i',ao'',h3,h4⟩:=ih p' h1 _ _ h2;rw[h2]at h3;simp only[yab,yae]at h3;rw[h3.1];exact h4⟩
    rw[hr]at this;cases this
 have done:∀{listed:Array Bool} {q:Nat} {m:Map} {Z:Nat->Prop} {Hx:Heap} {a:Act} {w:World},listed.size=ops.size->Inv N l Hs vs A0 m0 Z0 H0 w0 (zl4 l listed) q m Z Hx a w->Region.ready .any ops listed=[]->Q .normal a w:=by
  intro listed q m Z Hx a w hsz I hr;obtain⟨h1,h2⟩:=I.done W (full hsz hr);exact hq m Z a w h1 h2
 intro fuel
 induction fuel with
 | zero=>
  intro U listed q m Z Hx a w hU _ hsz hmem _ I;have hnil:U=[]:=yc9.1 hU;have hr:Region.ready .any ops listed=[]:=by
   refine List.eq_nil_iff_forall_not_mem.2 λi hi=>?_;obtain⟨h1,h2,_⟩:=(mem hsz).1 hi;have:=(hmem i h1).1 h2;rw[hnil]at this;cases this
  exact⟨hr,done hsz I hr⟩
 | succ fuel ih=>
  intro U listed q m Z Hx a w hU hnd hsz hmem hcl I;refine⟨λhr=>done hsz I hr,λi hi=>?_⟩;obtain⟨h1,h2,o,ho,h3⟩:=(mem hsz).1 hi;obtain⟨p,ao,hp⟩:=W.plan.all i h1;obtain⟨o',ho',hc⟩:=W.plan.comp p i ao hp;rw[ho]at ho';simp only[yab]at ho';subst ho';have hready:∀i',i'<ops.size->ahead (Region.before ops) i' i=true->listed.getD i' false=true:=by
   intro i' hi' ha;obtain⟨o2,e,ho2,he,hb,h⟩:=W.plan.masks i' i hi' h1 ha;rw[ho]at ho2;simp only[yab]at ho2;subst ho2;have hl:=h3 e he hb;rcases h with h|h
   ·rw[<-h];exact hl
   ·exact hcl i' e.on hi' hl h
  have n:Next ops l (zl4 l listed) p i ao:=by
   refine⟨hp,?_,λp' i' ao' hp' ha=>⟨i',ao',hp',hready i' (idx hp') ha⟩,λp1 i1 a1 p2 i2 a2 hp1 hp2 hs ha=>⟨i1,a1,hp1,?_⟩⟩
   ·rintro⟨i',ao',hp',hl⟩;rw[hp]at hp';simp only[yab,yae]at hp';rw[<-hp'.1,h2]at hl;cases hl
   ·obtain⟨i',ao',hp',hl⟩:=hs;rw[hp2]at hp';simp only[yab,yae]at hp';rw[<-hp'.1]at hl;exact hcl i1 i2 (idx hp1) hl ha
  have hU':i∈U:=(hmem i h1).1 h2;have hlt:i<listed.size:=by rw[hsz];exact h1
  refine wpOp_step ho λK' hK'=>I.step W n ho hc λq' m' Z' Hx' a' w' I'=>hK' _ _ ?_;have hS:(λk=>zl4 l listed k\/k=p)=zl4 l (listed.setIfInBounds i true):=by
   funext k;refine propext ⟨λh=>?_,λh=>?_⟩
   ·rcases h with⟨j,aj,hj,hl⟩|h
    ·refine⟨j,aj,hj,?_⟩;rw[zhY hlt];split<;>first|rfl|exact hl
    ·subst h;exact⟨i,ao,hp,by rw[zhY hlt,if_pos rfl]⟩
   ·obtain⟨j,aj,hj,hl⟩:=h;rw[zhY hlt]at hl;by_cases e:j=i
    ·subst e;exact .inr (W.plan.uniq k p j aj ao hj hp)
    ·rw[if_neg e]at hl;exact .inl ⟨j,aj,hj,hl⟩
  rw[hS]at I';refine ih (U.erase i) _ q' m' Z' Hx' a' w' ?_ (hnd.erase i) (by simp[hsz]) (λj hj=>?_) (λj k hj hk ha=>?_) I'
  ·rw[List.length_erase_of_mem hU',hU];rfl
  ·rw[zhY hlt,hnd.mem_erase_iff];by_cases e:j=i
   ·subst e;simp
   ·rw[if_neg e,hmem j hj];exact⟨λh=>⟨e,h⟩,λh=>h.2⟩
  ·rw[zhY hlt]at hk ⊢;by_cases e:j=i
   ·rw[if_pos e]
   ·rw[if_neg e];by_cases e':k=i
    ·subst e';exact hready j hj ha
    ·rw[if_neg e']at hk;exact hcl j k hj hk ha
end
def draw_ok{P:Program}{G:Sem'}(hG:zgb P G){ops:Array Oper}{ord:List Nat} {r:List AO×List (Nat×Nat)} (hc:zfn P ops ord=some r) (hm:P.follows .mixedOrders=true) {N:Nat} {A A':Fr} {H H':Heap} {m:Map} {Z:Nat->Prop} {a:Act} {w:World}
  (h:zaC G r.2 0 [] [] r.1 A H=some (A',H')) (hr:Rel N m Z A H a w) (hfr:Free m H H') (hd:∀o∈ops.toList,∀d,o.dst=some d->d<N) {id:Nat} {Q:Exit->Act->World->Prop}
  (hq:∀m' Z' a' w',Ext m Z H w m' Z' H' w'->Rel N m' Z' A' H' a' w'->Q .normal a' w'):(Code.region id ops true).wp P Q a w:=by
 simp only[zfn,yaa]at hc;obtain⟨l,hl,hc⟩:=hc;split at hc
 ·rename_i hok;obtain⟨k1,k2,k3,k4⟩:=hok;simp only[yab]at hc;subst hc;obtain⟨As,Hs,vs,tr⟩:=znp h;have W:Way P ops l G N A H A' H' As Hs vs:=⟨hG,plan_of hl k1 k2 k3 k4,tr,hr.hp.dead,λi o d ho hod=>hd o (by
   rw[yaG]at ho;obtain⟨h1,rfl⟩:=ho;simp) d hod⟩
  have e0:Hs 0=H:=tr.h0;have en:Hs l.length=H':=by have:=tr.hn;simpa using this
  have hno:∀p,¬zl4 l (Array.replicate ops.size false) p:=by
   rintro p ⟨i,ao,hp,hl⟩;simp only[ybe,yc8]at hl;split at hl<;>simp at hl
  have hle:=(W.le (p:=0) (k:=l.length) (yaJ _) (yaj _)).1;rw[e0,en]at hle;have rd:=hr.hp.drew;refine wp_region_any hm (any_ok W (m0:=m) (Z0:=Z) (w0:=w.drew) (λm' Z' a' w' he hr'=>hq m' Z' a' w' ((Ext.drew m Z H w).trans he) hr') ops.size (List.range ops.size) _ 0 m Z ⟨H.get,H'.next⟩ a w.drew (by simp) List.nodup_range (by simp) (λi hi=>?_) (λi j hi hj=>?_) ?_)
  ·simp[ybe,hi]
  ·simp only[ybe,yc8]at hj;split at hj<;>simp at hj
  ·refine⟨yaJ _,λp _ _ hp=>by omega,λp _ _ _ _ _=>hno p,⟨rd.live,rd.inj,λid hid=>rd.dead id (yaA hle hid),rd.zlt⟩,by rw[en],λid _=>by rw[e0],λid hid b=>?_,λp hp _ id h1 h2=>?_,hr.size,hr.defers,λt u hv=>?_,?_⟩
   ·constructor
    ·intro hb;rw[e0]at hid;dsimp only at hb;rw[rd.dead id hid]at hb;cases hb
    ·rintro⟨p,_,_,_,hs,_⟩;exact absurd hs (hno p)
   ·refine hfr id ?_ ?_
    ·have:=(W.le (p:=0) (k:=p) (by omega) (by omega)).1;rw[e0]at this;omega
    ·have:=(W.le (p:=p+1) (k:=l.length) (by omega) (by omega)).1;rw[en]at this;omega
   ·rcases hv with⟨p,_,_,hs,_⟩|⟨_,hv⟩
    ·exact absurd hs (hno p)
    ·obtain⟨x,hx,hrep⟩:=hr.fr t u hv;exact⟨x,hx,hrep.mono (λ_ _ h=>h) (λ_ h=>h) λ_ _=>rfl⟩
   ·exact⟨λ_ _ h=>h,hle,λ_ _=>rfl,λ_ h=>h,yaj _,rfl,rfl,rfl,λ_ _ _=>rfl,λid b l h hm=>.inr ⟨id,b,l,h,hm,rfl⟩,λ_ h=>.inl h⟩
 ·cases hc
end Go.Ax
