/-
  Texts of mine, put together by program (wip/slim.py), for law_seatLater: part 12.
-/
import Derived.Test.YtboeopafnogfmaaGreatZl11
noncomputable section
set_option linter.unusedVariables false
set_option linter.unusedSimpArgs false
set_option linter.defProp false
set_option maxRecDepth 100000
/- Ax47 -/
namespace Go.Ax
def zaE{α β:Type}{o:Option α}{f:α->Option β}{b:β}(h:o.bind f=some b):∃a,o=some a/\f a=some b:=by
 cases o with
 | none=>cases h
 | some a=>exact⟨a,rfl,h⟩
def zbg{α β:Type}{o:Option α}{f:α->β}{b:β}(h:o.map f=some b):∃a,o=some a/\f a=b:=by
 cases o with
 | none=>cases h
 | some a=>exact⟨a,rfl,by injection h⟩
def zka{x:Value}{v:V}(h:V.ofValue x=some v):v.still=true:=by
 unfold V.ofValue at h;split at h<;>first|(injection h with h;subst h;rfl)|cases h
def zgS:∀{l:List Value} {vs:List V},V.ofCells l=some vs->V.stills vs=true
 | [],_,h=>by injection h with h;subst h;rfl
 | x::xs,_,h=>by
  obtain⟨v,h1,h⟩:=zaE h;obtain⟨vs,h2,h⟩:=zbg h;subst h;simp only[V.stills,zka h1,zgS h2,yaH]
def zkb{x:Value}{v:V}(h:V.ofConst x=some v):v.still=true:=by
 unfold V.ofConst at h;split at h
 ·obtain⟨vs,h1,h⟩:=zbg h;subst h;exact zgS h1
 ·exact zka h
def zah{x:Operand}{a:Arg}(h:zau x=some a):a.still=true:=by
 unfold zau at h;split at h
 ·injection h with h;subst h;rfl
 ·obtain⟨v,h1,h⟩:=zbg h;subst h;exact zkb h1
 ·injection h with h;subst h;rfl
 ·cases h
def zcG:∀{l:List Operand} {vs:List Arg},zb0 l=some vs->vs.all Arg.still=true
 | [],_,h=>by injection h with h;subst h;rfl
 | x::xs,_,h=>by
  obtain⟨v,h1,h⟩:=zaE h;obtain⟨vs,h2,h⟩:=zbg h;subst h;simp only[ybc,zah h1,zcG h2,yaH]
def zhl{x:Option Operand}{a:Option Arg}(h:zhm x=some a):zi7 a=true:=by
 unfold zhm at h;split at h
 ·injection h with h;subst h;rfl
 ·obtain⟨v,h1,h⟩:=zbg h;subst h;exact zah h1
def zcP{P:Program}{t:TypeId}{z:List V}(h:zeroOf P t=some z):V.stills z=true:=by
 obtain⟨v,h1,h⟩:=zaE h;exact zgS h
def zt9{P:Program}{t:TypeId}{z:V}(h:zvOf P t=some z):z.still=true:=by
 obtain⟨v,h1,h⟩:=zaE h;exact zkb h
def zhA{P:Program}{fs:Array Field}:∀{l:List (Nat×Operand)} {ps:List (Nat×Nat×Arg)},zeZ P fs l=some ps->(ps.all λp=>p.2.2.still)=true
 | [],_,h=>by injection h with h;subst h;rfl
 | (i,x)::xs,_,h=>by
  obtain⟨f,h1,h⟩:=zaE h;obtain⟨s,h2,h⟩:=zaE h;obtain⟨a,h3,h⟩:=zaE h;obtain⟨vs,h4,h⟩:=zbg h;subst h;simp only[ybc,zah h3,zhA h4,yaH]
def zfz{s:Nat}:∀{l:List (Nat×Operand)} {ps:List (Nat×Nat×Arg)},zfA s l=some ps->(ps.all λp=>p.2.2.still)=true
 | [],_,h=>by injection h with h;subst h;rfl
 | (i,x)::xs,_,h=>by
  obtain⟨a,h3,h⟩:=zaE h;obtain⟨vs,h4,h⟩:=zbg h;subst h;simp only[ybc,zah h3,zfz h4,yaH]
def if_s{c:Prop}[Decidable c]{α:Type}{x:Option α}{y:α} (h:(if c then x else none)=some y):x=some y:=by
 by_cases hc:c
 ·rw[if_pos hc]at h;exact h
 ·rw[if_neg hc]at h;cases h
def zoj{P:Program}{e:TypeId}{i:TypeInfo}{u:TypeId}{x y:Operand}{o:I}(h:zmh P e i u x y=some o):o.still=true:=by
 unfold zmh at h;split at h
 ·obtain⟨z,h1,h⟩:=zaE h;obtain⟨a,h3,h⟩:=zaE (if_s h);obtain⟨b,h4,h⟩:=zbg h;subst h;simp only[I.still,zcP h1,zah h3,zah h4,yaH]
 ·cases h
def zll{P:Program}{b:Builtin}{es:List Operand}{ts:List TypeId}{o:I}(h:zhp P b es ts=some o):o.still=true:=by
 unfold zhp at h;split at h
 ·split at h
  ·obtain⟨a,h3,h⟩:=zbg h;subst h;exact zah h3
  ·obtain⟨a,h3,h⟩:=zbg h;subst h;exact zah h3
  ·injection h with h;subst h;rfl
  ·obtain⟨a,h3,h⟩:=zbg h;subst h;exact zah h3
  ·cases h
 ·obtain⟨e,h1,h⟩:=zaE h;obtain⟨i,h2,h⟩:=zaE h;obtain⟨z,h5,h⟩:=zaE h;split at h
  ·obtain⟨a,h3,h⟩:=zaE h;obtain⟨b,h4,h⟩:=zbg h;subst h;simp only[I.still,zah h3,zah h4,yaH]
  ·exact zoj h
 ·obtain⟨e,h1,h⟩:=zaE h;obtain⟨i,h2,h⟩:=zaE h;obtain⟨a,h3,h⟩:=zaE h;obtain⟨b,h4,h⟩:=zbg h;subst h;simp only[I.still,zah h3,zah h4,yaH]
 ·obtain⟨e,h1,h⟩:=zaE h;obtain⟨z,h2,h⟩:=zaE h;obtain⟨a,h3,h⟩:=zbg (if_s h);subst h;simp only[I.still,zcP h2,zah h3,yaH]
 ·obtain⟨a,h3,h⟩:=zaE h;obtain⟨b,h4,h⟩:=zbg h;subst h;simp only[I.still,zah h3,zcG h4,yaH]
 ·obtain⟨a,h3,h⟩:=zaE h;obtain⟨b,h4,h⟩:=zbg h;subst h;simp only[I.still,zah h3,zcG h4,yaH]
 ·cases h
def zlK{P:Program}{n:Bool}{t:TypeId}{x y:Arg}{o:I}(hx:x.still=true)(hy:y.still=true)(h:zoT P n t x y=some o):o.still=true:=by
 have key:(x.still&&y.still)=true:=by rw[hx,hy];rfl
 unfold zoT at h;split at h
 ·injection h with h;subst h;exact key
 ·injection h with h;subst h;exact key
 ·injection h with h;subst h;exact key
 ·split at h
  ·have h:=if_s h;injection h with h;subst h;exact key
  ·cases h
 ·split at h
  ·injection h with h;subst h;exact key
  ·obtain⟨a,h3,h⟩:=zbg h;subst h;exact key
 ·cases h
def zp0{P:Program}{op:BinOp}{t:TypeId}{x y:Arg}{o:I}(hx:x.still=true)(hy:y.still=true)(h:zny P op t x y=some o):o.still=true:=by
 have key:(x.still&&y.still)=true:=by rw[hx,hy];rfl
 unfold zny at h;split at h
 ·injection h with h;subst h;exact key
 ·injection h with h;subst h;exact key
 ·injection h with h;subst h;exact key
 ·split at h
  ·exact zlK hx hy h
  ·exact zlK hx hy h
  ·cases h
 ·cases h
def zpZ{k:Xk}{es:List Arg}{o:I}(ha:es.all Arg.still=true)(h:ziE k es=some o):o.still=true:=by
 unfold ziE at h;split at h<;>first
  | cases h;done
  | (injection h with h;subst h;simp only[ybc,List.all_nil,yaH]at ha;exact ha)
def zoi{P:Program}{f:FuncId}{es:List Arg}{o:I}(ha:es.all Arg.still=true)(h:zmg P f es=some o):o.still=true:=by
 unfold zmg at h;split at h
 ·split at h
  ·obtain⟨k,h1,h⟩:=zaE (if_s h);exact zpZ ha h
  ·injection h with h;subst h;exact ha
 ·cases h
def zlJ{P:Program}{o:Op}{i:I}(h:zoS P o=some i):i.still=true:=by
 unfold zoS at h;split at h
 case h_1=>obtain⟨a,h3,h⟩:=zbg h;subst h;exact zah h3
 case h_2=>obtain⟨a,h3,h⟩:=zbg h;subst h;exact zah h3
 case h_3=>
  obtain⟨a,h1,h⟩:=zaE h;obtain⟨b,h2,h⟩:=zaE h;obtain⟨c,h3,h⟩:=zbg h;subst h;simp only[I.still,zah h1,zah h2,zah h3,yaH]
 case h_4=>obtain⟨a,h3,h⟩:=zbg h;subst h;exact zcP h3
 case h_5=>obtain⟨a,h3,h⟩:=zbg h;subst h;exact zah h3
 case h_6=>
  obtain⟨z,h1,h⟩:=zaE h;split at h
  ·obtain⟨a,h3,h⟩:=zbg (if_s h);subst h;simp only[I.still,zcP h1,zhA h3,yaH]
  ·obtain⟨s,h2,h⟩:=zaE h;obtain⟨a,h3,h⟩:=zbg h;subst h;simp only[I.still,zcP h1,zfz h3,yaH]
  ·cases h
 case h_7=>
  obtain⟨e,h1,h⟩:=zaE h;obtain⟨s,h2,h⟩:=zaE h;obtain⟨z,h4,h⟩:=zaE h;obtain⟨a,h3,h⟩:=zbg (if_s h);subst h;simp only[I.still,zcP h4,zfz h3,yaH]
 case h_8=>
  obtain⟨n,h1,h⟩:=zaE h;obtain⟨a,h3,h⟩:=zbg h;subst h;exact zah h3
 case h_9=>
  obtain⟨n,h1,h⟩:=zaE h;obtain⟨b,h2,h⟩:=zaE h;obtain⟨a,h3,h⟩:=zbg h;subst h;simp only[I.still,zah h2,zah h3,yaH]
 case h_10=>obtain⟨a,h3,h⟩:=zbg h;subst h;exact zah h3
 case h_11=>
  obtain⟨a,h1,h⟩:=zaE h;obtain⟨b,h2,h⟩:=zaE h;exact zp0 (zah h1) (zah h2) h
 case h_12=>obtain⟨a,h3,h⟩:=zbg h;subst h;exact zah h3
 case h_13=>
  split at h
  ·obtain⟨a,h3,h⟩:=zbg h;subst h;exact zah h3
  ·obtain⟨a,h3,h⟩:=zbg h;subst h;exact zah h3
  ·split at h
   ·obtain⟨a,h3,h⟩:=zbg h;subst h;exact zah h3
   ·cases h
  ·split at h
   ·obtain⟨a,h3,h⟩:=zbg h;subst h;exact zah h3
   ·cases h
  ·split at h
   ·split at h
    ·obtain⟨a,h3,h⟩:=zbg h;subst h;exact zah h3
    ·obtain⟨a,h3,h⟩:=zbg h;subst h;exact zah h3
   ·cases h
  ·cases h
 case h_14=>
  split at h
  ·obtain⟨f,h1,h⟩:=zaE h;obtain⟨n,h2,h⟩:=zaE h;obtain⟨a,h3,h⟩:=zbg (if_s h);subst h;exact zah h3
  ·cases h
 case h_15=>
  split at h
  ·obtain⟨n,h2,h⟩:=zaE h;obtain⟨a,h1,h⟩:=zaE h;obtain⟨b,h3,h⟩:=zbg h;subst h;simp only[I.still,zah h1,zah h3,yaH]
  ·obtain⟨n,h2,h⟩:=zaE h;obtain⟨a,h1,h⟩:=zaE h;obtain⟨b,h3,h⟩:=zbg h;subst h;simp only[I.still,zah h1,zah h3,yaH]
  ·cases h
 case h_16=>
  split at h
  ·obtain⟨n,h2,h⟩:=zaE h;obtain⟨l,h4,h⟩:=zaE h;obtain⟨a,h1,h⟩:=zaE h;obtain⟨b,h3,h⟩:=zbg h;subst h;simp only[I.still,zah h1,zah h3,yaH]
  ·obtain⟨a,h1,h⟩:=zaE h;obtain⟨b,h3,h⟩:=zbg h;subst h;simp only[I.still,zah h1,zah h3,yaH]
  ·cases h
 case h_17=>
  split at h
  ·obtain⟨f,h1,h⟩:=zaE h;obtain⟨n,h2,h⟩:=zaE h;obtain⟨a,h3,h⟩:=zbg h;subst h;exact zah h3
  ·cases h
 case h_18=>obtain⟨a,h3,h⟩:=zbg h;subst h;exact zah h3
 case h_19=>
  split at h
  ·obtain⟨a,h3,h⟩:=zbg h;subst h;exact zah h3
  ·cases h
 case h_20=>
  obtain⟨a,h1,h⟩:=zaE h;obtain⟨b,h2,h⟩:=zaE h;obtain⟨c,h3,h⟩:=zaE h;obtain⟨d,h4,h⟩:=zaE h;have e1:=zah h1;have e2:=zhl h2;have e3:=zhl h3;have e4:=zhl h4;have key:(a.still&&(zi7 b&&(zi7 c&&zi7 d)))=true:=by rw[e1,e2,e3,e4];rfl
  split at h
  ·obtain⟨s,h5,h⟩:=zaE h;split at h
   ·have h:=if_s h;injection h with h;subst h
    simp only[zi7]at e2 e3;simp only[I.still,e1,e2,e3,yaH]
   ·injection h with h;subst h;exact key
  ·obtain⟨s,h5,h⟩:=zbg h;subst h;exact key
  ·injection h with h;subst h;exact key
  ·cases h
 case h_21=>
  obtain⟨e,h1,h⟩:=zaE h;obtain⟨i,h2,h⟩:=zaE h;obtain⟨z,h5,h⟩:=zaE h;obtain⟨a,h3,h⟩:=zaE (if_s h);obtain⟨b,h4,h⟩:=zbg h;subst h;simp only[I.still,zcP h5,zah h3,zah h4,yaH]
 case h_22=>
  obtain⟨a,h3,h⟩:=zbg (if_s h);subst h;exact zcG h3
 case h_23=>
  split at h
  ·injection h with h;subst h;rfl
  ·cases h
 case h_24=>
  obtain⟨q,h1,h⟩:=zaE h;obtain⟨z,h2,h⟩:=zaE h;obtain⟨a,h3,h⟩:=zaE h;obtain⟨b,h4,h⟩:=zbg h;subst h;simp only[I.still,zt9 h2,zah h3,zah h4,yaH]
 case h_25=>
  obtain⟨q,h1,h⟩:=zaE h;obtain⟨a,h2,h⟩:=zaE h;obtain⟨b,h3,h⟩:=zaE h;obtain⟨c,h4,h⟩:=zbg h;subst h;simp only[I.still,zah h2,zah h3,zah h4,yaH]
 case h_26=>
  obtain⟨q,h1,h⟩:=zaE h;obtain⟨a,h2,h⟩:=zaE h;obtain⟨b,h3,h⟩:=zaE h;obtain⟨c,h4,h⟩:=zbg h;subst h;simp only[I.still,zah h2,zah h3,zah h4,yaH]
 case h_27=>
  obtain⟨a,h2,h⟩:=zaE h;exact zoi (zcG h2) h
 case h_28=>
  obtain⟨a,h2,h⟩:=zaE h;obtain⟨b,h3,h⟩:=zbg h;subst h;simp only[I.still,zah h2,zcG h3,yaH]
 case h_29=>exact zll h
 case h_30=>cases h
def zlM{P:Program}{ops:Array Oper}{o:Oper}{a:AO}(h:zjl P ops o=some a):a.still=true:=by
 obtain⟨i,h1,h⟩:=zaE h;split at h
 ·injection h with h;subst h;exact zlJ h1
 ·obtain⟨s,h2,h⟩:=zbg h;subst h;exact zlJ h1
def zkK{P:Program}{ops:Array Oper}:∀{l:List Oper} {es:List AO},zhn P ops l=some es->es.all AO.still=true
 | [],_,h=>by injection h with h;subst h;rfl
 | x::xs,_,h=>by
  obtain⟨a,h3,h⟩:=zaE h;obtain⟨vs,h4,h⟩:=zbg h;subst h;simp only[ybc,zlM h3,zkK h4,yaH]
def zkL{P:Program}{ops:Array Oper}:∀{l:List Nat} {es:List (Nat×AO)},zjS P ops l=some es->(es.map (·.2)).all AO.still=true
 | [],_,h=>by injection h with h;subst h;rfl
 | x::xs,_,h=>by
  obtain⟨o,h1,h⟩:=zaE h;obtain⟨a,h3,h⟩:=zaE h;obtain⟨vs,h4,h⟩:=zbg h;subst h;simp only[yaV,ybc,zlM h3,zkL h4,yaH]
def zoh{P:Program}{ops:Array Oper}{ord:List Nat} {r:List AO×List (Nat×Nat)} (h:zho P ops ord=some r):r.1.all AO.still=true:=by
 unfold zho at h;obtain⟨l,h1,h⟩:=zaE h;have h:=if_s h;injection h with h;subst h
 exact zkL h1
def zu3{P:Program}:∀{c:Code} {k:C} {h:List (List Nat)} {r:C×List (List Nat)},k.still=true->comp P c k h=some r->r.1.still=true:=by
 intro c
 induction c with
 | skip=>intro k h r hk e;injection e with e;subst e;exact hk
 | region _ ops d=>
  intro k h r hk e;unfold comp at e;split at e
  ·injection e with e;subst e;rfl
  ·split at e
   ·obtain⟨l,h1,e⟩:=zbg e;subst e;simp only[C.still,zkK h1,hk,yaH]
   ·split at e
    ·obtain⟨l,h1,e⟩:=zbg (if_s e);subst e;simp only[C.still,zoh h1,hk,yaH]
    ·cases e
 | seq a b iha ihb=>
  intro k h r hk e;unfold comp at e;obtain⟨s,h1,e⟩:=zaE e;exact iha (ihb hk h1) e
 | cond x a b iha ihb=>
  intro k h r hk e;unfold comp at e;obtain⟨x',hx,e⟩:=zaE e;split at e
  ·obtain⟨s,h1,e⟩:=zaE e;obtain⟨t,h2,e⟩:=zbg e;subst e;have e1:=iha rfl h1;have e2:=ihb hk h2;simp only[C.still,zah hx,e1,e2,yaH]
  ·split at e
   ·obtain⟨s,h1,e⟩:=zaE e;obtain⟨t,h2,e⟩:=zbg e;subst e;have e1:=iha hk h1;have e2:=ihb rfl h2;simp only[C.still,zah hx,e1,e2,yaH]
   ·split at e
    ·obtain⟨s,h1,e⟩:=zaE e;obtain⟨t,h2,e⟩:=zbg e;subst e;have e1:=iha rfl h1;have e2:=ihb rfl h2;simp only[C.still,zah hx,e1,e2,hk,yaH]
    ·cases e
 | block id a iha=>
  intro k h r hk e;unfold comp at e;split at e
  ·obtain⟨s,h1,e⟩:=zbg e;subst e;have e1:=iha rfl h1;simp only[C.still,e1,hk,yaH]
  ·cases e
 | loop a iha=>
  intro k h r hk e;unfold comp at e;split at e
  ·obtain⟨s,h1,e⟩:=zbg e;subst e;have e1:=iha (k:=.done) rfl h1;exact e1
  ·cases e
 | exit id=>intro k h r hk e;injection e with e;subst e;rfl
 | ret=>intro k h r hk e;injection e with e;subst e;rfl
 | _=>intros;rename_i e;cases e
def zrt{P:Program}{fn:Func} {h:List (List Nat)} {ir:Fn'} (e:znx P fn h=some ir):ir.body.still=true:=by
 unfold znx at e;obtain⟨b,h1,e⟩:=zaE e;obtain⟨r,h2,e⟩:=zaE e;obtain⟨rv,h3,e⟩:=zaE e;have e:=if_s e;injection e with e;subst e
 exact zu3 (k:=.ret) rfl h2
def zpX{P:Program}{fn:Func} {h:List (List Nat)} {ir:Fn'} (e:zpY P fn h=some ir):ir.body.still=true:=by
 unfold zpY at e;split at e
 ·injection e with e;subst e;rfl
 ·split at e
  ·injection e with e;subst e;rfl
  ·exact zrt e
def zlo{P:Program} {h:FuncId->List (List Nat)} {f:FuncId} {ir:Fn'} (e:zoo P h f=some ir):ir.body.still=true:=by
 obtain⟨fn,h1,e⟩:=zaE e;exact zpX e
end Go.Ax
/- Ax54 -/
namespace Go.Ax.Y
def news:Heap->List (Option Blk)->Heap
 | h,[]=>h
 | h,some b::l=>news (h.new b) l
 | h,none::l=>news ⟨h.get,h.next+1⟩ l
abbrev Orc:Type:=FuncId->List V->Heap->Option (V×List (Option Blk))
def zxw(T:FuncId->Option Fn')(sel:FuncId->List V->Bool)(O:Orc):Nat->Sem'
 | 0=>λ_ _=>M.fail
 | n+1=>λf args=>if sel f args=true then (λh=>(O f args h).map λr=>(r.1,news h r.2)) else
  match T f with
  | some ir=>if args.length<=ir.ntmps/\ng ir.body=true then ir.run (zxw T sel O n) args else M.fail
  | none=>M.fail
def OrS(tb:Tb)(T:FuncId->Option Fn')(sel:FuncId->List V->Bool)(O:Orc):Prop:=
 ∀f args args' g h K v nb,sel f args=true->O f args h=some (v,nb)->St tb g h K->Rl g shL args args' ->
  ∃g' b K',sem T f args' K=some (b,K')/\St tb g' (news h nb) K'/\Frm g h K g' (news h nb) K'/\Rl g' sh v b
def s_deep{tb:Tb}{T:FuncId->Option Fn'}{sel:FuncId->List V->Bool}{O:Orc}(hT:∀f ir,T f=some ir->ir.body.still=true)(hO:OrS tb T sel O):∀n,zqb tb (zxw T sel O n) (sem T)
 | 0=>λf args args' g h K s r=>zcL
 | n+1=>λf args args' g h K s r=>by
  unfold zxw;by_cases hs:sel f args=true
  ·rw[if_pos hs];intro a h' e;obtain⟨⟨v,nb⟩,e1,e2⟩:=gm e;cases e2;exact hO f args args' g h K v nb hs e1 s r
  ·rw[if_neg hs];cases hf:T f with
   | none=>exact zcL
   | some ir=>
    dsimp only;by_cases hc:args.length<=ir.ntmps/\ng ir.body=true
    ·rw[if_pos hc];intro a h' e;obtain⟨g',b,K',e1,s1,f1,r1⟩:=s_fn (s_deep hT hO n) ir (hT f ir hf) hc.2 args args' g h K s r a h' e;refine⟨g',b,K',zqu hf ?_ e1,s1,f1,r1⟩;rw[r g.e (Ag.self g),shL_len];exact hc.1
    ·rw[if_neg hc];exact zcL
/-! The same,to compute with. -/
def zwQ:Cc.Heap->List (Option Blk)->Cc.Heap
 | h,[]=>h
 | h,some b::l=>zwQ (h.new b) l
 | h,none::l=>zwQ ⟨h.t,h.next+1⟩ l
def znH:∀(l:List (Option Blk)) (h:Cc.Heap),(zwQ h l).abs=news h.abs l
 | [],h=>rfl
 | some b::l,h=>by show(zwQ (h.new b) l).abs=news (h.abs.new b) l;rw[znH l,Cc.abs_new]
 | none::l,h=>znH l ⟨h.t,h.next+1⟩
def cdo(T:FuncId->Option Fn')(sel:FuncId->List V->Bool)(O:Orc):Nat->Cc.Sem'
 | 0=>λ_ _=>Cc.M.fail
 | n+1=>λf args=>match sel f args with
  | true=>λh=>match O f args h.abs with|some r=>some (r.1,zwQ h r.2)|none=>none
  | false=>match T f with
   | some ir=>match Nat.ble args.length ir.ntmps&&ng ir.body with
    | true=>Cc.fin (Cc.execK (cdo T sel O n) ir.rv ir.body [] [] (params 0 args))
    | false=>Cc.M.fail
   | none=>Cc.M.fail
def zs1{T:FuncId->Option Fn'}{sel:FuncId->List V->Bool}{O:Orc}:∀n,Cc.Sims (cdo T sel O n) (zxw T sel O n)
 | 0=>λ_ _=>Cc.sim_fail
 | n+1=>λf args=>by
  unfold cdo zxw;cases hs:sel f args with
  | true=>
   rw[if_pos rfl];intro c v c' e;dsimp only at e ⊢;cases hO:O f args c.abs with
   | none=>rw[hO]at e;cases e
   | some r=>
    rw[hO]at e;cases e;rw[yas,znH]
  | false=>
   rw[if_neg (by decide)];cases hf:T f with
   | none=>exact Cc.sim_fail
   | some ir=>
    dsimp only;cases hc:Nat.ble args.length ir.ntmps&&ng ir.body with
    | false=>exact Cc.sim_fail
    | true=>
     rw[yam]at hc;rw[if_pos ⟨yau hc.1,hc.2⟩,zs6];exact Cc.sim_fin (Cc.sim_exec (zs1 n) _ _ _ _ _)
def run_ok{tb:Tb}{T:FuncId->Option Fn'}{sel:FuncId->List V->Bool}{O:Orc}(hT:∀f ir,T f=some ir->ir.body.still=true)(hO:OrS tb T sel O){m:Nat}{f:FuncId}{args args':List V}{c:Cc.Heap}{v:V}{c':Cc.Heap} (h:cdo T sel O m f args c=some (v,c')) {g:Sg} {K:Heap} (s:St tb g c.abs K) (r:Rl g shL args args') :
  ∃g' b K',sem T f args' K=some (b,K')/\St tb g' c'.abs K'/\Frm g c.abs K g' c'.abs K'/\Rl g' sh v b:=
 s_deep hT hO m f args args' g c.abs K s r v c'.abs (zs1 m f args c v c' h)
end Go.Ax.Y
/- Ax55 -/
namespace Go.Ax.Y
variable {tb:Tb} {g:Sg} {h K K':Heap}
def fr_dum(gr:Grow K K'):Frm g h K g ⟨h.get,h.next+1⟩ K':=
 ⟨Ex.refl _ _,gr.next,ybV _,λi hi _=>gr.same i hi,λj b hj=>.inl ⟨b,hj⟩⟩
def St.dum(s:St tb g h K)(gr:Grow K K')(hc:K'.Cl):St tb g (news h [none]) K':=by
 have fm:=fr_dum (g:=g) (h:=h) gr;refine⟨s.s,s.kn,λi hi=>ybC (s.nb i hi),s.nwb,ydd s.lo,s.inj,λi hi=>yai (s.lt i hi) gr.next,λd hd i b hi=>?_,λi hi hR hn=>?_,hc,s.seq,λi hR hi e=>?_,s.mono,λm hm hf=>?_,λm hw=>?_⟩
 ·rw[gr.same _ (by rw[hd.2.1 i (s.kn i b hi).1];exact s.lt i (s.kn i b hi).1)];exact s.em d hd i b hi
 ·rw[gr.same _ (s.lt i hi)];exact s.dr i hi hR hn
 ·have:=s.nb i hi;have e:i+1=h.next+1:=e;omega
 ·obtain⟨h1,lo,Hc,h2,h3,h4⟩:=s.mf m hm hf;exact⟨ybC h1,lo,Hc,h2,h3.step s fm,h4⟩
 ·obtain⟨h1,lo,Hc,h2,h3⟩:=s.mw m hw;exact⟨ybC h1,lo,Hc,h2,h3.step s fm⟩
def St.blk(s:St tb g h K)(gr:Grow K K')(hc:K'.Cl){id:Nat}(h1:K.next<=id)(h2:id<K'.next){b:Blk} (hb:∀d,Ag g d->K'.get id=some (shB d b)) :
  ∃g',St tb g' (news h [none,some b,none]) K'/\Frm g h K g' (news h [none,some b,none]) K'/\g'.nf (h.next+1)/\g'.e.f (h.next+1)=id:=by
 let e2:Nm:=⟨λi=>if i=h.next+1 then id else g.e.f i,g.e.w,g.e.s⟩
 let g':Sg:=⟨e2,λi=>g.nf i\/i=h.next+1,g.nw⟩
 have fn:e2.f (h.next+1)=id:=if_pos rfl;have f2:∀i,g.nf i->e2.f i=g.e.f i:=λi hi=>if_neg (by have:=s.nb i hi;omega);have hget:∀j,(news h [none,some b,none]).get j=if j=h.next+1 then some b else h.get j:=λj=>rfl
 have hnx:(news h [none,some b,none]).next=h.next+1+1+1:=rfl;have kn':∀j c,(news h [none,some b,none]).get j=some c->(j=h.next+1/\c=b)\/(j≠h.next+1/\h.get j=some c):=λj c hj=>by
  rw[hget]at hj;by_cases e:j=h.next+1
  ·rw[if_pos e]at hj;injection hj with hj;exact .inl ⟨e,hj.symm⟩
  ·rw[if_neg e]at hj;exact .inr ⟨e,hj⟩
 have ex:Ex K.next g g':=⟨rfl,λi hi=>⟨.inl hi,f2 i hi⟩,λi hi=>⟨hi,rfl⟩,λi hi hn=>by
  rcases hi with hi|rfl
  ·exact absurd hi hn
  ·show K.next<=e2.f (h.next+1);rw[fn];exact h1⟩
 have fm:Frm g h K g' (news h [none,some b,none]) K':=⟨ex,gr.next,by rw[hnx];omega,λi hi _=>gr.same i hi,λj c hj=>by
  rcases kn' j c hj with⟨rfl,_⟩|⟨_,hj⟩
  ·refine .inr ?_;show K.next<=e2.f (h.next+1);rw[fn];exact h1
  ·exact .inl ⟨c,hj⟩⟩
 have lt':∀i,g.nf i->g.e.f i<K.next:=s.lt;refine⟨g',⟨s.s,λi c hi=>?_,λi hi=>?_,s.nwb,by rw[hnx];have:=s.lo;omega,λi j hi hj eq=>?_,λi hi=>?_,λd hd i c hi=>?_,λi hi hR hn=>?_,hc,λi hR hi hj=>?_,λi hR hi e=>?_,λi j hR hl hi hj=>?_,λm hm hf=>?_,λm hw=>?_⟩,fm,.inr rfl,fn⟩
 ·rcases kn' i c hi with⟨rfl,_⟩|⟨_,hi⟩
  ·exact⟨.inr rfl,by have:=s.lo;omega⟩
  ·exact⟨.inl (s.kn i c hi).1,(s.kn i c hi).2⟩
 ·rw[hnx];rcases hi with hi|rfl
  ·have:=s.nb i hi;omega
  ·omega
 ·have eq:e2.f i=e2.f j:=eq;rcases hi with hi|rfl<;>rcases hj with hj|rfl
  ·rw[f2 i hi,f2 j hj]at eq;exact s.inj i j hi hj eq
  ·rw[f2 i hi,fn]at eq;have:=lt' i hi;omega
  ·rw[f2 j hj,fn]at eq;have:=lt' j hj;omega
  ·rfl
 ·show e2.f i<K'.next;rcases hi with hi|rfl
  ·rw[f2 i hi];exact yai (lt' i hi) gr.next
  ·rw[fn];exact h2
 ·have hd0:=hd.mono ex;rcases kn' i c hi with⟨rfl,rfl⟩|⟨_,hi⟩
  ·have:d.f (h.next+1)=id:=(hd.2.1 (h.next+1) (.inr rfl)).trans fn;rw[this];exact hb d hd0
  ·rw[gr.same _ (by rw[hd0.2.1 i (s.kn i c hi).1];exact lt' i (s.kn i c hi).1)];exact s.em d hd0 i c hi
 ·show K'.get (e2.f i)=none;rcases hi with hi|rfl
  ·rw[f2 i hi,gr.same _ (lt' i hi)];refine s.dr i hi hR ?_;rw[hget,if_neg (by have:=s.nb i hi;omega)]at hn;exact hn
  ·rw[hget,if_pos rfl]at hn;cases hn
 ·show e2.f (i+1)=e2.f i+1;rcases hi with hi|rfl
  ·rcases hj with hj|hj
   ·rw[f2 i hi,f2 _ hj];exact s.seq i hR hi hj
   ·have:=s.nb i hi;omega
  ·rcases hj with hj|hj
   ·have:=s.nb _ hj;omega
   ·omega
 ·rw[hnx]at e;rcases hi with hi|rfl
  ·have:=s.nb i hi;omega
  ·omega
 ·show e2.f i<e2.f j;rcases hi with hi|rfl
  ·rw[f2 i hi];rcases hj with hj|rfl
   ·rw[f2 j hj];exact s.mono i j hR hl hi hj
   ·rw[fn];have:=lt' i hi;omega
  ·rcases hj with hj|rfl
   ·have:=s.nb j hj;omega
   ·omega
 ·rcases hf with hf|rfl
  ·obtain⟨q1,lo,Hc,q2,q3,q4⟩:=s.mf m hm hf;refine⟨by rw[hnx];omega,lo,Hc,by show tb.Pf m lo Hc (e2.f m);rw[f2 m hf];exact q2,q3.step s fm,λi hR hl hi=>?_⟩;show e2.f i<lo;rcases hi with hi|rfl
   ·rw[f2 i hi];exact q4 i hR hl hi
   ·omega
  ·have:=s.lo;omega
 ·obtain⟨q1,lo,Hc,q2,q3⟩:=s.mw m hw;exact⟨by rw[hnx];omega,lo,Hc,q2,q3.step s fm⟩
def St.key(s:St tb g h K)(gr:Grow K K')(hc:K'.Cl){id m:Nat}(hm:m<tb.R)(ht:tb.t m=h.next)(h1:K.next<=id)(h2:id<K'.next)(hP:tb.Pf m K.next K' id) :
  ∃g',St tb g' (news h [none]) K'/\Frm g h K g' (news h [none]) K'/\g'.nf m/\g'.e.f m=id:=by
 have hnm:¬g.nf m:=λhf=>by have:=(s.mf m hm hf).1;omega
 let e2:Nm:=⟨λi=>if i=m then id else g.e.f i,g.e.w,g.e.s⟩
 let g':Sg:=⟨e2,λi=>g.nf i\/i=m,g.nw⟩
 have fn:e2.f m=id:=if_pos rfl;have f2:∀i,g.nf i->e2.f i=g.e.f i:=λi hi=>if_neg (by rintro rfl;exact hnm hi);have nR:∀i,tb.R<=i->i≠m:=λi hi=>by omega
 have nf':∀i,tb.R<=i->g'.nf i->g.nf i:=λi hR hi=>hi.resolve_right (nR i hR);have ex:Ex K.next g g':=⟨rfl,λi hi=>⟨.inl hi,f2 i hi⟩,λi hi=>⟨hi,rfl⟩,λi hi hn=>by
  rcases hi with hi|rfl
  ·exact absurd hi hn
  ·show K.next<=e2.f i;rw[fn];exact h1⟩
 have fm:Frm g h K g' (news h [none]) K':=⟨ex,gr.next,ybV _,λi hi _=>gr.same i hi,λj c hj=>.inl ⟨c,hj⟩⟩;have lt':∀i,g.nf i->g.e.f i<K.next:=s.lt;refine⟨g',⟨s.s,λi c hi=>⟨.inl (s.kn i c hi).1,(s.kn i c hi).2⟩,λi hi=>?_,s.nwb,ydd s.lo,λi j hi hj eq=>?_,λi hi=>?_,λd hd i c hi=>?_,λi hi hR hn=>?_,hc,λi hB hi hj=>?_,λi hB hi e=>?_,λi j hB hl hi hj=>?_,λn hn hf=>?_,λn hw=>?_⟩,fm,.inr rfl,fn⟩
 ·show i<h.next+1;rcases hi with hi|rfl
  ·have:=s.nb i hi;omega
  ·have:=s.lo;omega
 ·have eq:e2.f i=e2.f j:=eq;rcases hi with hi|rfl<;>rcases hj with hj|rfl
  ·rw[f2 i hi,f2 j hj]at eq;exact s.inj i j hi hj eq
  ·rw[f2 i hi,fn]at eq;have:=lt' i hi;omega
  ·rw[f2 j hj,fn]at eq;have:=lt' j hj;omega
  ·rfl
 ·show e2.f i<K'.next;rcases hi with hi|rfl
  ·rw[f2 i hi];exact yai (lt' i hi) gr.next
  ·rw[fn];exact h2
 ·have hd0:=hd.mono ex;rw[gr.same _ (by rw[hd0.2.1 i (s.kn i c hi).1];exact lt' i (s.kn i c hi).1)];exact s.em d hd0 i c hi
 ·show K'.get (e2.f i)=none;have hi:=nf' i hR hi;rw[f2 i hi,gr.same _ (lt' i hi)];exact s.dr i hi hR hn
 ·show e2.f (i+1)=e2.f i+1;have hR:=yax tb.rb hB;have hi:=nf' i hR hi;have hj:=nf' (i+1) (by omega) hj;rw[f2 i hi,f2 _ hj];exact s.seq i hB hi hj
 ·have:=s.nb i (nf' i (yax tb.rb hB) hi);have e:i+1=h.next+1:=e;omega
 ·show e2.f i<e2.f j;have hR:=yax tb.rb hB;have hi:=nf' i hR hi;have hj:=nf' j (by omega) hj;rw[f2 i hi,f2 j hj];exact s.mono i j hB hl hi hj
 ·rcases hf with hf|rfl
  ·obtain⟨q1,lo,Hc,q2,q3,q4⟩:=s.mf n hn hf;refine⟨ybC q1,lo,Hc,by show tb.Pf n lo Hc (e2.f n);rw[f2 n hf];exact q2,q3.step s fm,λi hR hl hi=>?_⟩;show e2.f i<lo;have hi:=nf' i hR hi;rw[f2 i hi];exact q4 i hR hl hi
  ·refine⟨by rw[ht];exact yaY _,K.next,K',by show tb.Pf n K.next K' (e2.f n);rw[fn];exact hP,⟨yah _,λ_ _ _=>rfl,λi q1 q2 j c hj e=>?_⟩,λi hR hl hi=>?_⟩
   ·have hj':=(s.kn j c hj).1;have e:e2.f j=i:=e;rw[f2 j hj']at e;have:=lt' j hj';omega
   ·show e2.f i<K.next;have hi:=nf' i hR hi;rw[f2 i hi];exact lt' i hi
 ·obtain⟨q1,lo,Hc,q2,q3⟩:=s.mw n hw;exact⟨ybC q1,lo,Hc,q2,q3.step s fm⟩
def St.val(s:St tb g h K)(gr:Grow K K')(hc:K'.Cl){m:Nat}{v:V}(hm:m<tb.R)(ht:tb.t m=h.next)(hP:tb.Pw m K.next K' v) :
  ∃g',St tb g' (news h [none]) K'/\Frm g h K g' (news h [none]) K'/\g'.nw m/\g'.e.w m=v:=by
 have hnm:¬g.nw m:=λhf=>by have:=(s.mw m hf).1;omega
 let e2:Nm:=⟨g.e.f,λi=>if i=m then v else g.e.w i,g.e.s⟩
 let g':Sg:=⟨e2,g.nf,λi=>g.nw i\/i=m⟩
 have fn:e2.w m=v:=if_pos rfl;have w2:∀i,g.nw i->e2.w i=g.e.w i:=λi hi=>if_neg (by rintro rfl;exact hnm hi);have ex:Ex K.next g g':=⟨rfl,λi hi=>⟨hi,rfl⟩,λi hi=>⟨.inl hi,w2 i hi⟩,λi hi hn=>absurd hi hn⟩;have fm:Frm g h K g' (news h [none]) K':=⟨ex,gr.next,ybV _,λi hi _=>gr.same i hi,λj c hj=>.inl ⟨c,hj⟩⟩;have lt':∀i,g.nf i->g.e.f i<K.next:=s.lt;refine⟨g',⟨s.s,s.kn,λi hi=>ybC (s.nb i hi),λi hi=>?_,ydd s.lo,s.inj,λi hi=>yai (lt' i hi) gr.next,λd hd i c hi=>?_,λi hi hR hn=>?_,hc,s.seq,λi hR hi e=>?_,s.mono,λn hn hf=>?_,λn hw=>?_⟩,fm,.inr rfl,fn⟩
 ·rcases hi with hi|rfl
  ·exact s.nwb i hi
  ·exact hm
 ·have hd0:=hd.mono ex;rw[gr.same _ (by rw[hd0.2.1 i (s.kn i c hi).1];exact lt' i (s.kn i c hi).1)];exact s.em d hd0 i c hi
 ·show K'.get (g.e.f i)=none;rw[gr.same _ (lt' i hi)];exact s.dr i hi hR hn
 ·have:=s.nb i hi;have e:i+1=h.next+1:=e;omega
 ·obtain⟨q1,lo,Hc,q2,q3,q4⟩:=s.mf n hn hf;exact⟨ybC q1,lo,Hc,q2,q3.step s fm,q4⟩
 ·rcases hw with hw|rfl
  ·obtain⟨q1,lo,Hc,q2,q3⟩:=s.mw n hw;exact⟨ybC q1,lo,Hc,by show tb.Pw n lo Hc (e2.w n);rw[w2 n hw];exact q2,q3.step s fm⟩
  ·refine⟨by rw[ht];exact yaY _,K.next,K',by show tb.Pw n K.next K' (e2.w n);rw[fn];exact hP,⟨yah _,λ_ _ _=>rfl,λi q1 q2 j c hj e=>?_⟩⟩;have e:g.e.f j=i:=e;have:=lt' j (s.kn j c hj).1;omega
def wnamed{m:Int}{v':V} (r:Rl g sh (.lit (.int .i64 m)) v'):g.nw m.toNat:=by
 apply ycD;intro hn
 let d (x:V):Nm:=⟨g.e.f,λi=>if i=m.toNat then x else g.e.w i,g.e.s⟩
 have hd:∀x,Ag g (d x):=λx=>⟨rfl,λi hi=>rfl,λi hi=>if_neg (by rintro rfl;exact hn hi)⟩;have h1:=r (d .nils) (hd _);have h2:=r (d .nilp) (hd _);have e:∀x,sh (d x) (.lit (.int .i64 m))=okw x:=λx=>congrArg okw (if_pos rfl);rw[e]at h1 h2;rw[h1]at h2;cases h2
def fnamed{m o:Nat}{v':V} (r:Rl g sh (.ptr m o) v'):g.nf m/\v' = .ptr (g.e.f m) o:=
 ⟨named (tb:=⟨0,0,yah 0,λ_=>0,λ_=>0,λ_ _ _ _=>True,λ_ _ _ _=>True⟩) (v:=.ptr m o) (λ_ _=>yaE _) r rfl,r g.e (Ag.self g)⟩
end Go.Ax.Y
/- Or1 -/
namespace Go.Ax.SU
open Go.Ax Go.Proofs
inductive Bd where
 | hm (salt key:List V)
 | ex (zaT info:List V) (n:Nat)
 | se (id kid:Nat) (base:List V) (c:Nat) (m p:List V)
inductive Kd where
 | key (id kid:Nat) (base:List V)
 | sl (l:List V)
 | any
structure Tabs where
 bs:List Bd
 ks:List (Nat×Kd)
def iv(s:Nat->Nat)(q:Nat->List Nat):List V->List Nat
 | []=>[]
 | .int .u8 n::l=>n.toNat::iv s q l
 | .lit (.int .u8 n)::l=>s n.toNat::iv s q l
 | .lit (.int .u64 n)::l=>q n.toNat++iv s q l
 | _::l=>iv s q l
def bok1:V->Bool
 | .int .u8 n=>decide (0<=n)&&decide (n<256)
 | .lit (.int .u8 _)=>true
 | _=>false
def bokd:V->Bool
 | .lit (.int .u64 _)=>true
 | v=>bok1 v
structure SQ (s:Nat->Nat) (q:Nat->List Nat):Prop where
 s8:∀n,s n<256
 q8:∀n,Ok8 (q n)
 ql:∀n,(q n).length<=1048576
def bok_d{v:V}(h:bok1 v=true):bokd v=true:=by
 unfold bokd;split
 ·rfl
 ·exact h
def iv_1{d:Y.Nm}{q:Nat->List Nat}:∀{cs:List V},cs.all bok1=true->Y.shL d cs=(iv d.s q cs).map by8/\(iv d.s q cs).length=cs.length
 | [],_=>⟨rfl,rfl⟩
 | x::cs,h=>by
  simp only[ybc,yam]at h;obtain⟨h1,h2⟩:=iv_1 (d:=d) (q:=q) h.2;have h0:=h.1;unfold bok1 at h0;split at h0
  ·rename_i n;simp only[yam,decide_eq_true_eq]at h0;refine⟨?_,by simp only[iv,List.length_cons,h2]⟩;show V.int .u8 n::Y.shL d cs=V.int .u8 (n.toNat:Nat)::(iv d.s q cs).map by8;rw[h1,Int.toNat_of_nonneg h0.1]
  ·rename_i n;refine⟨?_,by simp only[iv,List.length_cons,h2]⟩;show V.int .u8 (d.s n.toNat:Nat)::Y.shL d cs=V.int .u8 (d.s n.toNat:Nat)::(iv d.s q cs).map by8;rw[h1]
  ·cases h0
def iv_8{s:Nat->Nat}{q:Nat->List Nat}(hs:SQ s q):∀{cs:List V},cs.all bokd=true->Ok8 (iv s q cs)/\(iv s q cs).length<=cs.length*1048576
 | [],_=>⟨Ok8.nil,yaE _⟩
 | x::cs,h=>by
  simp only[ybc,yam]at h;obtain⟨h1,h2⟩:=iv_8 hs h.2;have h0:=h.1;unfold bokd at h0;split at h0
  ·rename_i n;refine⟨(hs.q8 _).app h1,?_⟩;show(q n.toNat++iv s q cs).length<=_;have:=hs.ql n.toNat;rw[yaf,List.length_cons];omega
  ·unfold bok1 at h0;split at h0
   ·rename_i n _;simp only[yam,decide_eq_true_eq]at h0;refine⟨?_,?_⟩
    ·intro y hy;rcases yap.1 hy with rfl|hy
     ·omega
     ·exact h1 y hy
    ·show(n.toNat::iv s q cs).length<=_;rw[List.length_cons,List.length_cons];omega
   ·rename_i n _;refine⟨?_,?_⟩
    ·intro y hy;rcases yap.1 hy with rfl|hy
     ·exact hs.s8 _
     ·exact h1 y hy
    ·show(s n.toNat::iv s q cs).length<=_;rw[List.length_cons,List.length_cons];omega
   ·cases h0
def val(s:Nat->Nat)(q:Nat->List Nat):Bd->List Nat
 | .hm a b=>hmac kc (iv s q a) (iv s q b)
 | .ex a b n=>(hkdf kc (iv s q a) (iv s q b) ((n+31)/32)).1.take n
 | .se id kid base c m p=>match szs id with
  | some (n,t)=>zb6 (drv id kid n t (iv s q base)) c (iv s q m) (iv s q p)
  | none=>[]
structure TabV (t:Tabs) (s:Nat->Nat) (q:Nat->List Nat):Prop where
 sq:SQ s q
 v:∀j d,t.bs[j]?=some d->∀i,i<(val s q d).length->i<1000->s (1000*j+i)=(val s q d).getD i 0
def tbOf(t:Tabs)(s:Nat->Nat)(q:Nat->List Nat):Y.Tb where
 R:=t.ks.length
 B:=t.ks.length
 rb:=yah _
 s:=s
 t:=λm=>match t.ks[m]? with|some p=>p.1|none=>0
 Pf:=λm lo H id=>match t.ks[m]? with
  | some (_,.key i kid bl)=>∃n tg,szs i=some (n,tg)/\KeyB lo H id (drv i kid n tg (iv s q bl))
  | _=>False
 Pw:=λm lo H v=>match t.ks[m]? with
  | some (_,.sl l)=>By lo H v (iv s q l)/\l.all bokd=true
  | some (_,.any)=>True
  | _=>False
def syms(j o n:Nat):List V:=(List.range n).map λi=>.lit (.int .u8 ((1000*j+o+i:Nat):Int))
def zmq{t:Tabs}{s:Nat->Nat}{q:Nat->List Nat}(h:TabV t s q){d:Y.Nm}(hd:d.s=s){j:Nat}{b:Bd} (hb:t.bs[j]?=some b) {o n:Nat} (hl:(val s q b).length=o+n) (h1:o+n<=1000):Y.shL d (syms j o n)=((val s q b).drop o).map by8:=by
 subst hd;rw[Y.shL_map];unfold syms;rw[ycA];apply ycK;intro i;by_cases hi:i<n
 ·rw[yaS,ybD hi,yaS,ya1,yae (by omega)];have:=h.v j b hb (o+i) (by omega) (by omega);rw[yal,yae (by omega)]at this;simp only[yaG]at this;show some (V.int .u8 (d.s (((1000*j+o+i:Nat):Int).toNat):Nat))=some (by8 _);rw[yan,yb6,this];rfl
 ·rw[ybh (by simp;omega),ybh (by simp;omega)]
def veq:V->V->Bool
 | .int .u8 a,.int .u8 b=>decide (a=b)
 | .lit (.int .u8 a),.lit (.int .u8 b)=>decide (a=b)
 | .lit (.int .u64 a),.lit (.int .u64 b)=>decide (a=b)
 | _,_=>false
def leq:List V->List V->Bool
 | [],[]=>true
 | x::xs,y::ys=>veq x y&&leq xs ys
 | _,_=>false
def veq_ok{a b:V}(h:veq a b=true):a=b:=by
 unfold veq at h;split at h<;>first|(cases h;done)|(have:=of_decide_eq_true h;subst this;rfl)
def zgq:∀{a b:List V},leq a b=true->a=b
 | [],[],_=>rfl
 | [],_ :: _,h=>by cases h
 | _ :: _,[],h=>by cases h
 | x::xs,y::ys,h=>by
  simp only[leq,yam]at h;rw[veq_ok h.1,zgq h.2]
def deq:Bd->Bd->Bool
 | .hm a b,.hm a' b'=>leq a a'&&leq b b'
 | .ex a b n,.ex a' b' n'=>Nat.beq n n'&&(leq a a'&&leq b b')
 | .se i k a c m p,.se i' k' a' c' m' p'=>Nat.beq i i'&&(Nat.beq k k'&&(Nat.beq c c'&&(leq a a'&&(leq m m'&&leq p p'))))
 | _,_=>false
def deq_ok{a b:Bd}(h:deq a b=true):a=b:=by
 unfold deq at h;split at h
 ·simp only[yam]at h;rw[zgq h.1,zgq h.2]
 ·simp only[yam]at h;rw[yaL h.1,zgq h.2.1,zgq h.2.2]
 ·simp only[yam]at h;rw[yaL h.1,yaL h.2.1,yaL h.2.2.1,zgq h.2.2.2.1,zgq h.2.2.2.2.1,zgq h.2.2.2.2.2]
 ·cases h
def keqd:Kd->Kd->Bool
 | .key i k a,.key i' k' a'=>Nat.beq i i'&&(Nat.beq k k'&&leq a a')
 | .sl a,.sl a'=>leq a a'
 | _,_=>false
def keqd_ok{a b:Kd}(h:keqd a b=true):a=b:=by
 unfold keqd at h;split at h
 ·simp only[yam]at h;rw[yaL h.1,yaL h.2.1,zgq h.2.2]
 ·rw[zgq h]
 ·cases h
structure Fnd where
 b:Bd->Option Nat
 k:Nat->Kd->Option Nat
 kd:Nat->Option Kd
 s:(Nat->Bd->Bool)->Option (Nat×Bd)
def zuW(p:Nat->Bd->Bool):Nat->List Bd->Option (Nat×Bd)
 | _,[]=>none
 | j,d::l=>match p j d with|true=>some (j,d)|false=>zuW p (j+1) l
def zxn(n:Nat)(x:Kd):Nat->List (Nat×Kd)->Option Nat
 | _,[]=>none
 | j,(m,y)::l=>match Nat.beq n m&&keqd x y with|true=>some j|false=>zxn n x (j+1) l
def Tabs.fnd(t:Tabs):Fnd where
 b:=λx=>match zuW (λ_ y=>deq x y) 0 t.bs with|some r=>some r.1|none=>none
 k:=λn x=>zxn n x 0 t.ks
 kd:=λm=>match t.ks[m]? with|some p=>some p.2|none=>none
 s:=λp=>zuW p 0 t.bs
def zpM{p:Nat->Bd->Bool}:∀{l:List Bd} {j0:Nat} {r:Nat×Bd},zuW p j0 l=some r->∃i,r.1=j0+i/\l[i]?=some r.2/\p r.1 r.2=true
 | [],j0,r,h=>by cases h
 | d::l,j0,r,h=>by
  unfold zuW at h;split at h
  ·rename_i hp;injection h with h
   subst h;exact⟨0,rfl,rfl,hp⟩
  ·obtain⟨i,h1,h2,h3⟩:=zpM h;exact⟨i+1,by omega,h2,h3⟩
def ztK{n:Nat}{x:Kd}:∀{l:List (Nat×Kd)} {j0 r:Nat},zxn n x j0 l=some r->∃i,r=j0+i/\l[i]?=some (n,x)
 | [],j0,r,h=>by cases h
 | (m,y)::l,j0,r,h=>by
  unfold zxn at h;split at h
  ·rename_i hp;injection h with h
   subst h;rw[yam]at hp;have h1:=yaL hp.1;have h2:=keqd_ok hp.2;subst h1 h2;exact⟨0,rfl,rfl⟩
  ·obtain⟨i,h1,h2⟩:=ztK h;exact⟨i+1,by omega,h2⟩
def fnd_b{t:Tabs}{x:Bd}{j:Nat}(h:t.fnd.b x=some j):t.bs[j]?=some x:=by
 unfold Tabs.fnd at h;dsimp only at h;split at h
 ·rename_i r hr;injection h with h
  obtain⟨i,h1,h2,h3⟩:=zpM hr;have:=deq_ok h3;subst this;rw[<-h,h1,yba];exact h2
 ·cases h
def fnd_s{t:Tabs}{p:Nat->Bd->Bool}{r:Nat×Bd}(h:t.fnd.s p=some r):t.bs[r.1]?=some r.2/\p r.1 r.2=true:=by
 obtain⟨i,h1,h2,h3⟩:=zpM (show zuW p 0 t.bs=some r from h);refine⟨?_,h3⟩;rw[h1,yba];exact h2
def fnd_k{t:Tabs}{n:Nat}{x:Kd}{m:Nat}(h:t.fnd.k n x=some m):t.ks[m]?=some (n,x):=by
 obtain⟨i,h1,h2⟩:=ztK (show zxn n x 0 t.ks=some m from h);rw[h1,yba];exact h2
def fnd_kd{t:Tabs}{m:Nat}{x:Kd}(h:t.fnd.kd m=some x):∃n,t.ks[m]?=some (n,x):=by
 unfold Tabs.fnd at h;dsimp only at h;split at h
 ·rename_i p hp;injection h with h
  exact⟨p.1,by rw[hp,<-h]⟩
 ·cases h
def capb:Cap->Nat->Bool
 | .fix c,n=>Nat.ble n c
 | .opn e,_=>Nat.beq e 1
def rd(F:Fnd)(h:Heap):V->Option (List V)
 | .nils=>some []
 | .sl id off len cap=>match h.get id with
  | some b=>match Nat.ble (off+len) b.cells.length&&(capb cap len&&((b.cells.drop off).take len).all bok1) with
   | true=>some ((b.cells.drop off).take len)
   | false=>none
  | none=>none
 | .rs cells len=>match Nat.ble len cells.length&&(cells.take len).all bok1 with
  | true=>some (cells.take len)
  | false=>none
 | .lit (.int .i64 m)=>match F.kd m.toNat with
  | some (.sl l)=>some l
  | _=>none
 | _=>none
def all_d{l:List V}(h:l.all bok1=true):l.all bokd=true:=yaB.2 λx hx=>bok_d (yaB.1 h x hx)
def zwZ{lo n:Nat}{H:Heap}{v:V}{cells:List V}(h:Lc 1 lo H v cells n):v.one=true:=by
 rcases h.cases with⟨rfl,_,_⟩|⟨id,off,cap,b,rfl,_⟩|⟨cs,rfl,_⟩<;>rfl
def zmF{t:Tabs}{s:Nat->Nat}{q:Nat->List Nat}(ht:TabV t s q){g:Y.Sg}{h K:Heap} (st:Y.St (tbOf t s q) g h K) {v v':V} {l:List V} (e:rd t.fnd h v=some l) (r:Y.Rl g Y.sh v v'):By 0 K v' (iv s q l)/\Ok8 (iv s q l)/\l.all bokd=true:=by
 have es:g.e.s=s:=st.s;have rg:=r g.e (Y.Ag.self g);unfold rd at e;split at e
 ·injection e with e
  subst e rg;exact⟨Lc.nil,Ok8.nil,rfl⟩
 ·rename_i id off len cap;split at e
  ·rename_i b hb;split at e
   ·rename_i hc;injection e with e
    subst e rg;simp only[yam]at hc;obtain⟨h1,h2,h3⟩:=hc;have h1:=yau h1;obtain⟨i1,i2⟩:=iv_1 (d:=g.e) (q:=q) h3;rw[es]at i1 i2;have hl:((b.cells.drop off).take len).length=len:=by rw[yao,yar];omega
    rw[hl]at i2;have hg:=st.em g.e (Y.Ag.self g) id b hb;refine⟨⟨?_,λi hi=>?_,?_⟩,(iv_8 ht.sq (all_d h3)).1,all_d h3⟩
    ·show rcells 1 K (.sl (g.e.f id) off len cap) = _;simp only[rcells,hg,Option.bind_some];rw[Y.shB_c,Y.shL_len,if_pos (by omega),Y.shL_drop,Y.shL_take,ya6,i1,i2]
    ·have hi:g.e.f id=i:=by injection hi
     subst hi;exact⟨yaE _,st.lt id (st.kn id b hb).1⟩
    ·show V.capOk 1 (.sl (g.e.f id) off len cap);cases cap with
     | fix c=>exact yau h2
     | opn e=>exact yaL h2
   ·cases e
  ·cases e
 ·rename_i cells len;split at e
  ·rename_i hc;injection e with e
   subst e rg;simp only[yam]at hc;obtain⟨h1,h3⟩:=hc;have h1:=yau h1;obtain⟨i1,i2⟩:=iv_1 (d:=g.e) (q:=q) h3;rw[es]at i1 i2;have hl:(cells.take len).length=len:=by rw[yao];omega
   rw[hl]at i2;refine⟨⟨?_,λi hi=>(by cases hi),trivial⟩,(iv_8 ht.sq (all_d h3)).1,all_d h3⟩;show rcells 1 K (.rs (Y.shL g.e cells) len) = _;simp only[rcells];rw[Y.shL_len,if_pos (by omega),Y.shL_take,ya6,i1,i2]
  ·cases e
 ·rename_i m;split at e
  ·rename_i l' hk;injection e with e
   subst e;obtain⟨n,hn⟩:=fnd_kd hk;have hw:=Y.wnamed r;obtain⟨-,lo,Hc,hP,sf⟩:=st.mw _ hw;have hP:(match t.ks[m.toNat]? with|some (_,.sl l)=>By lo Hc (g.e.w m.toNat) (iv s q l)/\l.all bokd=true|some (_,.any)=>True | _=>False):=hP;rw[hn]at hP;have ev:v'=g.e.w m.toNat:=by
    rw[rg];show Y.okw (g.e.w m.toNat) = _;unfold Y.okw;rw[if_pos (zwZ hP.1)]
   rw[ev];exact⟨(hP.1.keep ⟨sf.le,λi h1 h2=>sf.sm i h1 h2⟩).low (yaE _),(iv_8 ht.sq hP.2).1,hP.2⟩
  ·cases e
 ·cases e
def okd(l:List V):Bool:=Nat.ble l.length 1000
def selO(f:FuncId)(args:List V):Bool:=
 Nat.beq f zbN||(Nat.beq f zbv||(Nat.beq f zba||(Nat.beq f za5||(Nat.beq f za6 ||
  (Nat.beq f zbh&&(match args with|[.lit _]=>true | _=>false))))))
def orX(F:Fnd)(h:Heap)(a b:V):Option (V×List (Option Blk)):=
 match rd F h a,rd F h b with
 | some sl,some kl=>match okd sl&&okd kl with
  | true=>match F.b (.hm sl kl) with
   | some j=>some (.agg (syms j 0 32),[none])
   | none=>none
  | false=>none
 | _,_=>none
def orE(F:Fnd)(h:Heap)(a b:V)(n:Nat):Option (V×List (Option Blk)):=
 match rd F h a,rd F h b with
 | some sl,some il=>match okd sl&&(okd il&&(Nat.blt 0 n&&Nat.ble n 900)) with
  | true=>match F.b (.ex sl il n) with
   | some j=>some (.tup [.sl (h.next+1) 0 n (.opn 1),.int .i64 0],[none,some ⟨zab,syms j 0 n,some 1⟩,none])
   | none=>none
  | false=>none
 | _,_=>none
def orD(F:Fnd)(h:Heap)(id kid:Nat)(b:V):Option (V×List (Option Blk)):=
 match rd F h b,szs id with
 | some bl,some _=>match okd bl&&Nat.blt kid 18446744073709551616 with
  | true=>match F.k h.next (.key id kid bl) with
   | some m=>some (.tup [.ptr m 0,.int .i64 0],[none])
   | none=>none
  | false=>none
 | _,_=>none
def seC(j id kid t c:Nat)(p:List V):List V:=(hdr kid c).map by8++syms j (hdr kid c).length (p.length+t)
def orS(F:Fnd)(h:Heap)(m c:Nat)(a b:V):Option (V×List (Option Blk)):=
 match F.kd m,rd F h a,rd F h b with
 | some (.key id kid bl),some ml,some pl=>match szs id,okd ml&&(pl.all bok1&&(Nat.ble pl.length 900&&Nat.blt c 18446744073709551616)) with
  | some (_,t),true=>match F.b (.se id kid bl c ml pl) with
   | some j=>some (.tup [.sl (h.next+1) 0 ((hdr kid c).length+pl.length+t) (.fix ((hdr kid c).length+pl.length+t)),.int .i64 0],[none,some ⟨zab,seC j id kid t c pl,some 1⟩,none])
   | none=>none
  | _,_=>none
 | _,_,_=>none
def opP(id kid t:Nat)(bl ml bb:List V)(j:Nat):Bd->Bool
 | .se id' kid' bl' c ml' pl=>Nat.beq id' id&&(Nat.beq kid' kid&&(leq bl' bl&&(leq ml' ml&&(leq (seC j id kid t c pl) bb&&(pl.all bok1&&(Nat.ble pl.length 900&&Nat.blt c 18446744073709551616))))))
 | _=>false
def orO(F:Fnd)(h:Heap)(m:Nat)(a b:V):Option (V×List (Option Blk)):=
 match F.kd m,rd F h a,rd F h b with
 | some (.key id kid bl),some bb,some ml=>match szs id,okd ml&&(okd bb&&bb.all bok1) with
  | some (_,t),true=>match F.s (opP id kid t bl ml bb) with
   | some (_,.se _ _ _ c _ pl)=>some (.tup [.sl (h.next+1) 0 pl.length (.fix pl.length),.int .u64 (c:Nat),.int .i64 0],[none,some ⟨zab,pl,none⟩,none])
   | _=>none
  | _,_=>none
 | _,_,_=>none
def orC(F:Fnd)(h:Heap)(m:Nat):Option (V×List (Option Blk)):=
 match F.kd m with
 | some (.sl l)=>match okd l with
  | true=>match F.k h.next (.sl l) with
   | some m'=>some (.lit (.int .i64 (m':Nat)),[none])
   | none=>none
  | false=>none
 | _=>none
def orc(F:Fnd):Y.Orc:=λf args h=>
 match Nat.beq f zbN,args with
 | true,[a,b]=>orX F h a b
 | _,_=>match Nat.beq f zbv,args with
  | true,[a,b,.int .i64 (.ofNat n)]=>orE F h a b n
  | _,_=>match Nat.beq f zba,args with
   | true,[.int .i64 (.ofNat id),.int .u64 (.ofNat kid),b]=>orD F h id kid b
   | _,_=>match Nat.beq f za5,args with
    | true,[.ptr m 0,.int .u64 (.ofNat c),a,b]=>orS F h m c a b
    | _,_=>match Nat.beq f za6,args with
     | true,[.ptr m 0,a,b]=>orO F h m a b
     | _,_=>match Nat.beq f zbh,args with
      | true,[.lit (.int .i64 m)]=>orC F h m.toNat
      | _,_=>none
section
variable {t:Tabs} {s:Nat->Nat} {q:Nat->List Nat} {g:Y.Sg} {h K:Heap}
def Ans(t:Tabs)(s:Nat->Nat)(q:Nat->List Nat)(g:Y.Sg)(h K:Heap)(f:FuncId)(args':List V) (r:V×List (Option Blk)):Prop:=
 ∃g' b K',sem T f args' K=some (b,K')/\Y.St (tbOf t s q) g' (Y.news h r.2) K'/\Y.Frm g h K g' (Y.news h r.2) K'/\Y.Rl g' Y.sh r.1 b
def zgR{l:List V}(ht:TabV t s q)(h:okd l=true)(hd:l.all bokd=true):(iv s q l).length<=1048576000:=by
 have:=(iv_8 ht.sq hd).2;have:=yau h;omega
def ans_x(ht:TabV t s q) (st:Y.St (tbOf t s q) g h K) {a b a' b':V} {r:V×List (Option Blk)} (e:orX t.fnd h a b=some r) (ra:Y.Rl g Y.sh a a') (rb:Y.Rl g Y.sh b b'):Ans t s q g h K zbN [a',b'] r:=by
 unfold orX at e;split at e
 ·rename_i sl kl h1 h2;split at e
  ·rename_i hk;rw[yam]at hk;split at e
   ·rename_i j hj;injection e with e
    subst e;obtain⟨b1,o1,d1⟩:=zmF ht st h1 ra;obtain⟨b2,o2,d2⟩:=zmF ht st h2 rb;obtain⟨r,K',e1,⟨rfl,gr⟩,hc⟩:=zlU st.cl (zln b1 o1 (by have:=zgR ht hk.1 d1;omega) b2 o2 (by have:=zgR ht hk.2 d2;omega));refine⟨g,_,K',e1,st.dum gr hc,Y.fr_dum gr,λd hd=>?_⟩;show _=V.agg (Y.shL d (syms j 0 32));have hl:(val s q (.hm sl kl)).length=0+32:=zd6 _ _ _;rw[zmq ht (hd.1.trans st.s) (fnd_b hj) hl (by decide),yaz];rfl
   ·cases e
  ·cases e
 ·cases e
def ans_e(ht:TabV t s q) (st:Y.St (tbOf t s q) g h K) {a b a' b':V} {n:Nat} {r:V×List (Option Blk)} (e:orE t.fnd h a b n=some r) (ra:Y.Rl g Y.sh a a') (rb:Y.Rl g Y.sh b b'):Ans t s q g h K zbv [a',b',.int .i64 (n:Nat)] r:=by
 unfold orE at e;split at e
 ·rename_i sl il h1 h2;split at e
  ·rename_i hk;simp only[yam]at hk;obtain⟨k1,k2,k3,k4⟩:=hk;have k3:0<n:=yau k3;have k4:=yau k4;split at e
   ·rename_i j hj;injection e with e
    subst e;obtain⟨b1,o1,d1⟩:=zmF ht st h1 ra;obtain⟨b2,o2,d2⟩:=zmF ht st h2 rb;obtain⟨r,K',e1,⟨v,rfl,hv,gr,hx⟩,hc⟩:=zlU st.cl (zt5 b1 o1 (by have:=zgR ht k1 d1;omega) b2 o2 (by have:=zgR ht k2 d2;omega) (n:=n) (by omega));obtain⟨id,rfl,hg,l1,l2⟩:=hx k3;have hl:(val s q (.ex sl il n)).length=0+n:=by
     show((hkdf kc (iv s q sl) (iv s q il) ((n+31)/32)).1.take n).length = _;rw[yao,zfT];omega
    obtain⟨g',s1,f1,n1,e2⟩:=st.blk gr hc l1 l2 (b:=⟨zab,syms j 0 n,some 1⟩) λd hd=>by
     unfold Y.shB;rw[zmq ht (hd.1.trans st.s) (fnd_b hj) hl (by omega),yaz];exact hg
    refine⟨g',_,K',e1,s1,f1,λd hd=>?_⟩;show _=V.tup [.sl (d.f (h.next+1)) 0 n (.opn 1),.int .i64 0];rw[hd.2.1 _ n1,e2]
   ·cases e
  ·cases e
 ·cases e
def ans_d(ht:TabV t s q) (st:Y.St (tbOf t s q) g h K) {b b':V} {id kid:Nat} {r:V×List (Option Blk)} (e:orD t.fnd h id kid b=some r) (rb:Y.Rl g Y.sh b b'):Ans t s q g h K zba [.int .i64 (id:Nat),.int .u64 (kid:Nat),b'] r:=by
 unfold orD at e;split at e
 ·rename_i bl p h1 h2;split at e
  ·rename_i hk;rw[yam]at hk;have k2:kid<18446744073709551616:=yau hk.2;split at e
   ·rename_i m hm;injection e with e
    subst e;obtain⟨b1,o1,d1⟩:=zmF ht st h1 rb;obtain⟨r,K',e1,⟨gr,hr⟩,hc⟩:=zlU st.cl (zt6 (id:=(id:Nat)) (by omega) k2 b1 o1 (by have:=zgR ht hk.1 d1;omega));rw[yan]at hr;rcases hr with⟨hr|hr,-⟩|⟨n,tg,k,-,hs,rfl,hb⟩
    ·omega
    ·rw[h2]at hr;cases hr
    have hm':=fnd_k hm;have hmR:m<(tbOf t s q).R:=(yaw.1 hm').1;have ht':(tbOf t s q).t m=h.next:=by
     show(match t.ks[m]? with|some p=>p.1|none=>0) = _;rw[hm']
    obtain⟨g',s1,f1,n1,e2⟩:=st.key gr hc hmR ht' hb.lo hb.low (by
     show(match t.ks[m]? with|some (_,.key i kid bl)=>∃n tg,szs i=some (n,tg)/\KeyB K.next K' k (drv i kid n tg (iv s q bl)) | _=>False);rw[hm'];exact⟨n,tg,hs,hb⟩)
    refine⟨g',_,K',e1,s1,f1,λd hd=>?_⟩;show _=V.tup [.ptr (d.f m) 0,.int .i64 0];rw[hd.2.1 _ n1,e2]
   ·cases e
  ·cases e
 ·cases e
def key_of (st:Y.St (tbOf t s q) g h K) {m id kid:Nat} {bl:List V} (hm:t.fnd.kd m=some (.key id kid bl)) {v':V} (r:Y.Rl g Y.sh (.ptr m 0) v'):∃k n tg,v' = .ptr k 0/\szs id=some (n,tg)/\KeyM K k (drv id kid n tg (iv s q bl)):=by
 obtain⟨n0,hn⟩:=fnd_kd hm;obtain⟨hf,rfl⟩:=Y.fnamed r;have hmR:m<(tbOf t s q).R:=(yaw.1 hn).1;obtain⟨-,lo,Hc,hP,sf,-⟩:=st.mf m hmR hf;have hP:(match t.ks[m]? with|some (_,.key i kid bl)=>∃n tg,szs i=some (n,tg)/\KeyB lo Hc (g.e.f m) (drv i kid n tg (iv s q bl)) | _=>False):=hP;rw[hn]at hP;obtain⟨n,tg,h1,h2⟩:=hP;exact⟨_,n,tg,rfl,h1,(h2.keep ⟨sf.le,λi h1 h2=>sf.sm i h1 h2⟩).m⟩
def zsq{l:List V}(h:l.all bok1=true):(iv s q l).length=l.length:=(iv_1 (d:=⟨λ_=>0,λ_=>.any,s⟩) (q:=q) h).2
def zvY(ht:TabV t s q){d:Y.Nm}(hd:d.s=s){j id kid n tg c:Nat}{bl ml pl:List V} (hb:t.bs[j]?=some (.se id kid bl c ml pl)) (hs:szs id=some (n,tg)) (hp:pl.all bok1=true) (hl:pl.length<=900):Y.shL d (seC j id kid tg c pl)=(zb6 (drv id kid n tg (iv s q bl)) c (iv s q ml) (iv s q pl)).map by8/\(zb6 (drv id kid n tg (iv s q bl)) c (iv s q ml) (iv s q pl)).length=(hdr kid c).length+pl.length+tg:=by
 have htg:tg<=32:=yax (szs_n hs).2.1 (by decide);have hv:val s q (.se id kid bl c ml pl)=zb6 (drv id kid n tg (iv s q bl)) c (iv s q ml) (iv s q pl):=by
  show(match szs id with|some (n,t)=>zb6 (drv id kid n t (iv s q bl)) c (iv s q ml) (iv s q pl)|none=>[]) = _;rw[hs]
 have hlen:=zgP (k:=drv id kid n tg (iv s q bl)) htg c (iv s q ml) (iv s q pl);rw[zsq hp]at hlen;have hlen:(zb6 (drv id kid n tg (iv s q bl)) c (iv s q ml) (iv s q pl)).length=(hdr kid c).length+pl.length+tg:=hlen;have hh:=zk7 kid c;refine⟨?_,hlen⟩;unfold seC;rw[Y.shL_app,zmq ht hd hb (by rw[hv,hlen];omega) (by omega),hv];have e1:Y.shL d ((hdr kid c).map by8)=(hdr kid c).map by8:=by
  rw[Y.shL_map,ycA];rfl
 have e2:(zb6 (drv id kid n tg (iv s q bl)) c (iv s q ml) (iv s q pl)).take (hdr kid c).length=hdr kid c:=by
  unfold zb6;rw[yaI];exact ybW rfl
 rw[e1]
 conv=>rhs;rw[<-ybX (hdr kid c).length (zb6 (drv id kid n tg (iv s q bl)) c (iv s q ml) (iv s q pl)),e2]
 rw[yaC]
def ans_s(ht:TabV t s q) (st:Y.St (tbOf t s q) g h K) {a b k' a' b':V} {m c:Nat} {r:V×List (Option Blk)} (e:orS t.fnd h m c a b=some r) (rk:Y.Rl g Y.sh (.ptr m 0) k') (ra:Y.Rl g Y.sh a a') (rb:Y.Rl g Y.sh b b'):Ans t s q g h K za5 [k',.int .u64 (c:Nat),a',b'] r:=by
 unfold orS at e;split at e
 ·rename_i id kid bl ml pl hkd h1 h2;split at e
  ·rename_i nk tg hsz hk;simp only[yam]at hk;obtain⟨k1,k2,k3,k4⟩:=hk;have k3:=yau k3;have k4:c<18446744073709551616:=yau k4;split at e
   ·rename_i j hj;injection e with e
    subst e;obtain⟨k,n,tg',rfl,hs,hK⟩:=key_of st hkd rk;rw[hsz]at hs;simp only[yaa,yad]at hs;obtain⟨rfl,rfl⟩:=hs;obtain⟨b1,o1,d1⟩:=zmF ht st h1 ra;obtain⟨b2,o2,d2⟩:=zmF ht st h2 rb;have pl1:=zsq (s:=s) (q:=q) k2;obtain⟨r,K',e1,⟨gr,hr⟩,hc⟩:=zlU st.cl (Seal_x hK k4 b1 o1 b2 o2 (by have:=zgR ht k1 d1;omega) (by omega));rw[if_neg (by omega)]at hr;obtain⟨v,rfl,id',rfl,hg,l1,l2⟩:=hr;have hl:=(zvY ht (d:=g.e) st.s (fnd_b hj) hsz k2 k3).2;obtain⟨g',s1,f1,n1,e2⟩:=st.blk gr hc l1 l2 (b:=⟨zab,seC j id kid tg c pl,some 1⟩) λd hd=>by
     unfold Y.shB;rw[(zvY ht (hd.1.trans st.s) (fnd_b hj) hsz k2 k3).1];exact hg
    refine⟨g',_,K',e1,s1,f1,λd hd=>?_⟩;show _=V.tup [.sl (d.f (h.next+1)) 0 _ (.fix _),.int .i64 0];rw[hd.2.1 _ n1,e2,hl]
   ·cases e
  ·cases e
 ·cases e
def ans_o(ht:TabV t s q) (st:Y.St (tbOf t s q) g h K) {a b k' a' b':V} {m:Nat} {r:V×List (Option Blk)} (e:orO t.fnd h m a b=some r) (rk:Y.Rl g Y.sh (.ptr m 0) k') (ra:Y.Rl g Y.sh a a') (rb:Y.Rl g Y.sh b b'):Ans t s q g h K za6 [k',a',b'] r:=by
 unfold orO at e;split at e
 ·rename_i id kid bl bb ml hkd h1 h2;split at e
  ·rename_i nk tg hsz hk;simp only[yam]at hk;obtain⟨k1,k2,k3⟩:=hk;split at e
   ·rename_i j id' kid' bl' c ml' pl hj;injection e with e
    subst e;obtain⟨h3,h4⟩:=fnd_s hj;simp only[opP,yam]at h4;obtain⟨p1,p2,p3,p4,p5,p6,p7,p8⟩:=h4;have p1:=yaL p1;have p2:=yaL p2;have p3:=zgq p3;have p4:=zgq p4;have p5:=zgq p5;have p7:=yau p7;have p8:c<18446744073709551616:=yau p8;subst p1 p2 p3 p4;obtain⟨k,n,tg',rfl,hs,hK⟩:=key_of st hkd rk;rw[hsz]at hs;simp only[yaa,yad]at hs;obtain⟨rfl,rfl⟩:=hs;obtain⟨b1,o1,d1⟩:=zmF ht st h1 ra;obtain⟨b2,o2,d2⟩:=zmF ht st h2 rb;have hsc:=zvY ht (d:=g.e) st.s h3 hsz p6 p7;have eb:iv s q bb=zb6 (drv id' kid' nk tg (iv s q bl')) c (iv s q ml') (iv s q pl):=by
     have h5:=(iv_1 (d:=g.e) (q:=q) k3).1;rw[st.s]at h5;rw[p5,h5]at hsc;exact(List.map_inj_right (λx y h=>by
      have:V.int .u8 (x:Nat)=V.int .u8 (y:Nat):=h;injection this with _ h
      omega)).1 hsc.1
    have pl1:=zsq (s:=s) (q:=q) p6;obtain⟨r,K',e1,⟨gr,hr⟩,hc⟩:=zlU st.cl (Open_x hK b1 o1 b2 o2 (by have:=zgR ht k1 d2;omega) (by have:=zgR ht k2 d1;omega));rw[eb,zqK (yax (szs_n hsz).2.1 (by decide)) hK.good.kid p8 (by omega)]at hr;obtain⟨v,rfl,i,rfl,hg,l1,l2⟩:=hr;obtain⟨g',s1,f1,n1,e2⟩:=st.blk gr hc l1 l2 (b:=⟨zab,pl,none⟩) λd hd=>by
     unfold Y.shB;have h6:=(iv_1 (d:=d) (q:=q) p6).1;rw[show d.s=s from hd.1.trans st.s]at h6;rw[h6];exact hg
    refine⟨g',_,K',e1,s1,f1,λd hd=>?_⟩;show _=V.tup [.sl (d.f (h.next+1)) 0 _ (.fix _),.int .u64 (c:Nat),.int .i64 0];rw[hd.2.1 _ n1,e2,pl1]
   ·cases e
  ·cases e
 ·cases e
def ans_c(ht:TabV t s q) (st:Y.St (tbOf t s q) g h K) {a':V} {m:Int} {r:V×List (Option Blk)} (e:orC t.fnd h m.toNat=some r) (ra:Y.Rl g Y.sh (.lit (.int .i64 m)) a'):Ans t s q g h K zbh [a'] r:=by
 unfold orC at e;split at e
 ·rename_i l hkd;split at e
  ·rename_i hk;split at e
   ·rename_i m' hm;injection e with e
    subst e;have hrd:rd t.fnd h (.lit (.int .i64 m))=some l:=by
     unfold rd;dsimp only;rw[hkd]
    obtain⟨b1,o1,d1⟩:=zmF ht st hrd ra;obtain⟨r,K',e1,⟨hv,gr⟩,hc⟩:=zlU st.cl (ztS b1 (by have:=zgR ht hk d1;omega));have hm':=fnd_k hm;have hmR:m'<(tbOf t s q).R:=(yaw.1 hm').1;have ht':(tbOf t s q).t m'=h.next:=by
     show(match t.ks[m']? with|some p=>p.1|none=>0) = _;rw[hm']
    obtain⟨g',s1,f1,n1,e2⟩:=st.val gr hc (v:=r) hmR ht' (by
     show(match t.ks[m']? with|some (_,.sl l)=>By K.next K' r (iv s q l)/\l.all bokd=true|some (_,.any)=>True | _=>False);rw[hm'];exact⟨hv,d1⟩)
    refine⟨g',_,K',e1,s1,f1,λd hd=>?_⟩;show _=Y.okw (d.w ((m':Nat):Int).toNat);rw[yan,hd.2.2 _ n1,e2];unfold Y.okw;rw[if_pos (zwZ hv)]
   ·cases e
  ·cases e
 ·cases e
def zc9{a:V}{l args':List V} (r:Y.Rl g Y.shL (a::l) args'):∃a' l',args'=a'::l'/\Y.Rl g Y.sh a a'/\Y.Rl g Y.shL l l':=by
 refine⟨Y.sh g.e a,Y.shL g.e l,r g.e (Y.Ag.self g),λd hd=>?_,λd hd=>?_⟩
 ·have:=(r g.e (Y.Ag.self g)).symm.trans (r d hd);injection this
 ·have:=(r g.e (Y.Ag.self g)).symm.trans (r d hd);injection this
def zor{args':List V} (r:Y.Rl g Y.shL [] args'):args'=[]:=r g.e (Y.Ag.self g)
def zs9{k:IntKind}{n:Int}{v':V} (r:Y.Rl g Y.sh (.int k n) v'):v' = .int k n:=r g.e (Y.Ag.self g)
def orc_ok(ht:TabV t s q):Y.OrS (tbOf t s q) T selO (orc t.fnd):=by
 intro f args args' g h K v nb hsel e st r;clear hsel;unfold orc at e;split at e
 ·rename_i a b hf;have hf:=yaL hf;subst hf;obtain⟨a',l1,rfl,ra,r⟩:=zc9 r;obtain⟨b',l2,rfl,rb,r⟩:=zc9 r;rw[zor r];exact ans_x ht st e ra rb
 rename_i hx;clear hx;split at e
 ·rename_i a b n hf;have hf:=yaL hf;subst hf;obtain⟨a',l1,rfl,ra,r⟩:=zc9 r;obtain⟨b',l2,rfl,rb,r⟩:=zc9 r;obtain⟨c',l3,rfl,rc,r⟩:=zc9 r;rw[zor r,zs9 rc];exact ans_e ht st e ra rb
 rename_i hx;clear hx;split at e
 ·rename_i id kid b hf;have hf:=yaL hf;subst hf;obtain⟨a',l1,rfl,ra,r⟩:=zc9 r;obtain⟨b',l2,rfl,rb,r⟩:=zc9 r;obtain⟨c',l3,rfl,rc,r⟩:=zc9 r;rw[zor r,zs9 ra,zs9 rb];exact ans_d ht st e rc
 rename_i hx;clear hx;split at e
 ·rename_i m c a b hf;have hf:=yaL hf;subst hf;obtain⟨k',l0,rfl,rk,r⟩:=zc9 r;obtain⟨c',l1,rfl,rc,r⟩:=zc9 r;obtain⟨a',l2,rfl,ra,r⟩:=zc9 r;obtain⟨b',l3,rfl,rb,r⟩:=zc9 r;rw[zor r,zs9 rc];exact ans_s ht st e rk ra rb
 rename_i hx;clear hx;split at e
 ·rename_i m a b hf;have hf:=yaL hf;subst hf;obtain⟨k',l0,rfl,rk,r⟩:=zc9 r;obtain⟨a',l2,rfl,ra,r⟩:=zc9 r;obtain⟨b',l3,rfl,rb,r⟩:=zc9 r;rw[zor r];exact ans_o ht st e rk ra rb
 rename_i hx;clear hx;split at e
 ·rename_i m hf;have hf:=yaL hf;subst hf;obtain⟨a',l2,rfl,ra,r⟩:=zc9 r;rw[zor r];exact ans_c ht st e ra
 ·cases e
end
end Go.Ax.SU
/- Ax48 -/
namespace Go.Ax.Cc
def hp:List (Option Blk)->Heap
 | []=>⟨.e,0⟩
 | some b::bs=>(hp bs).new b
 | none::bs=>⟨(hp bs).t,(hp bs).next+1⟩
def hp_next:∀bs:List (Option Blk),(hp bs).abs.next=bs.length
 | []=>rfl
 | some b::bs=>by
  show((hp bs).new b).abs.next = _;rw[abs_new,zad,hp_next bs];rfl
 | none::bs=>by
  show(hp bs).abs.next+1 = _;rw[hp_next bs];rfl
end Go.Ax.Cc
namespace Go.Ax
end Go.Ax
/- Ax32 -/
namespace Go.Ax
structure Rst where
 g:Nat->Option Blk
 r:Nat->Bool
 n:Nat
 sub:∀i b,g i=some b->r i=true
def look(l:List Nat) (r:Option (V×Cc.Heap)):Option (V×List (Option Blk)):=r.map λq=>(q.1,l.map q.2.get)
end Go.Ax
/- Or3 -/
namespace Go.Ax.SU
open Go.Ax Go.Proofs
def lowV(j:Nat):V->Bool
 | .lit (.int .u8 n)=>decide (n.toNat<1000*j)
 | _=>true
def lowL(j:Nat)(l:List V):Bool:=l.all λv=>lowV j v&&bokd v
def lowB(j:Nat):Bd->Bool
 | .hm a b=>lowL j a&&lowL j b
 | .ex a b _=>lowL j a&&lowL j b
 | .se i k a _ m p=>(match szs i with|some _=>true|none=>false)&&(Nat.blt k 18446744073709551616&&(lowL j a&&(lowL j m&&lowL j p)))
def lowT:Nat->List Bd->Bool
 | _,[]=>true
 | j,d::l=>lowB j d&&lowT (j+1) l
section
variable {q:Nat->List Nat}
def zly{j:Nat}{s s':Nat->Nat}(h:∀n,n<1000*j->s n=s' n):∀{l:List V},lowL j l=true->iv s q l=iv s' q l
 | [],_=>rfl
 | x::l,hl=>by
  simp only[lowL,ybc,yam]at hl;have ih:=zly h (l:=l) hl.2;have h0:=hl.1.2;unfold bokd at h0;split at h0
  ·show q _++iv s q l=q _++iv s' q l;rw[ih]
  ·unfold bok1 at h0;split at h0
   ·show _::iv s q l = _::iv s' q l;rw[ih]
   ·rename_i n _;have h1:=hl.1.1;simp only[lowV,decide_eq_true_eq]at h1;show s _::iv s q l=s' _::iv s' q l;rw[ih,h _ h1]
   ·cases h0
def val_low{j:Nat}{s s':Nat->Nat}(h:∀n,n<1000*j->s n=s' n){d:Bd}(hd:lowB j d=true):val s q d=val s' q d:=by
 cases d with
 | hm a b=>
  simp only[lowB,yam]at hd;simp only[val,zly h hd.1,zly h hd.2]
 | ex a b n=>
  simp only[lowB,yam]at hd;simp only[val,zly h hd.1,zly h hd.2]
 | se i k a c m p=>
  simp only[lowB,yam]at hd;simp only[val,zly h hd.2.2.1,zly h hd.2.2.2.1,zly h hd.2.2.2.2]
def lowL_d{j:Nat}{l:List V}(h:lowL j l=true):l.all bokd=true:=yaB.2 λx hx=>by
 have:=yaB.1 h x hx;simp only[yam]at this;exact this.2
def val_8{j:Nat}{s:Nat->Nat}(hs:SQ s q){d:Bd}(hd:lowB j d=true):Ok8 (val s q d):=by
 cases d with
 | hm a b=>exact zk6 _ _ _
 | ex a b n=>exact Ok8.take (zjz kc _ _ _).1 _
 | se i k a c m p=>
  simp only[lowB,yam]at hd;simp only[val];cases hz:szs i with
  | none=>exact Ok8.nil
  | some x=>
   obtain⟨n,t⟩:=x;exact zqw (zmf hz (yau hd.2.1)).ws (iv_8 hs (lowL_d hd.2.2.2.2)).1
def sOf(q:Nat->List Nat):List Bd->Nat->(Nat->Nat)->Nat->Nat
 | [],_,s=>s
 | d::l,j,s=>sOf q l (j+1) λn=>if n/1000=j then (val s q d).getD (n%1000) 0 else s n
def zr0:∀(l:List Bd) (j:Nat) (s:Nat->Nat) (n:Nat),n<1000*j->sOf q l j s n=s n
 | [],j,s,n,h=>rfl
 | d::l,j,s,n,h=>by
  show sOf q l (j+1) _ n=s n;rw[zr0 l (j+1) _ n (by omega),if_neg (by omega)]
def sOf_sq (hq8:∀n,Ok8 (q n)) (hql:∀n,(q n).length<=1048576):∀(l:List Bd) (j:Nat) (s:Nat->Nat),lowT j l=true->SQ s q->SQ (sOf q l j s) q
 | [],j,s,_,h=>h
 | d::l,j,s,hl,h=>by
  simp only[lowT,yam]at hl;refine sOf_sq hq8 hql l (j+1) _ hl.2 ⟨λn=>?_,hq8,hql⟩;show(if n/1000=j then (val s q d).getD (n%1000) 0 else s n)<256;split
  ·exact getD_lt (val_8 h hl.1) _
  ·exact h.s8 n
def sOf_v:∀(l:List Bd) (j:Nat) (s:Nat->Nat),lowT j l=true->∀i d,l[i]?=some d->∀k,k<1000->sOf q l j s (1000*(j+i)+k)=(val (sOf q l j s) q d).getD k 0
 | [],j,s,_,i,d,hi,k,hk=>by cases hi
 | d0::l,j,s,hl,0,d,hi,k,hk=>by
  simp only[lowT,yam]at hl;simp only[yaD,yaa]at hi;subst hi;have e1:sOf q (d0::l) j s (1000*(j+0)+k)=(val s q d0).getD k 0:=by
   show sOf q l (j+1) _ (1000*(j+0)+k) = _;rw[zr0 l (j+1) _ _ (by omega),if_pos (by omega),show(1000*(j+0)+k)%1000=k by omega]
  rw[e1,val_low (j:=j) (s:=sOf q (d0::l) j s) (s':=s) (λn hn=>zr0 (d0::l) j s n hn) hl.1]
 | d0::l,j,s,hl,i+1,d,hi,k,hk=>by
  simp only[lowT,yam]at hl;have:=sOf_v l (j+1) (λn=>if n/1000=j then (val s q d0).getD (n%1000) 0 else s n) hl.2 i d hi k hk;rw[show j+(i+1)=j+1+i by omega];exact this
def tab_ex{t:Tabs}(h:lowT 0 t.bs=true) (hq8:∀n,Ok8 (q n)) (hql:∀n,(q n).length<=1048576):∃s,TabV t s q:=
 ⟨sOf q t.bs 0 λ_=>0,sOf_sq hq8 hql _ _ _ h ⟨λ_=>by decide,hq8,hql⟩,λj d hd i _ hi=>by
  have:=sOf_v (q:=q) t.bs 0 (λ_=>0) h j d hd i hi
  rwa [yba]at this⟩
def zw4{t:Tabs}{s:Nat->Nat}(h:TabV t s q){j:Nat}{b:Bd} (hb:t.bs[j]?=some b) {n:Nat} (hl:(val s q b).length=n) (h1:n<=1000):iv s q (syms j 0 n)=val s q b:=by
 have h2:=zmq h (d:=⟨λ_=>0,λ_=>.any,s⟩) rfl hb (o:=0) (n:=n) (by omega) (by omega);have h3:=(iv_1 (d:=⟨λ_=>0,λ_=>.any,s⟩) (q:=q) (cs:=syms j 0 n) (yaB.2 λx hx=>by
  obtain⟨i,_,rfl⟩:=yaZ.1 hx;rfl)).1
 rw[h2,yaz]at h3;exact((List.map_inj_right (λx y h=>by
  have:V.int .u8 (x:Nat)=V.int .u8 (y:Nat):=h;injection this with _ h
  omega)).1 h3).symm
def st_0{t:Tabs}{s:Nat->Nat}{ws:List V} (hw:∀(m:Nat) (v:V),ws[m]?=some v->∃l,t.ks[m]?=some (0,Kd.sl l)/\(∀H,By 0 H v (iv s q l))/\l.all bokd=true/\v.pid=none) (h0:0<t.ks.length) {H:Heap} (hc:H.Cl) :
  Y.St (tbOf t s q) ⟨⟨λ_=>0,λm=>(ws[m]?).getD .any,s⟩,λ_=>False,λm=>m<ws.length⟩ (Cc.hp (List.replicate t.ks.length none)).abs H:=by
 have hg:∀n i,(Cc.hp (List.replicate n none)).abs.get i=none:=λn=>by
  induction n with
  | zero=>intro i;rfl
  | succ n ih=>intro i;exact ih i
 have hn:∀n,(Cc.hp (List.replicate n none)).abs.next=n:=λn=>by rw[Cc.hp_next,yaF]
 refine⟨rfl,λi b hi=>(by rw[hg]at hi;cases hi),λi hi=>hi.elim,λi hi=>?_,by rw[hn];exact yah _,λi j hi=>hi.elim,λi hi=>hi.elim,λd hd i b hi=>(by rw[hg]at hi;cases hi),λi hi=>hi.elim,hc,λi _ hi=>hi.elim,λi _ hi=>hi.elim,λi j _ _ hi=>hi.elim,λm _ hi=>hi.elim,λm hm=>?_⟩
 ·have hi:i<ws.length:=hi;obtain⟨l,h1,_⟩:=hw i _ (yae hi);exact(yaw.1 h1).1
 ·have hm:m<ws.length:=hm;obtain⟨l,h1,h2,h3,h4⟩:=hw m _ (yae hm);refine⟨?_,H.next,H,?_,yah _,λi h5 h6=>by omega,λi h5 h6=>by omega⟩
  ·show(match t.ks[m]? with|some p=>p.1|none=>0) < _;rw[h1,hn];exact h0
  ·show(match t.ks[m]? with|some (_,.sl l)=>By H.next H ((ws[m]?).getD .any) (iv s q l)/\l.all bokd=true|some (_,.any)=>True | _=>False);rw[h1,yae hm];exact⟨⟨(h2 H).rc,λi hi=>(by rw[yaG]at hi;rw[h4]at hi;cases hi),(h2 H).cap⟩,h3⟩
end
def hTs:∀f ir,T f=some ir->ir.body.still=true:=λf ir h=>zlo h
def sym_ok{t:Tabs}{q:Nat->List Nat}{s:Nat->Nat}(ht:TabV t s q){ws:List V} (hw:∀(m:Nat) (v:V),ws[m]?=some v->∃l,t.ks[m]?=some (0,Kd.sl l)/\(∀H,By 0 H v (iv s q l))/\l.all bokd=true/\v.pid=none) (h0:0<t.ks.length)
  {f:FuncId} {m:Nat} {args args':List V} {v:V} {l:List Nat} {os:List (Option Blk)} (hr:Ax.look l (Y.cdo T selO (orc t.fnd) m f args (Cc.hp (List.replicate t.ks.length none)))=some (v,os))
  (ha:∀d:Y.Nm,(∀(m:Nat) (v:V),ws[m]?=some v->d.w m=v)->args'=Y.shL d args) {H:Heap} (hc:H.Cl) :
  Ok (sem T f args') H λr H'=>∃g h',Y.St (tbOf t s q) g h' H'/\r=Y.sh g.e v/\os=l.map h'.get/\Grow H H'/\H'.Cl/\∀i,g.nf i->H.next<=g.e.f i:=by
 unfold Ax.look at hr;obtain⟨⟨v',c⟩,hr2,e⟩:=yac.1 hr;injection e with e1 e2
 subst e1 e2;clear hr;have st0:=st_0 (t:=t) (s:=s) (q:=q) hw h0 hc;obtain⟨g',b,K',e1,s1,f1,r1⟩:=Y.run_ok hTs (orc_ok ht) hr2 (args':=args') st0 λd hd=>ha d λm v hm=>by
  have:=hd.2.2 m (yaw.1 hm).1;rw[this];show(ws[m]?).getD .any=v;rw[hm];rfl
 refine⟨b,K',e1,g',c.abs,s1,r1 g'.e (Y.Ag.self g'),rfl,⟨f1.le,λi hi=>f1.fr i hi λj b hj=>?_⟩,s1.cl,λi hi=>?_⟩
 ·exact absurd (st0.kn j b hj).1 (λx=>x)
 ·exact f1.ex.new i hi (λx=>x)
end Go.Ax.SU
/- Lk3 -/
namespace Go.Ax.SU
open Go.Ax
def bl(n:Nat):Nat:=if n=0 then 0 else n.log2+1
def bl_div(n:Nat)(h:0<n):bl n=bl (n/2)+1:=by
 unfold bl;rw[if_neg (by omega)];by_cases e:n/2=0
 ·rw[if_pos e];have:n=1:=by omega
  subst this;rfl
 ·rw[if_neg e,Nat.log2_def,if_pos (by omega)]
def lt_bl(n:Nat):n<2 ^ bl n:=by
 unfold bl;split
 ·omega
 ·exact Nat.lt_log2_self
def bl_le(n:Nat)(h:0<n):2 ^ (bl n-1)<=n:=by
 unfold bl;rw[if_neg (by omega)];exact Nat.log2_self_le (by omega)
def zdg(n k:Nat):bl n<=k<->n<2 ^ k:=by
 constructor
 ·intro h;exact yai (lt_bl n) (ybB (by decide) h)
 ·intro h;by_cases h0:n=0
  ·subst h0;simp[bl]
  ·by_cases hk:bl n<=k
   ·exact hk
   ·have h1:=bl_le n (by omega);have:2 ^ k<=2 ^ (bl n-1):=ybB (by decide) (by omega);omega
def zlp(x:Nat)(h:x<256):Ax.sindex (.str zb4) (.int .u8 (x:Int))=some (.int .u8 (bl x:Nat)):=by
 have key:∀y:Fin 256,(zb4[y.val]?).map UInt8.toNat=some (bl y.val):=by decide +kernel
 have:=key ⟨x,h⟩;simp only[Ax.sindex];rw[if_pos (by omega)];simp only[yan];cases ht:zb4[x]? with
 | none=>rw[ht]at this;cases this
 | some b=>rw[ht]at this;simp only[yas,yaa]at this ⊢;rw[this]
def zsJ(n k m:Nat)(hm:m=2 ^ k)(h:0<n/m):bl n=bl (n/m)+k:=by
 subst hm
 induction k with
 | zero=>simp
 | succ k ih=>
  have e:n/2 ^ (k+1)=(n/2 ^ k)/2:=by rw[ybu,ycd]
  rw[e]at h ⊢;have h':0<n/2 ^ k:=by omega
  rw[ih h',bl_div _ h'];omega
def len64(n:Nat)(h:n<18446744073709551616):sem T zcM [.int .u64 n]=M.pure (.int .i64 (bl n:Nat)):=by
 refine zgm λH=>?_;refine zj7 ?_;unfold zgE uL uB uR uK uc uq ug;simp(disch:=omega)only[↓RD,RZ,eq_self,seval];refine zcf (λh1=>?_) (λh1=>?_)
 ·have b1:=zsJ n 32 4294967296 rfl (by omega);simp(disch:=omega)only[↓RD,RZ,eq_self,seval];refine zcf (λh2=>?_) (λh2=>?_)
  ·have b2:=zsJ (n/4294967296) 16 65536 rfl (by omega);simp(disch:=omega)only[↓RD,RZ,eq_self,seval];refine zcf (λh3=>?_) (λh3=>?_)
   ·have b3:=zsJ (n/4294967296/65536) 8 256 rfl (by omega);have b8:bl (n/4294967296/65536/256)<=8:=(zdg _ 8).2 (by omega);simp(disch:=omega)only[↓RD,RZ,eq_self,seval,zlp];congr 1;omega
   ·have b8:bl (n/4294967296/65536)<=8:=(zdg _ 8).2 (by omega);simp(disch:=omega)only[↓RD,RZ,eq_self,seval,zlp];congr 1;omega
  ·simp(disch:=omega)only[↓RD,RZ,eq_self,seval];refine zcf (λh3=>?_) (λh3=>?_)
   ·have b3:=zsJ (n/4294967296) 8 256 rfl (by omega);have b8:bl (n/4294967296/256)<=8:=(zdg _ 8).2 (by omega);simp(disch:=omega)only[↓RD,RZ,eq_self,seval,zlp];congr 1;omega
   ·have b8:bl (n/4294967296)<=8:=(zdg _ 8).2 (by omega);simp(disch:=omega)only[↓RD,RZ,eq_self,seval,zlp];congr 1;omega
 ·simp(disch:=omega)only[↓RD,RZ,eq_self,seval];refine zcf (λh2=>?_) (λh2=>?_)
  ·have b2:=zsJ n 16 65536 rfl (by omega);simp(disch:=omega)only[↓RD,RZ,eq_self,seval];refine zcf (λh3=>?_) (λh3=>?_)
   ·have b3:=zsJ (n/65536) 8 256 rfl (by omega);have b8:bl (n/65536/256)<=8:=(zdg _ 8).2 (by omega);simp(disch:=omega)only[↓RD,RZ,eq_self,seval,zlp];congr 1;omega
   ·have b8:bl (n/65536)<=8:=(zdg _ 8).2 (by omega);simp(disch:=omega)only[↓RD,RZ,eq_self,seval,zlp];congr 1;omega
  ·simp(disch:=omega)only[↓RD,RZ,eq_self,seval];refine zcf (λh3=>?_) (λh3=>?_)
   ·have b3:=zsJ n 8 256 rfl (by omega);have b8:bl (n/256)<=8:=(zdg _ 8).2 (by omega);simp(disch:=omega)only[↓RD,RZ,eq_self,seval,zlp];congr 1;omega
   ·have b8:bl (n)<=8:=(zdg _ 8).2 (by omega);simp(disch:=omega)only[↓RD,RZ,eq_self,seval,zlp];congr 1;omega
def wsv(w:WS):V:=.agg [.bool w.1,.int .u64 (w.2.1:Nat),.int .u64 (w.2.2:Nat)]
def wsR(w:WS):Prop:=w.2.1<18446744073709551616/\w.2.2<18446744073709551616
def zpF(w:WS):Bool:=if w.1 then decide (w.2.2%2=1)&&decide (bl w.2.2<=w.2.1+1) else decide (w.2.1=0)&&decide (w.2.2=0)
def mayW(w:WS)(n:Nat):Nat:=if zpF w=false then 1 else if w.1=false\/w.2.1<n then 0 else if 64<=w.2.1-n\/shr w.2.2 (w.2.1-n)%2=1 then 9 else 0
def zhF(w:WS)(n:Nat):WS:=if w.1=false then (true,n,1) else if w.2.1<n then (true,n,w.2.2*2 ^ min (n-w.2.1) 64%18446744073709551616 ||| 1) else (true,w.2.1,w.2.2 ||| 2 ^ (w.2.1-n))
def zxc{H:Heap}{w:WS}(hw:wsR w):Ok (sem T zd8 [wsv w]) H λr H'=>r = .bool (zpF w)/\Grow H H':=by
 refine znR ?_;unfold zks uL uS uFM uB uG uH uO uU uZ uR uq;obtain⟨a,hi,se⟩:=w;obtain⟨h1,h2⟩:=hw;dsimp only at h1 h2;have s1:=Grow.new H ⟨zan,[.bool a,.int .u64 (hi:Nat),.int .u64 (se:Nat)],none⟩;unfold wsv;cases a with
 | false=>
  have e:Ax.eqr (.st [.bool,.int,.int]) false (.agg [.bool false,.int .u64 (hi:Nat),.int .u64 (se:Nat)]) (.agg [.bool false,.int .u64 0,.int .u64 0])=some (.bool (zpF (false,hi,se))):=by
   have d1:(((hi:Nat):Int)==0)=decide (hi=0):=by
    by_cases h:hi=0
    ·subst h;rfl
    ·rw[decide_eq_false h];have:¬((hi:Nat):Int)=0:=by omega
     simpa using this
   have d2:(((se:Nat):Int)==0)=decide (se=0):=by
    by_cases h:se=0
    ·subst h;rfl
    ·rw[decide_eq_false h];have:¬((se:Nat):Int)=0:=by omega
     simpa using this
   simp only[Ax.eqr,eqv,zaU,if_true,yas,zpF,yaO,if_false,beq_self_eq_true,yco,yaH,d1,d2]
  simp(disch:=first|omega|(simp only[RY]<;>omega)|decide)only[↓RD,RZ,eq_self,seval,e];exact s1
 | true=>
  have hb:=len64 se h2;have l1:bl se<=64:=(zdg _ _).2 (by omega);by_cases h:se%2=1
  ·have c1:(((se &&& 1:Nat):Int)==1)=true:=by rw[ycy,h];rfl
   have b1:1<=bl se:=by
    have:=(zdg se 0);omega
   have w1:IntKind.u64.wrap ((bl se:Nat):Int)=((bl se:Nat):Int):=by rw[wrap_u64];omega
   have w2:IntKind.u64.wrap (((bl se:Nat):Int)-1)=((bl se-1:Nat):Int):=by rw[wrap_u64];omega
   have g:zpF (true,hi,se)=decide (bl se-1<=hi):=by
    simp only[zpF,if_true,h,decide_true,yco];exact decide_eq_decide.2 (by omega)
   have d:decide (((bl se-1:Nat):Int)<=((hi:Nat):Int))=decide (bl se-1<=hi):=decide_eq_decide.2 (by omega);simp(disch:=first|omega|(simp only[RY]<;>omega)|decide)only[↓RD,RZ,eq_self,seval,c1,hb,w1,w2,g,d];exact s1
  ·have c1:(((se &&& 1:Nat):Int)==1)=false:=by rw[ycy,show se%2=0 by omega];rfl
   have g:zpF (true,hi,se)=false:=by simp only[zpF,if_true,decide_eq_false h,ycE]
   simp(disch:=first|omega|(simp only[RY]<;>omega)|decide)only[↓RD,RZ,eq_self,seval,c1,g];exact s1
def zts{H:Heap}{w:WS}{n:Nat}(hw:wsR w)(hn:n<18446744073709551616):Ok (sem T zdG [wsv w,.int .u64 (n:Nat)]) H λr H'=>r = .int .i64 (mayW w n:Nat)/\Grow H H':=by
 refine zpn ?_;unfold zlA uL uS uFM uB uG uH uO uA uR uK uc uq;have hgw:=λH=>@zxc H w hw;obtain⟨a,hi,se⟩:=w;obtain⟨h1,h2⟩:=hw;dsimp only at h1 h2;have s1:=Grow.new H ⟨zan,[.bool a,.int .u64 (hi:Nat),.int .u64 (se:Nat)],none⟩;have g1:(H.new ⟨zan,[.bool a,.int .u64 (hi:Nat),.int .u64 (se:Nat)],none⟩).get H.next=some ⟨zan,[.bool a,.int .u64 (hi:Nat),.int .u64 (se:Nat)],none⟩:=zae _ _;have n1:(H.new ⟨zan,[.bool a,.int .u64 (hi:Nat),.int .u64 (se:Nat)],none⟩).next=H.next+1:=zad _ _;unfold wsv;dsimp only;simp(maxSteps:=1000000) (disch:=first|omega|(simp only[RY]<;>omega)|decide)only[↓RD,RZ,eq_self,Int.reduceToNat,Int.reduceAdd,Int.reduceSub,Int.reduceMul,Nat.reduceAdd,Nat.reduceSub,Nat.reduceMul,Nat.reduceDiv,Nat.reduceMod,Nat.reduceBEq,Nat.reduceLeDiff];generalize hq:H.next=q at *;generalize H.new _=H1 at *;refine zaf (hgw H1) ?_;rintro _ H2 ⟨rfl,s2⟩;have g2:=(s2.same q (by omega)).trans g1;have s12:=s1.trans s2;cases hg:zpF (a,hi,se) with
 | false=>
  have e:mayW (a,hi,se) n=1:=by simp only[mayW,hg,if_true]
  simp(maxSteps:=1000000) (disch:=first|omega|(simp only[RY]<;>omega)|decide)only[↓RD,RZ,eq_self,Int.reduceToNat,Int.reduceAdd,Int.reduceSub,Int.reduceMul,Nat.reduceAdd,Nat.reduceSub,Nat.reduceMul,Nat.reduceDiv,Nat.reduceMod,Nat.reduceBEq,Nat.reduceLeDiff,e];exact⟨rfl,s12⟩
 | true=>
  cases a with
  | false=>
   have e:mayW (false,hi,se) n=0:=by simp[mayW,hg]
   simp(maxSteps:=1000000) (disch:=first|omega|(simp only[RY]<;>omega)|decide)only[↓RD,RZ,eq_self,Int.reduceToNat,Int.reduceAdd,Int.reduceSub,Int.reduceMul,Nat.reduceAdd,Nat.reduceSub,Nat.reduceMul,Nat.reduceDiv,Nat.reduceMod,Nat.reduceBEq,Nat.reduceLeDiff,g2,e];exact⟨rfl,s12⟩
  | true=>
   by_cases h3:hi<n
   ·have e:mayW (true,hi,se) n=0:=by simp[mayW,hg,h3]
    have d:decide (hi<n)=true:=decide_eq_true h3;simp(maxSteps:=1000000) (disch:=first|omega|(simp only[RY]<;>omega)|decide)only[↓RD,RZ,eq_self,Int.reduceToNat,Int.reduceAdd,Int.reduceSub,Int.reduceMul,Nat.reduceAdd,Nat.reduceSub,Nat.reduceMul,Nat.reduceDiv,Nat.reduceMod,Nat.reduceBEq,Nat.reduceLeDiff,g2,d,e];exact⟨rfl,s12⟩
   ·have d:decide (hi<n)=false:=decide_eq_false h3;have w1:IntKind.u64.wrap (((hi:Nat):Int)-((n:Nat):Int))=((hi-n:Nat):Int):=by rw[wrap_u64];omega
    by_cases h4:64<=hi-n
    ·have e:mayW (true,hi,se) n=9:=by simp[mayW,hg,h3,h4]
     have d4:decide (64<=hi-n)=true:=decide_eq_true h4;have d4':decide ((64:Int)<=((hi-n:Nat):Int))=true:=decide_eq_true (by omega);simp(maxSteps:=1000000) (disch:=first|omega|(simp only[RY]<;>omega)|decide)only[↓RD,RZ,eq_self,Int.reduceToNat,Int.reduceAdd,Int.reduceSub,Int.reduceMul,Nat.reduceAdd,Nat.reduceSub,Nat.reduceMul,Nat.reduceDiv,Nat.reduceMod,Nat.reduceBEq,Nat.reduceLeDiff,g2,d,w1,d4,d4',e];exact⟨rfl,s12⟩
    ·have hb:shr se (hi-n)<18446744073709551616:=yc5 (zvK _ _) h2;have d4:decide (64<=hi-n)=false:=decide_eq_false h4;have d4':decide ((64:Int)<=((hi-n:Nat):Int))=false:=decide_eq_false (by omega);by_cases h5:shr se (hi-n)%2=1
     ·have e:mayW (true,hi,se) n=9:=by simp[mayW,hg,h3,h5]
      have c1:(((shr se (hi-n) &&& 1:Nat):Int)==1)=true:=by rw[ycy,h5];rfl
      simp(maxSteps:=1000000) (disch:=first|omega|(simp only[RY]<;>omega)|decide)only[↓RD,RZ,eq_self,Int.reduceToNat,Int.reduceAdd,Int.reduceSub,Int.reduceMul,Nat.reduceAdd,Nat.reduceSub,Nat.reduceMul,Nat.reduceDiv,Nat.reduceMod,Nat.reduceBEq,Nat.reduceLeDiff,g2,d,w1,d4,d4',c1,e];exact⟨rfl,s12⟩
     ·have e:mayW (true,hi,se) n=0:=by simp[mayW,hg,h3,h4,h5]
      have c1:(((shr se (hi-n) &&& 1:Nat):Int)==1)=false:=by rw[ycy,show shr se (hi-n)%2=0 by omega];rfl
      simp(maxSteps:=1000000) (disch:=first|omega|(simp only[RY]<;>omega)|decide)only[↓RD,RZ,eq_self,Int.reduceToNat,Int.reduceAdd,Int.reduceSub,Int.reduceMul,Nat.reduceAdd,Nat.reduceSub,Nat.reduceMul,Nat.reduceDiv,Nat.reduceMod,Nat.reduceBEq,Nat.reduceLeDiff,g2,d,w1,d4,d4',c1,e];exact⟨rfl,s12⟩
def ztt{w:WS}{n:Nat}(h:mayW w n=0)(ha:w.1=true)(hn:¬w.2.1<n):¬64<=w.2.1-n:=by
 intro h4;unfold mayW at h;split at h
 ·cases h
 ·rw[if_neg (by simp[ha,hn]),if_pos (.inl h4)]at h;cases h
def shl_u64{a k:Nat}:Ax.bin .shl (.int .u64 (a:Nat)) (.int .u64 (k:Nat))=some (.int .u64 (a*2 ^ min k 64%18446744073709551616:Nat)):=by
 have h0:¬((k:Nat):Int)<0:=by omega
 simp only[Ax.bin,if_neg h0,wrap_u64,yan];have:((a:Nat):Int)*2 ^ min k 64=((a*2 ^ min k 64:Nat):Int):=by push_cast;rfl
 show some (V.int .u64 (((a:Nat):Int)*2 ^ min k 64%18446744073709551616)) = _;rw[this];rfl
def zwT{H:Heap}{w:WS}{n:Nat}(hw:wsR w)(hn:n<18446744073709551616):Ok (sem T zd7 [wsv w,.int .u64 (n:Nat)]) H λr H'=>Grow H H'/\(mayW w n=0->r = .tup [wsv (zhF w n),.int .i64 0])/\(mayW w n≠0->r = .tup [wsv (false,0,0),.int .i64 (mayW w n:Nat)]):=by
 refine znQ ?_;unfold zkr uL uS uT uF uFM uB uO uA uR uK uc uq;have hgw:=λH=>@zts H w n hw hn;obtain⟨a,hi,se⟩:=w;obtain⟨h1,h2⟩:=hw;dsimp only at h1 h2;have s0:=Grow.new H ⟨zan,[.bool a,.int .u64 (hi:Nat),.int .u64 (se:Nat)],none⟩;have g0:(H.new ⟨zan,[.bool a,.int .u64 (hi:Nat),.int .u64 (se:Nat)],none⟩).get H.next=some ⟨zan,[.bool a,.int .u64 (hi:Nat),.int .u64 (se:Nat)],none⟩:=zae _ _;have n0:(H.new ⟨zan,[.bool a,.int .u64 (hi:Nat),.int .u64 (se:Nat)],none⟩).next=H.next+1:=zad _ _;unfold wsv;dsimp only;refine zaL (zdw rfl ?_);rw[zaB];generalize hq:H.next=q at *;generalize H.new _=H0 at *;refine zaL (zdw rfl ?_);rw[zaB];have s1:=s0.trans (Grow.new H0 ⟨zan,[.bool false,.int .u64 0,.int .u64 0],none⟩);have g1:=(zav H0 ⟨zan,[.bool false,.int .u64 0,.int .u64 0],none⟩ (i:=q) (by omega)).trans g0;have p1:(H0.new ⟨zan,[.bool false,.int .u64 0,.int .u64 0],none⟩).get H0.next=some ⟨zan,[.bool false,.int .u64 0,.int .u64 0],none⟩:=zae _ _;have n1:(H0.new ⟨zan,[.bool false,.int .u64 0,.int .u64 0],none⟩).next=q+2:=by rw[zad,n0]
 rw[n0]at *;generalize H0.new _=H1 at *;simp(maxSteps:=1000000) (disch:=first|omega|(simp only[RY]<;>omega)|decide)only[↓RD,RZ,eq_self,Int.reduceToNat,Int.reduceAdd,Int.reduceSub,Int.reduceMul,Nat.reduceAdd,Nat.reduceSub,Nat.reduceMul,Nat.reduceDiv,Nat.reduceMod,Nat.reduceBEq,Nat.reduceLeDiff,g1];refine zaf (hgw H1) ?_;rintro _ H2 ⟨rfl,s2⟩;have g2:=(s2.same q (by omega)).trans g1;have p2:=(s2.same (q+1) (by omega)).trans p1;have s12:=s1.trans s2;have n2:=s2.next;have fin:∀b,Grow H (H2.set (q+1) b):=λb=>s12.set (by omega) b;have fin2:∀b b',Grow H ((H2.set q b).set (q+1) b'):=λb b'=>(s12.set (by omega) b).set (by omega) b';by_cases hm:mayW (a,hi,se) n=0
 ·have e0:(((mayW (a,hi,se) n:Nat):Int) != 0)=false:=by rw[hm];rfl
  cases a with
  | false=>
   have em:zhF (false,hi,se) n=(true,n,1):=rfl;simp(maxSteps:=1000000) (disch:=first|omega|(simp only[RY]<;>omega)|decide)only[↓RD,RZ,eq_self,Int.reduceToNat,Int.reduceAdd,Int.reduceSub,Int.reduceMul,Nat.reduceAdd,Nat.reduceSub,Nat.reduceMul,Nat.reduceDiv,Nat.reduceMod,Nat.reduceBEq,Nat.reduceLeDiff,e0,g2,p2];exact⟨fin _,λ_=>by rw[em];rfl,λh=>absurd hm h⟩
  | true=>
   by_cases h3:hi<n
   ·have em:zhF (true,hi,se) n=(true,n,se*2 ^ min (n-hi) 64%18446744073709551616 ||| 1):=by simp[zhF,h3]
    have d:decide (hi<n)=true:=decide_eq_true h3;have w1:IntKind.u64.wrap (((n:Nat):Int)-((hi:Nat):Int))=((n-hi:Nat):Int):=by rw[wrap_u64];omega
    have sh:=@shl_u64 se (n-hi);have hb:se*2 ^ min (n-hi) 64%18446744073709551616<18446744073709551616:=ybd _ (by decide);generalize se*2 ^ min (n-hi) 64%18446744073709551616=z at *;simp(maxSteps:=1000000) (disch:=first|omega|(simp only[RY]<;>omega)|decide)only[↓RD,RZ,eq_self,Int.reduceToNat,Int.reduceAdd,Int.reduceSub,Int.reduceMul,Nat.reduceAdd,Nat.reduceSub,Nat.reduceMul,Nat.reduceDiv,Nat.reduceMod,Nat.reduceBEq,Nat.reduceLeDiff,e0,g2,p2,d,w1,sh];exact⟨fin _,λ_=>by rw[em],λh=>absurd hm h⟩
   ·have d:decide (hi<n)=false:=decide_eq_false h3;have h4:¬64<=hi-n:=ztt hm rfl h3;have em:zhF (true,hi,se) n=(true,hi,se ||| 2 ^ (hi-n)):=by simp[zhF,h3]
    have w1:IntKind.u64.wrap (((hi:Nat):Int)-((n:Nat):Int))=((hi-n:Nat):Int):=by rw[wrap_u64];omega
    have sh:Ax.bin .shl (.int .u64 1) (.int .u64 (hi-n:Nat))=some (.int .u64 (2 ^ (hi-n):Nat)):=by
     have:=@shl_u64 1 (hi-n);rw[Nat.one_mul,ya8 (by omega),yaA (yai (ycW (by decide) (show hi-n<64 by omega)) (by decide))]at this;exact this
    have hb:2 ^ (hi-n)<18446744073709551616:=yai (ycW (by decide) (show hi-n<64 by omega)) (by decide);generalize 2 ^ (hi-n)=z at *;simp(maxSteps:=1000000) (disch:=first|omega|(simp only[RY]<;>omega)|decide)only[↓RD,RZ,eq_self,Int.reduceToNat,Int.reduceAdd,Int.reduceSub,Int.reduceMul,Nat.reduceAdd,Nat.reduceSub,Nat.reduceMul,Nat.reduceDiv,Nat.reduceMod,Nat.reduceBEq,Nat.reduceLeDiff,e0,g2,p2,d,w1,sh];exact⟨fin2 _ _,λ_=>by rw[em],λh=>absurd hm h⟩
 ·have e0:(((mayW (a,hi,se) n:Nat):Int) != 0)=true:=by
   have:¬((mayW (a,hi,se) n:Nat):Int)=0:=by omega
   simpa using this
  simp(maxSteps:=1000000) (disch:=first|omega|(simp only[RY]<;>omega)|decide)only[↓RD,RZ,eq_self,Int.reduceToNat,Int.reduceAdd,Int.reduceSub,Int.reduceMul,Nat.reduceAdd,Nat.reduceSub,Nat.reduceMul,Nat.reduceDiv,Nat.reduceMod,Nat.reduceBEq,Nat.reduceLeDiff,e0,p2];exact⟨fin _,λh=>absurd h hm,λ_=>rfl⟩
end Go.Ax.SU
/- Re21 -/
namespace Go.Ax.SU
open Go.Ax
end Go.Ax.SU
namespace Go.Ax
open SU
end Go.Ax
/- Lk5 -/
namespace Go.Ax.SU
open Go.Ax
abbrev SS:=Option (Ky×Int×Int×Nat)
def sndC(id slot:Int)(kv:V)(e st:Int)(kid c:Nat):List V:=[.int .i64 id,.int .i64 slot,kv,.int .i64 e,.int .i64 st,.int .u64 (kid:Nat),.int .u64 (c:Nat)]
def zom.to{lo k:Nat}{H H':Heap}(h:zom lo H k)(e:H'.get k=H.get k):zom lo H' k:=λx y a av sv g=>h x y a av sv (e ▸ g)
def zom.low{lo lo' k:Nat}{H:Heap}(h:zom lo H k)(hl:lo'<=lo):zom lo' H k:=λx y a av sv g j hj=>yax hl (h x y a av sv g j hj)
def KeyM.atL{lo:Nat}{S:List Nat}{H H':Heap}{k:Nat}{K:Ky}(h:KeyM H k K)(hl:zom lo H k)(s:AtS S H H')(hS:∀i∈S,i<lo/\∃b,H.get i=some b/\b.ty≠zaN/\b.ty≠zaQ/\b.ty≠zax):KeyM H' k K/\H'.get k=H.get k:=by
 obtain⟨a,av,sv,h1,h2,h3,h4⟩:=h.mem;obtain⟨id,g1,g2,l1,l2,hw⟩:=h2;have hne:∀{i b},H.get i=some b->(b.ty=zaN\/b.ty=zaQ\/b.ty=zax)->i∉S:=λhb ho e=>by
  obtain⟨_,b',hb',o1,o2,o3⟩:=hS _ e;rw[hb]at hb';injection hb' with hb'
  subst hb';rcases ho with o|o|o
  ·exact o1 o
  ·exact o2 o
  ·exact o3 o
 have by':∀{v:V} {l:List Nat},By 0 H v l->(∀j,v.pid=some j->lo<=j)->By 0 H' v l:=λhv hj=>Lc.atS hv s λi hi e=>by
  have:=(hS _ e).1;have:=hj i hi;omega
 have hlo:=hl _ _ _ _ _ h1;have ek:=s.same k h.low (hne h1 (.inl rfl));refine⟨⟨h.good,⟨a,av,sv,ek.trans h1,⟨id,?_,?_,yai l1 s.next,yai l2 s.next,hw⟩,by' h3 λj hj=>hlo j (.inl hj),by' h4 λj hj=>hlo j (.inr hj)⟩,yai h.low s.next⟩,ek⟩
 ·rw[s.same a l1 (hne g1 (.inr (.inl rfl)))];exact g1
 ·rw[s.same id l2 (hne g2 (.inr (.inr rfl)))];exact g2
def zby(H:Heap)(k:Nat)(a b:Option Blk):(H.set k a).set k b=H.set k b:=by
 unfold Heap.set;congr 1;funext i;dsimp only;split<;>rfl
def odd_snd(id slot:Int){kv:V}(e st:Int)(kid c:Nat)(hk:kv = .nilp\/∃k,kv = .ptr k 0):Odd ⟨zaw,sndC id slot kv e st kid c,none⟩:=by
 refine⟨show zaw≠zaN by decide,show zaw≠zaQ by decide,show zaw≠zax by decide,λv hv n e=>?_⟩;subst e;unfold sndC at hv;rcases hk with rfl|⟨k,rfl⟩<;>simp at hv
def sealS(x:SS)(p:List Nat):SS:=
 match x with
 | none=>none
 | some (K,e,st,c)=>if 1000<p.length then some (K,e,st,c) else some (K,e,st,(c+1)%18446744073709551616)
end Go.Ax.SU
/- St1 -/
namespace Go.Ax.SU
open Go.Ax Go.Proofs
def hT:∀f ir,T f=some ir->ir.body.still=true:=λf ir h=>zlo h
def ztl{β:Type}{H:Heap}{ty:TypeId}{zs:List V}{f:V->M β}{Q:β->Heap->Prop} (k:∀q H',q=H.next->H'.get q=some ⟨ty,zs,none⟩->Grow H H'->H'.next=H.next+1->(H.Cl->H'.Cl)->Ok (f (.ptr q 0)) H' Q):Ok ((mbox ty (.agg zs)).bind f) H Q:=by
 refine zaL (zdw rfl ?_);rw[zaB];exact k _ _ rfl (zae _ _) (Grow.new _ _) rfl λhc=>zes hc _
def zqO{β:Type}{H:Heap}{ty:TypeId}{n:Nat}{zs cs:List V}{f:V->V->M β}{Q:β->Heap->Prop}(hc:H.Cl)(hz:zs.length=n)(hl:cs.length=n) (k:∀q H',q=H.next->H'.get q=some ⟨ty,cs,none⟩->Grow H H'->H'.next=H.next+1->H'.Cl->Ok (f (.ptr q 0) .undef) H' Q) :
  Ok ((mbox ty (.agg zs)).bind λt=>(mstore n t (.agg cs)).bind λu=>f t u) H Q:=by
 refine zaL (zdw rfl ?_);rw[zaB];have g:=zae H ⟨ty,zs,none⟩;refine zaL (ztn g (by rw[zaB];exact hl) (by show 0+n<=zs.length;omega) rfl ?_);refine k _ _ rfl ?_ ((Grow.new _ _).set (yah _) _) rfl (zcE (zes hc _) (by rw[zad];omega) _);rw[zai,zaB];congr 2;unfold splice;rw[ya5,yaU,yaR (by show zs.length<=0+cs.length;omega),yaJ]
end Go.Ax.SU
/- Lk6 -/
namespace Go.Ax.SU
open Go.Ax
def OddR(b:Blk):Prop:=Odd b/\b.ty≠zab/\b.ty≠zas
structure ChainM (lo:Nat) (H:Heap) (q st:Nat) (base:List Nat):Prop where
 low:q<H.next
 lo':lo<=q
 mem:∃bv,H.get q=some ⟨zas,[.int .i64 (st:Nat),bv],none⟩/\By lo H bv base/\∀i,bv.pid=some i->∃b,H.get i=some b/\b.ty=zab
 b8:Ok8 base
 bl:base.length<=1099511627
 st31:st<=31
def ChainM.atS{lo:Nat}{S:List Nat}{H H':Heap}{q st:Nat}{base:List Nat}(h:ChainM lo H q st base)(s:AtS S H H')(hS:∀i∈S,i<lo\/∃b,H.get i=some b/\OddR b):ChainM lo H' q st base:=by
 obtain⟨bv,h1,h2,h3⟩:=h.mem;have hq:q∉S:=λe=>by
  rcases hS q e with h4|⟨b,hb,ho⟩
  ·have:=h.lo';omega
  ·rw[h1]at hb;injection hb with hb;subst hb;exact ho.2.2 rfl
 have hv:∀i,bv.pid=some i->i∉S:=λi hi e=>by
  rcases hS i e with h4|⟨b,hb,ho⟩
  ·have:=(h2.own i hi).1;omega
  ·obtain⟨b',hb',ht⟩:=h3 i hi;rw[hb]at hb';injection hb' with hb';subst hb';exact ho.2.1 ht
 exact⟨yai h.low s.next,h.lo',⟨bv,(s.same q h.low hq).trans h1,Lc.atS h2 s hv,λi hi=>by
  obtain⟨b,hb,ht⟩:=h3 i hi;exact⟨b,(s.same i (h2.own i hi).2 (hv i hi)).trans hb,ht⟩⟩,h.b8,h.bl,h.st31⟩
def ChainM.grow{lo:Nat}{H H':Heap}{q st:Nat}{base:List Nat}(h:ChainM lo H q st base)(s:Grow H H'):ChainM lo H' q st base:=h.atS (Grow.atS s []) λi hi=>by simp at hi
structure Rc where
 id:Nat
 ch:List ((Int×Int)×(Nat×List Nat))
 win:List (Nat×WS)
 ks:List (Nat×Ky)
def Al{α β γ:Type}(P:β->γ->Prop):List (α×β)->List (α×γ)->Prop
 | [],[]=>True
 | p::l,q::m=>p.1=q.1/\P p.2 q.2/\Al P l m
 | _,_=>False
def Al.mono{α β γ:Type}{P Q:β->γ->Prop}(h:∀b c,P b c->Q b c):∀{l:List (α×β)} {m:List (α×γ)},Al P l m->Al Q l m
 | [],[],_=>trivial
 | _ :: _,_ :: _,⟨h1,h2,h3⟩=>⟨h1,h _ _ h2,Al.mono h h3⟩
 | [],_ :: _,h=>h.elim
 | _ :: _,[],h=>h.elim
def Al.look{α β γ:Type}[DecidableEq α]{P:β->γ->Prop}(a:α):∀{l:List (α×β)} {m:List (α×γ)},Al P l m->(look a l=none/\look a m=none)\/∃x y,look a l=some x/\look a m=some y/\P x y
 | [],[],_=>.inl ⟨rfl,rfl⟩
 | (k,v)::l,(k',v')::m,⟨h1,h2,h3⟩=>by
  have h1:k=k':=h1;subst h1;simp only[SU.look];by_cases e:a=k
  ·rw[if_pos e,if_pos e];exact .inr ⟨_,_,rfl,rfl,h2⟩
  ·rw[if_neg e,if_neg e];exact Al.look a h3
 | [],_ :: _,h=>h.elim
 | _ :: _,[],h=>h.elim
def Al.put{α β γ:Type}[DecidableEq α]{P:β->γ->Prop}(a:α){x:β}{y:γ}(hp:P x y):∀{l:List (α×β)} {m:List (α×γ)},Al P l m->Al P (putl a x l) (putl a y m)
 | [],[],_=>⟨rfl,hp,trivial⟩
 | (k,v)::l,(k',v')::m,⟨h1,h2,h3⟩=>by
  have h1:k=k':=h1;subst h1;simp only[putl];by_cases e:a=k
  ·rw[if_pos e,if_pos e];exact⟨rfl,hp,h3⟩
  ·rw[if_neg e,if_neg e];exact⟨rfl,h2,Al.put a hp h3⟩
 | [],_ :: _,h=>h.elim
 | _ :: _,[],h=>h.elim
def mapv{α β:Type}(f:β->V) (l:List (α×β)):List (α×V):=l.map λp=>(p.1,f p.2)
def zkd{α β:Type}[DecidableEq α](f:β->V)(a:α):∀l:List (α×β),look a (mapv f l)=(look a l).map f
 | []=>rfl
 | (k,v)::l=>by
  show look a ((k,f v)::mapv f l) = _;simp only[look];split
  ·rfl
  ·exact zkd f a l
def zpl{α β:Type}[DecidableEq α](f:β->V)(a:α)(b:β):∀l:List (α×β),putl a (f b) (mapv f l)=mapv f (putl a b l)
 | []=>rfl
 | (k,v)::l=>by
  show putl a (f b) ((k,f v)::mapv f l) = _;simp only[putl];split
  ·rfl
  ·rw[zpl f a b l];rfl
def ptrv(k:Nat):V:=.ptr k 0
def zsz{α:Type}{ek:α->V} {l:List (α×V)} (h1:∀a n,ek a≠.int .u8 n) (h2:∀p∈l,∀n,p.2≠.int .u8 n):∀v∈encM ek l,∀n,v≠.int .u8 n:=by
 intro v hv n;unfold encM at hv;obtain⟨p,hp,hv⟩:=List.mem_flatMap.1 hv;simp only[yap,yat,or_false]at hv;rcases hv with rfl|rfl
 ·exact h1 _ _
 ·exact h2 p hp n
abbrev tyC:=zdB
abbrev tyW:=ze1
abbrev tyK:=zfD
def odd_c (l:List ((Int×Int)×Nat)):OddR ⟨tyC,encM eplc (mapv ptrv l),none⟩:=
 ⟨⟨show tyC≠zaN by decide,show tyC≠zaQ by decide,show tyC≠zax by decide,zsz (λ_ _ h=>by cases h) λp hp n h=>by
  obtain⟨q,_,rfl⟩:=yaZ.1 hp;cases h⟩,show tyC≠zab by decide,show tyC≠zas by decide⟩
def odd_w (l:List (Nat×WS)):OddR ⟨tyW,encM ekid (mapv wsv l),none⟩:=
 ⟨⟨show tyW≠zaN by decide,show tyW≠zaQ by decide,show tyW≠zax by decide,zsz (λ_ _ h=>by cases h) λp hp n h=>by
  obtain⟨q,_,rfl⟩:=yaZ.1 hp;cases h⟩,show tyW≠zab by decide,show tyW≠zas by decide⟩
def odd_k (l:List (Nat×Nat)):OddR ⟨tyK,encM ekid (mapv ptrv l),none⟩:=
 ⟨⟨show tyK≠zaN by decide,show tyK≠zaQ by decide,show tyK≠zax by decide,zsz (λ_ _ h=>by cases h) λp hp n h=>by
  obtain⟨q,_,rfl⟩:=yaZ.1 hp;cases h⟩,show tyK≠zab by decide,show tyK≠zas by decide⟩
structure RcM (H:Heap) (c:Nat) (R:Rc):Prop where
 top:c+4<=H.next
 rcd:H.get (c+3)=some ⟨zaF,[.int .i64 (R.id:Nat),.mp c,.mp (c+1),.mp (c+2)],none⟩
 ch:∃lc:List ((Int×Int)×Nat),H.get c=some ⟨tyC,encM eplc (mapv ptrv lc),none⟩/\Al (λq x=>ChainM (c+4) H q x.1 x.2) lc R.ch
 win:H.get (c+1)=some ⟨tyW,encM ekid (mapv wsv R.win),none⟩
 wr:∀p∈R.win,wsR p.2
 ks:∃lk:List (Nat×Nat),H.get (c+2)=some ⟨tyK,encM ekid (mapv ptrv lk),none⟩/\Al (λq x=>KeyM H q x) lk R.ks
def RcM.atS{S:List Nat}{H H':Heap}{c:Nat}{R:Rc}(h:RcM H c R)(s:AtS S H H')(hc:∀i∈S,i<c\/c+4<=i)(hS:∀i∈S,∃b,H.get i=some b/\OddR b):RcM H' c R:=by
 have ht:=h.top;have hn:∀i,c<=i->i<c+4->H'.get i=H.get i:=λi h1 h2=>s.same i (by omega) λe=>by have:=hc i e;omega
 obtain⟨lc,h1,h2⟩:=h.ch;obtain⟨lk,h3,h4⟩:=h.ks;exact⟨yax ht s.next,(hn _ (by omega) (by omega)).trans h.rcd,⟨lc,(hn _ (by omega) (by omega)).trans h1,h2.mono λ_ _ g=>g.atS s λi hi=>.inr (hS i hi)⟩,
  (hn _ (by omega) (by omega)).trans h.win,h.wr,⟨lk,(hn _ (by omega) (by omega)).trans h3,h4.mono λ_ _ g=>g.atS s λi hi=>by
   obtain⟨b,hb,ho⟩:=hS i hi;exact⟨b,hb,ho.1⟩⟩⟩
def RcM.grow{H H':Heap}{c:Nat}{R:Rc}(h:RcM H c R)(s:Grow H H'):RcM H' c R:=h.atS (Grow.atS s []) (λi hi=>by simp at hi) λi hi=>by simp at hi
def RcM.odd{H:Heap}{c:Nat}{R:Rc}(h:RcM H c R):∀i,c<=i->i<c+3->∃b,H.get i=some b/\OddR b:=by
 intro i h1 h2;obtain⟨lc,g1,_⟩:=h.ch;obtain⟨lk,g3,_⟩:=h.ks;have:i=c\/i=c+1\/i=c+2:=by omega
 rcases this with rfl|rfl|rfl
 ·exact⟨_,g1,odd_c _⟩
 ·exact⟨_,h.win,odd_w _⟩
 ·exact⟨_,g3,odd_k _⟩
end Go.Ax.SU
/- St2 -/
namespace Go.Ax.SU
open Go.Ax Go.Proofs
def zbD{H:Heap}(hc:H.Cl){i:Nat}{b:Blk}(hg:H.get i=some b):i<H.next:=by
 by_cases h:i<H.next
 ·exact h
 ·rw[hc i (by omega)]at hg;cases hg
def zvB{H:Heap}{k:Int}(hk:k=0\/k=1\/k=2):Ok (sem T zcB [.int .i64 k]) H λr H'=>r = .bool true/\H'=H:=by
 refine zlQ ?_;unfold ziw uL uB uG uH uR uc;rcases hk with rfl|rfl|rfl<;>simp(maxSteps:=1000000) (disch:=first|omega|(simp only[RY]<;>omega)|decide)only[↓RD,RZ,eq_self,Int.reduceToNat,Int.reduceAdd,Int.reduceSub,Int.reduceMul,Nat.reduceAdd,Nat.reduceSub,Nat.reduceMul,Nat.reduceDiv,Nat.reduceMod,Nat.reduceBEq,Nat.reduceLeDiff,RG]
end Go.Ax.SU
/- Ax56 -/
namespace Go.Ax.Y
mutual
def okN(p:Nat->Bool):V->Bool
 | .ptr i _=>p i
 | .mp i=>p i
 | .sl i _ _ _=>p i
 | .rs cs _=>okNL p cs
 | .rp cs _=>okNL p cs
 | .fn _ cs=>okNL p cs
 | .agg cs=>okNL p cs
 | .tup cs=>okNL p cs
 | .bool _=>true
 | .int _ _=>true
 | .str _=>true
 | .nilp=>true
 | .nils=>true
 | .lit _=>true
 | .any=>true
def okNL(p:Nat->Bool):List V->Bool
 | []=>true
 | x::xs=>okN p x&&okNL p xs
end
section
variable {d d':Nm} {p:Nat->Bool}
mutual
theorem sh_exn(hs:d.s=d'.s)(hw:d.w=d'.w)(hp:∀i,p i=true->d.f i=d'.f i):∀v:V,okN p v=true->sh d v=sh d' v
 | .ptr i _,h=>by simp only[okN]at h;simp only[sh];rw[hp i h]
 | .mp i,h=>by simp only[okN]at h;simp only[sh];rw[hp i h]
 | .sl i _ _ _,h=>by simp only[okN]at h;simp only[sh];rw[hp i h]
 | .rs cs _,h=>by simp only[okN]at h;simp only[sh];rw[zgO hs hw hp cs h]
 | .rp cs _,h=>by simp only[okN]at h;simp only[sh];rw[zgO hs hw hp cs h]
 | .fn _ cs,h=>by simp only[okN]at h;simp only[sh];rw[zgO hs hw hp cs h]
 | .agg cs,h=>by simp only[okN]at h;simp only[sh];rw[zgO hs hw hp cs h]
 | .tup cs,h=>by simp only[okN]at h;simp only[sh];rw[zgO hs hw hp cs h]
 | .bool _,_=>rfl
 | .int _ _,_=>rfl
 | .str _,_=>rfl
 | .nilp,_=>rfl
 | .nils,_=>rfl
 | .lit _,_=>by simp only[sh];unfold sy;rw[hs,hw]
 | .any,_=>rfl
theorem zgO(hs:d.s=d'.s)(hw:d.w=d'.w)(hp:∀i,p i=true->d.f i=d'.f i):∀l:List V,okNL p l=true->shL d l=shL d' l
 | [],_=>rfl
 | x::xs,h=>by
  simp only[okNL,yam]at h;simp only[shL];rw[sh_exn hs hw hp x h.1,zgO hs hw hp xs h.2]
end
end
def mkc:List (Nat×Blk)->Nat->Cc.Heap
 | [],n=>⟨.e,n⟩
 | p::l,n=>(mkc l n).set p.1 (some p.2)
def zps(n:Nat):∀l,(mkc l n).abs.next=n
 | []=>rfl
 | p::l=>by
  show((mkc l n).set p.1 (some p.2)).abs.next=n;rw[Cc.abs_set];exact zps n l
def zk4(n:Nat):∀(l:List (Nat×Blk)) (i:Nat),(∀b,(mkc l n).abs.get i=some b->(i,b)∈l)/\((l.any λp=>Nat.beq p.1 i)=true->∃b,(mkc l n).abs.get i=some b)
 | [],i=>⟨λb h=>(by cases h),λh=>(by cases h)⟩
 | p::l,i=>by
  obtain⟨h1,h2⟩:=zk4 n l i;have e:(mkc (p::l) n).abs=(mkc l n).abs.set p.1 (some p.2):=Cc.abs_set _ _ _;rw[e];by_cases hi:i=p.1
  ·subst hi;rw[zai];exact⟨λb hb=>by injection hb with hb;subst hb;exact yaT,λ_=>⟨_,rfl⟩⟩
  ·rw[zaj _ _ hi];refine⟨λb hb=>yaQ _ (h1 b hb),λhq=>h2 ?_⟩;simp only[List.any_cons,ybt]at hq;rcases hq with hq|hq
   ·exact absurd (yaL hq).symm hi
   ·exact hq
def inl(R:Nat) (l:List (Nat×Blk)) (i:Nat):Bool:=Nat.blt i R||l.any λp=>Nat.beq p.1 i
def okC(R n:Nat) (l:List (Nat×Blk)):Bool:=Nat.ble R n&&l.all λp=>Nat.blt (p.1+1) n&&okNL (inl R l) p.2.cells
def St.upd{tb:Tb}{g:Sg}{h K K':Heap}(s:St tb g h K) {l:List (Nat×Blk)} {n:Nat} (hc:K'.Cl) (hn:K.next<=K'.next) {S:List Nat} (hS:∀i∈S,∃j b,h.get j=some b/\g.e.f j=i) (hf:∀i,i<K.next->i∉S->K'.get i=K.get i)
  (hl:∀p∈l,(∃b0,h.get p.1=some b0)/\((h.get p.1=some p.2/\g.e.f p.1∉S)\/∀d,Ag g d->K'.get (d.f p.1)=some (shB d p.2))) (ok:okC tb.R n l=true) (ht:∀m,m<tb.R->tb.t m<h.next->tb.t m<n) :
  ∃g',St tb g' (mkc l n).abs K'/\g'.e=g.e/\(∀i,g'.nf i<->g.nf i/\inl tb.R l i=true)/\g'.nw=g.nw:=by
 classical
 simp only[okC,yam]at ok;have hR:=yau ok.1;have hk:∀p∈l,p.1+1<n/\okNL (inl tb.R l) p.2.cells=true:=λp hp=>by
  have:=yaB.1 ok.2 p hp;simp only[yam]at this;exact⟨yau this.1,this.2⟩
 have nx:(mkc l n).abs.next=n:=zps n l;have G:=λi b (hb:(mkc l n).abs.get i=some b)=>(zk4 n l i).1 b hb;have ix:∀i,inl tb.R l i=true->tb.R<=i->∃b,(mkc l n).abs.get i=some b:=λi hi hr=>by
  unfold inl at hi;simp only[ybt]at hi;rcases hi with hi|hi
  ·have:i+1<=tb.R:=yau hi;omega
  ·exact(zk4 n l i).2 hi
 have ib:∀i b,(mkc l n).abs.get i=some b->inl tb.R l i=true:=λi b hb=>by
  have:=G i b hb;unfold inl;rw[ybt];refine .inr (ybT.2 ⟨_,this,?_⟩);exact Nat.beq_refl i
 have lt1:∀i,inl tb.R l i=true->tb.R<=i->i+1<n:=λi hi hr=>by
  obtain⟨b,hb⟩:=ix i hi hr;exact(hk _ (G i b hb)).1
 let g':Sg:=⟨g.e,λi=>g.nf i/\inl tb.R l i=true,g.nw⟩
 refine⟨g',⟨s.s,λi b hi=>?_,λi hi=>?_,s.nwb,?_,λi j hi hj=>s.inj i j hi.1 hj.1,λi hi=>yai (s.lt i hi.1) hn,λd hd i b hi=>?_,λi hi hr e=>?_,hc,λi hr hi hj=>s.seq i hr hi.1 hj.1,λi hr hi e=>?_,λi j hr hl hi hj=>s.mono i j hr hl hi.1 hj.1,λm hm hf'=>?_,λm hw=>?_⟩,rfl,λ_=>yde,rfl⟩
 ·obtain⟨⟨b0,hb0⟩,-⟩:=hl _ (G i b hi);exact⟨⟨(s.kn i b0 hb0).1,ib i b hi⟩,(s.kn i b0 hb0).2⟩
 ·rw[nx];by_cases hr:tb.R<=i
  ·have:=lt1 i hi.2 hr;omega
  ·omega
 ·rw[nx];exact hR
 ·let d1:Nm:=⟨λj=>if g.nf j then g.e.f j else d.f j,d.w,d.s⟩
  have a1:Ag g d1:=⟨hd.1,λj hj=>if_pos hj,hd.2.2⟩;have hm:=G i b hi;obtain⟨⟨b0,hb0⟩,h2⟩:=hl _ hm;have hnf:=(s.kn i b0 hb0).1;have e1:∀j,inl tb.R l j=true->d1.f j=d.f j:=λj hj=>by
   show(if g.nf j then g.e.f j else d.f j)=d.f j;by_cases hg:g.nf j
   ·rw[if_pos hg];exact(hd.2.1 j ⟨hg,hj⟩).symm
   ·rw[if_neg hg]
  have e2:shB d1 b=shB d b:=by
   unfold shB;rw[zgO (d:=d1) (d':=d) rfl rfl e1 b.cells (hk _ hm).2]
  have e3:d1.f i=d.f i:=e1 i (ib i b hi);rw[<-e2,<-e3];rcases h2 with⟨h2,h3⟩|h2
  ·have h4:=s.em d1 a1 i b h2;have h5:d1.f i=g.e.f i:=if_pos hnf;have h3:g.e.f i∉S:=h3;rw[h5]at h4 ⊢;rw[hf _ (s.lt i hnf) h3];exact h4
  ·exact h2 d1 a1
 ·obtain⟨b,hb⟩:=ix i hi.2 hr;rw[hb]at e;cases e
 ·rw[nx]at e;have:=lt1 i hi.2 (yax tb.rb hr);omega
 ·obtain⟨q1,lo,Hc,q2,q3,q4⟩:=s.mf m hm hf'.1;refine⟨by rw[nx];exact ht m hm q1,lo,Hc,q2,⟨yax q3.le hn,λi h1 h2=>?_,λi h1 h2 j b hj e=>?_⟩,λi hr hl hi=>q4 i hr hl hi.1⟩
  ·rw[hf i (yai h2 q3.le) λhi=>?_]
   ·exact q3.sm i h1 h2
   ·obtain⟨j,b,hj,e⟩:=hS i hi;exact q3.ap i h1 h2 j b hj e
  ·obtain⟨⟨b0,hb0⟩,-⟩:=hl _ (G j b hj);exact q3.ap i h1 h2 j b0 hb0 e
 ·obtain⟨q1,lo,Hc,q2,q3⟩:=s.mw m hw;refine⟨by rw[nx];exact ht m (s.nwb m hw) q1,lo,Hc,q2,⟨yax q3.le hn,λi h1 h2=>?_,λi h1 h2 j b hj e=>?_⟩⟩
  ·rw[hf i (yai h2 q3.le) λhi=>?_]
   ·exact q3.sm i h1 h2
   ·obtain⟨j,b,hj,e⟩:=hS i hi;exact q3.ap i h1 h2 j b hj e
  ·obtain⟨⟨b0,hb0⟩,-⟩:=hl _ (G j b hj);exact q3.ap i h1 h2 j b0 hb0 e
def rl_keep{g g':Sg}{R:Nat} {l:List (Nat×Blk)} (he:g'.e=g.e) (hf:∀i,g'.nf i<->g.nf i/\inl R l i=true) (hw:g'.nw=g.nw) {vs vs':List V} (r:Rl g shL vs vs') (ok:okNL (inl R l) vs=true):Rl g' shL vs vs':=by
 classical
 intro d hd
 let d1:Nm:=⟨λj=>if g.nf j then g.e.f j else d.f j,d.w,d.s⟩
 have a1:Ag g d1:=⟨by rw[<-he];exact hd.1,λj hj=>if_pos hj,λj hj=>by
  have:=hd.2.2 j (by rw[hw];exact hj);rw[he]at this;exact this⟩
 rw[r d1 a1];refine zgO (d:=d1) (d':=d) rfl rfl (λj hj=>?_) vs ok;show(if g.nf j then g.e.f j else d.f j)=d.f j;by_cases hg:g.nf j
 ·rw[if_pos hg,<-he];exact(hd.2.1 j ((hf j).2 ⟨hg,hj⟩)).symm
 ·rw[if_neg hg]
inductive Step where
 | call (f:FuncId) (args:List V)
 | ins (i:I) (args:List V)
def fl:Cc.Sem':=λ_ _=>Cc.M.fail
section
variable (T:FuncId->Option Fn') (sel:FuncId->List V->Bool) (O:Orc) (m:Nat)
def Step.run:Step->Cc.M V
 | .call f args=>cdo T sel O m f args
 | .ins i args=>Cc.I.run fl (params 0 args) i
def runs:List Step->Cc.Heap->Option (List V×Cc.Heap)
 | [],c=>some ([],c)
 | s::l,c=>match s.run T sel O m c with
  | some (v,c1)=>(match runs l c1 with|some (vs,c2)=>some (v::vs,c2)|none=>none)
  | none=>none
end
def seen(l:List Nat) (r:Option (List V×Cc.Heap)):Option (List V×Nat×List (Option Blk)):=r.map λq=>(q.1,q.2.next,l.map q.2.get)
section
variable {T:FuncId->Option Fn'} {sel:FuncId->List V->Bool} {O:Orc} {m:Nat}
def zqA{s:Step}{l:List Step}{c c2:Cc.Heap}{v:V}{vs:List V} (h:runs T sel O m (s::l) c=some (v::vs,c2)):∃c1,s.run T sel O m c=some (v,c1)/\runs T sel O m l c1=some (vs,c2):=by
 unfold runs at h;cases h1:s.run T sel O m c with
 | none=>rw[h1]at h;cases h
 | some q=>
  obtain⟨v1,c1⟩:=q;rw[h1]at h;dsimp only at h;cases h2:runs T sel O m l c1 with
  | none=>rw[h2]at h;cases h
  | some q=>
   obtain⟨vs1,c3⟩:=q;rw[h2]at h;simp only[yaa,yad,yby]at h;obtain⟨⟨rfl,rfl⟩,rfl⟩:=h;exact⟨c1,rfl,h2⟩
def seen_ok{l:List Nat} {r:Option (List V×Cc.Heap)} {vs:List V} {n:Nat} {os:List (Option Blk)} (h:seen l r=some (vs,n,os)):∃c,r=some (vs,c)/\c.abs.next=n/\os=l.map c.abs.get:=by
 unfold seen at h;cases r with
 | none=>cases h
 | some q=>
  simp only[yas,yaa,yad]at h;obtain⟨rfl,rfl,rfl⟩:=h;exact⟨q.2,rfl,rfl,rfl⟩
end
def rl_n{g:Sg}:Rl g shL [] []:=λ_ _=>rfl
def rl_c{g:Sg}{v v':V}{l l':List V}(r:Rl g sh v v')(rs:Rl g shL l l'):Rl g shL (v::l) (v'::l'):=λd hd=>by rw[r d hd,rs d hd];rfl
def rl_h{g:Sg}{v v':V}{l l':List V} (r:Rl g shL (v::l) (v'::l')):Rl g sh v v':=λd hd=>(List.cons.inj (r d hd)).1
def rl_t{g:Sg}{v v':V}{l l':List V} (r:Rl g shL (v::l) (v'::l')):Rl g shL l l':=λd hd=>(List.cons.inj (r d hd)).2
structure Run (tb:Tb) (H:Heap) (P:Nat->Prop) (g:Sg) (c:Cc.Heap) (K:Heap):Prop where
 st:St tb g c.abs K
 nx:H.next<=K.next
 pr:∀i,P i->i<H.next/\(∀j,g.nf j->g.e.f j≠i)/\K.get i=H.get i
section
variable {tb:Tb} {H K:Heap} {P:Nat->Prop} {g:Sg} {c:Cc.Heap}
def Run.frm(r:Run tb H P g c K){g':Sg}{c':Cc.Heap}{K':Heap}(s:St tb g' c'.abs K')(f:Frm g c.abs K g' c'.abs K'):Run tb H P g' c' K':=by
 refine⟨s,yax r.nx f.le,λi hi=>?_⟩;obtain⟨h1,h2,h3⟩:=r.pr i hi;have:=r.nx;refine⟨h1,λj hj e=>?_,?_⟩
 ·by_cases ho:g.nf j
  ·rw[(f.ex.f j ho).2]at e;exact h2 j ho e
  ·have:=f.ex.new j hj ho;omega
 ·rw[f.fr i (by omega) λj b hj e=>h2 j (r.st.kn j b hj).1 e];exact h3
def Run.base(r:Run tb H P g c K):Run tb K (λi=>i<K.next/\∀j,g.nf j->g.e.f j≠i) g c K:=⟨r.st,yah _,λi hi=>⟨hi.1,hi.2,rfl⟩⟩
variable {T:FuncId->Option Fn'} {sel:FuncId->List V->Bool} {O:Orc} {m:Nat} {l:List Step} {v:V} {vs:List V} {c2:Cc.Heap} {args args' env env':List V}
def Run.call(r:Run tb H P g c K)(hT:∀f ir,T f=some ir->ir.body.still=true)(hO:OrS tb T sel O){f:FuncId} (h:runs T sel O m (.call f args::l) c=some (v::vs,c2)) (ha:Rl g shL args args') (he:Rl g shL env env') :
  Ok (sem T f args') K λb K'=>∃g' c',Run tb H P g' c' K'/\runs T sel O m l c'=some (vs,c2)/\Rl g' shL (v::env) (b::env'):=by
 obtain⟨c1,h1,h2⟩:=zqA h;obtain⟨g',b,K',e1,s1,f1,r1⟩:=run_ok hT hO h1 r.st ha;exact⟨b,K',e1,g',c1,r.frm s1 f1,h2,rl_c r1 (he.mono f1.ex)⟩
def Run.ins(r:Run tb H P g c K){i:I}(hs:i.still=true) (h:runs T sel O m (.ins i args::l) c=some (v::vs,c2)) (ha:Rl g shL args args') (he:Rl g shL env env') :
  Ok (i.run (sem T) (params 0 args')) K λb K'=>∃g' c',Run tb H P g' c' K'/\runs T sel O m l c'=some (vs,c2)/\Rl g' shL (v::env) (b::env'):=by
 obtain⟨c1,h1,h2⟩:=zqA h;have h3:=Cc.sim_run (G:=λ_ _=>M.fail) (g:=fl) (λ_ _=>Cc.sim_fail) (params 0 args) i c v c1 h1;have hA:Rl g shF (params 0 args) (params 0 args'):=λd hd=>by rw[ha d hd,zoq]
 obtain⟨g',b,K',e1,s1,f1,r1⟩:=s_run (G:=λ_ _=>M.fail) (G':=sem T) (λf args args' g h K _ _=>zcL) r.st hA i hs v c1.abs h3;exact⟨b,K',e1,g',c1,r.frm s1 f1,h2,rl_c r1 (he.mono f1.ex)⟩
def Run.mark(r:Run tb H P g c K){m:Nat}{v:V}(hm:m<tb.R)(ht:tb.t m=c.next)(hv:v.one=true)(hP:tb.Pw m K.next K v)(he:Rl g shL env env') :
  ∃g',Run tb H P g' ⟨c.t,c.next+1⟩ K/\Rl g' shL (.lit (.int .i64 (m:Nat))::env) (v::env'):=by
 obtain⟨g',s1,f1,w1,w2⟩:=r.st.val (K':=K) (Grow.refl K) r.st.cl hm ht hP;have h0:(⟨c.t,c.next+1⟩:Cc.Heap).abs=news c.abs [none]:=rfl;refine⟨g',r.frm (c':=⟨c.t,c.next+1⟩) (by rw[h0];exact s1) (by rw[h0];exact f1),rl_c (λd hd=>?_) (he.mono f1.ex)⟩;have:=hd.2.2 m w1;show v=okw (d.w (((m:Nat):Int).toNat));rw[yan,this,w2];unfold okw;rw[if_pos hv]
def Run.upd(r:Run tb H P g c K){K':Heap} {l:List (Nat×Blk)} {n:Nat} (hc:K'.Cl) (hn:K.next<=K'.next) {S:List Nat} (hS:∀i∈S,∃j b,c.abs.get j=some b/\g.e.f j=i) (hf:∀i,i<K.next->i∉S->K'.get i=K.get i)
  (hl:∀p∈l,(∃b0,c.abs.get p.1=some b0)/\((c.abs.get p.1=some p.2/\g.e.f p.1∉S)\/∀d,Ag g d->K'.get (d.f p.1)=some (shB d p.2))) (ok:okC tb.R n l=true) (ht:∀m,m<tb.R->tb.t m<c.next->tb.t m<n) (he:Rl g shL env env') (oe:okNL (inl tb.R l) env=true) :
  ∃g',Run tb H P g' (mkc l n) K'/\Rl g' shL env env'/\g'.e=g.e/\∀i,g'.nf i<->g.nf i/\inl tb.R l i=true:=by
 obtain⟨g',s1,h1,h2,h3⟩:=r.st.upd hc hn hS hf hl ok ht;refine⟨g',⟨s1,yax r.nx hn,λi hi=>?_⟩,rl_keep h1 h2 h3 he oe,h1,h2⟩;obtain⟨q1,q2,q3⟩:=r.pr i hi;have:=r.nx;refine⟨q1,λj hj e=>?_,?_⟩
 ·rw[h1]at e;exact q2 j ((h2 j).1 hj).1 e
 ·rw[hf i (by omega) λhm=>?_]
  ·exact q3
  ·obtain⟨j,b,hj,e⟩:=hS i hm;exact q2 j (r.st.kn j b hj).1 e
def Run.keep(r:Run tb H P g c K) {l:List (Nat×Blk)} {n:Nat} (hl:∀p∈l,c.abs.get p.1=some p.2) (ok:okC tb.R n l=true) (ht:∀m,m<tb.R->tb.t m<c.next->tb.t m<n) (he:Rl g shL env env') (oe:okNL (inl tb.R l) env=true) :
  ∃g',Run tb H P g' (mkc l n) K/\Rl g' shL env env'/\g'.e=g.e/\∀i,g'.nf i<->g.nf i/\inl tb.R l i=true:=
 r.upd (S:=[]) r.st.cl (yah _) (λi hi=>by cases hi) (λi _ _=>rfl) (λp hp=>⟨⟨_,hl p hp⟩,.inl ⟨hl p hp,by simp⟩⟩) ok ht he oe
def map_get {l:List (Nat×Blk)} {f:Nat->Option Blk} (h:(l.map λp=>some p.2)=(l.map (·.1)).map f):∀p∈l,f p.1=some p.2:=by
 induction l with
 | nil=>intro p hp;cases hp
 | cons q l ih=>
  simp only[yaV,yby]at h;intro p hp;rcases yap.1 hp with rfl|hp
  ·exact h.1.symm
  ·exact ih h.2 p hp
def runs_nil{c c2:Cc.Heap}{vs:List V} (h:runs T sel O m [] c=some (vs,c2)):c2=c/\vs=[]:=by
 unfold runs at h;simp only[yaa,yad]at h;exact⟨h.2.symm,h.1.symm⟩
def rl_p{i o:Nat}{b:V} (r:Rl g sh (.ptr i o) b):∃A,b = .ptr A o/\A=g.e.f i:=⟨_,r g.e (Ag.self g),rfl⟩
def rl_tup2{x y b:V} (r:Rl g sh (.tup [x,y]) b):∃X Y,b = .tup [X,Y]/\Rl g sh x X/\Rl g sh y Y:=by
 refine⟨sh g.e x,sh g.e y,r g.e (Ag.self g),λd hd=>?_,λd hd=>?_⟩
 ·have h:=(r g.e (Ag.self g)).symm.trans (r d hd);simp only[sh,shL,V.tup.injEq,yby,and_true]at h;exact h.1
 ·have h:=(r g.e (Ag.self g)).symm.trans (r d hd);simp only[sh,shL,V.tup.injEq,yby,and_true]at h;exact h.2
end
def tb0(n:Nat):Tb:=⟨0,n,yaE _,λ_=>0,λ_=>0,λ_ _ _ _=>False,λ_ _ _ _=>False⟩
def ns:FuncId->List V->Bool:=λ_ _=>false
def no:Orc:=λ_ _ _=>none
def no_ok{T:FuncId->Option Fn'}{n:Nat}:OrS (tb0 n) T ns no:=λf args args' g h K v nb hs=>by cases hs
def nmO(s:List Nat)(w:Nat->V):Nm:=⟨λi=>s.getD i 0,w,λ_=>0⟩
def wA:Nat->V:=λ_=>.any
def plc:Nat->List Blk->List (Nat×Blk)
 | _,[]=>[]
 | n,b::l=>(n,b)::plc (n+1) l
def zr5:∀{n:Nat} {bs:List Blk} {i:Nat} {b:Blk},(i,b)∈plc n bs->n<=i/\bs[i-n]?=some b
 | n,[],i,b,h=>by cases h
 | n,c::bs,i,b,h=>by
  rcases yap.1 h with h|h
  ·injection h with h1 h2
   subst h1 h2;exact⟨yah _,by rw[ycw];rfl⟩
  ·obtain⟨h1,h2⟩:=zr5 h;refine⟨by omega,?_⟩;rw[show i-n=i-(n+1)+1 by omega,ybj];exact h2
def zwh:∀{n:Nat} {bs:List Blk} {i:Nat},n<=i->i<n+bs.length->((plc n bs).any λp=>Nat.beq p.1 i)=true
 | n,[],i,h,h'=>by rw[List.length_nil]at h';omega
 | n,c::bs,i,h,h'=>by
  rw[List.length_cons]at h';show(Nat.beq n i||(plc (n+1) bs).any _)=true;by_cases e:n=i
  ·subst e;rw[Nat.beq_refl];rfl
  ·rw[zwh (n:=n+1) (by omega) (by omega),ydi]
def hb(bs:List Blk):Cc.Heap:=mkc (plc 0 bs) bs.length
def zuI{s:List Nat}{w:Nat->V}{i:Nat}(h:i<s.length):(nmO s w).f i=s[i]:=by show s.getD i 0 = _;rw[yal,yae h];rfl
def gO(s:List Nat):Sg:=⟨nmO s wA,λi=>i<s.length,λ_=>False⟩
def gO_d{s:List Nat}{d:Nm} (hd:Ag (gO s) d) {l:List V} (ok:okNL (λi=>Nat.blt i s.length) l=true):shL (nmO s d.w) l=shL d l:=
 zgO (d:=nmO s d.w) (d':=d) hd.1.symm rfl (λi hi=>(hd.2.1 i (yau hi)).symm) l ok
def St.start{K:Heap}(hc:K.Cl){s:List Nat}{bs:List Blk}(nd:s.Nodup)(lt:∀j∈s,j<K.next)(hl:s.length=bs.length) (hg:∀w i (h:i<s.length) (h':i<bs.length),K.get s[i]=some (shB (nmO s w) bs[i])) (ok:(bs.all λb=>okNL (λi=>Nat.blt i s.length) b.cells)=true) :
  St (tb0 bs.length) (gO s) (hb bs).abs K:=by
 have nx:(hb bs).abs.next=bs.length:=zps _ _;have gt:∀i b,(hb bs).abs.get i=some b->bs[i]?=some b:=λi b h=>(zr5 ((zk4 _ _ i).1 b h)).2;have no:∀i,bs.length<=i->(gO s).nf i->False:=λi h (h':i<s.length)=>by omega
 refine⟨rfl,λi b h=>⟨?_,yaE _⟩,λi (hi:i<s.length)=>by omega,λ_ h=>h.elim,yaE _,λi j (hi:i<s.length) (hj:j<s.length) e=>?_,λi (hi:i<s.length)=>?_,λd hd i b hi=>?_,λi (hi:i<s.length) _ hn=>?_,hc,λi h1 h2=>(no i h1 h2).elim,λi h1 h2=>(no i h1 h2).elim,λi j h1 _ h2=>(no i h1 h2).elim,λm hm=>absurd hm (Nat.not_lt_zero _),λ_ h=>h.elim⟩
 ·obtain⟨h,-⟩:=yaw.1 (gt i b h);show i<s.length;omega
 ·have e:(nmO s wA).f i=(nmO s wA).f j:=e;rw[zuI hi,zuI hj]at e;exact(List.getElem_inj nd).1 e
 ·show(nmO s wA).f i < _;rw[zuI hi];exact lt _ (yaW _)
 ·obtain⟨h,e⟩:=yaw.1 (gt i b hi);have hs:i<s.length:=by omega
  have h0:=yaB.1 ok b (e ▸ yaW h);rw[show d.f i=s[i] from (hd.2.1 i hs).trans (zuI hs),hg d.w i hs h,e];unfold shB;rw[gO_d hd h0]
 ·obtain⟨b,hb'⟩:=(zk4 bs.length (plc 0 bs) i).2 (zwh (yaE _) (by omega));have hb':(hb bs).abs.get i=some b:=hb';rw[hb']at hn;cases hn
def lk(l:List Nat) (r:Option (V×Cc.Heap)):Option (V×List (Option Blk)):=r.map λq=>(q.1,l.map q.2.get)
def calls{T:FuncId->Option Fn'}(hT:∀f ir,T f=some ir->ir.body.still=true){f:FuncId}{args args':List V}{m:Nat}{v:V}{bs:List Blk} {l:List (Nat×Blk)} (h:lk (List.range bs.length++l.map Prod.fst) (cdo T ns no m f args (hb bs))=some (v,(bs++l.map Prod.snd).map some)) {K:Heap} (hc:K.Cl) {s:List Nat} (nd:s.Nodup) (lt:∀j∈s,j<K.next)
  (hl:s.length=bs.length) (hg:∀w i (h:i<s.length) (h':i<bs.length),K.get s[i]=some (shB (nmO s w) bs[i])) (ok:((args::bs.map Blk.cells).all λb=>okNL (λi=>Nat.blt i s.length) b)=true) (ea:∀w,args'=shL (nmO s w) args) (hv:(l.all λp=>Nat.ble bs.length p.1)=true) :
  Ok (sem T f args') K λr K'=>∃d:Nm,r=sh d v/\Grow K K'/\(∀p∈l,K'.get (d.f p.1)=some (shB d p.2)/\K.next<=d.f p.1)/\(∀p∈l,∀q∈l,(p.1<q.1->d.f p.1<d.f q.1)/\(p.1+1=q.1->d.f q.1=d.f p.1+1))/\K'.Cl:=by
 obtain⟨c,hcd,hs⟩:∃c,cdo T ns no m f args (hb bs)=some (v,c)/\(bs++l.map Prod.snd).map some=(List.range bs.length++l.map Prod.fst).map c.get:=by
  unfold lk at h;cases hr:cdo T ns no m f args (hb bs) with
  | none=>rw[hr]at h;cases h
  | some q=>
   rw[hr]at h;simp only[yas,yaa,yad]at h;obtain⟨rfl,h⟩:=h;exact⟨q.2,rfl,h.symm⟩
 simp only[yaC,ycA]at hs;obtain⟨h1,h2⟩:=List.append_inj hs (by simp);have k1:∀i (hi:i<bs.length),c.abs.get i=some bs[i]:=λi hi=>by
  have:=congrArg (λx=>x[i]?) h1;simp only[yaS,ybD hi,yae hi,yas]at this;exact(ydo this).symm
 have k2:∀p∈l,c.abs.get p.1=some p.2:=map_get (l:=l) (f:=c.get) (by rw[ycA];simpa [Function.comp_def]using h2);simp only[ybc,ycB,yam]at ok;have st:=St.start hc nd lt hl hg ok.2;obtain⟨g',b,K',e1,s1,f1,r1⟩:=run_ok hT no_ok hcd st (λd hd=>(ea d.w).trans (gO_d hd ok.1));have nw:∀p∈l,g'.nf p.1/\K.next<=g'.e.f p.1:=λp hp=>by
  have hn:=(s1.kn _ _ (k2 p hp)).1;have:=yau (yaB.1 hv p hp);exact⟨hn,f1.ex.new _ hn λ(h:p.1<s.length)=>by omega⟩
 refine⟨b,K',e1,g'.e,r1 _ (Ag.self g'),⟨f1.le,λi hi=>?_⟩,λp hp=>⟨s1.em _ (Ag.self g') _ _ (k2 p hp),(nw p hp).2⟩,λp hp q hq=>⟨λhlt=>s1.mono _ _ (yau (yaB.1 hv p hp)) hlt (nw p hp).1 (nw q hq).1,λe=>by
  have:=s1.seq _ (yau (yaB.1 hv p hp)) (nw p hp).1 (by rw[e];exact(nw q hq).1);rw[e]at this;exact this⟩,s1.cl⟩
 by_cases hx:i∈s
 ·obtain⟨j,hj,rfl⟩:=List.mem_iff_getElem.1 hx;have hj':j<bs.length:=by omega
  have:=s1.em _ (Ag.self g') _ _ (k1 j hj');rw[(f1.ex.f j hj).2,show(gO s).e.f j=s[j] from zuI hj]at this;rw[this,hg g'.e.w j hj hj'];have h0:=yaB.1 ok.2 bs[j] (yaW hj');have hd:Ag (gO s) g'.e:=(Ag.self g').mono f1.ex;unfold shB;rw[gO_d hd h0]
 ·exact f1.fr i hi λj b' hj e=>hx (by
   obtain⟨h,-⟩:=yaw.1 (show bs[j]?=some b' from (zr5 ((zk4 _ _ j).1 b' hj)).2);rw[<-e,show(gO s).e.f j=s[j]'(by omega) from zuI (by omega)];exact yaW _)
end Go.Ax.Y
/- St7 -/
namespace Go.Ax.SU
open Go.Ax Go.Proofs
def Has(H:Heap) (L:List (Nat×Blk)):Prop:=∀p∈L,H.get p.1=some p.2
def Has.lt{H:Heap} {L:List (Nat×Blk)} (h:Has H L) (hc:H.Cl):∀j∈L.map Prod.fst,j<H.next:=λj hj=>by
 obtain⟨p,hp,rfl⟩:=yaZ.1 hj;exact zbD hc (h p hp)
def Has.grow{H H':Heap} {L:List (Nat×Blk)} (h:Has H L) (hc:H.Cl) (g:Grow H H'):Has H' L:=λp hp=>(g.same p.1 (zbD hc (h p hp))).trans (h p hp)
def Has.atS{H H':Heap}{S:List Nat} {L:List (Nat×Blk)} (h:Has H L) (hc:H.Cl) (g:AtS S H H') (hS:∀i∈S,i∉L.map Prod.fst):Has H' L:=λp hp=>(g.same p.1 (zbD hc (h p hp)) λe=>hS _ e (ycq hp)).trans (h p hp)
def Has.app{H:Heap} {L L':List (Nat×Blk)} (h:Has H L) (h':Has H L'):Has H (L++L'):=λp hp=>(yaM.1 hp).elim (h p) (h' p)
def sh8(d:Y.Nm):∀l:List Nat,Y.shL d (l.map by8)=l.map by8
 | []=>rfl
 | x::l=>by show by8 x::Y.shL d (l.map by8)=by8 x::l.map by8;rw[sh8 d l]
def zsI{H:Heap}{d:Y.Nm}{lo k n:Nat}{l:List Nat} (g:H.get k=some (Y.shB d ⟨zab,l.map by8,some 1⟩)) (hc:H.Cl) (hk:lo<=k) (hn:l.length=n:=by rfl):By lo H (.sl k 0 n (.opn 1)) l:=by
 subst hn;unfold Y.shB at g;rw[sh8]at g;refine⟨?_,λi h=>?_,rfl⟩
 ·simp only[rcells,g,Option.bind_some,yag,yba,ya6,yaz];rw[if_pos (yah _),yaj (by rw[yag];exact yah _)]
 ·injection h with h
  subst h;exact⟨hk,zbD hc g⟩
def ziL{f:FuncId}{args args':List V}{m:Nat}{v:V}{bs:List Blk} {l:List (Nat×Blk)} (h:Y.lk (List.range bs.length++l.map Prod.fst) (Y.cdo T Y.ns Y.no m f args (Y.hb bs))=some (v,(bs++l.map Prod.snd).map some)) {H:Heap} (hc:H.Cl) {L:List (Nat×Blk)} (hL:Has H L) (nd:(L.map Prod.fst).Nodup) (hl:L.length=bs.length)
  (e:∀w,L.map Prod.snd=bs.map (Y.shB (Y.nmO (L.map Prod.fst) w))) (ok:((args::bs.map Blk.cells).all λb=>Y.okNL (λi=>Nat.blt i (L.map Prod.fst).length) b)=true) (ea:∀w,args'=Y.shL (Y.nmO (L.map Prod.fst) w) args) (hv:(l.all λp=>Nat.ble bs.length p.1)=true) :
  Ok (sem T f args') H λr H'=>∃d:Y.Nm,r=Y.sh d v/\(∀p∈l,H.next<=d.f p.1)/\(∀p∈l,∀q∈l,(p.1<q.1->d.f p.1<d.f q.1)/\(p.1+1=q.1->d.f q.1=d.f p.1+1))/\Has H' (l.map λp=>(d.f p.1,Y.shB d p.2))/\Grow H H'/\H'.Cl:=by
 refine zap (Y.calls hT h hc nd (hL.lt hc) (by rw[yag];exact hl) (λw i hi hi'=>?_) ok ea hv) ?_
 ·have hi:i<L.length:=by rw[yag]at hi;exact hi
  rw[ybQ,hL _ (yaW hi)];have h1:(L.map Prod.snd)[i]?=some (L[i]).2:=by rw[yaS,yae hi];rfl
  rw[e w,yaS,yae hi']at h1;exact h1.symm
 ·rintro r H' ⟨d,h1,h2,h3,h4,h5⟩;refine⟨d,h1,λp hp=>(h3 p hp).2,h4,λp hp=>?_,h2,h5⟩;obtain⟨q,hq,rfl⟩:=yaZ.1 hp;exact(h3 q hq).1
def strL(k:Nat):List (Nat×Blk):=[(k,⟨ze2,[.int .i64 2,.int .i64 2],none⟩),(k+1,⟨ze2,[.int .i64 0],none⟩),(k+2,⟨ze2,[.int .i64 2,.int .i64 2],none⟩),(k+3,⟨ze2,[.int .i64 2],none⟩),(k+4,⟨ze2,[.int .i64 2],none⟩),(k+5,⟨ze2,[.int .i64 1,.int .i64 0],none⟩),(k+6,⟨ze2,[.int .i64 1],none⟩),(k+7,⟨ze2,[.int .i64 1],none⟩),
 (k+8,⟨zfN,[.int .i64 0,.int .i64 0,.sl k 0 2 (.fix 2),.nils,.sl (k+1) 0 1 (.fix 1),.int .i64 0,.int .i64 0,.sl (k+2) 0 2 (.fix 2),.sl (k+3) 0 1 (.fix 1),.sl (k+4) 0 1 (.fix 1),.int .i64 0,.int .i64 1,.sl (k+5) 0 2 (.fix 2),.sl (k+6) 0 1 (.fix 1),.sl (k+7) 0 1 (.fix 1)],none⟩),(k+9,⟨ze2,[.int .i64 0,.int .i64 0],none⟩)]
def strV(k:Nat):List V:=[.int .i64 0,.int .i64 2,.sl (k+8) 0 3 (.fix 3),.int .i64 1,.sl (k+9) 0 2 (.fix 2),.nils]
def zhU{H:Heap}(hc:H.Cl):Ok (sem T zcm []) H λr H'=>∃k,r = .agg (strV k)/\H.next<=k/\Has H' (strL k)/\Grow H H'/\H'.Cl:=by
 refine zap (ziL (m:=5) (bs:=[]) (L:=[]) (l:=strL 1) (v:=.agg (strV 1)) (args:=[]) (by kernel_rfl) hc (λp hp=>by cases hp) List.nodup_nil rfl (λ_=>rfl) rfl (λ_=>rfl) rfl) ?_;rintro r H' ⟨d,rfl,h1,h2,h3,s,c⟩;have e:∀j,j<10->d.f (1+j)=d.f 1+j:=λj=>by
  induction j with
  | zero=>intro _;rfl
  | succ j ih=>
   intro hj;have hm:∀i,i<10->∃p∈strL 1,p.1=1+i:=λi hi=>by
    obtain⟨p,hp,e⟩:=ybT.1 (yaB.1 (show((List.range 10).all λi=>(strL 1).any λp=>Nat.beq p.1 (1+i))=true by rfl) i (ya0.2 hi));exact⟨p,hp,yaL e⟩
   obtain⟨p,hp,e1⟩:=hm j (by omega);obtain⟨q,hq,e2⟩:=hm (j+1) hj;have:=(h2 p hp q hq).2 (by omega);rw[e1,e2,ih (by omega)]at this;exact this
 have e1:=e 1 (by decide);have e2:=e 2 (by decide);have e3:=e 3 (by decide);have e4:=e 4 (by decide);have e5:=e 5 (by decide);have e6:=e 6 (by decide);have e7:=e 7 (by decide);have e8:=e 8 (by decide);have e9:=e 9 (by decide);refine⟨d.f 1,?_,h1 _ (.head _),?_,s,c⟩
 ·show V.agg [.int .i64 0,.int .i64 2,.sl (d.f (1+8)) 0 3 (.fix 3),.int .i64 1,.sl (d.f (1+9)) 0 2 (.fix 2),.nils] = _;rw[e8,e9];rfl
 ·have:(strL 1).map (λp=>(d.f p.1,Y.shB d p.2))=strL (d.f 1):=by
   simp only[strL,yaV,ybM,Y.shB,Y.shL,Y.sh,e1,e2,e3,e4,e5,e6,e7,e8,e9]
  rw[this]at h3;exact h3
def zgN{k:Nat}:∀j∈(strL k).map Prod.fst,k<=j/\j<=k+9:=by
 intro j hj;simp only[strL,yaV,ybM,yap,yat,or_false]at hj;omega
def zkT(k:Nat):((strL k).map Prod.fst).Nodup:=by
 simp[strL]
def strL2_nd{k k':Nat}(h:k+9<k'):((strL k++strL k').map Prod.fst).Nodup:=by
 rw[yaC,ycI];refine⟨zkT k,zkT k',λa ha b hb=>?_⟩;have:=zgN a ha;have:=zgN b hb;omega
def frA(st en:Bool)(id f:Nat)(new:Bool)(S:List V)(a b c:V):List V:=[.bool st,.bool en,.int .i64 (id:Nat),.int .u16 (f:Nat),.bool new]++S++[.bool false,.int .u32 0,.bool false,.bool false,.bool false,a,b,c]
def nS:List V:=[.int .i64 0,.int .i64 0,.nils,.int .i64 0,.nils,.nils]
def frL(i j:Nat):List (Nat×Blk):=[(i,⟨ze2,[.int .i64 2,.int .i64 2],some 1⟩),(j,⟨ze2,[.int .i64 0],some 1⟩)]
def frL2(i j l:Nat):List (Nat×Blk):=[(i,⟨ze2,[.int .i64 1,.int .i64 0],some 1⟩),(j,⟨ze2,[.int .i64 1],some 1⟩),(l,⟨ze2,[.int .i64 1],some 1⟩)]
def ddB(st en:Bool)(id f:Nat)(new:Bool):List Nat:=[(if st then 128 else 0)+(if en then 64 else 0)+id,0,f]++if new then [128,1,30,169,17,65,1,8] else []
def of_new{H:Heap}{k k' f:Nat}(hc:H.Cl) (h1:Has H (strL k)) (h2:Has H (strL k')) (hk:k+9<k') (hf:f=0\/f=1) :
  Ok (sem T zfY [.agg (frA false false 0 f true (strV k) .nils .nils .nils),.agg (strV k')]) H λr H'=>∃i j b,r = .tup [.agg [.int .i64 0,.int .i64 0,.sl i 0 2 (.opn 1),.nils,.sl j 0 1 (.opn 1)],b]/\H.next<=i/\i<j/\Has H' (frL i j)/\Grow H H'/\H'.Cl:=by
 refine zap (ziL (m:=30) (bs:=(strL 0).map Prod.snd++(strL 10).map Prod.snd) (l:=frL 73 75) (args:=[.agg (frA false false 0 f true (strV 0) .nils .nils .nils),.agg (strV 10)]) (v:=.tup [.agg [.int .i64 0,.int .i64 0,.sl 73 0 2 (.opn 1),.nils,.sl 75 0 1 (.opn 1)],.bool true]) (by rcases hf with rfl|rfl<;>kernel_rfl) hc (h1.app h2) (strL2_nd hk) rfl (λ_=>rfl) rfl (λ_=>rfl) rfl) ?_;rintro r H' ⟨d,rfl,h3,h4,h5,s,c⟩;exact⟨d.f 73,d.f 75,_,rfl,h3 _ (.head _),(h4 _ (.head _) _ (.tail _ (.head _))).1 (by decide),h5,s,c⟩
def of_two{H:Heap}{k':Nat}(hc:H.Cl) (h2:Has H (strL k')) :
  Ok (sem T zfY [.agg (frA false false 2 1 false nS .nils .nils .nils),.agg (strV k')]) H λr H'=>∃i j l b,r = .tup [.agg [.int .i64 0,.int .i64 1,.sl i 0 2 (.opn 1),.sl j 0 1 (.opn 1),.sl l 0 1 (.opn 1)],b]/\H.next<=i/\i<j/\j<l/\Has H' (frL2 i j l)/\Grow H H'/\H'.Cl:=by
 refine zap (ziL (m:=30) (bs:=(strL 0).map Prod.snd) (l:=frL2 63 65 67) (args:=[.agg (frA false false 2 1 false nS .nils .nils .nils),.agg (strV 0)]) (v:=.tup [.agg [.int .i64 0,.int .i64 1,.sl 63 0 2 (.opn 1),.sl 65 0 1 (.opn 1),.sl 67 0 1 (.opn 1)],.bool true]) (by kernel_rfl) hc h2 (zkT _) rfl (λ_=>rfl) rfl (λ_=>rfl) rfl) ?_;rintro r H' ⟨d,rfl,h3,h4,h5,s,c⟩;exact⟨d.f 63,d.f 65,d.f 67,_,rfl,h3 _ (.head _),(h4 _ (.head _) _ (.tail _ (.head _))).1 (by decide),(h4 _ (.tail _ (.head _)) _ (.tail _ (.tail _ (.head _)))).1 (by decide),h5,s,c⟩
def frL_nd{i j k':Nat}(h:i<j)(h':j<k'):((frL i j++strL k').map Prod.fst).Nodup:=by
 rw[yaC,ycI];refine⟨by simp[frL];omega,zkT k',λa ha b hb=>?_⟩;have:=zgN b hb;simp[frL]at ha;omega
def frL2_nd{i j l k':Nat}(h:i<j)(h1:j<l)(h':l<k'):((frL2 i j l++strL k').map Prod.fst).Nodup:=by
 rw[yaC,ycI];refine⟨by simp[frL2];omega,zkT k',λa ha b hb=>?_⟩;have:=zgN b hb;simp[frL2]at ha;omega
def frLk_nd{k i j k':Nat}(hk:k+9<i)(h:i<j)(h':j<k'):((strL k++(frL i j++strL k')).map Prod.fst).Nodup:=by
 rw[yaC,ycI];refine⟨zkT k,frL_nd h h',λa ha b hb=>?_⟩;have:=zgN a ha;rw[yaC,yaM]at hb;rcases hb with hb|hb
 ·simp[frL]at hb;omega
 ·have:=zgN b hb;omega
def ddb_new{H:Heap}{k i j k' f:Nat}{en:Bool}(hc:H.Cl) (h1:Has H (strL k)) (h3:Has H (frL i j)) (h2:Has H (strL k')) (hk:k+9<i) (hi:i<j) (hj:j<k') (hf:f=0\/f=1) :
  Ok (sem T zbA [.agg (frA true en 0 f true (strV k) (.sl i 0 2 (.opn 1)) .nils (.sl j 0 1 (.opn 1))),.agg (strV k')]) H λr H'=>∃v,r = .tup [v,.int .i64 0]/\By H.next H' v (ddB true en 0 f true)/\Grow H H'/\H'.Cl:=by
 refine zap (ziL (m:=40) (bs:=(strL 0).map Prod.snd++((frL 10 11).map Prod.snd++(strL 12).map Prod.snd)) (l:=[(177,⟨zab,(ddB true en 0 f true).map by8,some 1⟩)]) (args:=[.agg (frA true en 0 f true (strV 0) (.sl 10 0 2 (.opn 1)) .nils (.sl 11 0 1 (.opn 1))),.agg (strV 12)]) (v:=.tup [.sl 177 0 11 (.opn 1),.int .i64 0]) (by rcases hf with rfl|rfl<;>cases en<;>kernel_rfl) hc (h1.app (h3.app h2)) (frLk_nd hk hi hj) rfl (λ_=>rfl) rfl (λ_=>rfl) rfl) ?_;rintro r H' ⟨d,rfl,h4,-,h5,s,c⟩;exact⟨_,rfl,zsI (h5 _ (.head _)) c (h4 _ (.head _)),s,c⟩
def ddb_mid{H:Heap}{i j k' f:Nat}{en:Bool}(hc:H.Cl) (h3:Has H (frL i j)) (h2:Has H (strL k')) (hi:i<j) (hj:j<k') (hf:f=0\/f=1) :
  Ok (sem T zbA [.agg (frA false en 0 f false nS (.sl i 0 2 (.opn 1)) .nils (.sl j 0 1 (.opn 1))),.agg (strV k')]) H λr H'=>∃v,r = .tup [v,.int .i64 0]/\By H.next H' v (ddB false en 0 f false)/\Grow H H'/\H'.Cl:=by
 refine zap (ziL (m:=40) (bs:=(frL 0 1).map Prod.snd++(strL 2).map Prod.snd) (l:=[(92,⟨zab,(ddB false en 0 f false).map by8,some 1⟩)]) (args:=[.agg (frA false en 0 f false nS (.sl 0 0 2 (.opn 1)) .nils (.sl 1 0 1 (.opn 1))),.agg (strV 2)]) (v:=.tup [.sl 92 0 3 (.opn 1),.int .i64 0]) (by rcases hf with rfl|rfl<;>cases en<;>kernel_rfl) hc (h3.app h2) (frL_nd hi hj) rfl (λ_=>rfl) rfl (λ_=>rfl) rfl) ?_;rintro r H' ⟨d,rfl,h4,-,h5,s,c⟩;exact⟨_,rfl,zsI (h5 _ (.head _)) c (h4 _ (.head _)),s,c⟩
def zxx{H:Heap}{i j l k':Nat}{st en:Bool}(hc:H.Cl) (h3:Has H (frL2 i j l)) (h2:Has H (strL k')) (hi:i<j) (hj:j<l) (hl:l<k') :
  Ok (sem T zbA [.agg (frA st en 2 1 false nS (.sl i 0 2 (.opn 1)) (.sl j 0 1 (.opn 1)) (.sl l 0 1 (.opn 1))),.agg (strV k')]) H λr H'=>∃v,r = .tup [v,.int .i64 0]/\By H.next H' v (ddB st en 2 1 false)/\Grow H H'/\H'.Cl:=by
 refine zap (ziL (m:=40) (bs:=(frL2 0 1 2).map Prod.snd++(strL 3).map Prod.snd) (l:=[(95,⟨zab,(ddB st en 2 1 false).map by8,some 1⟩)]) (args:=[.agg (frA st en 2 1 false nS (.sl 0 0 2 (.opn 1)) (.sl 1 0 1 (.opn 1)) (.sl 2 0 1 (.opn 1))),.agg (strV 3)]) (v:=.tup [.sl 95 0 3 (.opn 1),.int .i64 0]) (by cases st<;>cases en<;>kernel_rfl) hc (h3.app h2) (frL2_nd hi hj hl) rfl (λ_=>rfl) rfl (λ_=>rfl) rfl) ?_;rintro r H' ⟨d,rfl,h4,-,h5,s,c⟩;exact⟨_,rfl,zsI (h5 _ (.head _)) c (h4 _ (.head _)),s,c⟩
def stX(a id:Nat)(sv rv:V)(W:Nat->V)(snd rcv:V)(f q:Nat)(b o:Bool):List V:=[.int .i64 (a:Nat),.int .i64 (id:Nat),sv,rv,W 4,W 5,.bool true,W 7,W 8,W 9,W 10,W 11,W 12,W 13,W 14,W 15,W 16,W 17,W 18,W 19,W 20,W 21,snd,rcv,.int .i64 (f:Nat),.int .u16 (q:Nat),.bool b,.bool o,.int .i64 0,.int .u16 0,.bool false,.bool false,.int .i64 0,.int .u16 0,.bool false,.bool false]
def zrV{H:Heap}{s a id f q:Nat}{W:Nat->V}{sv rv snd rcv:V}{b o key:Bool}(hc:H.Cl) (hg:H.get s=some ⟨zag,stX a id sv rv W snd rcv f q b o,none⟩) (hk:key=true\/b=false) (hf:f=0\/f=1) :
  Ok (sem T zbG [.ptr s 24,.bool key]) H λr H'=>∃k i j,r = .agg (frA false false 0 f true (strV k) (.sl i 0 2 (.opn 1)) .nils (.sl j 0 1 (.opn 1)))/\H'.get s=some ⟨zag,stX a id sv rv W snd rcv f q true false,none⟩ /\
   H.next<=k/\k+9<i/\i<j/\Has H' (strL k)/\Has H' (frL i j)/\AtS [s] H H'/\H'.Cl:=by
 have hlt:=zbD hc hg;have w:IntKind.u16.wrap ((f:Nat):Int)=(f:Nat):=by rcases hf with rfl|rfl<;>rfl
 refine zeD ?_;unfold zdo uL uM uS uT uF uFM uNFM uNF uE uG uH uO uU uA uZ uR uK uc;refine ztl λq0 H1 e1 g1 s1 n1 c1=>?_;have c1:=c1 hc;have gs1:=(s1.same s hlt).trans hg;have l1:s<H1.next:=by omega
 unfold stX at gs1;rcases hk with rfl|rfl
 all_goals
  simp(disch:=first|omega|(simp only[RY]<;>omega)|decide)only[↓RD,RZ,eq_self,seval,RG,gs1,w,zby,ydi];rw[zaZ];generalize hX:Heap.set (Heap.set (Heap.new H1 _) _ _) s _=H2;have n2:H2.next=H1.next+1:=by rw[<-hX];rfl
  have g2s:H2.get s=some ⟨zag,stX a id sv rv W snd rcv f q true false,none⟩:=by rw[<-hX];exact zai _ _ _
  have g2q:H2.get H1.next=some ⟨zaK,frA false false 0 f false nS .nils .nils .nils,none⟩:=by rw[<-hX];exact(zaj _ _ (by omega)).trans (zai _ _ _)
  have a2:AtS [s] H1 H2:=by rw[<-hX];exact(Grow.atS ((Grow.new _ _).set (yah _) _) _).trans (AtS.set _ (by simp) _)
  have c2:H2.Cl:=by rw[<-hX];exact zcE (zcE (zes c1 _) (by rw[zad];omega) _) (by rw[zam,zad];omega) _
  clear hX;refine zaf (zhU c2) ?_;rintro _ H3 ⟨k,rfl,lk,hk,s3,c3⟩;have n3:=s3.next;have g3q:=(s3.same _ (by omega)).trans g2q;have g3s:=(s3.same _ (by omega)).trans g2s;simp only[frA,nS,ybS,yaU]at g3q;simp only[strV];simp(disch:=first|omega|(simp only[RY]<;>omega)|decide)only[↓RD,RZ,eq_self,seval,RG,g3q,zby];rw[zaZ];generalize hX:Heap.set H3 _ _=H4;have n4:H4.next=H3.next:=by rw[<-hX];rfl
  have g4q:H4.get H1.next=some ⟨zaK,frA false false 0 f true (strV k) .nils .nils .nils,none⟩:=by rw[<-hX];exact zai _ _ _
  have g4s:H4.get s=some ⟨zag,stX a id sv rv W snd rcv f q true false,none⟩:=by rw[<-hX];exact(zaj _ _ (by omega)).trans g3s
  have a4:AtS [H1.next] H3 H4:=by rw[<-hX];exact AtS.set _ (by simp) _
  have c4:H4.Cl:=by rw[<-hX];exact zcE c3 (by omega) _
  clear hX;refine zaf (zhU c4) ?_;rintro _ H5 ⟨k',rfl,lk',hk',s5,c5⟩;have n5:=s5.next;have g5q:=(s5.same _ (by omega)).trans g4q;have g5s:=(s5.same _ (by omega)).trans g4s;have hk4:=hk.atS c3 a4 (by simp only[yaq];rintro x rfl hx;have:=zgN _ hx;omega);have hk5:=hk4.grow c4 s5;simp(disch:=first|omega|(simp only[RY]<;>omega)|decide)only[↓RD,RZ,eq_self,seval,RG,g4q,g5q];have lk9:k+9<H4.next:=zbD c4 (hk4 (k+9,⟨ze2,[.int .i64 0,.int .i64 0],none⟩) (by simp[strL]));refine zaf (of_new c5 hk5 hk' (by omega) hf) ?_;rintro _ H6 ⟨i,j,b1,rfl,li,lij,hij,s6,c6⟩;have n6:=s6.next;have g6q:=(s6.same _ (by omega)).trans g5q;have g6s:=(s6.same _ (by omega)).trans g5s;simp only[frA,strV,ybS,yaU]at g6q;have l6:H1.next<H6.next:=by omega
  have l6':H1.next≠H6.next:=by omega
  have g6a:=((s6.same _ (by omega)).trans ((s5.same _ (by omega)).trans ((a4.same _ (by omega) (by simp;omega)).trans ((s3.same _ (by omega)).trans (a2.same q0 (by omega) (by simp;omega)))))).trans g1;have nq:q0≠H1.next:=by omega
  have nq':H1.next≠q0:=by omega
  have l0:q0<H6.next:=by omega
  have hlt0:q0≠H6.next:=by omega
  simp(disch:=first|omega|(simp only[RY]<;>omega)|decide)only[↓RD,RZ,eq_self,seval,RG,g6q,g6a,zby];generalize hX:Heap.set (Heap.set (Heap.set (Heap.new H6 _) _ _) _ _) _ _=H7;have n7:H7.next=H6.next+1:=by rw[<-hX];rfl
  have a7:AtS [H1.next,q0] H6 H7:=by rw[<-hX];exact((Grow.atS ((Grow.new _ _).set (yah _) _) _).trans (AtS.set _ (by simp) _)).trans (AtS.set _ (by simp) _)
  have c7:H7.Cl:=by rw[<-hX];exact zcE (zcE (zcE (zes c6 _) (by rw[zad];omega) _) (by rw[zam,zad];omega) _) (by rw[zam,zam,zad];omega) _
  clear hX;refine⟨k,i,j,rfl,g6s,by omega,by omega,lij,(hk5.grow c5 s6).atS c6 a7 ?_,hij.atS c6 a7 ?_,⟨by omega,λx hx hn=>?_⟩,c7⟩
  ·intro x hx hx';have:=zgN _ hx';simp at hx;omega
  ·intro x hx hx';simp[frL]at hx hx';omega
  ·have hn':x≠s:=by simpa using hn
   rw[a7.same x (by omega) (by simp;omega),s6.same x (by omega),s5.same x (by omega),a4.same x (by omega) (by simp;omega),s3.same x (by omega),a2.same x (by omega) hn,s1.same x (by omega)]
def zrU{H:Heap}{s a id q:Nat}{W:Nat->V}{sv rv snd rcv:V}(hc:H.Cl) (hg:H.get s=some ⟨zag,stX a id sv rv W snd rcv 1 q true false,none⟩) :
  Ok (sem T zbG [.ptr s 24,.bool false]) H λr H'=>∃i j l,r = .agg (frA false false 2 1 false nS (.sl i 0 2 (.opn 1)) (.sl j 0 1 (.opn 1)) (.sl l 0 1 (.opn 1)))/\H'.get s=some ⟨zag,stX a id sv rv W snd rcv 1 q true true,none⟩ /\
   H.next<=i/\i<j/\j<l/\Has H' (frL2 i j l)/\AtS [s] H H'/\H'.Cl:=by
 have hlt:=zbD hc hg;have w:IntKind.u16.wrap (((1:Nat):Nat):Int)=(1:Nat):=rfl;refine zeD ?_;unfold zdo uL uM uS uT uF uFM uNFM uNF uE uG uH uO uU uA uZ uR uK uc;refine ztl λq0 H1 e1 g1 s1 n1 c1=>?_;have c1:=c1 hc;have gs1:=(s1.same s hlt).trans hg;have l1:s<H1.next:=by omega
 unfold stX at gs1;simp(disch:=first|omega|(simp only[RY]<;>omega)|decide)only[↓RD,RZ,eq_self,seval,RG,gs1,w,zby,ydi];rw[zaZ];generalize hX:Heap.set (Heap.set (Heap.new H1 _) _ _) s _=H4;have n2:H4.next=H1.next+1:=by rw[<-hX];rfl
 have g4s:H4.get s=some ⟨zag,stX a id sv rv W snd rcv 1 q true true,none⟩:=by rw[<-hX];exact zai _ _ _
 have g4q:H4.get H1.next=some ⟨zaK,frA false false 2 1 false nS .nils .nils .nils,none⟩:=by rw[<-hX];exact(zaj _ _ (by omega)).trans (zai _ _ _)
 have a2:AtS [s] H1 H4:=by rw[<-hX];exact(Grow.atS ((Grow.new _ _).set (yah _) _) _).trans (AtS.set _ (by simp) _)
 have c4:H4.Cl:=by rw[<-hX];exact zcE (zcE (zes c1 _) (by rw[zad];omega) _) (by rw[zam,zad];omega) _
 clear hX;refine zaf (zhU c4) ?_;rintro _ H5 ⟨k',rfl,lk',hk',s5,c5⟩;have n5:=s5.next;have g5q:=(s5.same _ (by omega)).trans g4q;have g5s:=(s5.same _ (by omega)).trans g4s;simp(disch:=first|omega|(simp only[RY]<;>omega)|decide)only[↓RD,RZ,eq_self,seval,RG,g4q,g5q];refine zaf (of_two c5 hk') ?_;rintro _ H6 ⟨i,j,l,b1,rfl,li,lij,ljl,hij,s6,c6⟩;have n6:=s6.next;have g6q:=(s6.same _ (by omega)).trans g5q;have g6s:=(s6.same _ (by omega)).trans g5s;simp only[frA,nS,ybS,yaU]at g6q;have l6:H1.next<H6.next:=by omega
 have l6':H1.next≠H6.next:=by omega
 have g6a:=((s6.same _ (by omega)).trans ((s5.same _ (by omega)).trans (a2.same q0 (by omega) (by simp;omega)))).trans g1;have nq:q0≠H1.next:=by omega
 have nq':H1.next≠q0:=by omega
 have l0:q0<H6.next:=by omega
 have hlt0:q0≠H6.next:=by omega
 simp(disch:=first|omega|(simp only[RY]<;>omega)|decide)only[↓RD,RZ,eq_self,seval,RG,g6q,g6a,zby];generalize hX:Heap.set (Heap.set (Heap.set (Heap.new H6 _) _ _) _ _) _ _=H7;have n7:H7.next=H6.next+1:=by rw[<-hX];rfl
 have a7:AtS [H1.next,q0] H6 H7:=by rw[<-hX];exact((Grow.atS ((Grow.new _ _).set (yah _) _) _).trans (AtS.set _ (by simp) _)).trans (AtS.set _ (by simp) _)
 have c7:H7.Cl:=by rw[<-hX];exact zcE (zcE (zcE (zes c6 _) (by rw[zad];omega) _) (by rw[zam,zad];omega) _) (by rw[zam,zam,zad];omega) _
 clear hX;refine⟨i,j,l,rfl,g6s,by omega,by omega,by omega,hij.atS c6 a7 ?_,⟨by omega,λx hx hn=>?_⟩,c7⟩
 ·intro x hx hx';simp[frL2]at hx hx';omega
 ·have hn':x≠s:=by simpa using hn
  rw[a7.same x (by omega) (by simp;omega),s6.same x (by omega),s5.same x (by omega),a2.same x (by omega) hn,s1.same x (by omega)]
def u8(l:List Nat):List V:=l.map by8
def awT:Tabs:=⟨[.hm (u8 [111,119,110]) (u8 [115]),.ex (syms 0 0 32) (u8 [0,0,0,1,0,3]) 32],[(76,.key 1 768 (syms 1 0 32))]⟩
def aw_run:Ax.look [] (Y.cdo T selO (orc awT.fnd) 60 zbJ [] (Cc.hp (List.replicate 1 none)))=some (.bool true,[]):=by kernel_rfl
def awake_s{H:Heap}(hc:H.Cl):Ok (sem T zbJ []) H λr H'=>r = .bool true/\Grow H H'/\H'.Cl:=by
 obtain⟨s,ht⟩:=tab_ex (t:=awT) (q:=λ_=>[]) (by kernel_rfl) (λ_=>Ok8.nil) (λ_=>yaE _);refine zap (sym_ok ht (ws:=[]) (λm v hm=>by cases hm) (by decide) aw_run (args':=[]) (λd hd=>rfl) hc) ?_;rintro r H' ⟨g,h,st,rfl,-,gr,cl,-⟩;exact⟨rfl,gr,cl⟩
def lpT:Tabs:=⟨[
 .hm (u8 [111,119,110]) (u8 [97]),
 .ex (syms 0 0 32) (u8 [0,0,0,1,0,0]) 32,
 .hm (u8 [111,119,110]) (u8 [98]),
 .ex (syms 2 0 32) (u8 [0,0,0,1,0,0]) 32,
 .hm (u8 [112,97,105,114]) ([.lit (.int .u64 0)]),
 .ex (syms 4 0 32) (u8 [1,2]) 32,
 .se 2 1 (syms 5 0 32) 0 (u8 [2,1]) (syms 3 0 32),
 .hm ([]) (syms 1 0 32),
 .ex (syms 7 0 32) (u8 [83,70,114,97,109,101,32,49,46,48,32,82,97,116,99,104,101,116]) 32,
 .se 2 8 (syms 5 0 32) 0 (u8 [1,2]) (syms 8 0 32),
 .hm (u8 [111,119,110]) (u8 [99]),
 .ex (syms 10 0 32) (u8 [0,0,0,1,0,0]) 32,
 .ex (syms 4 0 32) (u8 [1,3]) 32,
 .se 2 2 (syms 12 0 32) 0 (u8 [3,1]) (syms 11 0 32),
 .ex (syms 4 0 32) (u8 [2,3]) 32,
 .se 2 2 (syms 14 0 32) 1 (u8 [3,2]) (syms 11 0 32),
 .hm ([]) (syms 8 0 32),
 .ex (syms 16 0 32) (u8 [83,70,114,97,109,101,32,49,46,48,32,82,97,116,99,104,101,116]) 32,
 .se 2 16 (syms 12 0 32) 1 (u8 [1,3]) (syms 17 0 32),
 .hm ([]) (syms 3 0 32),
 .ex (syms 19 0 32) (u8 [83,70,114,97,109,101,32,49,46,48,32,82,97,116,99,104,101,116]) 32,
 .se 2 9 (syms 14 0 32) 1 (u8 [2,3]) (syms 20 0 32)],[
 (0,.sl ([.lit (.int .u64 0)])),
 (27,.sl ([.lit (.int .u64 0)])),
 (32,.sl ([.lit (.int .u64 0)])),
 (102,.key 2 0 (syms 1 0 32)),
 (171,.key 2 1 (syms 3 0 32)),
 (200,.key 2 1 (syms 5 0 32)),
 (289,.key 2 8 (syms 8 0 32)),
 (324,.key 2 8 (syms 5 0 32)),
 (402,.key 2 1 (syms 5 0 32)),
 (464,.key 2 8 (syms 5 0 32)),
 (475,.sl ([.lit (.int .u64 0)])),
 (477,.any),
 (478,.any),
 (547,.key 2 2 (syms 11 0 32)),
 (578,.key 2 2 (syms 12 0 32)),
 (611,.key 2 2 (syms 14 0 32)),
 (724,.key 2 16 (syms 17 0 32)),
 (765,.key 2 16 (syms 12 0 32)),
 (825,.key 2 9 (syms 20 0 32)),
 (860,.key 2 9 (syms 14 0 32)),
 (945,.key 2 2 (syms 12 0 32)),
 (1013,.key 2 2 (syms 14 0 32)),
 (1113,.key 2 16 (syms 12 0 32)),
 (1138,.key 2 9 (syms 14 0 32))]⟩
def seQ(n k slot m a b c st:Nat):Nat->V
 | 4=>.int .i64 (n:Nat)|5=>.int .u64 (k:Nat)|7=>.int .i64 0|8=>.int .i64 (slot:Nat)|9=>.int .i64 (m:Nat)|10=>.int .i64 (a:Nat)|11=>.int .i64 (b:Nat)|12=>.int .i64 (c:Nat)|20=>.int .i64 (st:Nat)|21=>.int .i64 (-1)
 | _=>.int .i64 0
def stY(a id:Nat)(sv rv:V)(W:Nat->V)(snd rcv:V)(f:Nat)(q:V)(b o:Bool):List V:=[.int .i64 (a:Nat),.int .i64 (id:Nat),sv,rv,W 4,W 5,.bool true,W 7,W 8,W 9,W 10,W 11,W 12,W 13,W 14,W 15,W 16,W 17,W 18,W 19,W 20,W 21,snd,rcv,.int .i64 (f:Nat),q,.bool b,.bool o,.int .i64 0,.int .u16 0,.bool false,.bool false,.int .i64 0,.int .u16 0,.bool false,.bool false]
def sndY(id slot:Nat)(kv:V)(e st kid:Nat)(c:V):List V:=[.int .i64 (id:Nat),.int .i64 (slot:Nat),kv,.int .i64 (e:Nat),.int .i64 (st:Nat),.int .u64 (kid:Nat),c]
def rcvC(id c:Nat):List V:=[.int .i64 (id:Nat),.mp c,.mp (c+1),.mp (c+2)]
def lpR:List (Nat×Blk):=[
 (26,⟨zab,[.int .u8 97],some 1⟩),
 (31,⟨zab,[.int .u8 98],some 1⟩),
 (33,⟨zag,stY 2 2 (.sl 31 0 1 (.opn 1)) (.lit (.int .i64 2)) (seQ 1 1 1 3 1 2 0 0) (.ptr 147 0) (.ptr 151 0) 0 (.int .u16 0) false false,none⟩),
 (79,⟨tyC,[.agg [.int .i64 0,.int .i64 1],.ptr 409 0],none⟩),
 (80,⟨tyW,[],none⟩),
 (81,⟨tyK,[],none⟩),
 (82,⟨zaF,rcvC 2 79,none⟩),
 (147,⟨zaw,sndY 2 1 (.ptr 4 0) 0 0 1 (.int .u64 0),none⟩),
 (148,⟨tyC,[.agg [.int .i64 0,.int .i64 0],.ptr 471 0],none⟩),
 (149,⟨tyW,[],none⟩),
 (150,⟨tyK,[],none⟩),
 (151,⟨zaF,rcvC 2 148,none⟩),
 (408,⟨zab,(syms 3 0 32),some 1⟩),
 (409,⟨zas,[.int .i64 0,.sl 408 0 32 (.opn 1)],none⟩),
 (470,⟨zab,(syms 8 0 32),some 1⟩),
 (471,⟨zas,[.int .i64 1,.sl 470 0 32 (.opn 1)],none⟩),
 (474,⟨zab,[.int .u8 99],some 1⟩),
 (476,⟨zag,[.int .i64 3,.int .i64 2,.sl 474 0 1 (.opn 1),.lit (.int .i64 10),.int .i64 0,.int .u64 0,.bool false,.int .i64 0,.int .i64 0,.int .i64 0,.int .i64 0,.int .i64 0,.int .i64 0,.int .i64 0,.int .i64 0,.int .i64 0,.int .i64 0,.int .i64 0,.int .i64 0,.int .i64 0,.int .i64 0,.int .i64 0,.nilp,.nilp,.int .i64 0,.int .u16 0,.bool false,.bool false,.int .i64 0,.int .u16 0,.bool false,.bool false,.int .i64 0,.int .u16 0,.bool false,.bool false],none⟩)]
def lpA:List (Nat×Blk):=[
 (28,⟨zag,stY 1 2 (.sl 26 0 1 (.opn 1)) (.lit (.int .i64 1)) (seQ 1 1 0 3 1 2 0 1) (.ptr 78 0) (.ptr 82 0) 0 (.int .u16 0) false false,none⟩),
 (78,⟨zaw,sndY 2 0 (.ptr 6 0) 0 1 8 (.int .u64 0),none⟩)]++lpR
def lpA2:List (Nat×Blk):=[
 (28,⟨zag,stY 1 2 (.sl 26 0 1 (.opn 1)) (.lit (.int .i64 1)) (seQ 1 1 0 3 1 2 0 1) (.ptr 78 0) (.ptr 82 0) 1 (.lit (.int .i64 11)) true false,none⟩),
 (78,⟨zaw,sndY 2 0 (.ptr 6 0) 0 1 8 (.lit (.int .i64 12)),none⟩)]++lpR
def lpB:List (Nat×Blk):=[
 (26,⟨zab,[.int .u8 97],some 1⟩),
 (28,⟨zag,stY 1 2 (.sl 26 0 1 (.opn 1)) (.lit (.int .i64 1)) (seQ 1 2 0 7 1 2 3 2) (.ptr 78 0) (.ptr 82 0) 1 (.lit (.int .i64 11)) true false,none⟩),
 (31,⟨zab,[.int .u8 98],some 1⟩),
 (33,⟨zag,stY 2 2 (.sl 31 0 1 (.opn 1)) (.lit (.int .i64 2)) (seQ 1 2 1 7 1 2 3 1) (.ptr 147 0) (.ptr 151 0) 0 (.int .u16 0) false false,none⟩),
 (78,⟨zaw,sndY 2 0 (.ptr 16 0) 0 2 16 (.int .u64 0),none⟩),
 (79,⟨tyC,[.agg [.int .i64 0,.int .i64 1],.ptr 409 0],none⟩),
 (80,⟨tyW,[],none⟩),
 (81,⟨tyK,[],none⟩),
 (82,⟨zaF,rcvC 2 79,none⟩),
 (147,⟨zaw,sndY 2 1 (.ptr 18 0) 0 1 9 (.int .u64 0),none⟩),
 (148,⟨tyC,[.agg [.int .i64 0,.int .i64 0],.ptr 471 0],none⟩),
 (149,⟨tyW,[],none⟩),
 (150,⟨tyK,[],none⟩),
 (151,⟨zaF,rcvC 2 148,none⟩),
 (408,⟨zab,(syms 3 0 32),some 1⟩),
 (409,⟨zas,[.int .i64 0,.sl 408 0 32 (.opn 1)],none⟩),
 (470,⟨zab,(syms 8 0 32),some 1⟩),
 (471,⟨zas,[.int .i64 1,.sl 470 0 32 (.opn 1)],none⟩),
 (474,⟨zab,[.int .u8 99],some 1⟩),
 (476,⟨zag,stY 3 2 (.sl 474 0 1 (.opn 1)) (.lit (.int .i64 10)) (seQ 1 2 2 7 1 2 3 0) (.ptr 523 0) (.ptr 527 0) 0 (.int .u16 0) false false,none⟩),
 (523,⟨zaw,sndY 2 2 (.ptr 13 0) 0 0 2 (.int .u64 0),none⟩),
 (524,⟨tyC,[],none⟩),
 (525,⟨tyW,[],none⟩),
 (526,⟨tyK,[],none⟩),
 (527,⟨zaF,rcvC 2 524,none⟩),
 (633,⟨zab,(u8 [7,0,0,0,0,0,0,0,0,0,41,32]++syms 13 1 40),some 1⟩),
 (651,⟨zab,(u8 [7,0,1,0,0,0,0,0,0,0,41,33]++syms 15 1 40),some 1⟩),
 (653,⟨zal,[.sl 633 0 52 (.opn 1),.sl 651 0 52 (.opn 1)],some 1⟩),
 (786,⟨zab,(u8 [7,0,2,0,0,0,2,0,0,0,42,129,16]++syms 18 2 40),some 1⟩),
 (788,⟨zal,[.sl 786 0 53 (.opn 1)],some 1⟩),
 (881,⟨zab,(u8 [7,0,2,0,0,0,1,0,0,0,42,129,9]++syms 21 2 40),some 1⟩),
 (883,⟨zal,[.sl 881 0 53 (.opn 1)],some 1⟩)]
def lpC:List (Nat×Blk):=[
 (26,⟨zab,[.int .u8 97],some 1⟩),
 (28,⟨zag,stY 1 2 (.sl 26 0 1 (.opn 1)) (.lit (.int .i64 1)) (seQ 1 2 0 7 1 2 3 2) (.ptr 78 0) (.ptr 82 0) 1 (.lit (.int .i64 11)) true false,none⟩),
 (78,⟨zaw,sndY 2 0 (.ptr 16 0) 0 2 16 (.int .u64 0),none⟩),
 (79,⟨tyC,[.agg [.int .i64 0,.int .i64 1],.ptr 409 0,.agg [.int .i64 0,.int .i64 2],.ptr 952 0],none⟩),
 (80,⟨tyW,[],none⟩),
 (81,⟨tyK,[],none⟩),
 (82,⟨zaF,rcvC 2 79,none⟩),
 (408,⟨zab,(syms 3 0 32),some 1⟩),
 (409,⟨zas,[.int .i64 0,.sl 408 0 32 (.opn 1)],none⟩),
 (474,⟨zab,[.int .u8 99],some 1⟩),
 (476,⟨zag,stY 3 2 (.sl 474 0 1 (.opn 1)) (.lit (.int .i64 10)) (seQ 1 2 2 7 1 2 3 0) (.ptr 523 0) (.ptr 527 0) 0 (.int .u16 0) false false,none⟩),
 (523,⟨zaw,sndY 2 2 (.ptr 13 0) 0 0 2 (.int .u64 0),none⟩),
 (524,⟨tyC,[.agg [.int .i64 0,.int .i64 0],.ptr 1120 0,.agg [.int .i64 0,.int .i64 1],.ptr 1145 0],none⟩),
 (525,⟨tyW,[],none⟩),
 (526,⟨tyK,[],none⟩),
 (527,⟨zaF,rcvC 2 524,none⟩),
 (951,⟨zab,(syms 11 0 32),some 1⟩),
 (952,⟨zas,[.int .i64 0,.sl 951 0 32 (.opn 1)],none⟩),
 (1119,⟨zab,(syms 17 0 32),some 1⟩),
 (1120,⟨zas,[.int .i64 2,.sl 1119 0 32 (.opn 1)],none⟩),
 (1144,⟨zab,(syms 20 0 32),some 1⟩),
 (1145,⟨zas,[.int .i64 1,.sl 1144 0 32 (.opn 1)],none⟩)]
def lp0:V:=.lit (.int .i64 0)
def lp1S:List Y.Step:=[.call zcI [.int .i64 2,lp0],.ins (.slit zab 1 [.int .u8 0] [(0,1,.c (.int .u8 99))]) [],.ins (.remark zab (.s 0)) [.sl 472 0 1 (.fix 1)],.call zjE [.int .i64 3,.int .i64 2,.sl 472 0 1 (.fix 1),lp0]]
def lp2S:List Y.Step:=[.call zcg [.int .i64 2,.int .i64 0,.int .i64 7,.int .i64 0,.agg (u8 [1,2,3,0,0,0,0,0])],.call zbr [.agg [.int .i64 17,.int .i64 0,.int .i64 2,.int .i64 0,.int .i64 7,.int .i64 0,.sl 481 0 8 (.fix 8)]],.call zbt [.ptr 476 0,.sl 511 0 19 (.opn 1)],
 .call zbr [.agg [.int .i64 19,.int .i64 0,.int .i64 2,.int .i64 0,.int .i64 7,.int .i64 3,.nils]],.call zbt [.ptr 28 0,.sl 681 0 11 (.opn 1)],.call zbt [.ptr 33 0,.sl 681 0 11 (.opn 1)]]
def lp3S:List Y.Step:=[.call zaM [.int .i64 2,.sl 653 0 2 (.opn 1),.int .i64 0],.call zaW [.ptr 28 0,.sl 921 0 1 (.opn 1)],.call zaM [.int .i64 2,.sl 653 0 2 (.opn 1),.int .i64 1],.call zaW [.ptr 33 0,.sl 995 0 1 (.opn 1)],
 .call zaM [.int .i64 0,.sl 788 0 1 (.opn 1),.int .i64 2],.call zaM [.int .i64 1,.sl 883 0 1 (.opn 1),.int .i64 2],.ins (.append zal 1 24 (.s 0) (.s 1)) [.sl 1057 0 1 (.opn 1),.sl 1094 0 1 (.opn 1)],.call zaW [.ptr 476 0,.sl 1095 0 2 (.opn 1)]]
abbrev lpX(l:List Y.Step)(c:Cc.Heap):Option (List V×Cc.Heap):=Y.runs T selO (orc lpT.fnd) 60 l c
def lp_1:Y.seen (lpA.map (·.1)) (lpX lp1S (Cc.hp (List.replicate 24 none)))=some ([.tup [.ptr 28 0,.ptr 33 0],.sl 472 0 1 (.fix 1),.sl 472 0 1 (.fix 1),.tup [.ptr 476 0,.int .i64 0]],477,lpA.map λp=>some p.2):=by kernel_rfl
def lp_2:Y.seen (lpB.map (·.1)) (lpX lp2S (Y.mkc lpA2 479))=some ([.agg [.int .i64 17,.int .i64 0,.int .i64 2,.int .i64 0,.int .i64 7,.int .i64 0,.sl 481 0 8 (.fix 8)],.sl 511 0 19 (.opn 1),.sl 653 0 2 (.opn 1),.sl 681 0 11 (.opn 1),.sl 788 0 1 (.opn 1),.sl 883 0 1 (.opn 1)],884,lpB.map λp=>some p.2):=by kernel_rfl
def lp_3:Y.seen (lpC.map (·.1)) (lpX lp3S (Y.mkc lpB 885))=some ([.sl 921 0 1 (.opn 1),.nils,.sl 995 0 1 (.opn 1),.nils,.sl 1057 0 1 (.opn 1),.sl 1094 0 1 (.opn 1),.sl 1095 0 2 (.opn 1),.nils],1146,lpC.map λp=>some p.2):=by kernel_rfl
end Go.Ax.SU
/- Lk7 -/
namespace Go.Ax.SU
open Go.Ax
def kok_plc(p:Int×Int):kok (.st [.int,.int]) (eplc p)=true:=rfl
def zpy(n:Nat):kok .int (ekid n)=true:=rfl
def zx3{lo q st:Nat}{H:Heap}{base:List Nat}(h:ChainM lo H q st base):Ok (sem T zb7 [.ptr q 0]) H λr H'=>r = .int .i64 (st:Nat)/\H'=H:=by
 refine zh0 ?_;unfold zeE uNFM uR;obtain⟨bv,h1,h2,h3⟩:=h.mem;simp(disch:=omega)only[↓RD,RZ,h1]
def At_c_ok{lo q st n:Nat}{H:Heap}{base:List Nat}(h:ChainM lo H q st base)(hn:n<=31)(hst:st<=n):Ok (sem T zcx [.ptr q 0,.int .i64 (n:Nat)]) H λr H'=>∃v,r = .tup [v,.int .i64 0]/\By H.next H' v (zet base (n-st))/\Grow H H':=by
 refine zjs ?_;unfold zf2 uL uNFM uE uB uA uR uK uc;obtain⟨bv,h1,h2,h3⟩:=h.mem;have hw:=@zeC _ _ _ _ (@zqd H ((n:Nat):Int));rw[decide_eq_true (show 0<=((n:Nat):Int)/\((n:Nat):Int)<=31 by omega)]at hw;have d:decide (((n:Nat):Int)<((st:Nat):Int))=false:=decide_eq_false (by omega);have w1:IntKind.i64.wrap (((n:Nat):Int)-((st:Nat):Int))=((n-st:Nat):Int):=by rw[wrap_i64 (by omega) (by omega)];omega
 simp(disch:=omega)only[↓RD,RZ,hw,h1,d,w1];refine zaf (zvh h2 h.b8 h.bl (by omega)) ?_;rintro _ H1 ⟨v,rfl,hv,s1⟩;simp(disch:=omega)only[↓RD,RZ];exact⟨v,rfl,hv,s1⟩
def keyR(R:Rc)(n t kid:Nat)(base:List Nat):Ky:=(look kid R.ks).getD (drv R.id kid n t base)
def zfF(R:Rc)(n t kid:Nat)(base:List Nat):Rc:=match look kid R.ks with|some _=>R|none=>{ R with ks:=putl kid (drv R.id kid n t base) R.ks }
def key_ok{lo c n t kid:Nat}{H:Heap}{R:Rc}{bv:V}{base:List Nat}(hR:RcM H c R) (hsz:szs R.id=some (n,t)) (hk:kid<18446744073709551616) (hb:By lo H bv base) (b8:Ok8 base) (bl:base.length<=1099511627776) :
  Ok (sem T zch [.ptr (c+3) 0,.int .u64 (kid:Nat),bv]) H λr H'=>∃k,r = .tup [.ptr k 0,.int .i64 0]/\KeyM H' k (keyR R n t kid base)/\RcM H' c (zfF R n t kid base)/\AtS [c+1,c+2] H H':=by
 refine ziO ?_;unfold zft uL uNFM uE uB uA uR uK uc;have hr:=hR.rcd;have htop:=hR.top;obtain⟨lk,h3,h4⟩:=hR.ks;simp(disch:=omega)only[↓RD,RZ,hr];refine zk0 (ek:=ekid) (a:=kid) zpz (zpy _) h3 ?_;rw[zkd];rcases Al.look kid h4 with⟨a,b⟩|⟨k,K,a,b,hK⟩
 ·have e1:keyR R n t kid base=drv R.id kid n t base:=by unfold keyR;rw[b];rfl
  have e2:zfF R n t kid base = { R with ks:=putl kid (drv R.id kid n t base) R.ks }:=by unfold zfF;rw[b]
  have e3:Ax.eqr .ptr true (((none:Option Nat).map ptrv).getD .nilp) .nilp=some (.bool false):=rfl;rw[a,e1,e2];simp(disch:=omega)only[↓RD,RZ,e3,hr];refine zaf (zrq hsz hk hb b8 bl) ?_;rintro _ H1 ⟨s1,k,rfl,hK,hlow⟩;have hR1:=hR.grow s1;have hr1:=hR1.rcd;have n1:=s1.next;simp(disch:=omega)only[↓RD,RZ,hr1];obtain⟨lk',h3',h4'⟩:=hR1.ks;refine zow (ek:=ekid) (a:=kid) (v:=ptrv k) zpz (zpy _) h3' ?_;rw[zpl];simp(disch:=omega)only[↓RD,RZ];have a1:AtS [c+1,c+2] H1 (H1.set (c+2) (some ⟨tyK,encM ekid (mapv ptrv (putl kid k lk')),none⟩)):=AtS.set _ (by simp) _;have nn:∀i,i≠c+2->(H1.set (c+2) (some ⟨tyK,encM ekid (mapv ptrv (putl kid k lk')),none⟩)).get i=H1.get i:=λi hi=>zaj _ _ hi;have hS:∀i∈[c+1,c+2],i<c+4\/∃b,H1.get i=some b/\OddR b:=λi hi=>by simp at hi;omega
  have hO:∀i∈[c+1,c+2],∃b,H1.get i=some b/\Odd b:=λi hi=>by
   obtain⟨b,hb,ho⟩:=hR1.odd i (by simp at hi;omega) (by simp at hi;omega);exact⟨b,hb,ho.1⟩
  obtain⟨lc,h1,h2⟩:=hR1.ch;refine⟨k,rfl,hK.atS a1 hO,⟨by rw[zam];omega,(nn _ (by omega)).trans hr1,⟨lc,(nn _ (by omega)).trans h1,h2.mono λ_ _ g=>g.atS a1 hS⟩,(nn _ (by omega)).trans hR1.win,hR1.wr,⟨putl kid k lk',zai _ _ _,?_⟩⟩,(Grow.atS s1 _).trans a1⟩;exact Al.put (P:=λq x=>KeyM (H1.set (c+2) (some ⟨tyK,encM ekid (mapv ptrv (putl kid k lk')),none⟩)) q x) kid (hK.atS a1 hO) (h4'.mono λ_ _ g=>g.atS a1 hO)
 ·have e1:keyR R n t kid base=K:=by unfold keyR;rw[b];rfl
  have e2:zfF R n t kid base=R:=by unfold zfF;rw[b]
  have e3:Ax.eqr .ptr true (.ptr k 0) .nilp=some (.bool true):=rfl;have e4:((some k:Option Nat).map ptrv).getD .nilp = .ptr k 0:=rfl;rw[a,e1,e2,e4];simp(disch:=omega)only[↓RD,RZ,e3];exact⟨k,rfl,hK,hR,AtS.refl _ _⟩
inductive GR
 | err (e:Nat)
 | got (e st sl c:Nat) (p:List Nat)
def grv(H0 H:Heap)(r:V):GR->Prop
 | .err e=>r = .tup [.agg [.int .i64 0,.int .i64 0,.int .i64 0,.int .u64 0,.nils],.int .i64 (e:Nat)]
 | .got e st sl c p=>∃v,r = .tup [.agg [.int .i64 (e:Nat),.int .i64 (st:Nat),.int .i64 (sl:Nat),.int .u64 (c:Nat),v],.int .i64 0]/\By H0.next H v p
def winR(R:Rc)(k:Nat):WS:=(look k R.win).getD (false,0,0)
def zeJ(R:Rc)(n t:Nat)(m b:List Nat):Rc×GR:=
 match parse b with
 | .err e=>(R,.err e)
 | .ok k c _=>
  if 16777216<=k then (R,.err 2) else
  match look (((k/256:Nat):Int),((k%8:Nat):Int)) R.ch with
  | none=>(R,.err 10)
  | some (st,base)=>
   if k%256/8<st then (R,.err 10) else
   if mayW (winR R k) c≠0 then (R,.err (mayW (winR R k) c)) else
   match zmM (keyR R n t k (zet base (k%256/8-st))) b m with
   | .err e=>(zfF R n t k (zet base (k%256/8-st)),.err e)
   | .ok p _=>({ zfF R n t k (zet base (k%256/8-st)) with win:=putl k (zhF (winR R k) c) R.win },.got (k/256) (k%256/8) (k%8) c p)
def zw3(R:Rc)(n t kid:Nat)(base:List Nat):(zfF R n t kid base).win=R.win:=by unfold zfF;split<;>rfl
def ztC(R:Rc)(n t kid:Nat)(base:List Nat):(zfF R n t kid base).ch=R.ch:=by unfold zfF;split<;>rfl
def ztB(R:Rc)(n t kid:Nat)(base:List Nat):(zfF R n t kid base).id=R.id:=by unfold zfF;split<;>rfl
def ztw{α β:Type}[DecidableEq α]{a:α}{b:β}:∀{l:List (α×β)},look a l=some b->(a,b)∈l
 | [],h=>by cases h
 | (k,v)::l,h=>by
  simp only[look]at h;split at h
  ·rename_i e;subst e;injection h with h
   subst h;exact yaT
  ·exact yaQ _ (ztw h)
def ztr{α β:Type}[DecidableEq α]{a:α}{b:β}{p:α×β}:∀{l:List (α×β)},p∈putl a b l->p=(a,b)\/p∈l
 | [],h=>by simp[putl]at h;exact .inl h
 | (k,v)::l,h=>by
  simp only[putl]at h;split at h
  ·rcases yap.1 h with h|h
   ·exact .inl h
   ·exact .inr (yaQ _ h)
  ·rcases yap.1 h with h|h
   ·exact .inr (h ▸ yaT)
   ·rcases ztr h with h|h
    ·exact .inl h
    ·exact .inr (yaQ _ h)
def winR_r{R:Rc}(h:∀p∈R.win,wsR p.2)(k:Nat):wsR (winR R k):=by
 unfold winR;cases hl:look k R.win with
 | none=>exact⟨by decide,by decide⟩
 | some w=>exact h _ (ztw hl)
def markW_r{w:WS}{n:Nat}(hw:wsR w)(hn:n<18446744073709551616)(hm:mayW w n=0):wsR (zhF w n):=by
 obtain⟨a,hi,se⟩:=w;obtain⟨h1,h2⟩:=hw;dsimp only at h1 h2;unfold zhF;dsimp only;split
 ·exact⟨hn,show(1:Nat)<18446744073709551616 by decide⟩
 ·rename_i ha;have ha:a=true:=by simpa using ha
  subst ha;split
  ·exact⟨hn,ycf (n:=64) (ybd _ (by decide)) (by decide)⟩
  ·rename_i h3;have h4:=ztt hm rfl h3;dsimp only at h4;exact⟨h1,ycf (n:=64) h2 (ycW (by decide) (by omega))⟩
def zte{b:List Nat}{e:Nat}(hp:parse b = .err e):e≠0:=by
 unfold parse at hp;split at hp
 ·injection hp with hp;omega
 ·dsimp only at hp;split at hp
  ·injection hp with hp;omega
  ·split at hp
   ·cases hp
   ·injection hp with hp;omega
def open_err{K:Ky}{b m:List Nat}{e:Nat}(h:zmM K b m = .err e):e≠0:=by
 unfold zmM at h;cases hp:parse b with
 | err e'=>rw[hp]at h;injection h with h;subst h;exact zte hp
 | ok kid c n=>
  rw[hp]at h;dsimp only at h;split at h
  ·injection h with h;omega
  ·split at h
   ·injection h with h;omega
   ·split at h
    ·injection h with h;omega
    ·split at h
     ·cases h
     ·injection h with h;omega
def neqz{e:Nat}(h:e≠0):(((e:Nat):Int)==0)=false:=by
 have:¬((e:Nat):Int)=0:=by omega
 simpa using this
def AtS.setn{S:List Nat}{H H':Heap}(h:AtS S H H'){q:Nat}(hq:H.next<=q)(b:Option Blk):AtS S H (H'.set q b):=
 ⟨by rw[zam];exact h.next,λi hi hs=>by rw[zaj _ _ (by omega)];exact h.same i hi hs⟩
def zsi{cs:List V}(h:∀v∈cs,∀n,v≠.int .u8 n):OddR ⟨zaC,cs,none⟩:=
 ⟨⟨show zaC≠zaN by decide,show zaC≠zaQ by decide,show zaC≠zax by decide,h⟩,show zaC≠zab by decide,show zaC≠zas by decide⟩
def OpenR_ok{lo1 lo2 c n t:Nat}{H:Heap}{R:Rc}{mv bv:V}{m b:List Nat}(hR:RcM H c R) (hsz:szs R.id=some (n,t)) (hm:By lo1 H mv m) (m8:Ok8 m) (hb:By lo2 H bv b) (b8:Ok8 b) (ml:m.length<=274877906944) (bl:b.length<=1099511627776)
  (hmp:∀i,mv.pid=some i->i<c\/c+4<=i) (hbp:∀i,bv.pid=some i->i<c\/c+4<=i) :
  Ok (sem T zb8 [.ptr (c+3) 0,mv,bv]) H λr H'=>grv H H' r (zeJ R n t m b).2/\RcM H' c (zeJ R n t m b).1/\AtS [c+1,c+2] H H':=by
 refine zh1 ?_;unfold zeF uL uM uS uT uNFM uNF uE uB uG uH uO uU uA uZ uR uc uq;have htop:=hR.top;refine zaL (zdw rfl ?_);rw[zaB];have s0:=Grow.new H ⟨zaC,[.int .i64 0,.int .i64 0,.int .i64 0,.int .u64 0,.nils],none⟩;have g0:(H.new ⟨zaC,[.int .i64 0,.int .i64 0,.int .i64 0,.int .u64 0,.nils],none⟩).get H.next=some ⟨zaC,[.int .i64 0,.int .i64 0,.int .i64 0,.int .u64 0,.nils],none⟩:=zae _ _;have n0:(H.new ⟨zaC,[.int .i64 0,.int .i64 0,.int .i64 0,.int .u64 0,.nils],none⟩).next=H.next+1:=zad _ _;generalize hq:H.next=q at *;generalize H.new _=H0 at *;have hR0:=hR.grow s0;have hb0:=hb.ext s0;have hm0:=hm.ext s0;have fin:∀(H1:Heap) (R1:Rc) (cs:List V),RcM H1 c R1->AtS [c+1,c+2] H H1->H1.get q=some ⟨zaC,[.int .i64 0,.int .i64 0,.int .i64 0,.int .u64 0,.nils],none⟩ ->
   RcM (H1.set q (some ⟨zaC,cs,none⟩)) c R1/\AtS [c+1,c+2] H (H1.set q (some ⟨zaC,cs,none⟩)):=λH1 R1 cs h1 h2 h3=>
  ⟨h1.atS (AtS.set (S:=[q]) H1 (by simp) _) (λi hi=>by simp at hi;omega) λi hi=>by
   simp only[yaq]at hi;subst hi;exact⟨_,h3,zsi (by simp)⟩,h2.setn (by omega) _⟩
 have hpar:=@zeC _ _ _ _ (zo1 hb0 b8 (by omega));cases hp:parse b with
 | err e=>
  have eo:zeJ R n t m b=(R,.err e):=by unfold zeJ;rw[hp]
  rw[hp]at hpar;have e0:=neqz (zte hp);rw[eo];simp(disch:=first|omega|(simp only[RY]<;>omega)|decide)only[↓RD,RZ,eq_self,seval,hpar,phv,e0,ya7,g0];obtain⟨f1,f2⟩:=fin H0 R [.int .i64 0,.int .i64 0,.int .i64 0,.int .u64 0,.nils] hR0 (Grow.atS s0 _) g0;exact⟨rfl,f1,f2⟩
 | ok k ct hl=>
  rw[hp]at hpar;obtain⟨p1,p2,p3,p4⟩:=zws hp b8;have hpt:=@zeC _ _ _ _ (@zq1 H0 k p3);by_cases h1:16777216<=k
  ·have eo:zeJ R n t m b=(R,.err 2):=by unfold zeJ;rw[hp];dsimp only;rw[if_pos h1]
   have ep:zmH k = .tup [.int .i64 0,.int .i64 0,.int .i64 0,.bool false]:=by unfold zmH;rw[if_pos h1]
   rw[ep]at hpt;rw[eo];simp(disch:=first|omega|(simp only[RY]<;>omega)|decide)only[↓RD,RZ,eq_self,seval,hpar,phv,hpt,g0];obtain⟨f1,f2⟩:=fin H0 R [.int .i64 0,.int .i64 0,.int .i64 0,.int .u64 0,.nils] hR0 (Grow.atS s0 _) g0;exact⟨rfl,f1,f2⟩
  ·have ep:zmH k = .tup [.int .i64 (k/256:Nat),.int .i64 (k%256/8:Nat),.int .i64 (k%8:Nat),.bool true]:=by unfold zmH;rw[if_neg h1]
   rw[ep]at hpt;have hr0:=hR0.rcd;obtain⟨lc,c1,c2⟩:=hR0.ch;simp(disch:=first|omega|(simp only[RY]<;>omega)|decide)only[↓RD,RZ,eq_self,seval,hpar,phv,hpt,hr0];refine zk0 (ek:=eplc) (a:=(((k/256:Nat):Int),((k%8:Nat):Int))) keq_plc (kok_plc _) c1 ?_;rw[zkd];rcases Al.look (((k/256:Nat):Int),((k%8:Nat):Int)) c2 with⟨a1,a2⟩|⟨y,x,a1,a2,hch⟩
   ·have eo:zeJ R n t m b=(R,.err 10):=by unfold zeJ;rw[hp];dsimp only;rw[if_neg h1,a2]
    have e3:((none:Option Nat).map ptrv).getD .nilp = .nilp:=rfl;rw[eo,a1,e3];simp(disch:=first|omega|(simp only[RY]<;>omega)|decide)only[↓RD,RZ,eq_self,seval,g0];obtain⟨f1,f2⟩:=fin H0 R [.int .i64 0,.int .i64 0,.int .i64 0,.int .u64 0,.nils] hR0 (Grow.atS s0 _) g0;exact⟨rfl,f1,f2⟩
   ·obtain⟨st,base⟩:=x;dsimp only at hch;have e3:((some y:Option Nat).map ptrv).getD .nilp = .ptr y 0:=rfl;have hst:=@zeC _ _ _ _ (zx3 hch);rw[a1,e3];by_cases h2:k%256/8<st
    ·have eo:zeJ R n t m b=(R,.err 10):=by unfold zeJ;rw[hp];dsimp only;rw[if_neg h1,a2];dsimp only;rw[if_pos h2]
     have d:decide (((k%256/8:Nat):Int)<((st:Nat):Int))=true:=decide_eq_true (by omega);have d':decide (k%256/8<st)=true:=decide_eq_true h2;rw[eo];simp(disch:=first|omega|(simp only[RY]<;>omega)|decide)only[↓RD,RZ,eq_self,seval,hst,d,d',g0];obtain⟨f1,f2⟩:=fin H0 R [.int .i64 0,.int .i64 0,.int .i64 0,.int .u64 0,.nils] hR0 (Grow.atS s0 _) g0;exact⟨rfl,f1,f2⟩
    ·have d:decide (((k%256/8:Nat):Int)<((st:Nat):Int))=false:=decide_eq_false (by omega);have d':decide (k%256/8<st)=false:=decide_eq_false h2;simp(disch:=first|omega|(simp only[RY]<;>omega)|decide)only[↓RD,RZ,eq_self,seval,hst,d,d',hr0];refine zk0 (ek:=ekid) (a:=k) zpz (zpy _) hR0.win ?_;rw[zkd];have ew:((look k R.win).map wsv).getD (.agg [.bool false,.int .u64 0,.int .u64 0])=wsv (winR R k):=by unfold winR;cases look k R.win<;>rfl
     rw[ew];have hwr:=winR_r hR0.wr k;have gz:=zae H0 ⟨zan,[.bool false,.int .u64 0,.int .u64 0],none⟩;have sz:=Grow.new H0 ⟨zan,[.bool false,.int .u64 0,.int .u64 0],none⟩;have nz:(H0.new ⟨zan,[.bool false,.int .u64 0,.int .u64 0],none⟩).next=H0.next+1:=zad _ _;refine zaL (zdw rfl ?_);rw[zaB];generalize hqw:H0.next=q1 at *;generalize H0.new _=Hz at *;refine zaL (ztn gz (by rfl) (by decide) (by rfl) ?_);have s1:Grow H0 (Hz.set q1 (some ⟨zan,[.bool (winR R k).1,.int .u64 ((winR R k).2.1:Nat),.int .u64 ((winR R k).2.2:Nat)],none⟩)):=sz.set (by omega) _;have g1:(Hz.set q1 (some ⟨zan,[.bool (winR R k).1,.int .u64 ((winR R k).2.1:Nat),.int .u64 ((winR R k).2.2:Nat)],none⟩)).get q1 = _:=zai _ _ _;have n1:(Hz.set q1 (some ⟨zan,[.bool (winR R k).1,.int .u64 ((winR R k).2.1:Nat),.int .u64 ((winR R k).2.2:Nat)],none⟩)).next=Hz.next:=rfl;show Ok _ (Hz.set q1 (some ⟨zan,[.bool (winR R k).1,.int .u64 ((winR R k).2.1:Nat),.int .u64 ((winR R k).2.2:Nat)],none⟩)) _;generalize hw:winR R k=W at *;generalize Heap.set Hz _ _=H1 at *;have hmay:=@zts H1 W ct hwr p4;obtain⟨wa,wh,ws⟩:=W;simp(disch:=first|omega|(simp only[RY]<;>omega)|decide)only[↓RD,RZ,eq_self,seval,g1];refine zaf hmay ?_;rintro _ H2 ⟨rfl,s2⟩;have s12:=s1.trans s2;have hR2:=hR0.grow s12;have g2:=(s12.same q (by omega)).trans g0;have gw2:=(s2.same q1 (by omega)).trans g1;have a02:=Grow.atS (s0.trans s12) [c+1,c+2];have n2:=s2.next;by_cases h3:mayW (wa,wh,ws) ct=0
     ·have e0:(((mayW (wa,wh,ws) ct:Nat):Int)==0)=true:=by rw[h3];rfl
      have hst31:k%256/8<=31:=by omega
      simp(disch:=first|omega|(simp only[RY]<;>omega)|decide)only[↓RD,RZ,eq_self,seval,e0,ybp];refine zaf (At_c_ok (hch.grow s12) hst31 (by omega)) ?_;rintro _ H3 ⟨v3,rfl,hv3,s3⟩;have n3:=s3.next;have B8:=ztZ hch.b8 (k%256/8-st);have Bl:=zoX (m:=1099511627) hch.bl (by decide) (k%256/8-st);generalize hB:zet base (k%256/8-st)=B at *;simp(disch:=first|omega|(simp only[RY]<;>omega)|decide)only[↓RD,RZ,eq_self,seval];refine zaf (key_ok (hR2.grow s3) hsz p3 hv3 B8 (by omega)) ?_;rintro _ H4 ⟨k4,rfl,hk4,hR4,a4⟩;have n4:=a4.next;have a04:=(a02.trans (Grow.atS s3 _)).trans a4;have nS:∀i,c+4<=i->i∉[c+1,c+2]:=λi hi=>by simp;omega
      have bS:∀{v:V},(∀i,v.pid=some i->i<c\/c+4<=i)->∀i,v.pid=some i->i∉[c+1,c+2]:=λh i hi=>by have:=h i hi;simp;omega
      have g4:=(a4.same q (by omega) (nS _ (by omega))).trans ((s3.same q (by omega)).trans g2);have gw4:=(a4.same q1 (by omega) (nS _ (by omega))).trans ((s3.same q1 (by omega)).trans gw2);have hb4:=Lc.atS ((hb0.ext s12).ext s3) a4 (bS hbp);have hm4:=Lc.atS ((hm0.ext s12).ext s3) a4 (bS hmp);simp(disch:=first|omega|(simp only[RY]<;>omega)|decide)only[↓RD,RZ,eq_self,seval];refine zaf (Open_ok hk4 hb4 b8 hm4 m8 ml bl) ?_;rintro _ H5 ⟨s5,h5⟩;have n5:=s5.next;have hR5:=hR4.grow s5;have g5:=(s5.same q (by omega)).trans g4;have gw5:=(s5.same q1 (by omega)).trans gw4;have a05:=a04.trans (Grow.atS s5 _);have eo0:zeJ R n t m b=match zmM (keyR R n t k B) b m with
        | .err e=>(zfF R n t k B,.err e)
        | .ok p _=>({ zfF R n t k B with win:=putl k (zhF (wa,wh,ws) ct) R.win },.got (k/256) (k%256/8) (k%8) ct p):=by
       unfold zeJ;rw[hp];dsimp only;rw[if_neg h1,a2];dsimp only;rw[if_neg h2,hw,hB,if_neg (λh=>h h3)]
      cases hop:zmM (keyR R n t k B) b m with
      | err e=>
       rw[hop]at h5 eo0;have h5:_ = _:=h5;subst h5;have e5:=neqz (open_err hop);rw[eo0];simp(disch:=first|omega|(simp only[RY]<;>omega)|decide)only[↓RD,RZ,eq_self,seval,e5,ya7,g5];obtain⟨f1,f2⟩:=fin H5 _ [.int .i64 0,.int .i64 0,.int .i64 0,.int .u64 0,.nils] hR5 a05 g5;exact⟨rfl,f1,f2⟩
      | ok p c'=>
       rw[hop]at h5 eo0;obtain⟨v5,rfl,hv5⟩:=h5;have hr5:=hR5.rcd;have hmk:=@zwT H5 (wa,wh,ws) ct hwr p4;rw[eo0];simp(disch:=first|omega|(simp only[RY]<;>omega)|decide)only[↓RD,RZ,eq_self,seval,hr5,gw5];refine zaf hmk ?_;rintro _ H6 ⟨s6,h6,-⟩;have h6:=h6 h3;subst h6;have n6:=s6.next;have hR6:=hR5.grow s6;have hr6:=hR6.rcd;have e6:H6.get (c+3)=H5.get (c+3):=s6.same _ (by omega);have g6:=(s6.same q (by omega)).trans g5;have hw6:=hR6.win;rw[zw3]at hw6;have m1:=markW_r (n:=ct) hwr p4 h3;simp(disch:=first|omega|(simp only[RY]<;>omega)|decide)only[↓RD,RZ,eq_self,seval,e6];refine zow (ek:=ekid) (a:=k) (v:=wsv (zhF (wa,wh,ws) ct)) zpz (zpy _) hw6 ?_;rw[zpl];have a7:AtS [c+1,c+2] H6 (H6.set (c+1) (some ⟨tyW,encM ekid (mapv wsv (putl k (zhF (wa,wh,ws) ct) R.win)),none⟩)):=AtS.set _ (by simp) _;have g7:(H6.set (c+1) (some ⟨tyW,encM ekid (mapv wsv (putl k (zhF (wa,wh,ws) ct) R.win)),none⟩)).get (c+1) = _:=zai _ _ _;have nn:∀i,i≠c+1->(H6.set (c+1) (some ⟨tyW,encM ekid (mapv wsv (putl k (zhF (wa,wh,ws) ct) R.win)),none⟩)).get i=H6.get i:=λi hi=>zaj _ _ hi;have n7:(H6.set (c+1) (some ⟨tyW,encM ekid (mapv wsv (putl k (zhF (wa,wh,ws) ct) R.win)),none⟩)).next=H6.next:=rfl;generalize Heap.set H6 _ _=H7 at *;have hS:∀i∈[c+1,c+2],i<c+4\/∃b,H6.get i=some b/\OddR b:=λi hi=>by simp at hi;omega
       have hO:∀i∈[c+1,c+2],∃b,H6.get i=some b/\Odd b:=λi hi=>by
        obtain⟨b,hb,ho⟩:=hR6.odd i (by simp at hi;omega) (by simp at hi;omega);exact⟨b,hb,ho.1⟩
       obtain⟨lc',x1,x2⟩:=hR6.ch;obtain⟨lk',x3,x4⟩:=hR6.ks;have hR7:RcM H7 c { zfF R n t k B with win:=putl k (zhF (wa,wh,ws) ct) R.win }:=
        ⟨by have:=hR6.top;omega,(nn _ (by omega)).trans hr6,⟨lc',(nn _ (by omega)).trans x1,x2.mono λ_ _ g=>g.atS a7 hS⟩,g7,λp hp=>by
         rcases ztr hp with rfl|hp
         ·exact m1
         ·exact hR.wr p hp,⟨lk',(nn _ (by omega)).trans x3,x4.mono λ_ _ g=>g.atS a7 hO⟩⟩
       have gq7:=(nn q (by omega)).trans g6;have a07:=(a05.trans (Grow.atS s6 _)).trans a7;have hv7:=Lc.atS (hv5.ext s6) a7 λi hi=>nS i (by have:=(hv5.own i hi).1;omega);have vc:=hv7.cells1;have vo:=hv7.okc;simp(disch:=first|omega|(simp only[RY]<;>omega)|decide)only[↓RD,RZ,eq_self,seval,gq7,vc,vo];obtain⟨f1,f2⟩:=fin H7 _ [.int .i64 (k/256:Nat),.int .i64 (k%256/8:Nat),.int .i64 (k%8:Nat),.int .u64 (ct:Nat),v5] hR7 a07 gq7;refine⟨⟨v5,rfl,?_⟩,f1,f2⟩;exact(Lc.atS hv7 (AtS.set (S:=[q]) H7 (by simp) _) λi hi e=>by
        simp only[yaq]at e;have:=(hv5.own i hi).1;omega).low (by omega)
     ·have eo:zeJ R n t m b=(R,.err (mayW (wa,wh,ws) ct)):=by
       unfold zeJ;rw[hp];dsimp only;rw[if_neg h1,a2];dsimp only;rw[if_neg h2,hw,if_pos h3]
      have e0:=neqz h3;rw[eo];simp(disch:=first|omega|(simp only[RY]<;>omega)|decide)only[↓RD,RZ,eq_self,seval,e0,ya7,g2];obtain⟨f1,f2⟩:=fin H2 R [.int .i64 0,.int .i64 0,.int .i64 0,.int .u64 0,.nils] hR2 a02 g2;exact⟨rfl,f1,f2⟩
end Go.Ax.SU
/- Se1 -/
namespace Go.Ax.SU
open Go.Ax Go.Proofs
section
variable {t:Tabs} {s:Nat->Nat} {q:Nat->List Nat} {g:Y.Sg} {h K:Heap}
def zjT (st:Y.St (tbOf t s q) g h K) {i k:Nat} {b:Blk} {v:V} (hb:h.get i=some b) (hk:b.cells[k]?=some v):Y.Rl g Y.sh v (Y.sh g.e v):=λd hd=>by
 have h1:=st.em g.e (Y.Ag.self g) i b hb;have h2:=st.em d hd i b hb;rw[hd.2.1 i (st.kn i b hb).1,h1]at h2;simp only[Y.shB,yaa,Blk.mk.injEq,true_and,and_true]at h2;have h3:=Y.get_of (d:=g.e) hk;rw[h2,Y.get_of hk]at h3;injection h3 with h3
 exact h3.symm
def key_at(ht:TabV t s q) (st:Y.St (tbOf t s q) g h K) {i k m n0 id kid:Nat} {b:Blk} {bl:List V} (hb:h.get i=some b) (hk:b.cells[k]?=some (.ptr m 0)) (hm:t.ks[m]?=some (n0,.key id kid bl)) :
  ∃n tg lo,szs id=some (n,tg)/\KeyB lo K (g.e.f m) (drv id kid n tg (iv s q bl))/\∀j,t.ks.length<=j->j<n0->g.nf j->g.e.f j<lo:=by
 obtain⟨hf,-⟩:=Y.fnamed (zjT st hb hk);have hmR:m<(tbOf t s q).R:=(yaw.1 hm).1;obtain⟨-,lo,Hc,hP,sf,hl⟩:=st.mf m hmR hf;have hP:(match t.ks[m]? with|some (_,.key i kid bl)=>∃n tg,szs i=some (n,tg)/\KeyB lo Hc (g.e.f m) (drv i kid n tg (iv s q bl)) | _=>False):=hP;have et:(tbOf t s q).t m=n0:=by
  show(match t.ks[m]? with|some p=>p.1|none=>0)=n0;rw[hm]
 rw[hm]at hP;obtain⟨n,tg,h1,h2⟩:=hP;exact⟨n,tg,lo,h1,h2.keep ⟨sf.le,λi h1 h2=>sf.sm i h1 h2⟩,λj h3 h4 h5=>hl j h3 (by rw[et];exact h4) h5⟩
def zbY (st:Y.St (tbOf t s q) g h K) {i:Nat} {b:Blk} (hb:h.get i=some b):K.get (g.e.f i)=some (Y.shB g.e b)/\g.nf i/\g.e.f i<K.next/\t.ks.length<=i:=
 ⟨st.em g.e (Y.Ag.self g) i b hb,(st.kn i b hb).1,st.lt i (st.kn i b hb).1,(st.kn i b hb).2⟩
end
end Go.Ax.SU
/- Rtp1 -/
namespace Go.Ax.R7
open Go.Ax
def be(l:List Nat):Nat:=l.foldl (λa b=>a*256+b) 0
def be_snoc(l:List Nat)(b:Nat):be (l++[b])=be l*256+b:=by simp[be]
def be_lt(l:List Nat)(h:∀x∈l,x<256):be l<256 ^ l.length:=by
 have key:∀(l:List Nat),(∀x∈l,x<256)->∀l':List Nat,l=l'.reverse->be l<256 ^ l.length:=by
  intro l hl l' e;subst e
  induction l' with
  | nil=>simp[be]
  | cons b l' ih=>
   rw[ycG,be_snoc,yaf,yci,ybu];have h1:=ih λx hx=>hl x (by rw[ycG];exact ycn _ hx);have h2:=hl b (by simp);omega
 exact key l h l.reverse (by simp)
def or256(a b:Nat)(h:b<256):a*256 ||| b=a*256+b:=by
 have:=ybP (i:=8) (b:=b) h a;rw[ybn]at this;exact this.symm
abbrev By(lo:Nat)(H:Heap)(v:V)(l:List Nat):Prop:=Lc 1 lo H v (l.map by8) l.length
def Ok8(l:List Nat):Prop:=∀x∈l,x<256
def Ok8.take{l:List Nat}(h:Ok8 l)(n:Nat):Ok8 (l.take n):=λx hx=>h x (ybH hx)
def Ok8.drop{l:List Nat}(h:Ok8 l)(n:Nat):Ok8 (l.drop n):=λx hx=>h x (ybI hx)
def by_at{lo:Nat}{H:Heap}{v:V}{l:List Nat}(h:By lo H v l){i:Int}(h0:0<=i)(h1:i<l.length):∃p,(∀{k:IntKind},Ax.iaddr none 1 v (.int k i)=some p)/\LdR none H p (.int .u8 (l.getD i.toNat 0:Nat))/\p.pid=v.pid:=by
 obtain⟨p,hp,hl⟩:=h.at h0 h1;have hi:i.toNat<l.length:=by omega
 have e:((l.map by8).drop (i.toNat*1)).take 1=[by8 l[i.toNat]]:=by
  rw[ya6,<-yb8,yaN hi];rfl
 rw[e]at hl;refine⟨p,hp,λf Q=>?_,hl.pid.1⟩;rw[hl.ld0 (by simp)];have hg:l.getD i.toNat 0=l[i.toNat]:=by rw[yal,yae hi];rfl
 rw[hg];exact zoW
def zrz{lo:Nat}{H:Heap}{v:V}{l:List Nat}(h:By lo H v l){i:Int}(h0:0<=i)(h1:i<l.length):∃p,(∀{k:IntKind},Ax.iaddr none 1 v (.int k i)=some p)/\(∀H',By lo H' v l->LdR none H' p (.int .u8 (l.getD i.toNat 0:Nat)))/\p.pid=v.pid:=by
 obtain⟨p,hp,hl,hd⟩:=by_at h h0 h1;refine⟨p,hp,λH' h'=>?_,hd⟩;obtain⟨p',hp',hl',-⟩:=by_at h' h0 h1;have:p=p':=by
  have:=(hp (k:=.i64)).symm.trans (hp' (k:=.i64));simpa using this
 subst this;exact hl'
def by_slice{lo:Nat}{H:Heap}{v:V}{l:List Nat}(h:By lo H v l){x y:Int}(h0:0<=x)(h1:x<=y)(h2:y<=l.length) :
  ∃v',(∀{k k':IntKind},zat .sl 1 v (some (.int k x)) (some (.int k' y)) none=some v')/\(x=0->∀{k':IntKind},zat .sl 1 v none (some (.int k' y)) none=some v')/\(y=l.length->∀{k:IntKind},zat .sl 1 v (some (.int k x)) none none=some v') /\
   By lo H v' ((l.drop x.toNat).take (y.toNat-x.toNat))/\v'.pid=v.pid:=by
 obtain⟨v',a,b,c,d,e⟩:=h.slice h0 h1 h2;refine⟨v',a,b,c,?_,e⟩;have hl:((l.drop x.toNat).take (y.toNat-x.toNat)).length=y.toNat-x.toNat:=by rw[yao,yar];omega
 have:=d;rw[ya6,ya6,<-yb8,<-yb7]at this;unfold By;rw[hl];exact this
def getD_lt{l:List Nat}(h:Ok8 l)(i:Nat):l.getD i 0<256:=by
 rw[yal];cases e:l[i]? with
 | none=>simp
 | some x=>exact h x (ybb e)
def take_snoc{l:List Nat}{i:Nat}(h:i<l.length):l.take (i+1)=l.take i++[l.getD i 0]:=by
 rw[yb0,yae h,yal,yae h];rfl
def be_take_lt{l:List Nat}(h:Ok8 l){i n:Nat}(hi:i<=n):be (l.take i)<256 ^ n:=by
 have h1:=be_lt _ (h.take i);have h2:256 ^ (l.take i).length<=256 ^ n:=ybB (by decide) (by rw[yao];omega);omega
def zoI{lo:Nat}{H:Heap}{v:V}{l:List Nat}(h:By lo H v l)(h8:Ok8 l)(hn:l.length<=4):Ok (sem T zc3 [v]) H λr H'=>r = .int .u32 (be l:Nat)/\H'=H:=by
 refine zuC ?_;unfold zrg uL uR uc ug;simp(maxSteps:=1000000) (disch:=first|omega|(simp only[RY]<;>omega)|decide)only[↓RD,RZ,eq_self,Int.reduceToNat,Int.reduceAdd,Int.reduceSub,Int.reduceMul,Nat.reduceAdd,Nat.reduceSub,Nat.reduceMul,Nat.reduceDiv,Nat.reduceMod,Nat.reduceBEq,Nat.reduceLeDiff,h.vlen];refine zaP (λk L H'=>L=[.int .u32 (be (l.take k):Nat),.int .i64 (k:Nat)]/\H'=H) l.length ?_ ?_ ?_
 ·exact⟨by simp[be],rfl⟩
 ·rintro k L H1 hk ⟨rfl,rfl⟩;obtain⟨p,hp,hld,-⟩:=by_at h (i:=(k:Nat)) (by omega) (by omega);have hb:=be_take_lt h8 (i:=k) (n:=3) (by omega);have hg:=getD_lt h8 k;have hm:be (l.take k)*256%4294967296=be (l.take k)*256:=yaA (by omega);unfold zjK uL uB uIM uK uc uq ug;simp(maxSteps:=1000000) (disch:=first|omega|(simp only[RY]<;>omega)|decide)only[↓RD,RZ,eq_self,Int.reduceToNat,Int.reduceAdd,Int.reduceSub,Int.reduceMul,Nat.reduceAdd,Nat.reduceSub,Nat.reduceMul,Nat.reduceDiv,Nat.reduceMod,Nat.reduceBEq,Nat.reduceLeDiff,hp,hld,hm,or256 _ _ hg];rw[take_snoc hk,be_snoc];rfl
 ·rintro L H1 ⟨rfl,rfl⟩;unfold zjK uL uB uIM uK uc uq ug;simp(maxSteps:=1000000) (disch:=first|omega|(simp only[RY]<;>omega)|decide)only[↓RD,RZ,eq_self,Int.reduceToNat,Int.reduceAdd,Int.reduceSub,Int.reduceMul,Nat.reduceAdd,Nat.reduceSub,Nat.reduceMul,Nat.reduceDiv,Nat.reduceMod,Nat.reduceBEq,Nat.reduceLeDiff];rw[ya3]
def okb_copy{β:Type}{ty e bytes m:Nat}{H:Heap}{y:V}{q:List V}{f:V->M β}{Q:β->Heap->Prop} (hy:acells e H y=some (q,m)) (hp:∀id,y.pid=some id->id<H.next) (hq:q.length=m*e)
  (hb:m*bytes<=140737488355328) (hm:m<=140737488355328)
  (k:∀x' H',App ty e H.next H' x' q m->Grow H H'->Ok (f x') H' Q):Ok ((mappend ty e bytes (.sl H.next 0 0 (.fix 0)) y).bind f) (H.new ⟨ty,[],none⟩) Q:=by
 have ha:App ty e H.next (H.new ⟨ty,[],none⟩) (.sl H.next 0 0 (.fix 0)) [] 0:=.lit (zae _ _) (yah _) (by rw[zad];omega);refine zhY ha (by rw[zad];omega) (by rw[zrC λi hi=>zav _ _ (by have:=hp i hi;omega)];exact hy) hq (by simpa using hb) (by omega) λx' H' h hs=>?_;refine k x' H' (by simpa using h) ⟨by have:=hs.next;rw[zad]at this;omega,λi hi=>?_⟩;rw[hs.same i (by rw[zad];omega) (by simp[V.pid];omega),zav _ _ (by omega)]
def zt7{lo:Nat}{H:Heap}{v:V}{l:List Nat}(h:By lo H v l)(hl:l.length<=1099511627776):Ok (sem T zbh [v]) H λr H'=>By H.next H' r l/\Grow H H':=by
 refine zi8 ?_;unfold zhh uL uR ub;rcases h.cases with⟨rfl,hc,hn⟩|⟨id,off,cap,b,rfl,_⟩|⟨cs,rfl,_⟩
 ·simp(disch:=omega)only[↓RD,RZ];have:l=[]:=yay hn;subst this;exact⟨Lc.nil,Grow.refl _⟩
 ·simp(disch:=omega)only[↓RD,RZ];refine okb_copy h.ac (λi hi=>(h.own i hi).2) (by simp) (by omega) (by omega) λx' H' ha hg=>?_;simp(disch:=omega)only[↓RD,RZ];exact⟨ha.lc,hg⟩
 ·simp(disch:=omega)only[↓RD,RZ];refine okb_copy h.ac (λi hi=>(h.own i hi).2) (by simp) (by omega) (by omega) λx' H' ha hg=>?_;simp(disch:=omega)only[↓RD,RZ];exact⟨ha.lc,hg⟩
end Go.Ax.R7
/- Rtp2 -/
namespace Go.Ax
def Lc.step{e lo n:Nat}{H H':Heap}{F F':List Nat}{v:V}{cells:List V}(h:Lc e lo H v cells n)(s:Step H H' F F')(hd:∀id,v.pid=some id->id∉F):Lc e lo H' v cells n:=
 ⟨by rw[zcS λi hi=>s.same i (h.own i hi).2 (hd i hi)];exact h.rc,λi hi=>⟨(h.own i hi).1,yai (h.own i hi).2 s.next⟩,h.cap⟩
def Lc.setn{e lo n:Nat}{H:Heap}{v:V}{cells:List V}(h:Lc e lo H v cells n){w:Nat}(hd:v.pid≠some w)(b:Option Blk):Lc e lo (H.set w b) v cells n:=
 ⟨by rw[zcS λi hi=>zaj _ _ (λe=>hd (by rw[hi,e]))];exact h.rc,h.own,h.cap⟩
def Lc.newn{e lo n:Nat}{H:Heap}{v:V}{cells:List V}(h:Lc e lo H v cells n)(b:Blk):Lc e lo (H.new b) v cells n:=h.ext (Grow.new H b)
end Go.Ax
namespace Go.Ax.R7
open Go.Ax
abbrev X:Type:=Int×List Nat
def xc(w:X×V):List V:=[.int .i64 w.1.1,w.2]
structure Exs (lo:Nat) (H:Heap) (v:V) (xs:List X):Prop where
 ex:∃ws:List (X×V),ws.map (·.1)=xs/\Lc 2 lo H v (ws.map xc).flatten ws.length/\∀w∈ws,By lo H w.2 w.1.2
def Exs.nil{lo:Nat}{H:Heap}:Exs lo H .nils []:=⟨[],rfl,Lc.nil,λw h=>by cases h⟩
def Exs.keep{lo:Nat}{H H':Heap}{v:V}{xs:List X}(h:Exs lo H v xs)(k:Keep lo H H'):Exs lo H' v xs:=by
 obtain⟨ws,h1,h2,h3⟩:=h;exact⟨ws,h1,h2.keep k,λw hw=>(h3 w hw).keep k⟩
def Exs.ext{lo:Nat}{H H':Heap}{v:V}{xs:List X}(h:Exs lo H v xs)(k:Grow H H'):Exs lo H' v xs:=h.keep (k.keep lo)
def Exs.low{lo lo':Nat}{H:Heap}{v:V}{xs:List X}(h:Exs lo H v xs)(hl:lo'<=lo):Exs lo' H v xs:=by
 obtain⟨ws,h1,h2,h3⟩:=h;exact⟨ws,h1,h2.low hl,λw hw=>(h3 w hw).low hl⟩
def Exs.vlen{lo:Nat}{H:Heap}{v:V}{xs:List X}(h:Exs lo H v xs):Ax.vlen v=some (.int .i64 (xs.length:Nat)):=by
 obtain⟨ws,rfl,h2,h3⟩:=h;rw[h2.vlen,yag]
def Exs.cells1{lo:Nat}{H:Heap}{v:V}{xs:List X}(h:Exs lo H v xs):v.cells=[v]:=by
 obtain⟨ws,rfl,h2,h3⟩:=h;exact h2.cells1
def Exs.okc{lo:Nat}{H:Heap}{v:V}{xs:List X}(h:Exs lo H v xs):v.okc=true:=by
 obtain⟨ws,rfl,h2,h3⟩:=h;exact h2.okc
def zlg{α:Type}{k:Nat} (es:List (List α)) (h:∀x∈es,x.length=k) (i:Nat) (hi:i<es.length):(es.flatten.drop (i*k)).take k=es[i]:=(zxk es h i es[i] (yae hi)).1
def xc_len (ws:List (X×V)):∀x∈ws.map xc,x.length=2:=λx hx=>by
 obtain⟨w,_,rfl⟩:=yaZ.1 hx;rfl
def Exs.at{lo:Nat}{H:Heap}{v:V}{xs:List X}(h:Exs lo H v xs){i:Nat}(hi:i<xs.length):∃p bv,(∀{k:IntKind},Ax.iaddr none 2 v (.int k i)=some p)/\Pl H p [.int .i64 xs[i].1,bv] v.pid/\By lo H bv xs[i].2:=by
 obtain⟨ws,rfl,h2,h3⟩:=h;rw[yag]at hi;obtain⟨p,hp,hl⟩:=h2.at (i:=(i:Nat)) (by omega) (by omega);have e:((ws.map xc).flatten.drop (i*2)).take 2=[.int .i64 ws[i].1.1,ws[i].2]:=by
  rw[zlg _ (xc_len ws) i (by rw[yag];exact hi),ybQ];rfl
 rw[yan,e]at hl;refine⟨p,ws[i].2,hp,?_,?_⟩
 ·simpa using hl
 ·simpa using h3 _ (yaW hi)
structure AppX (ty lo:Nat) (H:Heap) (v:V) (xs:List X):Prop where
 ex:∃ws:List (X×V),ws.map (·.1)=xs/\App ty 2 lo H v (ws.map xc).flatten ws.length/\∀w∈ws,By lo H w.2 w.1.2/\∀id,w.2.pid=some id->v.pid≠some id
def AppX.exs{ty lo:Nat}{H:Heap}{v:V}{xs:List X}(h:AppX ty lo H v xs):Exs lo H v xs:=by
 obtain⟨ws,h1,h2,h3⟩:=h;exact⟨ws,h1,h2.lc,λw hw=>(h3 w hw).1⟩
def AppX.nil{ty lo:Nat}{H:Heap}:AppX ty lo H .nils []:=⟨[],rfl,App.nil,λw h=>by cases h⟩
def App.keep{ty e lo n:Nat}{H H':Heap}{v:V}{cells:List V}(h:App ty e lo H v cells n)(k:Keep lo H H'):App ty e lo H' v cells n:=by
 cases h with
 | opn h ho=>exact .opn (h.to λi hi=>k.same i (ho i hi).1 (ho i hi).2) λi hi=>⟨(ho i hi).1,yai (ho i hi).2 k.next⟩
 | lit h h0 h1=>exact .lit (by rw[k.same _ h0 h1,h]) h0 (yai h1 k.next)
def AppX.keep{ty lo:Nat}{H H':Heap}{v:V}{xs:List X}(h:AppX ty lo H v xs)(k:Keep lo H H'):AppX ty lo H' v xs:=by
 obtain⟨ws,h1,h2,h3⟩:=h;exact⟨ws,h1,App.keep h2 k,λw hw=>⟨(h3 w hw).1.keep k,(h3 w hw).2⟩⟩
def okb_appx{β:Type}{ty bytes lo:Nat}{H:Heap}{x y bv:V}{xs:List X}{a:Int}{b:List Nat}{f:V->M β}{Q:β->Heap->Prop}(hx:AppX ty lo H x xs)(hlo:lo<=H.next) (hy:acells 2 H y=some ([.int .i64 a,bv],1)) (hbv:By lo H bv b) (hd:∀id,bv.pid=some id->x.pid≠some id)
  (hb:(xs.length+1)*bytes<=140737488355328) (hm:xs.length+1<=140737488355328)
  (k:∀x' H',AppX ty lo H' x' (xs++[(a,b)])->Step H H' x.pid.toList x'.pid.toList->Ok (f x') H' Q):Ok ((mappend ty 2 bytes x y).bind f) H Q:=by
 obtain⟨ws,rfl,h2,h3⟩:=hx;rw[yag]at hb hm;refine zhY h2 hlo hy rfl hb hm λx' H' h s=>k x' H' ⟨ws++[((a,b),bv)],by simp,?_,?_⟩ s
 ·simpa [xc]using h
 ·have hpid:∀id,x'.pid=some id->x.pid=some id\/H.next<=id:=λid hi=>by
   rcases s.own id (by simp[hi]) with h|h
   ·exact .inl (by simpa [zbT]using h)
   ·exact .inr h.1
  have key:∀(u:V) (l:List Nat),By lo H u l->(∀id,u.pid=some id->x.pid≠some id)->By lo H' u l/\∀id,u.pid=some id->x'.pid≠some id:=by
   intro u l hu hn;refine⟨hu.step s λid hi hF=>hn id hi (by simpa [zbT]using hF),λid hi he=>?_⟩;rcases hpid id he with h|h
   ·exact hn id hi h
   ·have:=(hu.own id hi).2;omega
  intro w hw;rcases yaM.1 hw with hw|hw
  ·exact key _ _ (h3 w hw).1 (h3 w hw).2
  ·simp only[yaq]at hw;subst hw;exact key _ _ hbv hd
/-! One element. -/
def eid(one:Bool)(l:List Nat):Nat:=if one then l.getD 0 0/16 else l.getD 0 0
def zeY(one:Bool):Nat:=if one then 1 else 2
def enum(one:Bool)(l:List Nat):Nat:=if one then l.getD 0 0%16+1 else l.getD 1 0
def ebad(one:Bool)(l:List Nat):Prop:=eid one l=0\/l.length<zeY one+enum one l
def zoe(one:Bool)(l:List Nat):X:=((eid one l:Nat),(l.drop (zeY one)).take (enum one l))
def elen(one:Bool)(l:List Nat):Nat:=zeY one+enum one l
instance (one:Bool) (l:List Nat):Decidable (ebad one l):=by unfold ebad;infer_instance
def zu1 {lo : Nat} {H : Heap} {v : V} {l : List Nat} (h : By lo H v l) (h8 : Ok8 l) (hl : l.length <= 1048576) (h0 : 0 < l.length) (prof : Int) (hp : -9223372036854775808 <= prof /\ prof <= 9223372036854775807) :
    Ok (sem T zec [.int .i64 prof, v]) H fun r H'=> Grow H H' /\
      (if ebad (decide (prof = 48862)) l then r = .tup [.agg [.int .i64 0, .nils], .int .i64 0, .bool false]
       else ∃ bv, r = .tup [.agg [.int .i64 (zoe (decide (prof = 48862)) l).1, bv], .int .i64 (elen (decide (prof = 48862)) l : Nat), .bool true] /\ By H.next H' bv (zoe (decide (prof = 48862)) l).2):= by
  obtain ⟨p0, hp0, hl0, -⟩:= zrz h (i:= 0) (by omega) (by omega)
  have hb0:= getD_lt h8 0
  have hb1:= getD_lt h8 1
  have hv : ∀ id, v.pid = some id -> id < H.next:= fun id hi=> (h.own id hi).2
  refine znX ?_
  unfold zky uL uS uT uF uFM uB uIM uG uH uO uA uR uK uc ub uq ug
  have e1:= hl0 (H.new ⟨zaR, [.int .i64 0, .nils], none⟩) (h.newn _)
  simp (disch:= first | omega | (simp only [RY] <;> omega) | decide) only [↓RD, RZ, eq_self, seval, hp0, e1]
  generalize hH1 : (Heap.new (Heap.new _ _) _).set _ _ = H1
  have hn1 : H1.next = H.next + 2:= by rw [<- hH1];rfl
  have hg1 : Grow H H1:= by rw [<- hH1];exact ((Grow.new H _).trans (Grow.new _ _)).set (by omega) _
  have hd4 : H1.get H.next = some ⟨zaR, [.int .i64 0, .nils], none⟩:= by rw [<- hH1, zaj _ _ (by omega), zav _ _ (by rw [zad];omega), zae]
  have hd7 : H1.get (H.next + 1) = some ⟨zaR, [.int .i64 (l.getD 0 0 : Nat), .nils], none⟩:= by rw [<- hH1, zai]
  have h1 : By lo H1 v l:= h.ext hg1
  clear hH1
  -- both shapes of a head
  refine zap (Q:= fun r H'=> r = Res.nrm [.int .i64 (zeY (decide (prof = 48862)) : Nat), .int .i64 (enum (decide (prof = 48862)) l : Nat)] /\ By lo H' v l /\ Grow H H' /\ H'.next = H1.next /\ H'.get H.next = H1.get H.next /\ H'.get (H.next + 1) = some ⟨zaR, [.int .i64 (eid (decide (prof = 48862)) l : Nat), .nils], none⟩) ?_ ?_
  · have e2:= hl0 H1 h1
    refine zwD (fun hpr=> ?_) fun hpr=> ?_
    · have e3:= hl0 (H1.set (H.next + 1) (some ⟨zaR, [.int .i64 (l.getD 0 0 / 16 : Nat), .nils], none⟩)) (h1.setn (fun e=> by have:= hv _ e;omega) _)
      simp (disch:= omega) only [↓RD, RZ, eq_self, seval, hp0, e2, hd7, e3]
      have hen : enum (decide (prof = 48862)) l = l.getD 0 0 % 16 + 1:= by rw [decide_eq_true hpr];rfl
      have hef : zeY (decide (prof = 48862)) = 1:= by rw [decide_eq_true hpr];rfl
      have hei : eid (decide (prof = 48862)) l = l.getD 0 0 / 16:= by rw [decide_eq_true hpr];rfl
      rw [hen, hef, hei]
      exact ⟨rfl, h1.setn (fun e=> by have:= hv _ e;omega) _, hg1.set (by omega) _, by trivial⟩
    · have hei : eid (decide (prof = 48862)) l = l.getD 0 0:= by rw [decide_eq_false hpr];rfl
      have hef : zeY (decide (prof = 48862)) = 2:= by rw [decide_eq_false hpr];rfl
      have hen : enum (decide (prof = 48862)) l = l.getD 1 0:= by rw [decide_eq_false hpr];rfl
      rw [hen, hef, hei]
      simp (maxSteps:= 1000000) (disch:= first | omega | (simp only [RY] <;> omega) | decide) only [↓RD, RZ, eq_self, Int.reduceToNat, Int.reduceAdd, Int.reduceSub, Int.reduceMul, Nat.reduceAdd, Nat.reduceSub, Nat.reduceMul, Nat.reduceDiv, Nat.reduceMod, Nat.reduceBEq, Nat.reduceLeDiff, h1.vlen]
      by_cases hl1 : 1 < l.length
      · obtain ⟨p1, hp1, hl1', -⟩:= by_at h1 (i:= 1) (by omega) (by omega)
        simp (maxSteps:= 1000000) (disch:= first | omega | (simp only [RY] <;> omega) | decide) only [↓RD, RZ, eq_self, Int.reduceToNat, Int.reduceAdd, Int.reduceSub, Int.reduceMul, Nat.reduceAdd, Nat.reduceSub, Nat.reduceMul, Nat.reduceDiv, Nat.reduceMod, Nat.reduceBEq, Nat.reduceLeDiff, hp1, hl1']
        exact ⟨rfl, h1, hg1, hd7⟩
      · have hz : l.getD 1 0 = 0:= by rw [yal, ybh (by omega)];rfl
        simp (maxSteps:= 1000000) (disch:= first | omega | (simp only [RY] <;> omega) | decide) only [↓RD, RZ, eq_self, Int.reduceToNat, Int.reduceAdd, Int.reduceSub, Int.reduceMul, Nat.reduceAdd, Nat.reduceSub, Nat.reduceMul, Nat.reduceDiv, Nat.reduceMod, Nat.reduceBEq, Nat.reduceLeDiff, hz]
        exact ⟨rfl, h1, hg1, hd7⟩
  · rintro _ H2 ⟨rfl, h2, hg2, hn2, hd4', hd7'⟩
    rw [hd4] at hd4'
    simp (disch:= omega) only [↓RD, RZ, eq_self, seval, hd4', hd7', h2.vlen]
    have hef : zeY (decide (prof = 48862)) <= 2:= by unfold zeY;split <;> omega
    have hen : enum (decide (prof = 48862)) l <= 255:= by unfold enum;split <;> omega
    have hei : eid (decide (prof = 48862)) l <= 255:= by unfold eid;split <;> omega
    unfold zoe elen
    generalize hone : decide (prof = 48862) = one at *
    by_cases hz : eid one l = 0
    · have hbad : ebad one l:= .inl hz
      rw [hz] at hd7'
      simp (disch:= first | omega | (simp only [RY] <;> omega) | decide) only [↓RD, RZ, eq_self, seval, hz, hd4', hd7']
      rw [if_pos hbad]
      exact ⟨hg2.set (by omega) _, by trivial⟩
    · by_cases hs : l.length < zeY one + enum one l
      · have hbad : ebad one l:= .inr hs
        simp (disch:= first | omega | (simp only [RY] <;> omega) | decide) only [↓RD, RZ, eq_self, seval, hd4', hd7', h2.vlen]
        rw [if_pos hbad]
        exact ⟨hg2.set (by omega) _, by trivial⟩
      · have hbad : ¬ ebad one l:= fun h=> h.elim hz hs
        obtain ⟨v', hs1, -, -, hs4, hs5⟩:= by_slice h2 (x:= (zeY one : Nat)) (y:= (zeY one + enum one l : Nat)) (by omega) (by omega) (by omega)
        have ec : (zeY one : Int) + (enum one l : Int) = ((zeY one + enum one l : Nat) : Int):= rfl
        have el : ((zeY one + enum one l : Nat) : Int).toNat - ((zeY one : Nat) : Int).toNat = enum one l:= by omega
        rw [el, yan] at hs4
        simp (disch:= omega) only [↓RD, RZ, eq_self, seval, h2.vlen, ec, hs1]
        refine zaf (zt7 hs4 (by rw [yao, yar];omega)) ?_
        rintro bv H3 ⟨hb3, hg3⟩
        have hd4'' : H3.get H.next = some ⟨zaR, [.int .i64 0, .nils], none⟩:= by rw [hg3.same _ (by omega), hd4']
        have hd7'' : H3.get (H.next + 1) = some ⟨zaR, [.int .i64 (eid one l : Nat), .nils], none⟩:= by rw [hg3.same _ (by omega), hd7']
        simp (disch:= first | omega | (simp only [RY] <;> omega) | decide) only [↓RD, RZ, eq_self, seval, hd4'', hd7'', hb3.cells1, hb3.okc]
        rw [if_neg hbad]
        have hne : ∀ w, w <= H.next + 1 -> bv.pid ≠ some w:= fun w hw e=> by have:= (hb3.own w e).1;omega
        exact ⟨((hg2.trans hg3).set (by omega) _).set (by omega) _, bv, rfl, ((hb3.low (by omega)).setn (hne _ (by omega)) _).setn (hne _ (by omega)) _⟩
/-! All elements. -/
def zfE(one:Bool)(l:List Nat):Option (List X):=
 if h:l.length=0 then some []
 else if l.getD 0 0=0 then zfE one (l.drop 1)
 else if one=true/\l.getD 0 0/16=15 then some []
 else if ebad one l then none
 else (zfE one (l.drop (elen one l))).map (zoe one l :: ·)
termination_by l.length
decreasing_by
 all_goals simp only[yar]
 ·omega
 ·unfold elen zeY;split<;>omega
def elen_pos(one:Bool)(l:List Nat):0<elen one l:=by unfold elen zeY;split<;>omega
def exts_ok{lo:Nat}{H:Heap}{v:V}{l:List Nat}(h:By lo H v l)(h8:Ok8 l)(hl:l.length<=1048576)(prof:Int)(hp:-9223372036854775808<=prof/\prof<=9223372036854775807) :
  Ok (sem T zfd [.int .i64 prof,v]) H λr H'=>Grow H H'/\match zfE (decide (prof=48862)) l with
   | none=>r = .tup [.nils,.bool false]
   | some xs=>∃xv,r = .tup [xv,.bool true]/\Exs H.next H' xv xs/\xs.length<=l.length:=by
 refine zsd ?_;unfold zoL uR ug;simp(disch:=omega)only[↓RD,RZ,eq_self,seval];generalize hone:decide (prof=48862)=one;refine ztm (λL H' m=>∃w acc k xs,L=[w,acc]/\m=l.length-k/\k<=l.length/\By lo H' w (l.drop k)/\w.pid=v.pid/\AppX zaR H.next H' acc xs/\Grow H H'/\xs.length<=k/\zfE one l=(zfE one (l.drop k)).map (xs ++ ·)) l.length ?_ ?_
 ·exact⟨v,.nils,0,[],rfl,by simp,by omega,by simpa using h,rfl,AppX.nil,Grow.refl _,by simp,by simp⟩
 ·rintro L H1 m ⟨w,acc,k,xs,rfl,rfl,hk,hw,hwp,ha,hg,hx,hpe⟩;have hdl:(l.drop k).length=l.length-k:=by rw[yar]
  unfold zlB uL uM uS uT uE uB uG uH uO uA uR uK uc ub uq ug;simp(disch:=omega)only[↓RD,RZ,eq_self,seval,hw.vlen,hdl];by_cases h0:l.length-k=0
  ·have hp0:zfE one (l.drop k)=some []:=by rw[zfE,dif_pos (by omega)]
   rw[hp0]at hpe;simp(disch:=omega)only[↓RD,RZ,eq_self,seval,hw.vlen,hdl];refine⟨hg,?_⟩;rw[hpe];exact⟨acc,rfl,by simpa using ha.exs,by simpa using (by omega:xs.length<=l.length)⟩
  ·have hpos:0<l.length-k:=by omega
   obtain⟨p0,hp0,hl0,-⟩:=zrz hw (i:=0) (by omega) (by omega);have e1:=hl0 H1 hw;have h8k:=h8.drop k;have hb0:=getD_lt h8k 0;have ht0:(0:Int).toNat=0:=rfl;rw[ht0]at e1;have hp1:zfE one (l.drop k)=if (l.drop k).getD 0 0=0 then zfE one ((l.drop k).drop 1) else if one=true/\(l.drop k).getD 0 0/16=15 then some [] else if ebad one (l.drop k) then none else (zfE one ((l.drop k).drop (elen one (l.drop k)))).map (zoe one (l.drop k) :: ·):=by
    rw[zfE,dif_neg (by omega)]
   simp(disch:=omega)only[↓RD,RZ,eq_self,seval,hp0,e1];refine zwD (λhz=>?_) λhz=>?_
   ·obtain⟨v',-,-,hs3,hs4,hs5⟩:=by_slice hw (x:=1) (y:=(l.length-k:Nat)) (by omega) (by omega) (by omega);rw[if_pos (by omega)]at hp1;have hs3':=@hs3 (by rw[hdl]);simp(disch:=omega)only[↓RD,RZ,eq_self,seval,hs3'];refine⟨l.length-(k+1),by omega,v',acc,k+1,xs,rfl,rfl,by omega,?_,hs5.trans hwp,ha,hg,by omega,?_⟩
    ·have el:(l.drop k).drop 1=l.drop (k+1):=by rw[ya9]
     have:(((l.drop k).drop (1:Int).toNat).take (((l.length-k:Nat):Int).toNat-(1:Int).toNat))=l.drop (k+1):=by
      rw[<-el];exact yaj (by rw[yar,yar];omega)
     rw[this]at hs4;exact hs4
    ·rw[hpe,hp1,ya9]
   ·rw[if_neg (by omega)]at hp1;by_cases hend:one=true/\(l.drop k).getD 0 0/16=15
    ·rw[if_pos hend]at hp1;have hpr:prof=48862:=by rw[hend.1]at hone;exact of_decide_eq_true hone
     simp(disch:=omega)only[↓RD,RZ,eq_self,seval,hp0,e1,hend.2];rw[hpe,hp1];exact⟨hg,acc,rfl,by simpa using ha.exs,by simp;omega⟩
    ·rw[if_neg hend]at hp1;have hcase:(prof=48862/\(l.drop k).getD 0 0/16≠15)\/prof≠48862:=by
      by_cases hpr:prof=48862
      ·refine .inl ⟨hpr,λe=>hend ⟨?_,e⟩⟩;rw[<-hone];exact decide_eq_true hpr
      ·exact .inr hpr
     rcases hcase with⟨hpr,h15⟩|hpr<;>(
      simp(disch:=omega)only[↓RD,RZ,eq_self,seval,hp0,e1];refine zaf (zu1 hw h8k (by omega) (by omega) prof hp) ?_;rintro r H2 ⟨hg2,hr⟩;rw[hone]at hr;by_cases hbad:ebad one (l.drop k)
      ·rw[if_pos hbad]at hr hp1;subst hr;simp(disch:=omega)only[↓RD,RZ,eq_self,seval];rw[hpe,hp1];exact⟨(hg.trans hg2).trans ((Grow.new _ _).set (by omega) _),by trivial⟩
      ·rw[if_neg hbad]at hr hp1;obtain⟨bv,rfl,hbv⟩:=hr;have hel:=elen_pos one (l.drop k);have helr:elen one (l.drop k)<=l.length-k:=by
        have:¬(l.drop k).length<zeY one+enum one (l.drop k):=λe=>hbad (.inr e);unfold elen;omega
       simp(disch:=first|omega|(simp only[RY]<;>omega)|decide)only[↓RD,RZ,eq_self,seval,hbv.cells1,hbv.okc];generalize hH3:(Heap.set _ _ _)=H3;have g23:Grow H2 H3:=by rw[<-hH3];exact(Grow.new _ _).set (by omega) _
       have n3:H3.next=H2.next+1:=by rw[<-hH3];rfl
       have hn1:=hg.next;have hn2:=hg2.next;have g13:=hg2.trans g23;have hbv3:=hbv.ext g23;refine okb_appx (lo:=H.next) (bytes:=32) (ha.keep ((g13.trans (Grow.new _ _)).keep _)) (by rw[zad];omega) (znG (by omega) rfl) ((hbv3.newn _).low (by omega)) (λid hid e=>?_) (by omega) (by omega) λx' H4 ha4 hs4=>?_
       ·obtain⟨ws,_,hw2,_⟩:=ha;have:=(hw2.lc.own id e).2;have:=(hbv.own id hid).1;omega
       ·have hacc:∀id,acc.pid=some id->H.next<=id:=λid e=>by
         obtain⟨ws,_,hw2,_⟩:=ha;exact(hw2.lc.own id e).1
        have n4:=hs4.next;rw[zad]at n4;have g4:Grow H H4:=⟨by omega,λi hi=>by
         rw[hs4.same i (by rw[zad];omega) (λe=>by have:=hacc i (by simpa [zbT]using e);omega),zav _ _ (by omega),g13.same i (by omega),hg.same i hi]⟩
        have hw4:By lo H4 w (l.drop k):=((hw.ext g13).newn _).step hs4 λid e e2=>by
         have:=hacc id (by simpa [zbT]using e2);have:=(h.own id (hwp ▸ e)).2;omega
        obtain⟨v',-,-,hs3,hs5,hs6⟩:=by_slice hw4 (x:=(elen one (l.drop k):Nat)) (y:=(l.length-k:Nat)) (by omega) (by omega) (by omega);have hs3':=@hs3 (by rw[hdl]);simp(disch:=omega)only[↓RD,RZ,eq_self,seval,hs3'];refine⟨l.length-(k+elen one (l.drop k)),by omega,v',x',k+elen one (l.drop k),xs++[zoe one (l.drop k)],rfl,rfl,by omega,?_,hs6.trans hwp,ha4,g4,by simp;omega,?_⟩
        ·have:(((l.drop k).drop ((elen one (l.drop k):Nat):Int).toNat).take (((l.length-k:Nat):Int).toNat-((elen one (l.drop k):Nat):Int).toNat))=l.drop (k+elen one (l.drop k)):=by
          rw[yan,yan,ya9];exact yaj (by rw[yar];omega)
         rw[this]at hs5;exact hs5
        ·rw[hpe,hp1,ya9,yc0];congr 1;funext z;simp)
end Go.Ax.R7
/- Rtp3 -/
namespace Go.Ax.R7
open Go.Ax
def by32(n:Nat):V:=.int .u32 n
structure Pkt where
 mark:Bool
 typ:Int
 seq:Nat
 ts:Nat
 ssrc:Nat
 csrc:List Nat
 prof:Int
 exts:List X
 pad:Int
 pay:List Nat
def pcells(p:Pkt)(cv xv pv:V):List V:=[.bool p.mark,.int .i64 p.typ,.int .u16 p.seq,.int .u32 p.ts,.int .u32 p.ssrc,cv,.int .i64 p.prof,xv,.int .i64 p.pad,pv]
structure PkR (lo:Nat) (H:Heap) (v:V) (p:Pkt):Prop where
 ex:∃cv xv pv,v = .agg (pcells p cv xv pv)/\Lc 1 lo H cv (p.csrc.map by32) p.csrc.length/\Exs lo H xv p.exts/\By lo H pv p.pay
def PkR.keep{lo:Nat}{H H':Heap}{v:V}{p:Pkt}(h:PkR lo H v p)(k:Keep lo H H'):PkR lo H' v p:=by
 obtain⟨cv,xv,pv,h1,h2,h3,h4⟩:=h;exact⟨cv,xv,pv,h1,h2.keep k,h3.keep k,h4.keep k⟩
def PkR.ext{lo:Nat}{H H':Heap}{v:V}{p:Pkt}(h:PkR lo H v p)(k:Grow H H'):PkR lo H' v p:=h.keep (k.keep lo)
def piece(b:List Nat)(i n:Nat):List Nat:=(b.drop i).take n
def zn6(b:List Nat):Pkt:=⟨decide (b.getD 1 0/128%2=1),(b.getD 1 0%128:Nat),be (piece b 2 2),be (piece b 4 4),be (piece b 8 4),[],0,[],0,[]⟩
def csn(b:List Nat):Nat:=b.getD 0 0%16
def zgI(b:List Nat):List Nat:=(List.range (csn b)).map λi=>be (piece b (12+4*i) 4)
def pext(r:List Nat):Except Int (Int×List X×Nat):=
 if r.length<4 then .error 3
 else if r.length<4+4*be (piece r 2 2) then .error 3
 else if be (piece r 0 2)≠48862/\be (piece r 0 2)≠4096 then .error 2
 else match zfE (decide (((be (piece r 0 2):Nat):Int)=48862)) (piece r 4 (4*be (piece r 2 2))) with
  | none=>.error 2
  | some xs=>.ok ((be (piece r 0 2):Nat),xs,4+4*be (piece r 2 2))
def zj3(b:List Nat):Except Int (Int×List X×Nat):=if b.getD 0 0/16%2=1 then pext (b.drop (12+4*csn b)) else .ok (0,[],0)
def parse(b:List Nat):Except Int Pkt:=
 if 1200<b.length then .error 4
 else if b.length<12 then .error 3
 else if b.getD 0 0/64≠2 then .error 2
 else if b.length<12+4*csn b then .error 3
 else match zj3 b with
  | .error e=>.error e
  | .ok (prof,xs,n)=>
   let at':=12+4*csn b+n
   if b.getD 0 0/32%2=1 then
    let pad:=b.getD (b.length-1) 0
    if pad=0\/b.length-at'<pad then .error 2
    else .ok { zn6 b with csrc:=zgI b,prof:=prof,exts:=xs,pad:=(pad:Nat),pay:=piece b at' (b.length-at'-pad) }
   else .ok { zn6 b with csrc:=zgI b,prof:=prof,exts:=xs,pay:=piece b at' (b.length-at') }
def ze8{b:List Nat}(h:Ok8 b)(i n:Nat):Ok8 (piece b i n):=(h.drop i).take n
def zdD{b:List Nat}{i n:Nat}(h:i+n<=b.length):(piece b i n).length=n:=by unfold piece;rw[yao,yar];omega
def zfC{b:List Nat}(h:Ok8 b)(i n:Nat):be (piece b i n)<256 ^ n:=be_take_lt (h.drop i) (yah n)
def zhq{lo:Nat}{H:Heap}{v:V}{l:List Nat}(h:By lo H v l){x y:Int}(h0:0<=x)(h1:x<=y)(h2:y<=l.length) :
  ∃v',(∀{k k':IntKind},zat .sl 1 v (some (.int k x)) (some (.int k' y)) none=some v')/\(x=0->∀{k':IntKind},zat .sl 1 v none (some (.int k' y)) none=some v')/\(y=l.length->∀{k:IntKind},zat .sl 1 v (some (.int k x)) none none=some v') /\
   By lo H v' (piece l x.toNat (y.toNat-x.toNat))/\v'.pid=v.pid:=by_slice h h0 h1 h2
def ExtQ(H:Heap)(k:Nat)(p:Pkt)(cv pv:V) (o:Except Int (Int×List X×Nat)) (res:V) (H':Heap):Prop:=
 At1 k H H'/\match o with
  | .error e=>res = .tup [.int .i64 0,.int .i64 e]
  | .ok (prof,xs,n)=>res = .tup [.int .i64 (n:Nat),.int .i64 0]/\∃xv',H'.get k=some ⟨zaq,pcells { p with prof:=prof } cv xv' pv,none⟩/\Exs H.next H' xv' xs
def zrh{lo:Nat}{H:Heap}{v:V}{r:List Nat}(h:By lo H v r)(h8:Ok8 r)(hl:r.length<=1048576){k:Nat}{p:Pkt}{cv xv pv:V}(hk:k<H.next) (hb:H.get k=some ⟨zaq,pcells p cv xv pv,none⟩) (hv:v.pid≠some k) :
  Ok (sem T zdi [.ptr k 0,v]) H (ExtQ H k p cv pv (pext r)):=by
 refine zlR ?_;unfold zix uL uT uNFM uNF uE uB uG uH uA uR uc;unfold pext;simp(disch:=omega)only[↓RD,RZ,eq_self,seval,h.vlen];refine zcf (λh4=>?_) λh4=>?_
 ·simp(disch:=omega)only[↓RD,RZ,eq_self,seval];rw[if_pos (by omega)];exact⟨At1.refl _ _,rfl⟩
 ·rw[if_neg (by omega)];obtain⟨v1,hs1,-,-,hb1,hp1⟩:=zhq h (x:=2) (y:=4) (by omega) (by omega) (by omega);have hb1':By lo H v1 (piece r 2 2):=hb1;have hw:=zfC h8 2 2;have hpr:=zfC h8 0 2;simp(disch:=omega)only[↓RD,RZ,eq_self,seval,hs1];refine zaf (zoI hb1' (ze8 h8 _ _) (by rw[zdD (by omega)];omega)) ?_;rintro _ H ⟨rfl,rfl⟩;have ec:(4:Int)+4*(be (piece r 2 2):Nat)=((4+4*be (piece r 2 2):Nat):Int):=by omega
  simp(disch:=omega)only[↓RD,RZ,eq_self,seval,h.vlen,ec];refine zcf (λh5=>?_) λh5=>?_
  ·simp(disch:=omega)only[↓RD,RZ,eq_self,seval];rw[if_pos (by omega)];exact⟨At1.refl _ _,rfl⟩
  ·rw[if_neg (by omega)];obtain⟨v2,-,hs2,-,hb2,hp2⟩:=zhq h (x:=0) (y:=2) (by omega) (by omega) (by omega);have hb2':By lo H v2 (piece r 0 2):=hb2;have hs2':=@hs2 rfl;simp(disch:=omega)only[↓RD,RZ,eq_self,seval,hs2'];refine zaf (zoI hb2' (ze8 h8 _ _) (by rw[zdD (by omega)];omega)) ?_;rintro _ H ⟨rfl,rfl⟩;unfold pcells at hb;generalize hprof:be (piece r 0 2)=prof at *;simp(disch:=omega)only[↓RD,RZ,eq_self,seval,hb];generalize hH1:Heap.set H k _=H1;have g1:H1.get k=some ⟨zaq,pcells { p with prof:=(prof:Nat) } cv xv pv,none⟩:=by rw[<-hH1,zai];rfl
   have s1:At1 k H H1:=by rw[<-hH1];exact At1.set _ _ _
   have n1:H1.next=H.next:=by rw[<-hH1,zam]
   have g1':=g1;unfold pcells at g1';have h1:By lo H1 v r:=h.at1 s1 hv;obtain⟨v3,hs3,-,-,hb3,hp3⟩:=zhq h1 (x:=4) (y:=(4+4*be (piece r 2 2):Nat)) (by omega) (by omega) (by omega);have e3:((4+4*be (piece r 2 2):Nat):Int).toNat-(4:Int).toNat=4*be (piece r 2 2):=by omega
   rw[e3]at hb3;have hb3':By lo H1 v3 (piece r 4 (4*be (piece r 2 2))):=hb3;have h83:=ze8 h8 4 (4*be (piece r 2 2));have hl3:(piece r 4 (4*be (piece r 2 2))).length<=1048576:=by rw[zdD (by omega)];omega
   have main:(prof=48862\/prof=4096)->Ok ((sem T zfd [.int .i64 (prof:Nat),v3]).bind λt49=>(M.lift (ext 0 t49)).bind λt50=>(M.lift (ext 1 t49)).bind λt51=>(M.lift (un .not t51)).bind λt53=>
     M.ite t53 (M.pure (Res.ret [.int .i64 0,.int .i64 2])) ((M.lift (nilck (.ptr k 0))).bind λt56=>(M.lift (faddr 7 t56)).bind λt57=>(mstore 1 t57 t50).bind λ_=>M.pure (.ret [.int .i64 (4+4*be (piece r 2 2):Nat),.int .i64 0]))) H1
     λr' H'=>∃L,r'=Res.ret L/\ExtQ H k p cv pv (match zfE (decide (((prof:Nat):Int)=48862)) (piece r 4 (4*be (piece r 2 2))) with|none=>Except.error 2|some xs=>Except.ok (((prof:Nat):Int),xs,4+4*be (piece r 2 2))) (zdu L) H':=by
    intro hor;refine zaf (exts_ok hb3' h83 hl3 (prof:Nat) (by omega)) ?_;rintro res H2 ⟨hg2,hr⟩;cases hx:zfE (decide (((prof:Nat):Int)=48862)) (piece r 4 (4*be (piece r 2 2))) with
    | none=>
     rw[hx]at hr;dsimp only at hr;subst hr;simp(disch:=omega)only[↓RD,RZ,eq_self,seval];exact⟨s1.trans (hg2.at1 k),rfl⟩
    | some xs=>
     rw[hx]at hr;dsimp only at hr;obtain⟨xv',rfl,hxs,hxl⟩:=hr;have g2:H2.get k=some ⟨zaq,[V.bool p.mark,V.int IntKind.i64 p.typ,V.int IntKind.u16 ↑p.seq,V.int IntKind.u32 ↑p.ts,V.int IntKind.u32 ↑p.ssrc,cv,V.int IntKind.i64 ↑prof,xv,V.int IntKind.i64 p.pad,pv],none⟩:=by rw[hg2.same k (by omega)];exact g1'
     simp(disch:=omega)only[↓RD,RZ,eq_self,seval,g2,hxs.cells1,hxs.okc];refine⟨(s1.trans (hg2.at1 k)).trans (At1.set _ _ _),rfl,xv',zai _ _ _,?_⟩;rw[n1]at hxs;exact hxs.keep ⟨yah _,λi h1 h2=>zaj _ _ (by omega)⟩
   by_cases hp1:prof=48862
   ·rw[if_neg (by omega)];subst hp1;simp(disch:=omega)only[↓RD,RZ,eq_self,seval,g1',hs3];exact main (.inl rfl)
   ·by_cases hp2:prof=4096
    ·rw[if_neg (by omega)];subst hp2;simp(disch:=omega)only[↓RD,RZ,eq_self,seval,g1',hs3];exact main (.inr rfl)
    ·rw[if_pos ⟨hp1,hp2⟩];simp(disch:=omega)only[↓RD,RZ,eq_self,seval,g1'];exact⟨s1,rfl⟩
def zxA{lo:Nat}{H:Heap}{v:V}{b:List Nat}(h:By lo H v b)(h8:Ok8 b)(hl:b.length<=1200){k m:Nat}{p:Pkt}{xv pv:V}(t2:V)(hv:∀id,v.pid=some id->id<k)(hk:k<m)(hm:m<=H.next) (hb:H.get k=some ⟨zaq,pcells p .nils xv pv,none⟩) (hn:12+4*csn b<=b.length) {Q:Res->Heap->Prop}
  (kk:∀H' cv,H'.get k=some ⟨zaq,pcells p cv xv pv,none⟩->Lc 1 m H' cv ((zgI b).map by32) (zgI b).length->(∀i,i<m->i≠k->H'.get i=H.get i)->H.next<=H'.next->Q (.ex 1 []) H') :
  Ok (M.iter (zeW (sem T) (.int .i64 (12+4*csn b:Nat)) v (.ptr k 0) t2) [.int .i64 12]) H Q:=by
 have hcl:(zgI b).length=csn b:=by simp[zgI]
 refine zaP (λj L H'=>∃cv,L=[.int .i64 (12+4*j:Nat)]/\H'.get k=some ⟨zaq,pcells p cv xv pv,none⟩/\App zmm 1 m H' cv (((zgI b).take j).map by32) j/\(∀i,i<m->i≠k->H'.get i=H.get i)/\H.next<=H'.next) (csn b) ?_ ?_ ?_
 ·exact⟨.nils,rfl,hb,App.nil,λ_ _ _=>rfl,yah _⟩
 ·rintro j L H1 hj ⟨cv,rfl,g1,ha,gs,gn⟩;have h1:By lo H1 v b:=⟨by rw[zcS λi hi=>gs i (by have:=hv i hi;omega) (by have:=hv i hi;omega)];exact h.rc,λi hi=>⟨(h.own i hi).1,yai (h.own i hi).2 gn⟩,h.cap⟩;obtain⟨v1,hs1,-,-,hb1,-⟩:=zhq h1 (x:=(12+4*j:Nat)) (y:=(16+4*j:Nat)) (by omega) (by omega) (by omega);have e1:((16+4*j:Nat):Int).toNat-((12+4*j:Nat):Int).toNat=4:=by omega
  rw[e1,yan]at hb1;have e2:((12+4*j:Nat):Int)+4=((16+4*j:Nat):Int):=by omega
  have g1':=g1;unfold pcells at g1';unfold zeW uL uM uT uF uB uU uA uZ uK uc ug;simp(disch:=omega)only[↓RD,RZ,eq_self,seval,g1',e2,hs1];refine zaf (zoI hb1 (ze8 h8 _ _) (by rw[zdD (by omega)];omega)) ?_;rintro _ H1 ⟨rfl,rfl⟩;simp(disch:=omega)only[↓RD,RZ,eq_self,seval];refine zhY (lo:=m) (bytes:=4) (m:=1) (q:=[by32 (be (piece b (12+4*j) 4))]) (App.keep ha ((Grow.new _ _).keep _)) (by rw[zad];omega) (zcv rfl) rfl (by omega) (by omega) λcv' H2 ha2 hs2=>?_;have hcv:∀id,cv.pid=some id->m<=id:=λid hi=>(ha.lc.own id hi).1;have low:∀i,i<m->H2.get i=H1.get i:=λi hi=>by
   rw[hs2.same i (by rw[zad];omega) (λe=>by have:=hcv i (by simpa [zbT]using e);omega),zav _ _ (by omega)]
  have g2:=g1';rw[<-low k (by omega)]at g2;have n2:=hs2.next;rw[zad]at n2;simp(disch:=omega)only[↓RD,RZ,eq_self,seval,g2,ha2.lc.cells1,ha2.lc.okc];refine⟨cv',by first|rfl|(congr 2;omega),by first|rfl|exact zai _ _ _,?_,λi hi hik=>by rw[zaj _ _ hik,low i hi,gs i hi hik],by first|omega|(rw[zam];omega)⟩;have e3:((zgI b).take (j+1)).map by32=((zgI b).take j).map by32++[by32 (be (piece b (12+4*j) 4))]:=by
   have e4:(zgI b).getD j 0=be (piece b (12+4*j) 4):=by
    rw[yal,yae (by omega)];simp[zgI]
   rw[take_snoc (by omega),yaC,e4];rfl
  rw[e3];exact App.keep ha2 (Keep.set _ (by omega) _)
 ·rintro L H1 ⟨cv,rfl,g1,ha,gs,gn⟩;unfold zeW uL uM uT uF uB uU uA uZ uK uc ug;simp(disch:=omega)only[↓RD,RZ,eq_self,seval];have:=ha.lc;rw[<-hcl,ya3]at this;exact kk H1 cv g1 this gs gn
def zjV:List V:=[.bool false,.int .i64 0,.int .u16 0,.int .u32 0,.int .u32 0,.nils,.int .i64 0,.nils,.int .i64 0,.nils]
def zt4(H:Heap)(o:Except Int Pkt)(res:V)(H':Heap):Prop:=
 Grow H H'/\match o with
  | .error e=>res = .tup [.agg zjV,.int .i64 e]
  | .ok p=>∃z,res = .tup [z,.int .i64 0]/\PkR H.next H' z p
def errQ{H H':Heap}{e:Int}{b:Option Blk}(h:Grow H H'):zt4 H (.error e) (.tup [.agg zjV,.int .i64 e]) (H'.set H.next b):=⟨h.set (yah _) _,rfl⟩
def bitne{x:Nat}(m:Nat)(hm:0<m):(!(((x%2*m:Nat):Int)==0))=decide (x%2=1):=by
 rcases Nat.mod_two_eq_zero_or_one x with h|h
 ·simp[h]
 ·simp[h];omega
def PE(H:Heap)(lo:Nat)(v:V)(b:List Nat)(cv:V)(r:Res)(H':Heap):Prop:=
 match zj3 b with
 | .error e=>∃L,r = .ret L/\zt4 H (.error e) (zdu L) H'
 | .ok (prof,xs,n)=>r = .nrm [.int .i64 (12+4*csn b+n:Nat)]/\∃xv,H'.get (H.next+1)=some ⟨zaq,pcells { zn6 b with prof:=prof } cv xv .nils,none⟩/\Exs (H.next+2) H' xv xs/\Lc 1 (H.next+2) H' cv ((zgI b).map by32) (zgI b).length /\
   H'.get H.next=some ⟨zaq,zjV,none⟩/\Grow H H'/\H.next+2<=H'.next/\12+4*csn b+n<=b.length
def PP(H:Heap)(b:List Nat)(cv xv:V)(at':Nat)(prof:Int)(xs:List X)(r:Res)(H':Heap):Prop:=
 if b.getD 0 0/32%2=1/\(b.getD (b.length-1) 0=0\/b.length-at'<b.getD (b.length-1) 0) then ∃L,r = .ret L/\zt4 H (.error 2) (zdu L) H'
 else r = .nrm []/\H'.get (H.next+1)=some ⟨zaq,pcells { zn6 b with prof:=prof,pad:=((if b.getD 0 0/32%2=1 then b.getD (b.length-1) 0 else 0:Nat):Int) } cv xv .nils,none⟩/\Exs (H.next+2) H' xv xs/\Lc 1 (H.next+2) H' cv ((zgI b).map by32) (zgI b).length /\
   H'.get H.next=some ⟨zaq,zjV,none⟩/\Grow H H'/\H.next+2<=H'.next
def Parse_ok{lo:Nat}{H:Heap}{v:V}{b:List Nat}(h:By lo H v b)(h8:Ok8 b)(hl:b.length<=1048576):Ok (sem T zfV [v]) H (zt4 H (parse b)):=by
 have hv:∀id,v.pid=some id->id<H.next:=λid hi=>(h.own id hi).2;have b0:=getD_lt h8 0;have b1:=getD_lt h8 1;refine zqQ ?_;unfold zne uL uM uS uT uF uFM uE uB uI uIM uG uH uO uU uA uZ uR uK uc ub uq ug;unfold parse;simp(disch:=omega)only[↓RD,RZ,eq_self,seval,h.vlen];generalize hH1:Heap.new H _=H1;have n1:H1.next=H.next+1:=by rw[<-hH1];rfl
 have s1:Grow H H1:=by rw[<-hH1];exact Grow.new _ _
 have g1:H1.get H.next=some ⟨zaq,zjV,none⟩:=by rw[<-hH1];exact zae _ _
 have h1:=h.ext s1;have g1':=g1;unfold zjV at g1';clear hH1;by_cases c1:1200<b.length
 ·rw[if_pos c1];simp(disch:=first|omega|(simp only[RY]<;>omega)|decide)only[↓RD,RZ,eq_self,seval,g1'];exact errQ s1
 ·rw[if_neg c1];by_cases c2:b.length<12
  ·rw[if_pos c2];simp(disch:=first|omega|(simp only[RY]<;>omega)|decide)only[↓RD,RZ,eq_self,seval,g1',h.vlen];exact errQ s1
  ·rw[if_neg c2];obtain⟨p0,hp0,hl0,hd0⟩:=zrz h1 (i:=0) (by omega) (by omega);obtain⟨p1,hp1,hl1,hd1⟩:=zrz h1 (i:=1) (by omega) (by omega);have ht0:(0:Int).toNat=0:=rfl;have ht1:(1:Int).toNat=1:=rfl;rw[ht0]at hl0;rw[ht1]at hl1;have e0:=hl0 H1 h1;have e1:=hl1 H1 h1;by_cases c3:b.getD 0 0/64≠2
   ·rw[if_pos c3];simp(disch:=first|omega|(simp only[RY]<;>omega)|decide)only[↓RD,RZ,eq_self,seval,g1',h.vlen,hp0,e0];exact errQ s1
   ·rw[if_neg c3];have c3':b.getD 0 0/64=2:=by omega
    obtain⟨v1,hs1,-,-,hb1,-⟩:=zhq h1 (x:=2) (y:=4) (by omega) (by omega) (by omega);obtain⟨v2,hs2,-,-,hb2,-⟩:=zhq h1 (x:=4) (y:=8) (by omega) (by omega) (by omega);obtain⟨v3,hs3,-,-,hb3,-⟩:=zhq h1 (x:=8) (y:=12) (by omega) (by omega) (by omega);have hb1':By lo H1 v1 (piece b 2 2):=hb1;have hb2':By lo H1 v2 (piece b 4 4):=hb2;have hb3':By lo H1 v3 (piece b 8 4):=hb3;have r1:=@zeC _ _ _ _ (zoI hb1' (ze8 h8 _ _) (by rw[zdD (by omega)];omega));have r2:=@zeC _ _ _ _ (zoI hb2' (ze8 h8 _ _) (by rw[zdD (by omega)];omega));have r3:=@zeC _ _ _ _ (zoI hb3' (ze8 h8 _ _) (by rw[zdD (by omega)];omega));have w1:=zfC h8 2 2;have w2:=zfC h8 4 4;have w3:=zfC h8 8 4;have hm:=bitne (x:=b.getD 1 0/128) 128 (by decide);simp(disch:=omega)only[↓RD,RZ,eq_self,seval,h.vlen,hp0,e0,hp1,e1,c3',hs1,hs2,hs3,r1,r2,r3,hm,n1];generalize hH2:Heap.set _ (H.next+1) _=H2;have n2:H2.next=H.next+2:=by rw[<-hH2,zam,zad];omega
    have s2:Grow H H2:=by rw[<-hH2];exact(s1.trans (Grow.new _ _)).set (by omega) _
    have g2:H2.get H.next=some ⟨zaq,zjV,none⟩:=by rw[<-hH2,zaj _ _ (by omega),zav _ _ (by omega),g1]
    have q2:H2.get (H.next+1)=some ⟨zaq,pcells (zn6 b) .nils .nils .nils,none⟩:=by rw[<-hH2,zai];rfl
    clear hH2;have h2:=h.ext s2;have e0':=hl0 H2 h2;have g2':=g2;unfold zjV at g2';have ec:(12:Int)+4*((b.getD 0 0%16:Nat):Int)=((12+4*csn b:Nat):Int):=by unfold csn;omega
    have hcs:csn b<=15:=by unfold csn;omega
    by_cases c4:b.length<12+4*csn b
    ·rw[if_pos c4];simp(disch:=first|omega|(simp only[RY]<;>omega)|decide)only[↓RD,RZ,eq_self,seval,e0',ec,h2.vlen,g2',n1];exact errQ s2
    ·rw[if_neg c4];simp(disch:=omega)only[↓RD,RZ,eq_self,seval,e0',ec,h2.vlen,n1];refine zxA h2 h8 (by omega) (k:=H.next+1) (m:=H.next+2) _ (λid hi=>by have:=hv id hi;omega) (by omega) (by omega) q2 (by omega) λH3 cv q3 hc3 s3 n3=>?_;have s3':Grow H H3:=⟨by omega,λi hi=>by rw[s3 i (by omega) (by omega),s2.same i hi]⟩;have g3:H3.get H.next=some ⟨zaq,zjV,none⟩:=by rw[s3 _ (by omega) (by omega),g2]
     have h3:=h.ext s3';have e03:=hl0 H3 h3;have q3':=q3;unfold pcells at q3';have g3':=g3;unfold zjV at g3';have hm16:=bitne (x:=b.getD 0 0/16) 16 (by decide);have hm32:=bitne (x:=b.getD 0 0/32) 32 (by decide);simp(disch:=omega)only[↓RD,RZ,eq_self,seval,hp0,e03,hm16,n1]
     -- the extension
     refine zap (Q:=PE H lo v b cv) ?_ ?_
     ·by_cases cx:b.getD 0 0/16%2=1
      ·obtain⟨v4,-,-,hs4,hb4,hp4⟩:=by_slice h3 (x:=(12+4*csn b:Nat)) (y:=b.length) (by omega) (by omega) (by omega);have hs4':=@hs4 rfl;have hb4':By lo H3 v4 (b.drop (12+4*csn b)):=by
        have:((b.drop ((12+4*csn b:Nat):Int).toNat).take ((b.length:Int).toNat-((12+4*csn b:Nat):Int).toNat))=b.drop (12+4*csn b):=by
         rw[yan];exact yaj (by rw[yar];omega)
        rw[this]at hb4;exact hb4
       simp(disch:=omega)only[↓RD,RZ,eq_self,seval,cx,hs4',n1];refine zaf (zrh hb4' (h8.drop _) (by rw[yar];omega) (k:=H.next+1) (by omega) q3 (λe=>by have:=hv _ (hp4 ▸ e);omega)) ?_;rintro res H4 ⟨t4,hr⟩;have s4:Grow H H4:=⟨by have:=t4.next;omega,λi hi=>by rw[t4.same i (by omega) (by omega),s3'.same i hi]⟩;have g4:H4.get H.next=some ⟨zaq,zjV,none⟩:=by rw[t4.same _ (by omega) (by omega),g3]
       have g4':=g4;unfold zjV at g4';have n4:=t4.next;cases hx:pext (b.drop (12+4*csn b)) with
       | error e=>
        rw[hx]at hr;dsimp only at hr;subst hr;have hee:e=2\/e=3:=by
         unfold pext at hx;split at hx
         ·cases hx;exact .inr rfl
         ·split at hx
          ·cases hx;exact .inr rfl
          ·split at hx
           ·cases hx;exact .inl rfl
           ·split at hx
            ·cases hx;exact .inl rfl
            ·cases hx
        rcases hee with rfl|rfl
        ·simp(disch:=first|omega|(simp only[RY]<;>omega)|decide)only[↓RD,RZ,eq_self,seval,g4'];unfold PE zj3;rw[if_pos cx,hx];exact⟨_,rfl,errQ s4⟩
        ·simp(disch:=first|omega|(simp only[RY]<;>omega)|decide)only[↓RD,RZ,eq_self,seval,g4'];unfold PE zj3;rw[if_pos cx,hx];exact⟨_,rfl,errQ s4⟩
       | ok o=>
        obtain⟨prof,xs,n⟩:=o;rw[hx]at hr;dsimp only at hr;obtain⟨rfl,xv,q4,hxs⟩:=hr;have hn:n<=b.length-(12+4*csn b):=by
         unfold pext at hx;rw[yar]at hx;split at hx
         ·cases hx
         ·split at hx
          ·cases hx
          ·split at hx
           ·cases hx
           ·split at hx
            ·cases hx
            ·cases hx;omega
        have ea:((12+4*csn b:Nat):Int)+(n:Int)=((12+4*csn b+n:Nat):Int):=rfl;simp(disch:=omega)only[↓RD,RZ,eq_self,seval,ea,n1];unfold PE zj3;rw[if_pos cx,hx];exact⟨rfl,xv,q4,hxs.low (by omega),hc3.at1 t4 (λe=>by have:=(hc3.own _ e).1;omega),g4,s4,by omega,by omega⟩
      ·simp(disch:=omega)only[↓RD,RZ,eq_self,seval,cx,n1];unfold PE zj3;rw[if_neg cx];exact⟨rfl,.nils,q3,Exs.nil,hc3,g3,s3',by omega,by omega⟩
     ·rintro r H4 hPE;unfold PE at hPE;cases hx:zj3 b with
      | error e=>
       rw[hx]at hPE;obtain⟨L,rfl,hq⟩:=hPE;simp(disch:=omega)only[↓RD,RZ,eq_self,seval];exact hq
      | ok o=>
       obtain⟨prof,xs,n⟩:=o;rw[hx]at hPE;obtain⟨rfl,xv,q4,hxs,hc4,g4,s4,n4,hat⟩:=hPE;dsimp only;have h4:=h.ext s4;generalize hatd:12+4*csn b+n=at' at *;obtain⟨v5,-,-,hs5,hb5,hp5⟩:=by_slice h4 (x:=(at':Nat)) (y:=b.length) (by omega) (by omega) (by omega);have hs5':=@hs5 rfl;have e5:(b.length:Int).toNat-((at':Nat):Int).toNat=b.length-at':=by omega
       rw[e5,yan]at hb5;have hb5':By (lo) H4 v5 (piece b at' (b.length-at')):=hb5;have hl5:(piece b at' (b.length-at')).length=b.length-at':=zdD (by omega);have vl5:=hb5'.vlen;rw[hl5]at vl5;obtain⟨pl,hpl,hll,hdl⟩:=zrz h4 (i:=(b.length-1:Nat)) (by omega) (by omega);rw[yan]at hll;have e04:=hl0 H4 h4;have el4:=hll H4 h4;have elen':(b.length:Int)-1=((b.length-1:Nat):Int):=by omega
       have bl:=getD_lt h8 (b.length-1);have q4':=q4;unfold pcells at q4';have g4':=g4;unfold zjV at g4';simp(disch:=omega)only[↓RD,RZ,eq_self,seval,hs5',hp0,e04,hm32,n1]
       -- the padding
       refine zap (Q:=PP H b cv xv at' prof xs) ?_ ?_
       ·by_cases cp:b.getD 0 0/32%2=1
        ·by_cases cz:b.getD (b.length-1) 0=0
         ·simp(disch:=first|omega|(simp only[RY]<;>omega)|decide)only[↓RD,RZ,eq_self,seval,cp,h4.vlen,elen',hpl,el4,q4',cz,g4',n1];unfold PP;rw[if_pos ⟨cp,.inl cz⟩];exact⟨_,rfl,errQ (s4.set (by omega) _)⟩
         ·by_cases cl:b.length-at'<b.getD (b.length-1) 0
          ·simp(disch:=first|omega|(simp only[RY]<;>omega)|decide)only[↓RD,RZ,eq_self,seval,cp,h4.vlen,elen',hpl,el4,q4',vl5,g4',n1];unfold PP;rw[if_pos ⟨cp,.inr cl⟩];exact⟨_,rfl,errQ (s4.set (by omega) _)⟩
          ·simp(disch:=omega)only[↓RD,RZ,eq_self,seval,cp,h4.vlen,elen',hpl,el4,q4',vl5,g4',n1];unfold PP;rw[if_neg (λe=>e.2.elim cz cl),if_pos cp];refine⟨rfl,zai _ _ _,hxs.keep (Keep.set _ (by omega) _),hc4.keep (Keep.set _ (by omega) _),by rw[zaj _ _ (by omega),g4],s4.set (by omega) _,n4⟩
        ·simp(disch:=omega)only[↓RD,RZ,eq_self,seval,cp,n1];unfold PP;rw[if_neg (λe=>cp e.1),if_neg cp];exact⟨rfl,q4,hxs,hc4,g4,s4,n4⟩
       ·rintro r H5 hPP;unfold PP at hPP;generalize hpad:(if b.getD 0 0/32%2=1 then b.getD (b.length-1) 0 else 0)=pad at *;by_cases ce:b.getD 0 0/32%2=1/\(b.getD (b.length-1) 0=0\/b.length-at'<b.getD (b.length-1) 0)
        ·rw[if_pos ce]at hPP;obtain⟨L,rfl,hq⟩:=hPP;rw[if_pos ce.1,if_pos ce.2];simp(disch:=omega)only[↓RD,RZ,eq_self,seval];exact hq
        ·rw[if_neg ce]at hPP;obtain⟨rfl,q5,hx5,hc5,g5,s5,n5⟩:=hPP;have hpl':pad<=b.length-at':=by
          rw[<-hpad];split
          ·rename_i cp;have:¬(b.getD (b.length-1) 0=0\/b.length-at'<b.getD (b.length-1) 0):=λe=>ce ⟨cp,e⟩;omega
          ·omega
         have q5':=q5;unfold pcells at q5';have hb5'':By lo H5 v5 (piece b at' (b.length-at')):=by
          have hs:∀i,v5.pid=some i->H5.get i=H4.get i:=λi hi=>by
           have:=hv i (hp5 ▸ hi);rw[s5.same i this,s4.same i this]
          refine⟨by rw[zcS hs];exact hb5'.rc,λi hi=>⟨(hb5'.own i hi).1,?_⟩,hb5'.cap⟩;have:=hv i (hp5 ▸ hi);omega
         obtain⟨v6,-,hs6,-,hb6,-⟩:=by_slice hb5'' (x:=0) (y:=(b.length-at'-pad:Nat)) (by omega) (by omega) (by omega);have hs6':=@hs6 rfl;have e6:((b.length-at'-pad:Nat):Int).toNat-(0:Int).toNat=b.length-at'-pad:=by omega
         have e7:(0:Int).toNat=0:=rfl;rw[e6,e7,yaz]at hb6;have e8:(piece b at' (b.length-at')).take (b.length-at'-pad)=piece b at' (b.length-at'-pad):=by
          unfold piece;rw[ybG,ya8 (by omega)]
         rw[e8]at hb6;have e9:((b.length-at':Nat):Int)-(pad:Int)=((b.length-at'-pad:Nat):Int):=by omega
         simp(disch:=omega)only[↓RD,RZ,eq_self,seval,vl5,q5',e9,hs6',n1];refine zaf (zt7 hb6 (by rw[zdD (by omega)];omega)) ?_;rintro pv H6 ⟨hb7,s7⟩;have q6:H6.get (H.next+1) = _:=(s7.same _ (by omega)).trans q5';have g6:H6.get H.next = _:=(s7.same _ (by omega)).trans g5;unfold zjV at g6;have n7:=s7.next;simp(disch:=first|omega|(simp only[RY]<;>omega)|decide)only[↓RD,RZ,eq_self,seval,q6,hb7.cells1,hb7.okc,g6,n1];have hfin:(if b.getD 0 0/32%2=1 then (if b.getD (b.length-1) 0=0\/b.length-at'<b.getD (b.length-1) 0 then (Except.error 2:Except Int Pkt) else .ok { zn6 b with csrc:=zgI b,prof:=prof,exts:=xs,pad:=(b.getD (b.length-1) 0:Nat),pay:=piece b at' (b.length-at'-b.getD (b.length-1) 0) }) else .ok { zn6 b with csrc:=zgI b,prof:=prof,exts:=xs,pay:=piece b at' (b.length-at') })
           = .ok { zn6 b with csrc:=zgI b,prof:=prof,exts:=xs,pad:=(pad:Nat),pay:=piece b at' (b.length-at'-pad) }:=by
          rw[<-hpad];by_cases cp:b.getD 0 0/32%2=1
          ·rw[if_pos cp,if_pos cp,if_neg (λe=>ce ⟨cp,e⟩)]
          ·rw[if_neg cp,if_neg cp];rfl
         rw[hfin];refine⟨((s5.trans s7).set (by omega) _).set (by omega) _,_,rfl,cv,xv,pv,rfl,?_,?_,?_⟩
         ·exact(((hc5.ext s7).keep (Keep.set _ (by omega) _)).keep (Keep.set _ (by omega) _)).low (by omega)
         ·exact(((hx5.ext s7).keep (Keep.set _ (by omega) _)).keep (Keep.set _ (by omega) _)).low (by omega)
         ·exact(((hb7.low (lo':=H.next+2) (by omega)).keep (Keep.set _ (by omega) _)).keep (Keep.set _ (by omega) _)).low (by omega)
end Go.Ax.R7
/- Se4 -/
namespace Go.Ax.SU
open Go.Ax Go.Proofs
def zxb{H0 H:Heap}{r:V}{x:GR}(h:grv H0 H r x):∃cs e,r = .tup [.agg cs,.int .i64 e]/\cs.length=5/\(V.agg cs).okc=true/\(∀v∈cs,∀n,v≠.int .u8 n)/\∀H',(Keep H0.next H H')->grv H0 H' r x:=by
 cases x with
 | err e=>
  subst h;refine⟨_,_,rfl,rfl,rfl,λv hv n=>?_,λH' _=>rfl⟩;simp only[yap,yat,or_false]at hv;rcases hv with rfl|rfl|rfl|rfl|rfl<;>(intro h;cases h)
 | got e st sl c p=>
  obtain⟨v,rfl,hv⟩:=h;refine⟨_,_,rfl,rfl,by simp[V.okc,hv.okc],λw hw n=>?_,λH' k=>⟨v,rfl,hv.keep k⟩⟩;simp only[yap,yat,or_false]at hw;rcases hw with rfl|rfl|rfl|rfl|rfl
  ·intro h;cases h
  ·intro h;cases h
  ·intro h;cases h
  ·intro h;cases h
  ·intro h;have:=hv.rc;rw[h]at this;cases this
def zx2{lo S c a id f q n t:Nat}{sv rv snd:V}{W:Nat->V}{bo o:Bool}{H:Heap}{R:Rc}{pv:V}{b:List Nat}{p:R7.Pkt}(hc:H.Cl) (hg:H.get S=some ⟨zag,stX a id sv rv W snd (.ptr (c+3) 0) f q bo o,none⟩) (hR:RcM H c R) (hS:S<c) (hsz:szs R.id=some (n,t))
  (hb:By lo H pv b) (b8:Ok8 b) (bl:b.length<=1048576) (hp:R7.parse b = .ok p) (p8:Ok8 p.pay) (pl:p.pay.length<=1099511627776) :
  Ok (sem T zcn [.ptr S 0,pv]) H λr H'=>grv H H' r (zeJ R n t [] p.pay).2/\RcM H' c (zeJ R n t [] p.pay).1/\AtS [c+1,c+2] H H'/\H'.Cl:=by
 refine zap (zlU hc (Q:=λr H'=>grv H H' r (zeJ R n t [] p.pay).2/\RcM H' c (zeJ R n t [] p.pay).1/\AtS [c+1,c+2] H H') ?_) λ_ _ h=>⟨h.1.1,h.1.2.1,h.1.2.2,h.2⟩;have hlt:=R.id;have ht:=hR.top;refine zk1 ?_;unfold zhw uL uS uT uFM uNFM uE uB uO uA uR uK uc uq;refine zaL (zdw rfl ?_);rw[zaB];have s1:=Grow.new H ⟨zaC,[.int .i64 0,.int .i64 0,.int .i64 0,.int .u64 0,.nils],none⟩;have g1:(H.new ⟨zaC,[.int .i64 0,.int .i64 0,.int .i64 0,.int .u64 0,.nils],none⟩).get H.next = _:=zae _ _;have n1:(H.new ⟨zaC,[.int .i64 0,.int .i64 0,.int .i64 0,.int .u64 0,.nils],none⟩).next=H.next+1:=zad _ _;generalize hx:H.next=x at *;generalize H.new _=H1 at *;refine zaf (R7.Parse_ok (hb.ext s1) b8 bl) ?_;rintro res H2 ⟨s2,hP⟩;rw[hp]at hP;obtain⟨z,rfl,cv,xv,yv,rfl,l1,l2,l3⟩:=hP;have ok:(V.agg (R7.pcells p cv xv yv)).okc=true:=by simp[V.okc,R7.pcells,l1.okc,l2.okc,l3.okc]
 have n2:=s2.next;have g2:=(s2.same x (by omega)).trans g1;have hs2:=((s1.trans s2).same S (by omega)).trans hg;have hR2:=hR.grow (s1.trans s2);unfold R7.pcells at ok ⊢;unfold stX at hs2;simp(disch:=first|omega|(simp only[RY]<;>omega)|decide)only[↓RD,RZ,eq_self,Int.reduceToNat,Int.reduceAdd,Nat.reduceAdd,Nat.reduceSub,Nat.reduceMul,Nat.reduceLeDiff,ok,hs2];generalize hHH:Heap.set _ H2.next _=HH;have sH:Grow H2 HH:=by rw[<-hHH];exact(Grow.new H2 _).set (yah _) _
 have gp:HH.get H2.next=some ⟨zaq,R7.pcells p cv xv yv,none⟩:=by rw[<-hHH];exact zai _ _ _
 clear hHH;have n3:=sH.next;have hs3:=(sH.same S (by omega)).trans hs2;have g3:=(sH.same x (by omega)).trans g2;unfold R7.pcells at gp;refine zaf (OpenR_ok (hR2.grow sH) hsz (Lc.nil:By 0 HH .nils []) Ok8.nil (l3.ext sH) p8 (by decide) pl (λi hi=>by cases hi) λi hi=>.inr ?_) ?_
 ·have:=(l3.own i hi).1;omega
 rintro r H4 ⟨hgr,hR4,a4⟩;obtain⟨cs,e,rfl,h5,hok,hu8,hgk⟩:=zxb hgr;have n4:=a4.next;have g4:=(a4.same x (by omega) (by simp;omega)).trans g3;have sp:splice [V.int .i64 0,.int .i64 0,.int .i64 0,.int .u64 0,.nils] 0 cs=cs:=by
  unfold splice;rw[ya5,yaU,yaR (by simp;omega),yaJ]
 have ld:ldc (some 5) cs 0=some (.agg cs):=by
  simp only[ldc];rw[if_pos (by omega),yaz,yaj (by omega)]
 have ac:(V.agg cs).cells=cs:=zaB cs;have go:∃b,H4.get x=some b/\OddR b:=⟨_,g4,zsi (λv hv n=>by
  simp only[yap,yat,or_false]at hv;rcases hv with rfl|rfl|rfl|rfl|rfl<;>(intro h;cases h))⟩
 simp(disch:=first|omega|(simp only[RY]<;>omega)|decide)only[↓RD,RZ,eq_self,Int.reduceToNat,Int.reduceAdd,Nat.reduceAdd,Nat.reduceSub,Nat.reduceMul,Nat.reduceLeDiff,g4,hok,ac,h5,sp,ld];have a5:=AtS.set (k:=x) H4 (S:=[x]) (by simp) (some ⟨zaC,cs,none⟩);refine⟨?_,hR4.atS a5 (by simp;omega) (by simp only[yaq,forall_eq];exact go),?_⟩
 ·have:∀H',Keep HH.next H4 H'->grv HH H' (.tup [.agg cs,.int .i64 e]) (zeJ R n t [] p.pay).2:=hgk;have h6:=this (H4.set x (some ⟨zaC,cs,none⟩)) (Keep.set H4 (by omega) _);cases hq:(zeJ R n t [] p.pay).2 with
  | err e'=>rw[hq]at h6;exact h6
  | got e' st sl c' p'=>
   rw[hq]at h6;obtain⟨v,e1,e2⟩:=h6;exact⟨v,e1,e2.low (by omega)⟩
 ·refine⟨by rw[zam];omega,λi hi hn=>?_⟩;rw[zaj _ _ (by omega),a4.same i (by omega) hn,sH.same i (by omega),s2.same i (by omega),s1.same i (by omega)]
end Go.Ax.SU
/- Rtp6 -/
namespace Go.Ax.R7
open Go.Ax
def w_at{lo:Nat}{H:Heap}{v:V}{l:List Nat} (h:Lc 1 lo H v (l.map by32) l.length) {i:Nat} (hi:i<l.length):∃p,(∀{k:IntKind},Ax.iaddr none 1 v (.int k i)=some p)/\LdR none H p (.int .u32 (l[i]:Nat)):=by
 obtain⟨p,hp,hl⟩:=h.at (i:=(i:Nat)) (by omega) (by omega);have e:((l.map by32).drop ((i:Int).toNat*1)).take 1=[by32 l[i]]:=by
  rw[ya6,yan,<-yb8,yaN hi];rfl
 rw[e]at hl;refine⟨p,hp,λf Q=>?_⟩;rw[hl.ld0 (by simp)];exact zoW
end Go.Ax.R7
/- Rtp8 -/
namespace Go.Ax.R7
open Go.Ax
end Go.Ax.R7
namespace Go.Ax
open R7
end Go.Ax
/- Rtp9 -/
namespace Go.Ax.R7
open Go.Ax
structure Sml (p:Pkt):Prop where
 a:p.csrc.length<=1048576
 b:p.exts.length<=1048576
 c:p.pay.length<=1048576
 d:∀x∈p.exts,x.2.length<=1048576
def idxV:Option Nat->V
 | some i=>.int .i64 (i:Nat)
 | none=>.int .i64 (-1)
def zrD{lo:Nat}{H:Heap}{v f:V}{xs:List X}(h:Exs lo H v xs)(P:X->Bool)(hn:xs.length<=1099511627776)
  (hf:∀H',Grow H H'->∀(x:X) (bv:V),By lo H' bv x.2->Ok (callv (sem T) f [.agg [.int .i64 x.1,bv]]) H' λr H''=>r = .bool (P x)/\Grow H' H'') :
  Ok (sem T zaV [v,f]) H λr H'=>r=idxV (xs.findIdx? P)/\Grow H H':=by
 refine zdn ?_;unfold zb1 uL uR uc;simp(disch:=omega)only[↓RD,RZ,h.vlen];refine zaP (λk L H'=>L=[.int .i64 (k:Nat)]/\Grow H H'/\∀j (hj:j<xs.length),j<k->P xs[j]=false) xs.length ?_ ?_ ?_
 ·exact⟨rfl,Grow.refl _,λj hj hk=>absurd hk (by omega)⟩
 ·rintro k L H1 hk ⟨rfl,s1,hP⟩;obtain⟨q,bv,i1,l1,w1⟩:=(h.ext s1).at hk;have l2:=l1.all;dsimp only[List.length_cons,List.length_nil]at l2;unfold zbc uS uB uI uR uK uc ug;simp(disch:=omega)only[↓RD,RZ,i1,l2];refine zaf (hf H1 s1 _ bv w1) ?_;rintro _ H2 ⟨rfl,s2⟩;cases hp:P xs[k]with
  | true=>
   simp(disch:=omega)only[↓RD,RZ];refine⟨?_,s1.trans s2⟩;have:xs.findIdx? P=some k:=yc8.2 ⟨hk,hp,λj hj=>by rw[hP j (by omega) hj];decide⟩;rw[this];rfl
  | false=>
   simp(disch:=omega)only[↓RD,RZ];refine⟨by rfl,s1.trans s2,λj hj hjk=>?_⟩;rcases ybK j k with h|h
   ·exact hP j hj h
   ·have:j=k:=by omega
    subst this;exact hp
 ·rintro L H1 ⟨rfl,s1,hP⟩;unfold zbc uS uB uI uR uK uc ug;simp(disch:=omega)only[↓RD,RZ];refine⟨?_,s1⟩;have:xs.findIdx? P=none:=ydr.2 λx hx=>by
   obtain⟨j,hj,rfl⟩:=ycs hx;exact hP j hj hj
  rw[this];rfl
def fd(a:Int)(xs:List X):Option Nat:=xs.findIdx? λx=>x.1==a
def got(a:Int)(p:Pkt):Option (List Nat):=(p.exts.find? λx=>x.1==a).map (·.2)
def zsc{β:Type}{ty size id off:Nat}{x:V}{H:Heap}{f:V->M β}{Q:β->Heap->Prop}{cells cells':List V}{o:Option Nat} (hb:H.get id=some ⟨ty,cells,o⟩) (hc:x.cells.length=size/\off+size<=cells.length/\x.okc=true) (he:splice cells off x.cells=cells')
  (h:Ok (f .undef) (H.set id (some ⟨ty,cells',o⟩)) Q):@StK β (H.get id) size id off x H ⟨f⟩ ⟨Q⟩:=by
 rw[hb];exact⟨hc,by rw[he];exact h⟩
end Go.Ax.R7
/- Rtp12 -/
namespace Go.Ax.R7
open Go.Ax
end Go.Ax.R7
namespace Go.Ax
open R7
end Go.Ax
/- Rtp13 -/
namespace Go.Ax.R7
open Go.Ax
inductive Apf (ty e lo:Nat) (H:Heap):V->List V->Nat->Prop
 | app {v:V} {cells:List V} {n:Nat} (h:App ty e lo H v cells n):Apf ty e lo H v cells n
 | full {id n:Nat} {cells:List V} (h:H.get id=some ⟨ty,cells,none⟩) (hl:cells.length=n*e) (h0:lo<=id) (h1:id<H.next):Apf ty e lo H (.sl id 0 n (.fix n)) cells n
def Apf.lc{ty e lo n:Nat}{H:Heap}{v:V}{cells:List V}(h:Apf ty e lo H v cells n):Lc e lo H v cells n:=by
 cases h with
 | app h=>exact h.lc
 | full h hl h0 h1=>
  refine⟨?_,λid hi=>by simp only[V.pid,yaa]at hi;subst hi;exact⟨h0,h1⟩,yah _⟩;simp only[rcells,h,Option.bind_some];rw[if_pos (by omega),yaz,yaj (by omega)]
def Apf.keep{ty e lo n:Nat}{H H':Heap}{v:V}{cells:List V}(h:Apf ty e lo H v cells n)(k:Keep lo H H'):Apf ty e lo H' v cells n:=by
 cases h with
 | app h=>exact .app (App.keep h k)
 | full h hl h0 h1=>exact .full (by rw[k.same _ h0 h1,h]) hl h0 (yai h1 k.next)
structure Bel (lo:Nat) (H H':Heap):Prop where
 next:H.next<=H'.next
 same:∀i,i<lo->H'.get i=H.get i
def Bel.refl(lo:Nat)(H:Heap):Bel lo H H:=⟨yah _,λ_ _=>rfl⟩
def Bel.trans{lo:Nat}{H H1 H2:Heap}(h:Bel lo H H1)(k:Bel lo H1 H2):Bel lo H H2:=⟨yax h.next k.next,λi hi=>by rw[k.same i hi,h.same i hi]⟩
def _root_.Go.Ax.Grow.bel7{H H':Heap}(h:Grow H H'){lo:Nat}(hl:lo<=H.next):Bel lo H H':=⟨h.next,λi hi=>h.same i (by omega)⟩
def Bel.grow{H H':Heap}(h:Bel H.next H H'):Grow H H':=⟨h.next,λi hi=>h.same i hi⟩
def _root_.Go.Ax.Grow.bel7'{H0 H H':Heap}{lo:Nat}(h0:Grow H0 H)(hl:H0.next<=lo)(h:Bel lo H H'):Grow H0 H':=⟨yax h0.next h.next,λi hi=>by rw[h.same i (by omega),h0.same i hi]⟩
def okb_apf{β:Type}{ty e bytes lo n m:Nat}{H:Heap}{x y:V}{cells q:List V}{f:V->M β}{Q:β->Heap->Prop}(hx:Apf ty e lo H x cells n)(hlo:lo<=H.next) (hy:acells e H y=some (q,m)) (hq:q.length=m*e)
  (hb:(n+m)*bytes<=140737488355328) (hm:n+m<=140737488355328)
  (k:∀x' H',Apf ty e lo H' x' (cells++q) (n+m)->Bel lo H H'->Step H H' x.pid.toList x'.pid.toList->Ok (f x') H' Q):Ok ((mappend ty e bytes x y).bind f) H Q:=by
 cases hx with
 | app h=>
  refine zhY h hlo hy hq hb hm λx' H' h1 hs=>k x' H' (.app h1) ⟨hs.next,λi hi=>hs.same i (by omega) λe=>?_⟩ hs;have:=(h.lc.own i (by simpa [zbT]using e)).1;omega
 | full h hl h0 h1=>
  rename_i id;have hml:n+m<=maxLen:=yax hm zgK;by_cases hz:m=0
  ·subst hz;have hq0:q=[]:=yay (by omega);subst hq0;refine zaL ⟨.sl id 0 n (.fix n),H.set id (some ⟨ty,cells,none⟩),?_,k _ _ ?_ ⟨by rw[zam];exact yah _,λi hi=>zaj _ _ (by omega)⟩ (Step.set _ (by simp[V.pid]))⟩
   ·simp only[mappend,hy,Option.bind_some,mappendq,h];rw[if_pos ⟨by omega,trivial⟩];simp only[ybL,yah,if_true];rw[if_pos (by omega)];simp[splice]
   ·rw[yaJ];exact .full (zai _ _ _) hl h0 h1
  ·refine zaL ⟨.sl H.next 0 (n+m) (.opn e),H.new ⟨ty,cells++q,some e⟩,?_,?_⟩
   ·simp only[mappend,hy,Option.bind_some,mappendq,h];rw[if_pos ⟨by omega,trivial⟩,if_neg (by omega),if_pos ⟨hb,hml⟩,yaz,yaj (by omega)]
   ·refine k _ _ (.app (.opn (.inr ⟨H.next,rfl,zae _ _,by simp[hl,hq,ybq]⟩) λi hi=>?_)) ⟨by rw[zad];omega,λi hi=>zav _ _ (by omega)⟩ ⟨by rw[zad];omega,λi hi _=>zav _ _ (by omega),λi hi=>.inr (by simp only[V.pid,ybz,yaq]at hi;subst hi;exact⟨yah _,by rw[zad];omega⟩)⟩;simp only[V.pid,yaa]at hi;subst hi;exact⟨hlo,by rw[zad];omega⟩
def okb_apfz{β:Type}{ty bytes lo n m:Nat}{z:V}{H:Heap}{x:V}{cells:List V}{f:V->M β}{Q:β->Heap->Prop}(hx:Apf ty 1 lo H x cells n)(hlo:lo<=H.next)
  (hb:(n+m)*bytes<=140737488355328) (hm:n+m<=140737488355328)
  (k:∀x' H',Apf ty 1 lo H' x' (cells++List.replicate m z) (n+m)->Bel lo H H'->Ok (f x') H' Q):Ok ((mappendz ty bytes [z] x (.int .i64 (m:Nat))).bind f) H Q:=by
 have hw:IntKind.i64.wrap (m:Nat)=(m:Int):=by
  have h1:(m:Int)%18446744073709551616=m:=ycg (by omega) (by omega);simp only[IntKind.wrap,IntKind.signed,IntKind.bits];simp;omega
 have hm2:m*bytes<=140737488355328:=yax (ybf _ (by omega)) hb;have hm3:((m:Int)*(bytes:Int))<=281474976710656:=by
  have:((m*bytes:Nat):Int)<=140737488355328:=by omega
  rw[Int.natCast_mul]at this;omega
 have e:(mappendz ty bytes [z] x (.int .i64 (m:Nat)) H)=mappend ty 1 bytes x (.rs (List.replicate m z) m) H:=by
  simp only[mappendz,mappend,hw];rw[if_pos ⟨by omega,hm3⟩];simp[acells,rcells,zvl]
 have:=okb_apf (y:=.rs (List.replicate m z) m) (q:=List.replicate m z) (m:=m) hx hlo (by simp[acells,rcells]) (by simp) hb hm λx' H' h1 h2 _=>k x' H' h1 h2;unfold Ok M.bind at this ⊢;rw[e];exact this
def bn(k n:Nat):List Nat:=(List.range k).map λi=>n/256 ^ (k-1-i)%256
def bn_len(k n:Nat):(bn k n).length=k:=by simp[bn]
def bn_8(k n:Nat):Ok8 (bn k n):=by
 intro x hx;obtain⟨i,_,rfl⟩:=yaZ.1 hx;omega
def bn_get(k n i:Nat)(h:i<k):(bn k n).getD i 0=n/256 ^ (k-1-i)%256:=by
 rw[yal,yae (by rw[bn_len];exact h)];simp[bn]
abbrev Ab(lo:Nat)(H:Heap)(v:V)(l:List Nat):Prop:=Apf zab 1 lo H v (l.map by8) l.length
def Ab.by{lo:Nat}{H:Heap}{v:V}{l:List Nat}(h:Ab lo H v l):By lo H v l:=h.lc
def okb_ab'{β:Type}{lo:Nat}{H:Heap}{x y:V}{l m:List Nat}{f:V->M β}{Q:β->Heap->Prop}(hx:Ab lo H x l)(hlo:lo<=H.next) (hy:acells 1 H y=some (m.map by8,m.length)) (hm:l.length+m.length<=1099511627776)
  (k:∀x' H',Ab lo H' x' (l++m)->Bel lo H H'->Step H H' x.pid.toList x'.pid.toList->Ok (f x') H' Q):Ok ((mappend zab 1 1 x y).bind f) H Q:=by
 refine okb_apf hx hlo hy (by simp) (by omega) (by omega) λx' H' h1 h2=>k x' H' ?_ h2;show Apf zab 1 lo H' x' ((l++m).map by8) (l++m).length;rw[yaC,yaf];exact h1
def okb_ab{β:Type}{lo:Nat}{H:Heap}{x y:V}{l m:List Nat}{f:V->M β}{Q:β->Heap->Prop}(hx:Ab lo H x l)(hlo:lo<=H.next) (hy:acells 1 H y=some (m.map by8,m.length)) (hm:l.length+m.length<=1099511627776)
  (k:∀x' H',Ab lo H' x' (l++m)->Bel lo H H'->Ok (f x') H' Q):Ok ((mappend zab 1 1 x y).bind f) H Q:=
 okb_ab' hx hlo hy hm λx' H' h1 h2 _=>k x' H' h1 h2
def zou{lo:Nat}{H:Heap}{v:V}{l:List Nat}(h:Ab lo H v l)(hlo:lo<=H.next)(hl:l.length<=2097152)(n k:Nat)(hn:n<4294967296)(hk:k<=4) :
  Ok (sem T zc2 [v,.int .u32 n,.int .i64 k]) H λr H'=>Ab lo H' r (l++bn k n)/\Bel lo H H'/\Step H H' v.pid.toList r.pid.toList:=by
 refine zuB ?_;unfold zrf uB uR uc ug;simp(disch:=omega)only[↓RD,RZ];refine zaP (λm L H'=>∃w,L=[w,.int .i64 ((k:Int)-1-(m:Nat))]/\Ab lo H' w (l++(bn k n).take m)/\Bel lo H H'/\Step H H' v.pid.toList w.pid.toList) k ?_ ?_ ?_
 ·exact⟨v,by simp,by simpa using h,Bel.refl _ _,(Grow.refl H).step _⟩
 ·rintro m L H1 hm ⟨w,rfl,ha,hb,hst⟩;have e1:(k:Int)-1-(m:Nat)=((k-1-m:Nat):Int):=by omega
  have e2:(8:Int)*((k-1-m:Nat):Int)=((8*(k-1-m):Nat):Int):=by omega
  have e3:shr n (8*(k-1-m))=n/256 ^ (k-1-m):=by rw[zhV,yaP,ydp]
  have hlo1:=hb.next;rw[e1];unfold zjJ uL uB uK uc ub ug;simp(disch:=omega)only[↓RD,RZ,e2,e3];refine okb_ab' (m:=[n/256 ^ (k-1-m)%256]) (ha.keep ((Grow.new _ _).keep _)) (by rw[zad];omega) (zcv rfl) (by simp;omega) λw' H2 h2 hb2 st2=>?_;simp(disch:=omega)only[↓RD,RZ];refine⟨w',by rw[show((k-1-m:Nat):Int)-1=(k:Int)-1-((m+1:Nat):Int) by omega],?_,hb.trans (((Grow.new _ _).bel7 (by omega)).trans hb2),hst.trans (((Grow.new _ _).step _).trans st2)⟩;rw[take_snoc (by rw[bn_len];exact hm),bn_get k n m hm,<-yaI];exact h2
 ·rintro L H1 ⟨w,rfl,ha,hb,hst⟩;have e1:(k:Int)-1-(k:Nat) = -1:=by omega
  rw[e1];unfold zjJ uL uB uK uc ub ug;simp(disch:=omega)only[↓RD,RZ];rw[yaj (by rw[bn_len];exact yah _)]at ha;exact⟨ha,hb,hst⟩
/-! What is good. -/
def goodX(prof:Int)(x:X):Bool:=
 if prof=48862 then decide (1<=x.1/\x.1<=14/\1<=x.2.length/\x.2.length<=16) else decide (1<=x.1/\x.1<=255/\x.2.length<=255)
def good(p:Pkt):Bool:=
 decide ((0<=p.typ/\p.typ<=127)/\p.csrc.length<=15/\(0<=p.pad/\p.pad<=255)) &&
  (if p.prof=0 then decide (p.exts.length=0) else decide (p.prof=48862\/p.prof=4096)&&p.exts.all (goodX p.prof))
def zuT{lo:Nat}{H:Heap}{bv:V}(x:X)(h:By lo H bv x.2)(prof:Int):Ok (sem T zeb [.int .i64 prof,.agg [.int .i64 x.1,bv]]) H λr H'=>r = .bool (goodX prof x)/\Grow H H':=by
 refine znW ?_;unfold zkx goodX uL uFM uB uG uH uO uR uc;by_cases hp:prof=48862
 ·rw[if_pos hp];have hv:=(h.newn ⟨zaR,[.int .i64 x.1,bv],none⟩).vlen;by_cases h1:1<=x.1
  ·by_cases h2:x.1<=14
   ·by_cases h3:1<=x.2.length
    ·by_cases h4:x.2.length<=16
     ·simp(disch:=omega)only[↓RD,RZ,h.cells1,h.okc,h.vlen];exact⟨by simp[*],Grow.new _ _⟩
     ·simp(disch:=omega)only[↓RD,RZ,h.cells1,h.okc,h.vlen];exact⟨by simp[*],Grow.new _ _⟩
    ·simp(disch:=omega)only[↓RD,RZ,h.cells1,h.okc,h.vlen];exact⟨by simp[*],Grow.new _ _⟩
   ·simp(disch:=omega)only[↓RD,RZ,h.cells1,h.okc,h.vlen];exact⟨by simp[*],Grow.new _ _⟩
  ·simp(disch:=omega)only[↓RD,RZ,h.cells1,h.okc,h.vlen];exact⟨by simp[*],Grow.new _ _⟩
 ·rw[if_neg hp];by_cases h1:1<=x.1
  ·by_cases h2:x.1<=255
   ·by_cases h4:x.2.length<=255
    ·simp(disch:=omega)only[↓RD,RZ,h.cells1,h.okc,h.vlen];exact⟨by simp[*],Grow.new _ _⟩
    ·simp(disch:=omega)only[↓RD,RZ,h.cells1,h.okc,h.vlen];exact⟨by simp[*],Grow.new _ _⟩
   ·simp(disch:=omega)only[↓RD,RZ,h.cells1,h.okc,h.vlen];exact⟨by simp[*],Grow.new _ _⟩
  ·simp(disch:=omega)only[↓RD,RZ,h.cells1,h.okc,h.vlen];exact⟨by simp[*],Grow.new _ _⟩
def zk8{p:Pkt} (h:¬((0<=p.typ/\p.typ<=127)/\p.csrc.length<=15/\(0<=p.pad/\p.pad<=255))):good p=false:=by
 unfold good;rw[decide_eq_false h];rfl
def ztI{p:Pkt} (h:(0<=p.typ/\p.typ<=127)/\p.csrc.length<=15/\(0<=p.pad/\p.pad<=255)):good p=if p.prof=0 then decide (p.exts.length=0) else decide (p.prof=48862\/p.prof=4096)&&p.exts.all (goodX p.prof):=by
 unfold good;rw[decide_eq_true h];simp
def all_idx(P:X->Bool)(xs:List X):(match xs.findIdx? (λx=>!P x) with|some _=>false|none=>true)=xs.all P:=by
 cases h:xs.findIdx? (λx=>!P x) with
 | none=>
  have:=ydr.1 h;exact(yaB.2 λx hx=>by simpa using this x hx).symm
 | some i=>
  obtain⟨h1,h2,_⟩:=yc8.1 h;refine(Bool.eq_false_iff.2 λe=>?_).symm;have:=yaB.1 e _ (yaW h1);rw[this]at h2;cases h2
def Good_ok{lo:Nat}{H:Heap}{v:V}{p:Pkt}(h:PkR lo H v p)(hs:Sml p):Ok (sem T zg0 [v]) H λr H'=>r = .bool (good p)/\Grow H H':=by
 obtain⟨cv,xv,pv,rfl,hc,hx,hp⟩:=h;have hb:=hs.b;refine zse ?_;unfold zoM uL uFM uB uG uH uO uA uR uK uc;unfold pcells;simp(disch:=first|omega|(simp only[RY]<;>omega)|decide)only[↓RD,RZ,eq_self,seval,hc.cells1,hx.cells1,hp.cells1,hc.okc,hx.okc,hp.okc];generalize hH1:Heap.new H _=H1;have n1:H1.next=H.next+1:=by rw[<-hH1];rfl
 have s1:Grow H H1:=by rw[<-hH1];exact Grow.new _ _
 have g1:H1.get H.next=some ⟨zaq,pcells p cv xv pv,none⟩:=by rw[<-hH1];exact zae _ _
 clear hH1;unfold pcells at g1;have ec:=hc.vlen;have ex:=hx.vlen;by_cases a1:p.typ<0
 ·simp(disch:=first|omega|(simp only[RY]<;>omega)|decide)only[↓RD,RZ,eq_self,seval,g1];exact⟨by rw[zk8 (by omega)],s1⟩
 by_cases a2:127<p.typ
 ·simp(disch:=first|omega|(simp only[RY]<;>omega)|decide)only[↓RD,RZ,eq_self,seval,g1];exact⟨by rw[zk8 (by omega)],s1⟩
 by_cases a3:15<p.csrc.length
 ·simp(disch:=first|omega|(simp only[RY]<;>omega)|decide)only[↓RD,RZ,eq_self,seval,g1,ec];exact⟨by rw[zk8 (by omega)],s1⟩
 by_cases a4:p.pad<0
 ·simp(disch:=first|omega|(simp only[RY]<;>omega)|decide)only[↓RD,RZ,eq_self,seval,g1,ec];exact⟨by rw[zk8 (by omega)],s1⟩
 by_cases a5:255<p.pad
 ·simp(disch:=first|omega|(simp only[RY]<;>omega)|decide)only[↓RD,RZ,eq_self,seval,g1,ec];exact⟨by rw[zk8 (by omega)],s1⟩
 rw[ztI (by omega)];by_cases hz:p.prof=0
 ·rw[if_pos hz];rw[hz]at g1;by_cases he:p.exts.length=0
  ·simp(disch:=first|omega|(simp only[RY]<;>omega)|decide)only[↓RD,RZ,eq_self,seval,g1,ec,ex,he];exact s1
  ·simp(disch:=first|omega|(simp only[RY]<;>omega)|decide)only[↓RD,RZ,eq_self,seval,g1,ec,ex,he];exact s1
 ·rw[if_neg hz];by_cases hpf:p.prof=48862\/p.prof=4096
  ·rw[decide_eq_true hpf,yco,<-all_idx];have main:Ok ((sem T zaI [xv,.fn zc4 [.ptr H.next 0]]).bind λt48=>(M.lift (un .not t48)).bind λt49=>M.pure (Res.ret [t49])) H1
     (λr H'=>∃L,r=Res.ret L/\zdu L = .bool (match p.exts.findIdx? (λx=>!goodX p.prof x) with|some _=>false|none=>true)/\Grow H H'):=by
    have hcf:Ok (sem T zaI [xv,.fn zc4 [.ptr H.next 0]]) H1 (λ(r:V) H'=>r=V.bool (match p.exts.findIdx? (λx=>!goodX p.prof x) with|some _=>true|none=>false)/\Grow H H'):=by
     refine zc1 ?_;unfold zbI uB uA uR uc;refine zaf (zrD (hx.ext s1) (λx=>!goodX p.prof x) (by omega) λH3 s3 x bv hb=>?_) ?_
     ·have g3:H3.get H.next = _:=(s3.same _ (by omega)).trans g1;have n3:=s3.next;show Ok (sem T zc4 [.agg [.int .i64 x.1,bv],.ptr H.next 0]) H3 _;refine zpo ?_;unfold zlC uL uS uFM uO uA uR;simp(disch:=first|omega|(simp only[RY]<;>omega)|decide)only[↓RD,RZ,eq_self,seval,hb.cells1,hb.okc,g3];refine zaf (zuT x (hb.newn _) p.prof) ?_;rintro _ H4 ⟨rfl,s4⟩;simp(disch:=first|omega|(simp only[RY]<;>omega)|decide)only[↓RD,RZ,eq_self,seval];exact(Grow.new _ _).trans s4
     ·rintro _ H3 ⟨rfl,s3⟩;cases hf:p.exts.findIdx? (λx=>!goodX p.prof x) with
      | none=>
       unfold idxV;simp(disch:=first|omega|(simp only[RY]<;>omega)|decide)only[↓RD,RZ,eq_self,seval];exact s1.trans s3
      | some i=>
       unfold idxV;simp(disch:=first|omega|(simp only[RY]<;>omega)|decide)only[↓RD,RZ,eq_self,seval];exact s1.trans s3
    refine zaf hcf ?_
    ·rintro _ H3 ⟨rfl,s3⟩;cases hf:p.exts.findIdx? (λx=>!goodX p.prof x) with
     | none=>
      simp(disch:=first|omega|(simp only[RY]<;>omega)|decide)only[↓RD,RZ,eq_self,seval];exact s3
     | some i=>
      simp(disch:=first|omega|(simp only[RY]<;>omega)|decide)only[↓RD,RZ,eq_self,seval];exact s3
   rcases hpf with hpf|hpf
   ·rw[hpf]at g1;simp(disch:=first|omega|(simp only[RY]<;>omega)|decide)only[↓RD,RZ,eq_self,seval,g1,ec];refine zap main ?_;rintro r H' ⟨L,rfl,h1,h2⟩;exact⟨_,rfl,h1,h2⟩
   ·rw[hpf]at g1;simp(disch:=first|omega|(simp only[RY]<;>omega)|decide)only[↓RD,RZ,eq_self,seval,g1,ec];refine zap main ?_;rintro r H' ⟨L,rfl,h1,h2⟩;exact⟨_,rfl,h1,h2⟩
  ·rw[decide_eq_false hpf,ycE];have h1:p.prof≠48862:=λe=>hpf (.inl e);have h2:p.prof≠4096:=λe=>hpf (.inr e);simp(disch:=first|omega|(simp only[RY]<;>omega)|decide)only[↓RD,RZ,eq_self,seval,g1,ec];exact s1
def b0(p:Pkt):Nat:=128+p.csrc.length+(if 0<p.pad then 32 else 0)+(if p.prof=0 then 0 else 16)
def b1(p:Pkt):Nat:=p.typ.toNat+(if p.mark=true then 128 else 0)
def xb(prof:Int)(x:X):List Nat:=(if prof=48862 then [16*x.1.toNat+(x.2.length-1)] else [x.1.toNat,x.2.length])++x.2
def xsb(p:Pkt):List Nat:=(p.exts.map (xb p.prof)).flatten
def padn(n:Nat):Nat:=(4-n%4)%4
def elems(p:Pkt):List Nat:=xsb p++List.replicate (padn (xsb p).length) 0
structure Gd (p:Pkt):Prop where
 a:(0<=p.typ/\p.typ<=127)/\p.csrc.length<=15/\(0<=p.pad/\p.pad<=255)
 b:p.prof=0->p.exts=[]
 c:p.prof=0\/p.prof=48862\/p.prof=4096
 d:∀x∈p.exts,goodX p.prof x=true
def zsr{p:Pkt}(h:good p=true):Gd p:=by
 have ha:(0<=p.typ/\p.typ<=127)/\p.csrc.length<=15/\(0<=p.pad/\p.pad<=255):=by
  refine ycD λe=>?_;rw[zk8 e]at h;cases h
 rw[ztI ha]at h;by_cases hz:p.prof=0
 ·rw[if_pos hz]at h;have hn:=yay (of_decide_eq_true h);exact⟨ha,λ_=>hn,.inl hz,λx hx=>by rw[hn]at hx;cases hx⟩
 ·rw[if_neg hz]at h;obtain⟨h1,h2⟩:=Bool.and_eq_true_iff.1 h;exact⟨ha,λe=>absurd e hz,.inr (of_decide_eq_true h1),yaB.1 h2⟩
def zpE{x:X}(h:goodX 48862 x=true):1<=x.1/\x.1<=14/\1<=x.2.length/\x.2.length<=16:=by
 unfold goodX at h;rw[if_pos rfl]at h;exact of_decide_eq_true h
def zpD{x:X}(h:goodX 4096 x=true):1<=x.1/\x.1<=255/\x.2.length<=255:=by
 unfold goodX at h;rw[if_neg (by decide)]at h;exact of_decide_eq_true h
def or_a:∀c,c<=15->128 ||| c=128+c/\(128+c) ||| 32=160+c/\(128+c) ||| 16=144+c/\(160+c) ||| 16=176+c:=by
 intro c hc;have:∀c,c<16->128 ||| c=128+c/\(128+c) ||| 32=160+c/\(128+c) ||| 16=144+c/\(160+c) ||| 16=176+c:=by decide
 exact this c (by omega)
def or_b:∀t,t<=127->t ||| 128=t+128:=by
 intro t ht;have:∀t,t<128->t ||| 128=t+128:=by decide
 exact this t (by omega)
def or_c(i n:Nat)(h:n<16):(16*i) ||| n=16*i+n:=by
 have:=ybP (i:=4) (b:=n) h i;rw[ybn,ycx]at this;exact this.symm
def ab_lit{H:Heap}{l:List Nat}{lo:Nat}(h:lo<=H.next):Ab lo (H.new ⟨zab,l.map by8,none⟩) (.sl H.next 0 l.length (.fix l.length)) l:=
 .full (zae _ _) (by simp) h (by rw[zad];omega)
def first_ok{lo:Nat}{H:Heap}{v:V}{p:Pkt}(h:PkR lo H v p)(hg:Gd p):Ok (sem T zfU [v]) H λr H'=>Ab H.next H' r [b0 p,b1 p]/\Grow H H':=by
 obtain⟨cv,xv,pv,rfl,hc,hx,hp⟩:=h;obtain⟨⟨⟨ht0,ht1⟩,hcl,hp0,hp1⟩,-,-,-⟩:=hg;refine zqP ?_;unfold znd uL uFM uB uO uR uK uc ub ug;unfold pcells;obtain⟨t,ht⟩:=ya4 ht0;obtain⟨o1,o2,o3,o4⟩:=or_a _ hcl;have o5:=or_b t (by omega);have mm:(128+p.csrc.length)%256=128+p.csrc.length:=by omega
 have mt:t%256=t:=by omega
 have ec:=(hc.newn ⟨zaq,pcells p cv xv pv,none⟩).vlen;have fin:∀x y:Nat,Ab H.next ((H.new ⟨zaq,[.bool p.mark,.int .i64 t,.int .u16 p.seq,.int .u32 p.ts,.int .u32 p.ssrc,cv,.int .i64 p.prof,xv,.int .i64 p.pad,pv],none⟩).new ⟨zab,[.int .u8 x,.int .u8 y],none⟩) (.sl (H.next+1) 0 2 (.fix 2)) [x,y]/\Grow H ((H.new ⟨zaq,[.bool p.mark,.int .i64 t,.int .u16 p.seq,.int .u32 p.ts,.int .u32 p.ssrc,cv,.int .i64 p.prof,xv,.int .i64 p.pad,pv],none⟩).new ⟨zab,[.int .u8 x,.int .u8 y],none⟩):=λx y=>
  ⟨ab_lit (H:=H.new _) (l:=[x,y]) (by rw[zad];omega),(Grow.new _ _).trans (Grow.new _ _)⟩
 by_cases c1:0<p.pad<;>by_cases c2:p.prof=0
 ·have e0:b0 p=160+p.csrc.length:=by unfold b0;rw[if_pos c1,if_pos c2];omega
  rw[e0];rw[c2]at fin;cases c3:p.mark
  ·have e1:b1 p=t:=by unfold b1;rw[c3,ht,yan];rfl
   rw[e1];rw[c3]at fin;simp(disch:=omega)only[↓RD,RZ,eq_self,seval,hc.cells1,hx.cells1,hp.cells1,hc.okc,hx.okc,hp.okc,hc.vlen,o1,o2,o3,o4,o5,mm,mt,c2,ht,c3];exact fin _ _
  ·have e1:b1 p=t+128:=by unfold b1;rw[c3,ht,yan];rfl
   rw[e1];rw[c3]at fin;simp(disch:=omega)only[↓RD,RZ,eq_self,seval,hc.cells1,hx.cells1,hp.cells1,hc.okc,hx.okc,hp.okc,hc.vlen,o1,o2,o3,o4,o5,mm,mt,c2,ht,c3];exact fin _ _
 ·have e0:b0 p=176+p.csrc.length:=by unfold b0;rw[if_pos c1,if_neg c2];omega
  rw[e0];cases c3:p.mark
  ·have e1:b1 p=t:=by unfold b1;rw[c3,ht,yan];rfl
   rw[e1];rw[c3]at fin;simp(disch:=omega)only[↓RD,RZ,eq_self,seval,hc.cells1,hx.cells1,hp.cells1,hc.okc,hx.okc,hp.okc,hc.vlen,o1,o2,o3,o4,o5,mm,mt,c2,ht,c3];exact fin _ _
  ·have e1:b1 p=t+128:=by unfold b1;rw[c3,ht,yan];rfl
   rw[e1];rw[c3]at fin;simp(disch:=omega)only[↓RD,RZ,eq_self,seval,hc.cells1,hx.cells1,hp.cells1,hc.okc,hx.okc,hp.okc,hc.vlen,o1,o2,o3,o4,o5,mm,mt,c2,ht,c3];exact fin _ _
 ·have e0:b0 p=128+p.csrc.length:=by unfold b0;rw[if_neg c1,if_pos c2];omega
  rw[e0];rw[c2]at fin;cases c3:p.mark
  ·have e1:b1 p=t:=by unfold b1;rw[c3,ht,yan];rfl
   rw[e1];rw[c3]at fin;simp(disch:=omega)only[↓RD,RZ,eq_self,seval,hc.cells1,hx.cells1,hp.cells1,hc.okc,hx.okc,hp.okc,hc.vlen,o1,o2,o3,o4,o5,mm,mt,c2,ht,c3];exact fin _ _
  ·have e1:b1 p=t+128:=by unfold b1;rw[c3,ht,yan];rfl
   rw[e1];rw[c3]at fin;simp(disch:=omega)only[↓RD,RZ,eq_self,seval,hc.cells1,hx.cells1,hp.cells1,hc.okc,hx.okc,hp.okc,hc.vlen,o1,o2,o3,o4,o5,mm,mt,c2,ht,c3];exact fin _ _
 ·have e0:b0 p=144+p.csrc.length:=by unfold b0;rw[if_neg c1,if_neg c2];omega
  rw[e0];cases c3:p.mark
  ·have e1:b1 p=t:=by unfold b1;rw[c3,ht,yan];rfl
   rw[e1];rw[c3]at fin;simp(disch:=omega)only[↓RD,RZ,eq_self,seval,hc.cells1,hx.cells1,hp.cells1,hc.okc,hx.okc,hp.okc,hc.vlen,o1,o2,o3,o4,o5,mm,mt,c2,ht,c3];exact fin _ _
  ·have e1:b1 p=t+128:=by unfold b1;rw[c3,ht,yan];rfl
   rw[e1];rw[c3]at fin;simp(disch:=omega)only[↓RD,RZ,eq_self,seval,hc.cells1,hx.cells1,hp.cells1,hc.okc,hx.okc,hp.okc,hc.vlen,o1,o2,o3,o4,o5,mm,mt,c2,ht,c3];exact fin _ _
def xb_len{prof:Int}{x:X}(h:goodX prof x=true)(hp:prof=48862\/prof=4096):(xb prof x).length<=257:=by
 unfold xb;rcases hp with rfl|rfl
 ·have:=zpE h;rw[if_pos rfl];simp;omega
 ·have:=zpD h;rw[if_neg (by decide)];simp;omega
def xsk(p:Pkt)(k:Nat):List Nat:=((p.exts.take k).map (xb p.prof)).flatten
def zsX{p:Pkt}{k:Nat}(h:k<p.exts.length):xsk p (k+1)=xsk p k++xb p.prof p.exts[k]:=by
 unfold xsk;rw[yda h,yaC,ybN];simp
def zrF(p:Pkt):xsk p p.exts.length=xsb p:=by unfold xsk xsb;rw[ya3]
def zrE{p:Pkt}(hg:Gd p)(hp:p.prof≠0):∀k,k<=p.exts.length->(xsk p k).length<=257*k:=by
 intro k
 induction k with
 | zero=>intro _;simp[xsk]
 | succ k ih=>
  intro hk;rw[zsX (by omega),yaf];have h1:=xb_len (hg.d _ (yaW (show k<p.exts.length by omega))) (hg.c.resolve_left hp);have:=ih (by omega);omega
def shl4{i:Nat}(h:i<=15):Ax.bin .shl (.int .i64 (i:Nat)) (.int .u64 4)=some (.int .i64 ((16*i:Nat):Int)):=by
 have:∀i:Nat,i<16->Ax.bin .shl (.int .i64 (i:Nat)) (.int .u64 4)=some (.int .i64 ((16*i:Nat):Int)):=by
  intro i hi;rw[zp7 (by omega)];simp only[IntKind.wrap,IntKind.bits,IntKind.signed];have h4:(4:Int).toNat=4:=rfl;rw[h4];congr 2;simp;omega
 exact this i (by omega)
def Exs.at0{lo:Nat}{H H2:Heap}{v:V}{xs:List X}(h:Exs lo H v xs)(g:Grow H H2){i:Nat}(hi:i<xs.length):∃p bv,(∀{k:IntKind},Ax.iaddr none 2 v (.int k i)=some p)/\Pl H2 p [.int .i64 xs[i].1,bv] v.pid/\By lo H bv xs[i].2:=by
 obtain⟨ws,rfl,h2,h3⟩:=h;rw[yag]at hi;obtain⟨p,hp,hl⟩:=(h2.ext g).at (i:=(i:Nat)) (by omega) (by omega);have e:((ws.map xc).flatten.drop (i*2)).take 2=[.int .i64 ws[i].1.1,ws[i].2]:=by
  rw[zlg _ (xc_len ws) i (by rw[yag];exact hi),ybQ];rfl
 rw[yan,e]at hl;refine⟨p,ws[i].2,hp,?_,?_⟩
 ·simpa using hl
 ·simpa using h3 _ (yaW hi)
def pad_ok{lo:Nat}{H:Heap}{w:V}{l:List Nat}(t2:V)(h:Ab lo H w l)(hlo:lo<=H.next)(hl:l.length<=549755813888){Q:Res->Heap->Prop} (k:∀w' H',Ab lo H' w' (l++List.replicate (padn l.length) 0)->Bel lo H H'->Q (.ex 2 [w']) H') :
  Ok (M.iter (zdk (sem T) t2) [w]) H Q:=by
 refine zaP (λm L H'=>∃w',L=[w']/\Ab lo H' w' (l++List.replicate m 0)/\Bel lo H H') (padn l.length) ?_ ?_ ?_
 ·exact⟨w,rfl,by simpa using h,Bel.refl _ _⟩
 ·rintro m L H1 hm ⟨w',rfl,ha,hb⟩;have hv:=ha.lc.vlen;rw[yaf,yaF]at hv;have n1:=hb.next;have hne:(l.length+m)%4≠0:=by unfold padn at hm;omega
  unfold zdk uL uB uK uc ub ug;simp(disch:=omega)only[↓RD,RZ,hv];refine okb_ab (m:=[0]) (ha.keep ((Grow.new _ _).keep _)) (by rw[zad];omega) (zcv rfl) (by simp;unfold padn at hm;omega) λw2 H2 h2 hb2=>?_;simp(disch:=omega)only[↓RD,RZ];refine⟨w2,rfl,?_,hb.trans (((Grow.new _ _).bel7 (by omega)).trans hb2)⟩;rw[ycY,<-yaI];exact h2
 ·rintro L H1 ⟨w',rfl,ha,hb⟩;have hv:=ha.lc.vlen;rw[yaf,yaF]at hv;have hne:(l.length+padn l.length)%4=0:=by unfold padn;omega
  have hb3:padn l.length<=3:=by unfold padn;omega
  unfold zdk uL uB uK uc ub ug;simp(disch:=omega)only[↓RD,RZ,hv,hne];exact k _ _ ha hb
def zxs{lo:Nat}{H:Heap}{v:V}{p:Pkt}(h:PkR lo H v p)(hs:Sml p)(hg:Gd p)(hp0:p.prof≠0):Ok (sem T zdI [v]) H λr H'=>By H.next H' r (elems p)/\Grow H H':=by
 obtain⟨cv,xv,pv,rfl,hc,hx,hp⟩:=h;have hb:=hs.b;refine zmQ ?_;unfold zje uL uFM uO uR uc ug;unfold pcells;simp(disch:=omega)only[↓RD,RZ,eq_self,seval,hc.cells1,hx.cells1,hp.cells1,hc.okc,hx.okc,hp.okc,hx.vlen];generalize hH1:Heap.new H _=H1;have n1:H1.next=H.next+1:=by rw[<-hH1];rfl
 have s1:Grow H H1:=by rw[<-hH1];exact Grow.new _ _
 have g1:H1.get H.next=some ⟨zaq,pcells p cv xv pv,none⟩:=by rw[<-hH1];exact zae _ _
 clear hH1;unfold pcells at g1;refine zaP (λk L H'=>∃w,L=[w,.int .i64 (k:Nat)]/\Ab H1.next H' w (xsk p k)/\Grow H1 H') p.exts.length ?_ ?_ ?_
 ·exact⟨.nils,rfl,Apf.app App.nil,Grow.refl _⟩
 ·rintro k L H2 hk ⟨w,rfl,ha,s2⟩;have g2:H2.get H.next = _:=(s2.same _ (by omega)).trans g1;have n2:=s2.next;have s02:=s1.trans s2;obtain⟨q,bv,i1,l1,w1⟩:=hx.at0 s02 hk;have l2:=l1.all;dsimp only[List.length_cons,List.length_nil]at l2;have hlen:=zrE hg hp0 k (by omega);have hgx:=hg.d _ (yaW hk);generalize hxe:p.exts[k]=x at *;have hsx:xsk p (k+1)=xsk p k++xb p.prof x:=by rw[zsX hk,hxe]
  obtain⟨x1,x2⟩:=x;dsimp only at l2 w1 l1;unfold zez uL uS uT uFM uB uI uO uK uc ub uq ug;rcases hg.c.resolve_left hp0 with hpf|hpf
  ·rw[hpf]at g2 hgx hsx;obtain⟨c1,c2,c3,c4⟩:=zpE hgx;dsimp only at c1 c2 c3 c4;obtain⟨i,rfl⟩:=ya4 (show 0<=x1 by omega);have e1:((x2.length:Nat):Int)-1=((x2.length-1:Nat):Int):=by omega
   have e2:=or_c i (x2.length-1) (by omega);have e3:=shl4 (i:=i) (by omega);have e4:(16*i+(x2.length-1))%256=16*i+(x2.length-1):=by omega
   simp(disch:=omega)only[↓RD,RZ,eq_self,seval,g2,i1,l2,w1.cells1,w1.okc,w1.vlen,e1,e2,e3,e4];generalize hH3:Heap.set _ _ _=H3;have n3:H3.next=H2.next+1:=by rw[<-hH3];rfl
   have s3:Grow H2 H3:=by rw[<-hH3];exact(Grow.new _ _).set (yah _) _
   have g3:H3.get H2.next=some ⟨zaR,[.int .i64 (i:Nat),bv],none⟩:=by rw[<-hH3];exact zai _ _ _
   clear hH3;refine okb_ab' (m:=[16*i+(x2.length-1)]) (ha.keep ((s3.trans (Grow.new _ _)).keep _)) (by rw[zad];omega) (znG (by omega) rfl) (by simp;omega) λw' H4 h4 hb4 k4=>?_;have g4:H4.get H2.next = _:=(k4.same _ (by rw[zad];omega) (λe=>by have:=(ha.lc.own _ (by simpa [zbT]using e)).2;omega)).trans ((zav _ _ (by omega)).trans g3);have n4:=hb4.next;rw[zad]at n4;have s4:Grow H1 H4:=Grow.bel7' ((s2.trans s3).trans (Grow.new _ _)) (yah _) hb4;have w4:=w1.ext (s1.trans s4);simp(disch:=omega)only[↓RD,RZ,eq_self,seval,g4];refine okb_ab (m:=x2) h4 (by omega) w4.ac (by simp;omega) λw5 H5 h5 hb5=>?_;simp(disch:=omega)only[↓RD,RZ,eq_self,seval];refine⟨w5,by rfl,?_,Grow.bel7' s4 (yah _) hb5⟩;rw[hsx];unfold xb;rw[if_pos rfl];rw[yaI]at h5;exact h5
  ·rw[hpf]at g2 hgx hsx;obtain⟨c1,c2,c4⟩:=zpD hgx;dsimp only at c1 c2 c4;obtain⟨i,rfl⟩:=ya4 (show 0<=x1 by omega);have e4:i%256=i:=by omega
   have e5:x2.length%256=x2.length:=by omega
   simp(disch:=omega)only[↓RD,RZ,eq_self,seval,g2,i1,l2,w1.cells1,w1.okc,w1.vlen,e4,e5];generalize hH3:Heap.set _ _ _=H3;have n3:H3.next=H2.next+1:=by rw[<-hH3];rfl
   have s3:Grow H2 H3:=by rw[<-hH3];exact(Grow.new _ _).set (yah _) _
   have g3:H3.get H2.next=some ⟨zaR,[.int .i64 (i:Nat),bv],none⟩:=by rw[<-hH3];exact zai _ _ _
   clear hH3;refine okb_ab' (m:=[i,x2.length]) (ha.keep ((s3.trans (Grow.new _ _)).keep _)) (by rw[zad];omega) (znG (by omega) rfl) (by simp;omega) λw' H4 h4 hb4 k4=>?_;have g4:H4.get H2.next = _:=(k4.same _ (by rw[zad];omega) (λe=>by have:=(ha.lc.own _ (by simpa [zbT]using e)).2;omega)).trans ((zav _ _ (by omega)).trans g3);have n4:=hb4.next;rw[zad]at n4;have s4:Grow H1 H4:=Grow.bel7' ((s2.trans s3).trans (Grow.new _ _)) (yah _) hb4;have w4:=w1.ext (s1.trans s4);simp(disch:=omega)only[↓RD,RZ,eq_self,seval,g4];refine okb_ab (m:=x2) h4 (by omega) w4.ac (by simp;omega) λw5 H5 h5 hb5=>?_;simp(disch:=omega)only[↓RD,RZ,eq_self,seval];refine⟨w5,by rfl,?_,Grow.bel7' s4 (yah _) hb5⟩;rw[hsx];unfold xb;rw[if_neg (by decide)];rw[yaI]at h5;exact h5
 ·rintro L H2 ⟨w,rfl,ha,s2⟩;rw[zrF]at ha;have hlen:=zrE hg hp0 p.exts.length (yah _);rw[zrF]at hlen;unfold zez uL uS uT uFM uB uI uO uK uc ub uq ug;simp(disch:=omega)only[↓RD,RZ,eq_self,seval];refine pad_ok _ ha s2.next (by omega) λw' H3 h3 hb3=>?_;simp(disch:=omega)only[↓RD,RZ,eq_self,seval];exact⟨h3.by.low (by omega),s1.trans (Grow.bel7' s2 (yah _) hb3)⟩
def csb(p:Pkt):List Nat:=(p.csrc.map (bn 4)).flatten
def extb(p:Pkt):List Nat:=if p.prof=0 then [] else bn 2 p.prof.toNat++bn 2 ((elems p).length/4)++elems p
def hb0(p:Pkt):List Nat:=[b0 p,b1 p]++bn 2 p.seq++bn 4 p.ts++bn 4 p.ssrc++csb p
def hb(p:Pkt):List Nat:=hb0 p++extb p
def padb(n:Nat):List Nat:=if n=0 then [] else List.replicate (n-1) 0++[n]
def bytes(p:Pkt):Except Int (List Nat):=
 if good p=false then .error 1
 else if 1200<(hb p).length+p.pay.length+p.pad.toNat then .error 4
 else .ok (hb p++p.pay++padb p.pad.toNat)
structure Num (p:Pkt):Prop where
 seq:p.seq<65536
 ts:p.ts<4294967296
 ssrc:p.ssrc<4294967296
 csrc:∀x∈p.csrc,x<4294967296
def BytesQ(H:Heap) (o:Except Int (List Nat)) (r:V) (H':Heap):Prop:=
 Grow H H'/\match o with
  | .error e=>r = .tup [.nils,.int .i64 e]
  | .ok l=>∃w,r = .tup [w,.int .i64 0]/\By H.next H' w l
def csk(p:Pkt)(k:Nat):List Nat:=((p.csrc.take k).map (bn 4)).flatten
def ztQ{p:Pkt}{k:Nat}(h:k<p.csrc.length):csk p (k+1)=csk p k++bn 4 p.csrc[k]:=by
 unfold csk;rw[yda h,yaC,ybN];simp
def zsC{p:Pkt}:∀k,k<=p.csrc.length->(csk p k).length=4*k:=by
 intro k
 induction k with
 | zero=>intro _;simp[csk]
 | succ k ih=>intro hk;rw[ztQ (by omega),yaf,ih (by omega),bn_len];omega
def zsD(p:Pkt):csk p p.csrc.length=csb p:=by unfold csk csb;rw[ya3]
def hb0_len(p:Pkt):(hb0 p).length=12+4*p.csrc.length:=by
 unfold hb0;have:=zsC (p:=p) p.csrc.length (yah _);rw[zsD]at this;simp only[yaf,bn_len,this,List.length_cons,List.length_nil]
def zrp{p:Pkt}(hg:Gd p)(hp:p.prof≠0):(elems p).length<=257*p.exts.length+3:=by
 have:=zrE hg hp p.exts.length (yah _);rw[zrF]at this;unfold elems padn;rw[yaf,yaF];omega
def Ab.mem{lo:Nat}{H:Heap}{v:V}{l:List Nat}(h:Ab lo H v l)(hl:0<l.length):∃id cap o,v = .sl id 0 l.length cap/\H.get id=some ⟨zab,l.map by8,o⟩/\lo<=id/\id<H.next/\V.capOk 1 v:=by
 unfold Ab at h;generalize hc:l.map by8=cells at h;generalize hn:l.length=n at h hl;cases h with
 | app h=>
  cases h with
  | opn h ho=>
   rcases h with⟨rfl,_,h0⟩|⟨id,rfl,hb,_⟩
   ·omega
   ·obtain⟨h1,h2⟩:=ho id rfl;exact⟨id,_,_,rfl,hb,h1,h2,rfl⟩
  | lit h h0 h1=>omega
 | full h hl h0 h1=>exact⟨_,_,_,rfl,h,h0,h1,yah _⟩
def zrK(m:List Nat)(x y:Nat):splice ((m++[x]).map by8) m.length [by8 y]=(m++[y]).map by8:=by
 unfold splice;simp[ybo]
def PB(lo:Nat)(H:Heap)(p:Pkt)(r:Res)(H':Heap):Prop:=∃w,r = .nrm [w]/\Ab lo H' w (hb p)/\Bel lo H H'
def Bytes_ok{lo:Nat}{H:Heap}{v:V}{p:Pkt}(h:PkR lo H v p)(hs:Sml p)(hn:Num p):Ok (sem T zfW [v]) H (BytesQ H (bytes p)):=by
 have h0:=h;obtain⟨cv,xv,pv,rfl,hc,hx,hp⟩:=h;obtain⟨q1,q2,q3,q4⟩:=hs;obtain⟨m1,m2,m3,m4⟩:=hn;refine zqR ?_;unfold znf uL uM uS uT uF uFM uB uI uO uU uA uZ uR uK uc ub ug;unfold bytes;unfold pcells;simp(disch:=first|omega|(simp only[RY]<;>omega)|decide)only[↓RD,RZ,eq_self,seval,hc.cells1,hx.cells1,hp.cells1,hc.okc,hx.okc,hp.okc];generalize hH1:Heap.new H _=H1;have n1:H1.next=H.next+1:=by rw[<-hH1];rfl
 have s1:Grow H H1:=by rw[<-hH1];exact Grow.new _ _
 have g1:H1.get H.next=some ⟨zaq,pcells p cv xv pv,none⟩:=by rw[<-hH1];exact zae _ _
 clear hH1;unfold pcells at g1;refine zaf (Good_ok (h0.ext s1) ⟨q1,q2,q3,q4⟩) ?_;rintro _ H2 ⟨rfl,s2⟩;have n2:=s2.next;have s02:=s1.trans s2;have g2:H2.get H.next = _:=(s2.same _ (by omega)).trans g1;cases hgd:good p with
 | false=>
  simp(disch:=first|omega|(simp only[RY]<;>omega)|decide)only[↓RD,RZ,eq_self,seval];exact⟨s02,rfl⟩
 | true=>
  have hg:=zsr hgd;obtain⟨⟨ht,hcl,hpd0,hpd1⟩,-,-,-⟩:=id hg;have e1:p.seq%4294967296=p.seq:=by omega
  rw[if_neg (by decide)];simp(disch:=first|omega|(simp only[RY]<;>omega)|decide)only[↓RD,RZ,eq_self,seval,g2,e1];refine zaf (first_ok (h0.ext s02) hg) ?_;rintro w3 H3 ⟨a3,s3⟩;have n3:=s3.next;have g3:H3.get H.next = _:=(s3.same _ (by omega)).trans g2;have k3:Bel H2.next H2 H3:=s3.bel7 (yah _);simp(disch:=first|omega|(simp only[RY]<;>omega)|decide)only[↓RD,RZ,eq_self,seval,g2,g3];refine zaf (zou a3 k3.next (by simp) p.seq 2 (by omega) (by omega)) ?_;rintro w4 H4 ⟨a4,b4,-⟩;have k4:=k3.trans b4;have g4:H4.get H.next = _:=(k4.same _ (by omega)).trans g2;simp(disch:=first|omega|(simp only[RY]<;>omega)|decide)only[↓RD,RZ,eq_self,seval,g4];refine zaf (zou a4 k4.next (by simp[bn_len]) p.ts 4 m2 (by omega)) ?_;rintro w5 H5 ⟨a5,b5,-⟩;have k5:=k4.trans b5;have g5:H5.get H.next = _:=(k5.same _ (by omega)).trans g2;simp(disch:=first|omega|(simp only[RY]<;>omega)|decide)only[↓RD,RZ,eq_self,seval,g4,g5];refine zaf (zou a5 k5.next (by simp[bn_len]) p.ssrc 4 m3 (by omega)) ?_;rintro w6 H6 ⟨a6,b6,-⟩;have k6:=k5.trans b6;have g6:H6.get H.next = _:=(k6.same _ (by omega)).trans g2;simp(disch:=first|omega|(simp only[RY]<;>omega)|decide)only[↓RD,RZ,eq_self,seval,g6,hc.vlen];refine zaP (λk L H'=>∃w,L=[w,.int .i64 (k:Nat)]/\Ab H2.next H' w ([b0 p,b1 p]++bn 2 p.seq++bn 4 p.ts++bn 4 p.ssrc++csk p k)/\Bel H2.next H2 H') p.csrc.length ?_ ?_ ?_
  ·exact⟨w6,rfl,by simpa [csk]using a6,k6⟩
  ·rintro k L H7 hk ⟨w,rfl,a7,k7⟩;have s7:Grow H H7:=Grow.bel7' s02 (by omega) k7;obtain⟨q,i1,l1⟩:=w_at (hc.ext s7) hk;have hlen:=zsC (p:=p) k (by omega);unfold zhe uB uIM uA uK uc ug;simp(disch:=first|omega|(simp only[RY]<;>omega)|decide)only[↓RD,RZ,eq_self,seval,i1,l1];refine zaf (zou a7 k7.next (by simp[bn_len,hlen];omega) p.csrc[k] 4 (m4 _ (yaW hk)) (by omega)) ?_;rintro w8 H8 ⟨a8,b8,-⟩;simp(disch:=first|omega|(simp only[RY]<;>omega)|decide)only[↓RD,RZ,eq_self,seval];refine⟨w8,by rfl,?_,k7.trans b8⟩;rw[ztQ hk,<-yaI];exact a8
  ·rintro L H7 ⟨w7,rfl,a7,k7⟩;rw[zsD]at a7;have a7':Ab H2.next H7 w7 (hb0 p):=a7;have g7:H7.get H.next = _:=(k7.same _ (by omega)).trans g2;have s7:Grow H H7:=Grow.bel7' s02 (by omega) k7;have hl0:=hb0_len p;unfold zhe uB uIM uA uK uc ug;simp(disch:=first|omega|(simp only[RY]<;>omega)|decide)only[↓RD,RZ,eq_self,seval,g7];refine zap (Q:=PB H2.next H2 p) ?_ ?_
   ·by_cases hz:p.prof=0
    ·simp(disch:=first|omega|(simp only[RY]<;>omega)|decide)only[↓RD,RZ,eq_self,seval,hz];refine⟨w7,rfl,?_,k7⟩;unfold hb extb;rw[if_pos hz,yaJ];exact a7'
    ·have hel:=zrp hg hz;simp(disch:=first|omega|(simp only[RY]<;>omega)|decide)only[↓RD,RZ,eq_self,seval,hz,g7];refine zaf (zxs (h0.ext s7) ⟨q1,q2,q3,q4⟩ hg hz) ?_;rintro ev H8 ⟨he8,s8⟩;have n8:=s8.next;have k8:=k7.trans (s8.bel7 k7.next);have g8:H8.get H.next = _:=(k8.same _ (by omega)).trans g2;have a8:Ab H2.next H8 w7 (hb0 p):=Apf.keep a7' (s8.keep _);obtain⟨f,hf,hf2⟩:∃f:Nat,p.prof=(f:Int)/\f<65536:=by
      rcases hg.c.resolve_left hz with e|e
      ·exact⟨48862,e,by omega⟩
      ·exact⟨4096,e,by omega⟩
     have e2:f%4294967296=f:=by omega
     have hpid8:∀id,ev.pid=some id->H7.next<=id/\id<H8.next:=λid hi=>he8.own id hi;rw[hf]at g8;simp(disch:=first|omega|(simp only[RY]<;>omega)|decide)only[↓RD,RZ,eq_self,seval,g8,e2];refine zaf (zou a8 k8.next (by omega) f 2 (by omega) (by omega)) ?_;rintro w9 H9 ⟨a9,b9,st9⟩;have e3:(elems p).length/4%4294967296=(elems p).length/4:=by omega
     have he9:By H7.next H9 ev (elems p):=he8.step st9 λid hi hF=>by
      have h1:=(a7'.lc.own id (by simpa [zbT]using hF)).2;have h2:=(hpid8 id hi).1;omega
     have k9:=k8.trans b9;simp(disch:=first|omega|(simp only[RY]<;>omega)|decide)only[↓RD,RZ,eq_self,seval,he9.vlen,e3];refine zaf (zou a9 k9.next (by simp[bn_len,hl0];omega) ((elems p).length/4) 2 (by omega) (by omega)) ?_;rintro w10 H10 ⟨a10,b10,st10⟩;have he10:By H7.next H10 ev (elems p):=he9.step st10 λid hi hF=>by
      have h2:=hpid8 id hi;rcases st9.own id hF with h|h
      ·have h1:=(a7'.lc.own id (by simpa [zbT]using h)).2;omega
      ·omega
     have k10:=k9.trans b10;simp(disch:=first|omega|(simp only[RY]<;>omega)|decide)only[↓RD,RZ,eq_self,seval];refine okb_ab a10 k10.next he10.ac (by simp[bn_len,hl0];omega) λw11 H11 a11 b11=>?_;simp(disch:=first|omega|(simp only[RY]<;>omega)|decide)only[↓RD,RZ,eq_self,seval];refine⟨w11,rfl,?_,k10.trans b11⟩;have ehb:hb p=hb0 p++bn 2 f++bn 2 ((elems p).length/4)++elems p:=by
      unfold hb extb;rw[if_neg hz,hf,yan];simp only[yaI]
     rw[ehb];exact a11
   ·rintro r H8 ⟨w8,rfl,a8,k8⟩;have g8:H8.get H.next = _:=(k8.same _ (by omega)).trans g2;have s8:Grow H H8:=Grow.bel7' s02 (by omega) k8;have hpl:=(hp.ext s8).vlen;obtain⟨d,hd⟩:=ya4 hpd0;rw[hd]at g8 hpd1;have hdt:p.pad.toNat=d:=by rw[hd];rfl
    rw[hdt];have hhl:(hb p).length<=549755813888:=by
     unfold hb extb;rw[yaf,hl0];split
     ·simp;omega
     ·rename_i hz;have:=zrp hg hz;simp only[yaf,bn_len];omega
    have e1:((hb p).length:Int)+(p.pay.length:Nat)=(((hb p).length+p.pay.length:Nat):Int):=rfl;have e2:(((hb p).length+p.pay.length:Nat):Int)+(d:Nat)=(((hb p).length+p.pay.length+d:Nat):Int):=rfl;by_cases hbig:1200<(hb p).length+p.pay.length+d
    ·rw[if_pos hbig];simp(disch:=first|omega|(simp only[RY]<;>omega)|decide)only[↓RD,RZ,eq_self,seval,a8.lc.vlen,g8,hpl,e1,e2];exact⟨s8,rfl⟩
    ·rw[if_neg hbig];simp(disch:=first|omega|(simp only[RY]<;>omega)|decide)only[↓RD,RZ,eq_self,seval,a8.lc.vlen,g8,hpl,e1,e2];refine okb_ab a8 k8.next (hp.ext s8).ac (by omega) λw9 H9 a9 b9=>?_;have k9:=k8.trans b9;have s9:Grow H H9:=Grow.bel7' s02 (by omega) k9;have g9:H9.get H.next = _:=(b9.same _ (by omega)).trans g8;by_cases hd0:d=0
     ·subst hd0;simp(disch:=first|omega|(simp only[RY]<;>omega)|decide)only[↓RD,RZ,eq_self,seval,g9];refine⟨s9,w9,rfl,?_⟩;unfold padb;rw[if_pos rfl,yaJ];exact a9.by.low (by omega)
     ·simp(disch:=first|omega|(simp only[RY]<;>omega)|decide)only[↓RD,RZ,eq_self,seval,g9];refine okb_apfz (m:=d) a9 k9.next (by simp;omega) (by simp;omega) λw10 H10 a10 b10=>?_;obtain⟨c,rfl⟩:∃c,d=c+1:=⟨d-1,by omega⟩;have ea:Ab H2.next H10 w10 ((hb p++p.pay++List.replicate c 0)++[0]):=by
       have e1:(hb p++p.pay++List.replicate c 0)++[0]=(hb p++p.pay)++List.replicate (c+1) 0:=by
        rw[yaI (hb p++p.pay),<-ycY]
       show Apf _ _ _ _ _ _ _;rw[e1,yaC,yaf,ycz,yaF];exact a10
      have k10:=k9.trans b10;have g10:H10.get H.next = _:=(b10.same _ (by omega)).trans g9;have s10:Grow H H10:=Grow.bel7' s02 (by omega) k10;generalize hlm:hb p++p.pay++List.replicate c 0=lm at *;have hll:lm.length<=1200:=by rw[<-hlm];simp only[yaf,yaF];omega
      have hvl:=ea.lc.vlen;obtain⟨id,cap,o,rfl,hb10,h1,h2,hcap⟩:=ea.mem (by simp);rw[yaf,yci]at hvl hcap ⊢;have e5:((lm.length+1:Nat):Int)-1=(lm.length:Nat):=by omega
      have hia:∀{k:IntKind},Ax.iaddr none 1 (.sl id 0 (lm.length+1) cap) (.int k (lm.length:Nat))=some (.ptr id lm.length):=λ{k}=>by
       have:=zpC (id:=id) (off:=0) (len:=lm.length+1) (c:=cap) (k:=k) (i:=((lm.length:Nat):Int)) (e:=1) (by omega) (by omega);simpa using this
      have e6:(c+1)%256=c+1:=by omega
      simp(disch:=first|omega|(simp only[RY]<;>omega)|decide)only[↓RD,RZ,eq_self,seval,hvl,e5,g10,hia,e6];refine zsc (size:=1) (off:=lm.length) (cells':=(lm++[c+1]).map by8) hb10 ⟨by rfl,by simp,by rfl⟩ (zrK lm 0 (c+1)) ?_;simp(disch:=first|omega|(simp only[RY]<;>omega)|decide)only[↓RD,RZ,eq_self,seval];refine⟨s10.set (by omega) _,_,rfl,?_⟩;have efin:hb p++p.pay++padb (c+1)=lm++[c+1]:=by
       unfold padb;rw[if_neg (by omega),<-hlm];simp
      rw[efin];refine⟨?_,λi hi=>?_,by simpa using hcap⟩
      ·simp only[rcells,zai,Option.bind_some];rw[if_pos (by simp),yaz,yaj (by simp)];simp
      ·simp only[V.pid,yaa]at hi;subst hi;exact⟨by omega,by rw[zam];omega⟩
def o1(b:Bool):Nat:=if b=true then 1 else 0
end Go.Ax.R7
/- Rtp20 -/
namespace Go.Ax.R7
open Go.Ax
end Go.Ax.R7
namespace Go.Ax
open R7
end Go.Ax
/- Rtp21 -/
namespace Go.Ax.R7
open Go.Ax
def bytes_good{p:Pkt}{l:List Nat}(h:bytes p = .ok l):good p=true/\(hb p).length+p.pay.length+p.pad.toNat<=1200/\l=hb p++p.pay++padb p.pad.toNat:=by
 unfold bytes at h;split at h
 ·cases h
 ·rename_i hg;split at h
  ·cases h
  ·rename_i hl;cases h;exact⟨by simpa using hg,by omega,rfl⟩
def ztg(n:Nat):(padb n).length=n:=by
 unfold padb;split
 ·rename_i e;rw[e];rfl
 ·simp;omega
end Go.Ax.R7
namespace Go.Ax
open R7
end Go.Ax
/- Rtp22 -/
namespace Go.Ax.R7
open Go.Ax
def ze6{a m c:List Nat}{i n:Nat}(hi:a.length=i)(hn:m.length=n):piece (a++(m++c)) i n=m:=by
 unfold piece;rw[ycc hi,ybW hn]
def bn_succ(k n:Nat):bn (k+1) n=bn k (n/256)++[n%256]:=by
 unfold bn;rw[ycp,yaC];congr 1
 ·refine ycr λi hi=>?_;have:=ya0.1 hi;have e:k+1-1-i=(k-1-i)+1:=by omega
  rw[e,ybu,ycx,ycd]
 ·simp
def zve : ∀ (k n : Nat), n < 256 ^ k -> be (bn k n) = n:= by
  intro k
  induction k with
  | zero => intro n h; have : n = 0 := by simpa using h
            subst this;rfl
  | succ k ih=>
    intro n h
    rw [bn_succ, be_snoc, ih _ (by rw [ydz (by decide)];rw [ybu] at h;exact h)]
    omega
def zr6(one:Bool)(m:Nat):zfE one (List.replicate m 0)=some []:=by
 induction m with
 | zero=>rw[zfE,dif_pos (by simp)]
 | succ m ih=>
  rw[zfE,dif_neg (by simp),if_pos (by simp[yb5])];simpa [yb5]using ih
def zuw{prof:Int}{x:X}{r:List Nat}(hg:goodX prof x=true)(hp:prof=48862\/prof=4096):zfE (decide (prof=48862)) (xb prof x++r)=(zfE (decide (prof=48862)) r).map (x :: ·):=by
 obtain⟨x1,x2⟩:=x;rcases hp with rfl|rfl
 ·obtain⟨c1,c2,c3,c4⟩:=zpE hg;dsimp only at c1 c2 c3 c4;obtain⟨i,rfl⟩:=ya4 (show 0<=x1 by omega);have hx:xb 48862 ((i:Int),x2)++r=(16*i+(x2.length-1))::(x2++r):=by
   unfold xb;rw[if_pos rfl];rfl
  rw[hx];have d:decide ((48862:Int)=48862)=true:=rfl;rw[d];have e1:(16*i+(x2.length-1))/16=i:=by omega
  have e2:(16*i+(x2.length-1))%16+1=x2.length:=by omega
  generalize hb:16*i+(x2.length-1)=b at *;rw[zfE,dif_neg (by simp),if_neg (by simp;omega),if_neg (by simp;omega),if_neg ?_]
  ·have h1:zoe true (b::(x2++r))=((i:Int),x2):=by
    unfold zoe eid enum zeY;simp only[if_true,yc3,e1,e2,ybO,yaz,ybW]
   have h2:(b::(x2++r)).drop (elen true (b::(x2++r)))=r:=by
    unfold elen enum zeY;simp only[if_true,yc3,e2];rw[ycQ 1,ybO,ycc rfl]
   rw[h1,h2]
  ·unfold ebad eid enum zeY;simp only[if_true,yc3,e1,e2,List.length_cons,yaf];omega
 ·obtain⟨c1,c2,c4⟩:=zpD hg;dsimp only at c1 c2 c4;obtain⟨i,rfl⟩:=ya4 (show 0<=x1 by omega);have hx:xb 4096 ((i:Int),x2)++r=i::x2.length::(x2++r):=by
   unfold xb;rw[if_neg (by decide)];rfl
  rw[hx];have d:decide ((4096:Int)=48862)=false:=rfl;rw[d];rw[zfE,dif_neg (by simp),if_neg (by simp;omega),if_neg (by simp),if_neg ?_]
  ·have h1:zoe false (i::x2.length::(x2++r))=((i:Int),x2):=by
    unfold zoe eid enum zeY;simp
   have h2:(i::x2.length::(x2++r)).drop (elen false (i::x2.length::(x2++r)))=r:=by
    unfold elen enum zeY;have:(if false=true then 1 else 2)+(if false=true then (i::x2.length::(x2++r)).getD 0 0%16+1 else (i::x2.length::(x2++r)).getD 1 0)=x2.length+1+1:=by simp;omega
    rw[this,ybO,ybO,ycc rfl]
   rw[h1,h2]
  ·unfold ebad eid enum zeY;simp;omega
def pexts_xs{prof:Int}(hp:prof=48862\/prof=4096)(m:Nat):∀xs:List X,(∀x∈xs,goodX prof x=true)->zfE (decide (prof=48862)) ((xs.map (xb prof)).flatten++List.replicate m 0)=some xs:=by
 intro xs
 induction xs with
 | nil=>intro _;exact zr6 _ _
 | cons x xs ih=>
  intro h;rw[yaV,ybk,yaI,zuw (h x (by simp)) hp,ih λy hy=>h y (by simp[hy])];rfl
def parse_bytes{p:Pkt}{b:List Nat}(h:bytes p = .ok b)(hn:Num p):parse b = .ok p:=by
 obtain⟨hgd,hlen,hbe⟩:=bytes_good h;have hg:=zsr hgd;obtain⟨⟨⟨ht0,ht1⟩,hcl,hpd0,hpd1⟩,hz0,hpf,hgx⟩:=id hg;obtain⟨m1,m2,m3,m4⟩:=hn;obtain⟨c,hcd⟩:=ya4 hpd0;obtain⟨t,htd⟩:=ya4 ht0;have hct:p.pad.toNat=c:=by rw[hcd];rfl
 have htt:p.typ.toNat=t:=by rw[htd];rfl
 rw[hct]at hlen hbe;have hl0:=hb0_len p;have hlc:=zsC (p:=p) p.csrc.length (yah _);rw[zsD]at hlc;have hbl:b.length=(hb p).length+p.pay.length+c:=by rw[hbe,yaf,yaf,ztg]
 have hhl:(hb p).length=12+4*p.csrc.length+(extb p).length:=by unfold hb;rw[yaf,hl0]
 generalize htl:extb p++p.pay++padb c=tl;have eb:b=b0 p::b1 p::(bn 2 p.seq++(bn 4 p.ts++(bn 4 p.ssrc++(csb p++tl)))):=by
  rw[hbe,<-htl];unfold hb hb0;simp[yaI]
 have g0:b.getD 0 0=b0 p:=by rw[eb];rfl
 have g1:b.getD 1 0=b1 p:=by rw[eb];rfl
 have q0:b0 p/64=2/\b0 p%16=p.csrc.length/\(b0 p/16%2=1<->p.prof≠0)/\(b0 p/32%2=1<->0<c):=by
  unfold b0;rw[hcd];by_cases e1:0<c<;>by_cases e2:p.prof=0
  ·rw[if_pos (by omega),if_pos e2];refine⟨by omega,by omega,by omega,by omega⟩
  ·rw[if_pos (by omega),if_neg e2];refine⟨by omega,by omega,by omega,by omega⟩
  ·rw[if_neg (by omega),if_pos e2];refine⟨by omega,by omega,by omega,by omega⟩
  ·rw[if_neg (by omega),if_neg e2];refine⟨by omega,by omega,by omega,by omega⟩
 obtain⟨q01,q02,q03,q04⟩:=q0;have q1:decide (b1 p/128%2=1)=p.mark/\b1 p%128=t:=by
  unfold b1;rw[htt];cases p.mark
  ·rw[if_neg (by decide)];exact⟨decide_eq_false (by omega),by omega⟩
  ·rw[if_pos rfl];exact⟨decide_eq_true (by omega),by omega⟩
 have k1:be (piece b 2 2)=p.seq:=by
  rw[eb,show b0 p::b1 p::(bn 2 p.seq++(bn 4 p.ts++(bn 4 p.ssrc++(csb p++tl))))=[b0 p,b1 p]++(bn 2 p.seq++(bn 4 p.ts++(bn 4 p.ssrc++(csb p++tl)))) from rfl,ze6 (i:=2) rfl (bn_len _ _),zve _ _ (by omega)]
 have k2:be (piece b 4 4)=p.ts:=by
  rw[eb,show b0 p::b1 p::(bn 2 p.seq++(bn 4 p.ts++(bn 4 p.ssrc++(csb p++tl))))=([b0 p,b1 p]++bn 2 p.seq)++(bn 4 p.ts++(bn 4 p.ssrc++(csb p++tl))) by simp,ze6 (by simp[bn_len]) (bn_len _ _),zve _ _ (by omega)]
 have k3:be (piece b 8 4)=p.ssrc:=by
  rw[eb,show b0 p::b1 p::(bn 2 p.seq++(bn 4 p.ts++(bn 4 p.ssrc++(csb p++tl))))=([b0 p,b1 p]++bn 2 p.seq++bn 4 p.ts)++(bn 4 p.ssrc++(csb p++tl)) by simp,ze6 (by simp[bn_len]) (bn_len _ _),zve _ _ (by omega)]
 have ed12:b.drop 12=csb p++tl:=by
  rw[eb,show b0 p::b1 p::(bn 2 p.seq++(bn 4 p.ts++(bn 4 p.ssrc++(csb p++tl))))=([b0 p,b1 p]++bn 2 p.seq++bn 4 p.ts++bn 4 p.ssrc)++(csb p++tl) by simp,ycc (by simp[bn_len])]
 have hcsn:csn b=p.csrc.length:=by unfold csn;rw[g0];exact q02
 have kc:zgI b=p.csrc:=by
  unfold zgI;rw[hcsn];refine ycN (by simp) λi h1 h2=>?_;rw[ybQ,yc7];have e1:piece b (12+4*i) 4=bn 4 p.csrc[i]:=by
   unfold piece;rw[<-ya9,ed12,ybR (by omega),ybo (by rw[yar];omega)];have:=zlg (k:=4) (p.csrc.map (bn 4)) (λx hx=>by obtain⟨y,_,rfl⟩:=yaZ.1 hx;exact bn_len _ _) i (by rw[yag];exact h2);rw[ybQ,ycx]at this;exact this
  rw[e1,zve _ _ (by have:=m4 _ (yaW h2);omega)]
 have edx:b.drop (12+4*p.csrc.length)=tl:=by
  rw[<-ya9,ed12,ycc hlc]
 have kx:zj3 b = .ok (p.prof,p.exts,(extb p).length):=by
  unfold zj3;rw[g0,hcsn,edx];by_cases hz:p.prof=0
  ·rw[if_neg (by rw[q03];omega),hz,hz0 hz];unfold extb;rw[if_pos hz];first|done|rfl
  ·rw[if_pos (by rw[q03];exact hz)];have hpf':=hpf.resolve_left hz;obtain⟨f,hf,hf2⟩:∃f:Nat,p.prof=(f:Int)/\(f=48862\/f=4096):=by
    rcases hpf' with e|e
    ·exact⟨48862,e,.inl rfl⟩
    ·exact⟨4096,e,.inr rfl⟩
   have hft:p.prof.toNat=f:=by rw[hf];rfl
   have e4:(elems p).length%4=0:=by unfold elems padn;rw[yaf,yaF];omega
   have hxe:extb p=bn 2 f++bn 2 ((elems p).length/4)++elems p:=by unfold extb;rw[if_neg hz,hft]
   have hxl:(extb p).length=4+(elems p).length:=by rw[hxe];simp only[yaf,bn_len]
   have et:tl=bn 2 f++(bn 2 ((elems p).length/4)++(elems p++(p.pay++padb c))):=by rw[<-htl,hxe];simp[yaI]
   have f1:be (piece tl 0 2)=f:=by
    have:=@ze6 [] (bn 2 f) (bn 2 ((elems p).length/4)++(elems p++(p.pay++padb c))) 0 2 rfl (bn_len _ _);rw[et];rw[yaU]at this;rw[this,zve _ _ (by omega)]
   have f2:be (piece tl 2 2)=(elems p).length/4:=by rw[et,ze6 (bn_len _ _) (bn_len _ _),zve _ _ (by omega)]
   have f3:piece tl 4 (elems p).length=elems p:=by
    rw[et,<-yaI,ze6 (by simp[bn_len]) rfl]
   have f4:4*((elems p).length/4)=(elems p).length:=by omega
   have ftl:tl.length=4+(elems p).length+p.pay.length+c:=by rw[<-htl,yaf,yaf,ztg,hxl]
   unfold pext;rw[f1,f2,f4,f3,if_neg (by omega),if_neg (by omega),if_neg (by omega),<-hf];have:=pexts_xs hpf' (padn (xsb p).length) p.exts hgx;have e5:elems p=(p.exts.map (xb p.prof)).flatten++List.replicate (padn (xsb p).length) 0:=rfl;rw[e5,this,<-e5,hxl]
 unfold parse;rw[if_neg (by omega),if_neg (by omega),g0,if_neg (by omega),hcsn,if_neg (by omega),kx];dsimp only;have hat:12+4*p.csrc.length+(extb p).length=(hb p).length:=hhl.symm;rw[hat];have hp:piece b (hb p).length p.pay.length=p.pay:=by rw[hbe,yaI,ze6 rfl rfl]
 have hh:zn6 b=⟨p.mark,p.typ,p.seq,p.ts,p.ssrc,[],0,[],0,[]⟩:=by
  unfold zn6;rw[g1,q1.1,q1.2,k1,k2,k3,htd]
 by_cases hc0:0<c
 ·have hlast:b.getD (b.length-1) 0=c:=by
   have e1:b=(hb p++p.pay++List.replicate (c-1) 0)++[c]:=by
    rw[hbe];unfold padb;rw[if_neg (by omega)];simp
   have e2:b.length-1=(hb p++p.pay++List.replicate (c-1) 0).length:=by
    rw[hbl];simp only[yaf,yaF];omega
   have e3:b[(hb p++p.pay++List.replicate (c-1) 0).length]?=some c:=by
    generalize hb p++p.pay++List.replicate (c-1) 0=m at *;rw[e1];simp
   rw[e2,yal,e3];rfl
  rw[if_pos (q04.2 hc0),hlast,if_neg (by omega),hbl,show(hb p).length+p.pay.length+c-(hb p).length-c=p.pay.length by omega,hp,hh,kc,<-hcd]
 ·rw[if_neg (λe=>hc0 (q04.1 e)),hbl,show(hb p).length+p.pay.length+c-(hb p).length=p.pay.length by omega,hp,hh,kc];have:p.pad=0:=by omega
  rw[<-this]
end Go.Ax.R7
/- Rtp25 -/
namespace Go.Ax.R7
open Go.Ax
def bytes_8{p:Pkt}{b:List Nat}(h:bytes p = .ok b)(h1:Ok8 p.pay)(h2:∀x∈p.exts,Ok8 x.2):Ok8 b:=by
 obtain⟨hgd,hlen,rfl⟩:=bytes_good h;have hg:=zsr hgd;obtain⟨⟨⟨ht0,ht1⟩,hcl,hpd0,hpd1⟩,hz0,hpf,hgx⟩:=id hg;have hx:Ok8 (extb p):=by
  unfold extb;split
  ·intro x hx;cases hx
  ·rename_i hz;have hpf':=hpf.resolve_left hz;intro x hx;simp only[yaM]at hx;rcases hx with(hx|hx)|hx
   ·exact bn_8 _ _ x hx
   ·exact bn_8 _ _ x hx
   ·unfold elems xsb at hx;rcases yaM.1 hx with hx|hx
    ·obtain⟨l,hl,hx⟩:=ycl.1 hx;obtain⟨y,hy,rfl⟩:=yaZ.1 hl;have hgy:=hgx y hy;unfold xb at hx;rcases yaM.1 hx with hx|hx
     ·rcases hpf' with e|e
      ·rw[e]at hgy hx;have:=zpE hgy;rw[if_pos rfl]at hx;simp only[yaq]at hx;omega
      ·rw[e]at hgy hx;have:=zpD hgy;rw[if_neg (by decide)]at hx;simp only[yap,yat,or_false]at hx;omega
     ·exact h2 y hy x hx
    ·have:=ybA hx;omega
 intro x hx';simp only[hb,hb0,yaM]at hx';rcases hx' with((((((h|h)|h)|h)|h)|h)|h)|h
 ·simp only[yap,yat,or_false]at h;unfold b0 b1 at h;rcases h with rfl|rfl
  ·split<;>split<;>omega
  ·split<;>omega
 ·exact bn_8 _ _ x h
 ·exact bn_8 _ _ x h
 ·exact bn_8 _ _ x h
 ·unfold csb at h;obtain⟨l,hl,h⟩:=ycl.1 h;obtain⟨y,_,rfl⟩:=yaZ.1 hl;exact bn_8 _ _ x h
 ·exact hx x h
 ·exact h1 x h
 ·unfold padb at h;split at h
  ·cases h
  ·rcases yaM.1 h with h|h
   ·have:=ybA h;omega
   ·simp only[yaq]at h;omega
end Go.Ax.R7
namespace Go.Ax
open R7
end Go.Ax
