/-
  Texts of mine, put together by program (wip/slim.py), for law_worldKnown: part 6.
-/
import Derived.Test.YtjabaappgopdmaaGreatZw5
import Derived.LoopN
noncomputable section
set_option linter.unusedVariables false
set_option linter.unusedSimpArgs false
set_option linter.defProp false
set_option maxRecDepth 100000
/- Ax16 -/
namespace Go.Ax
section
variable {P:Program} {G:Sem'} {A A' A1 A2:Fr} {H H' H1:Heap} {rv:List RV}
/-! Heaps stay whole. -/
def zsz(hG:zgb P G) {un:List (Nat×Nat)} {l:List AO} (h:zaC G un 0 [] [] l A H=some (A',H')):H.le H':=by
 obtain⟨As,Hs,vs,tr⟩:=znp h;have key:∀k,k<=l.length->H.le (Hs k):=by
  intro k
  induction k with
  | zero=>intro _;rw[tr.h0];exact le_refl _
  | succ k ih=>
   intro hk;have hp:l[k]?=some l[k]:=yag _;exact le_trans (ih (by omega)) (zoE hG (tr.step k _ hp).1)
 rw[<-tr.hn];exact key _ (yaj _)
def zfB:∀{rv:List RV} {L:List V} {H H':Heap},results A rv H=some (L,H')->H'=H:=by
 intro rv
 induction rv with
 | nil=>intro L H H' h;have:=zar h;simp only[yae]at this;exact this.2
 | cons x rv ih=>
  intro L H H' h;cases x with
  | tmp t=>
   simp only[results]at h;obtain⟨v,H1,h1,h⟩:=bind_some h;obtain⟨vs,H2,h2,h⟩:=bind_some h;have:=zar h;simp only[yae]at this;rw[this.2,ih h2,(zap h1).2]
  | cell t n=>
   simp only[results]at h;obtain⟨v,H1,h1,h⟩:=bind_some h;obtain⟨v2,H2,h2,h⟩:=bind_some h;obtain⟨vs,H3,h3,h⟩:=bind_some h;have:=zar h;simp only[yae]at this;have e2:H2=H1:=by
    cases v<;>simp only[mload,yaa,yac,yae,reduceCtorEq]at h2
    ·obtain⟨_,_,_,_,_,rfl⟩:=h2;rfl
    ·obtain⟨_,_,_,rfl⟩:=h2;rfl
   rw[this.2,ih h3,e2,(zap h1).2]
def zhW{x:M Res}{k:List V->M Res}{r:Res} (h:M.join x k H=some (r,H')):∃r1 H1,x H=some (r1,H1)/\((∃L,r1 = .nrm L/\k L H1=some (r,H'))\/((∀L,r1≠.nrm L)/\r=r1/\H'=H1)):=by
 obtain⟨r1,H1,h1,h⟩:=bind_some h;refine⟨r1,H1,h1,?_⟩;cases r1 with
 | nrm L=>exact .inl ⟨L,rfl,h⟩
 | ex id L=>have:=zar h;simp only[yae]at this;exact .inr ⟨λ_ e=>(by cases e),this.1,this.2⟩
 | ret L=>have:=zar h;simp only[yae]at this;exact .inr ⟨λ_ e=>(by cases e),this.1,this.2⟩
def zr9{id:Nat}{x:M Res}{k:List V->M Res}{r:Res} (h:M.blk id x k H=some (r,H')):∃r1 H1,x H=some (r1,H1) /\
  ((∃L,(r1 = .nrm L\/r1 = .ex id L)/\k L H1=some (r,H'))\/((∀L,r1≠.nrm L)/\(∀L,r1≠.ex id L)/\r=r1/\H'=H1)):=by
 obtain⟨r1,H1,h1,h⟩:=bind_some h;refine⟨r1,H1,h1,?_⟩;cases r1 with
 | nrm L=>exact .inl ⟨L,.inl rfl,h⟩
 | ex i L=>
  dsimp only at h;by_cases e:i=id
  ·rw[if_pos e]at h;exact .inl ⟨L,.inr (by rw[e]),h⟩
  ·rw[if_neg e]at h;have:=zar h;simp only[yae]at this;exact .inr ⟨λ_ e=>(by cases e),λL' e'=>(by injection e' with e1 _;exact e e1),this.1,this.2⟩
 | ret L=>have:=zar h;simp only[yae]at this;exact .inr ⟨λ_ e=>(by cases e),λ_ e=>(by cases e),this.1,this.2⟩
def zdK{c:V}{x y:M Res}{r:Res×Heap}(h:M.ite c x y H=some r):∃b,c = .bool b/\(if b then x else y) H=some r:=by
 cases c<;>simp only[M.ite,M.fail,reduceCtorEq]at h
 rename_i b;exact⟨b,rfl,by cases b<;>exact h⟩
def zeO{body:List V->M Res}{L:List V}{r:Res×Heap}(h:M.iter body L H=some r):∃n,iterN body n L H=some r:=by
 unfold M.iter at h;split at h
 ·exact⟨_,h⟩
 ·cases h
def zrV{body:List V->M Res} (hb:∀L H r H',body L H=some (r,H')->H.le H'):∀(n:Nat) (L:List V) (H:Heap) (r:Res) (H':Heap),iterN body n L H=some (r,H')->H.le H':=by
 intro n
 induction n with
 | zero=>intro L H r H' h;cases h
 | succ n ih=>
  intro L H r H' h;simp only[iterN]at h;obtain⟨r1,H1,h1,h2|h2⟩:=zhW h
  ·obtain⟨L',_,h3⟩:=h2;exact le_trans (hb _ _ _ _ h1) (ih _ _ _ _ h3)
  ·obtain⟨_,_,rfl⟩:=h2;exact hb _ _ _ _ h1
def zjr(hG:zgb P G):∀(c:C) (cx:List (Nat×List Nat)) (J:List Nat) (A:Fr) (H:Heap) (r:Res) (H':Heap),exec G rv c cx J A H=some (r,H')->H.le H':=by
 intro c
 induction c with
 | done=>
  intro cx J A H r H' h;simp only[exec]at h;obtain⟨L,H1,h1,h⟩:=bind_some h;have:=zar h;simp only[yae]at this;rw[this.2,(zap h1).2];exact le_refl _
 | bad=>intro cx J A H r H' h;cases h
 | ops l k ih=>
  intro cx J A H r H' h;simp only[exec]at h;obtain⟨A1,H1,h1,h⟩:=bind_some h;exact le_trans (zo5 hG _ _ _ h1) (ih _ _ _ _ _ _ h)
 | draw l un k ih=>
  intro cx J A H r H' h;simp only[exec]at h;obtain⟨A1,H1,h1,h⟩:=bind_some h;exact le_trans (zsz hG h1) (ih _ _ _ _ _ _ h)
 | cond x a b iha ihb=>
  intro cx J A H r H' h;simp only[exec]at h;cases hx:x.ev A with
  | none=>rw[hx]at h;cases h
  | some c=>
   rw[hx]at h;obtain⟨t,_,h⟩:=zdK h;cases t
   ·exact ihb _ _ _ _ _ _ h
   ·exact iha _ _ _ _ _ _ h
 | condJ x a b J' W k iha ihb ihk=>
  intro cx J A H r H' h;simp only[exec]at h;cases hx:x.ev A with
  | none=>rw[hx]at h;cases h
  | some c=>
   rw[hx]at h;obtain⟨r1,H1,h1,h2⟩:=zhW h;obtain⟨t,_,h1⟩:=zdK h1;have hle:H.le H1:=by
    cases t
    ·exact ihb _ _ _ _ _ _ h1
    ·exact iha _ _ _ _ _ _ h1
   rcases h2 with⟨L,_,h3⟩|⟨_,_,rfl⟩
   ·exact le_trans hle (ihk _ _ _ _ _ _ h3)
   ·exact hle
 | blk id a J' W k iha ihk=>
  intro cx J A H r H' h;simp only[exec]at h;obtain⟨r1,H1,h1,h2⟩:=zr9 h;have hle:=iha _ _ _ _ _ _ h1;rcases h2 with⟨L,_,h3⟩|⟨_,_,_,rfl⟩
  ·exact le_trans hle (ihk _ _ _ _ _ _ h3)
  ·exact hle
 | loop a K W iha=>
  intro cx J A H r H' h;simp only[exec]at h;obtain⟨L,H1,h1,h2⟩:=bind_some h;obtain⟨_,rfl⟩:=zap h1;obtain⟨n,h⟩:=zeO h2;exact zrV (λL H r H' hb=>iha _ _ _ _ _ _ hb) n _ _ _ _ h
 | exit id=>
  intro cx J A H r H' h;simp only[exec]at h;cases hc:zhA cx id with
  | none=>rw[hc]at h;cases h
  | some J1=>
   rw[hc]at h;obtain⟨L,H1,h1,h⟩:=bind_some h;have:=zar h;simp only[yae]at this;rw[this.2,(zap h1).2];exact le_refl _
 | ret=>
  intro cx J A H r H' h;simp only[exec]at h;obtain⟨L,H1,h1,h⟩:=bind_some h;have:=zar h;simp only[yae]at this;rw[this.2,zfB h1];exact le_refl _
/-! Frames. -/
def Kept(W:List Nat)(A A1:Fr):Prop:=∀t v,t∉W->A.get t=some v->A1.get t=some v
def Kept.refl(W:List Nat)(A:Fr):Kept W A A:=λ_ _ _ h=>h
def Kept.trans{W:List Nat}(h:Kept W A A1)(k:Kept W A1 A2):Kept W A A2:=λt v ht hv=>k t v ht (h t v ht hv)
def Kept.mono{W W':List Nat}(h:Kept W A A1)(hs:∀t,t∈W->t∈W'):Kept W' A A1:=λt v ht hv=>h t v (λhw=>ht (hs t hw)) hv
def zrS{W:List Nat}{d:Option Nat}{v:V}(h:∀t,d=some t->t∈W):Kept W A (A.put d v):=by
 intro t u ht hu;cases d with
 | none=>exact hu
 | some d=>
  simp only[Fr.put,Fr.get];rw[if_neg (by rintro rfl;exact ht (h _ rfl))];exact hu
def zqA{W:List Nat}:∀(l:List AO) (A:Fr) (H:Heap),(∀o∈l,∀t,o.dst=some t->t∈W)->zdR G l A H=some (A',H')->Kept W A A':=by
 intro l
 induction l with
 | nil=>intro A H _ h;have:=zar h;simp only[yae]at this;rw[this.1];exact .refl _ _
 | cons o l ih=>
  intro A H hW h;simp only[zdR]at h;obtain⟨v,H1,_,h⟩:=bind_some h;exact(zrS (hW o (ya1 ..))).trans (ih _ _ (λo' ho'=>hW o' (yaY _ ho')) h)
def zo6{W:List Nat} {un:List (Nat×Nat)} {l:List AO} (hW:∀o∈l,∀t,o.dst=some t->t∈W) (h:zaC G un 0 [] [] l A H=some (A',H')):Kept W A A':=by
 obtain⟨As,Hs,vs,tr⟩:=znp h;have key:∀k,k<=l.length->Kept W A (As k):=by
  intro k
  induction k with
  | zero=>intro _;rw[tr.a0];exact .refl _ _
  | succ k ih=>
   intro hk;have hp:l[k]?=some l[k]:=yag _;rw[(tr.step k _ hp).2];exact(ih (by omega)).trans (zrS (hW _ (ycm _)))
 rw[<-tr.an];exact key _ (yaj _)
def zsX(B A:Fr)(t:Nat):Fr.get (B++A) t=(match B.get t with|some v=>some v|none=>A.get t):=by
 induction B with
 | nil=>rfl
 | cons p B ih=>
  obtain⟨k,v⟩:=p;simp only[yco,Fr.get];split
  ·rfl
  ·exact ih
def drop_get(W:List Nat):∀(A:Fr) (t:Nat),(Fr.drop W A).get t=if t∈W then none else A.get t:=by
 intro A
 induction A with
 | nil=>intro t;simp[Fr.drop,Fr.get]
 | cons p A ih=>
  intro t;obtain⟨k,v⟩:=p;simp only[Fr.drop,ycy,decide_eq_true_eq];by_cases hk:k∈W
  ·rw[if_pos hk,ih];simp only[Fr.get];by_cases ht:t∈W
   ·rw[if_pos ht,if_pos ht]
   ·rw[if_neg ht,if_neg ht,if_neg (by rintro rfl;exact ht hk)]
  ·rw[if_neg hk];simp only[Fr.get,ih];by_cases e:k=t
   ·subst e;rw[if_pos rfl,if_neg hk,if_pos rfl]
   ·rw[if_neg e,if_neg e]
def zvO{A1:Fr}{L0:List V}:∀(ts:List Nat) (i:Nat) (L:List V),zaV A1 ts=some L->(∀j v,L[j]?=some v->L0.getD (i+j) .undef=v)->∀t,(zqd L0 i ts).get t=if t∈ts then A1.get t else none:=by
 intro ts
 induction ts with
 | nil=>intro i L _ _ t;simp[zqd,Fr.get]
 | cons s ts ih=>
  intro i L h hL t;simp only[zaV,yaa,yac]at h;obtain⟨v,hv,L',hL',rfl⟩:=h;simp only[zqd,Fr.get];by_cases e:s=t
  ·subst e;rw[if_pos rfl,if_pos (ya1 ..),hv];have:=hL 0 v (by simp);rw[<-this];rfl
  ·rw[if_neg e,ih (i+1) L' hL' (λj u hj=>by rw[<-hL (j+1) u (by simpa using hj)];congr 1;omega)];have:(t∈s::ts)=(t∈ts):=by
    rw[yaD];exact propext ⟨λh=>h.resolve_left λh=>e h.symm,.inr⟩
   simp only[this]
def zrU{J W:List Nat}{L:List V}(h:zaV A1 J=some L)(t:Nat):(A.join J W L).get t=if t∈J/\(A1.get t).isSome=true then A1.get t else if t∈W then none else A.get t:=by
 unfold Fr.join;rw[zsX,zvO J 0 L h (λj v hj=>by simp[hj]),drop_get];by_cases ht:t∈J
 ·rw[if_pos ht];cases hv:A1.get t with
  | none=>simp
  | some v=>simp[ht]
 ·rw[if_neg ht];simp[ht]
def znP{J W:List Nat}{L:List V}(h:zaV A1 J=some L)(hk:Kept W A A1){t:Nat}{v:V} (hv:(A.join J W L).get t=some v):A1.get t=some v:=by
 rw[zrU h]at hv;split at hv
 ·exact hv
 ·split at hv
  ·cases hv
  ·rename_i hw;exact hk t v hw hv
def zle{J W:List Nat}{L:List V}(h:zaV A1 J=some L)(hk:Kept W A A1):Kept W A (A.join J W L):=by
 intro t v ht hv;rw[zrU h,if_neg ht,hv,hk t v ht hv];split<;>rfl
def Rel.weaken{N:Nat}{m:Map}{Z:Nat->Prop}{a:Act}{w:World}(h:Rel N m Z A1 H a w)(hs:∀t v,A2.get t=some v->A1.get t=some v):Rel N m Z A2 H a w:=
 ⟨h.size,h.defers,λt v hv=>h.fr t v (hs t v hv),h.hp⟩
end
/-! The code of a function. -/
def zrh{P:Program}{ops:Array Oper}:∀{l:List Oper} {aos:List AO},zeH P ops l=some aos->∀ao∈aos,∃o∈l,ao.dst=o.dst:=by
 intro l
 induction l with
 | nil=>intro aos h ao hm;simp only[zeH,yab]at h;subst h;cases hm
 | cons o l ih=>
  intro aos h ao hm;simp only[zeH,yaa,yac]at h;obtain⟨a,ha,as,has,rfl⟩:=h;rcases yaD.1 hm with rfl|hm
  ·exact⟨o,ya1 ..,(zdg ha).2.1⟩
  ·obtain⟨o',ho',h'⟩:=ih has ao hm;exact⟨o',yaY _ ho',h'⟩
def zp9{P:Program}{ops:Array Oper}{ord:List Nat} {r:List AO×List (Nat×Nat)} (h:zfn P ops ord=some r):∀ao∈r.1,∃o∈ops.toList,ao.dst=o.dst:=by
 simp only[zfn,yaa]at h;obtain⟨l,hl,h⟩:=h;split at h
 ·simp only[yab]at h;subst h;intro ao hm;simp only[ybp]at hm;obtain⟨⟨i,a⟩,hm,rfl⟩:=hm;obtain⟨p,hp⟩:=List.getElem?_of_mem hm;obtain⟨o,ho,hc⟩:=(zjN hl).2 p i a hp;refine⟨o,?_,(zdg hc).2.1⟩;rw[yaG]at ho;obtain⟨h1,rfl⟩:=ho;simp
 ·cases h
def zk8{G:Sem'}{rv:List RV} {cx:List (Nat×List Nat)} {J:List Nat} {A:Fr} {H:Heap} {r:Res×Heap} (h:exec G rv .bad cx J A H=some r):False:=by
 simp only[exec,M.fail]at h;cases h
def exec_ok{P:Program}{G:Sem'}(hG:zgb P G){N:Nat}{rv:List RV}:∀(c:Code) (k:C) (h:List (List Nat)) (ir:C) (h':List (List Nat)) (cx:List (Nat×List Nat)) (J:List Nat) (A:Fr) (H:Heap) (r:Res) (H':Heap) (m:Map) (Z:Nat->Prop) (a:Act) (w:World) (Q:Exit->Act->World->Prop),
  comp P c k h=some (ir,h')->exec G rv ir cx J A H=some (r,H')->Rel N m Z A H a w->Free m H H'->(∀d∈writes c,d<N) ->
  (∀A1 H1 m1 Z1 a1 w1,exec G rv k cx J A1 H1=some (r,H')->Ext m Z H w m1 Z1 H1 w1->Rel N m1 Z1 A1 H1 a1 w1->Kept (writes c) A A1->Q .normal a1 w1) ->
  (∀id J1 A1 L m1 Z1 a1 w1,r = .ex id L->zhA cx id=some J1->Ext m Z H w m1 Z1 H' w1->Rel N m1 Z1 A1 H' a1 w1->zaV A1 J1=some L->Kept (writes c) A A1->Q (.exit id) a1 w1) ->
  (∀A1 L m1 Z1 a1 w1,r = .ret L->Ext m Z H w m1 Z1 H' w1->Rel N m1 Z1 A1 H' a1 w1->results A1 rv H'=some (L,H')->Q .ret a1 w1)->c.wp P Q a w:=by
 intro c
 induction c with
 | skip=>
  intro k h ir h' cx J A H r H' m Z a w Q hc he hr hf hW hn hx hrt;simp only[comp,yab,yae]at hc;obtain⟨rfl,rfl⟩:=hc;exact wp_skip (hn A H m Z a w he (.refl _ _ _ _) hr (.refl _ _))
 | region id ops d=>
  intro k h ir h' cx J A H r H' m Z a w Q hc he hr hf hW hn hx hrt;simp only[comp]at hc;have hd:∀o∈ops.toList,∀t,o.dst=some t->t∈writes (.region id ops d):=λo ho t ht=>by
   simp only[writes,List.mem_filterMap];exact⟨o,ho,ht⟩
  split at hc
  ·simp only[yab,yae]at hc;obtain⟨rfl,rfl⟩:=hc;exact(zk8 he).elim
  split at hc
  ·rename_i hd0;subst hd0;simp only[yac,yae]at hc;obtain⟨l,hl,rfl,rfl⟩:=hc;simp only[exec]at he;obtain⟨A1,H1,h1,he⟩:=bind_some he;refine wp_region_list (ops_ok hG ops.toList l m Z A H a w hl h1 hr (hf.le (zjr hG _ _ _ _ _ _ _ he).1) (λo ho t ht=>hW t (hd o ho t ht)) λm1 Z1 a1 w1 e1 r1=>?_);refine hn A1 H1 m1 Z1 a1 w1 he e1 r1 (zqA l A H (λao hao t ht=>?_) h1);obtain⟨o,ho,hdo⟩:=zrh hl ao hao;exact hd o ho t (hdo ▸ ht)
  ·rename_i hd0;have hd1:d=true:=by simpa using hd0
   subst hd1;split at hc
   ·rename_i ord hs;split at hc
    ·rename_i hm;simp only[yac,yae]at hc;obtain⟨rr,hrr,rfl,rfl⟩:=hc;simp only[exec]at he;obtain⟨A1,H1,h1,he⟩:=bind_some he;refine draw_ok hG hrr hm h1 hr (hf.le (zjr hG _ _ _ _ _ _ _ he).1) (λo ho t ht=>hW t (hd o ho t ht)) λm1 Z1 a1 w1 e1 r1=>?_;refine hn A1 H1 m1 Z1 a1 w1 he e1 r1 (zo6 (λao hao t ht=>?_) h1);obtain⟨o,ho,hdo⟩:=zp9 hrr ao hao;exact hd o ho t (hdo ▸ ht)
    ·cases hc
   ·cases hc
 | seq x y ihx ihy=>
  intro k h ir h' cx J A H r H' m Z a w Q hc he hr hf hW hn hx hrt;simp only[comp,yaa]at hc;obtain⟨⟨ky,hy⟩,hcy,hcx⟩:=hc;refine wp_seq (ihx ky hy ir h' cx J A H r H' m Z a w _ hcx he hr hf (λd hd=>hW d (by simp[writes,hd])) (λA1 H1 m1 Z1 a1 w1 he1 e1 r1 k1=>?_) (λid J1 A1 L m1 Z1 a1 w1 hr1 hcx1 e1 r1 hg k1=>?_) λA1 L m1 Z1 a1 w1 hr1 e1 r1 hres=>?_)
  ·have k1':Kept (writes (.seq x y)) A A1:=k1.mono λt ht=>by simp[writes,ht]
   refine ihy k h ky hy cx J A1 H1 r H' m1 Z1 a1 w1 Q hcy he1 r1 (hf.later e1) (λd hd=>hW d (by simp[writes,hd])) (λA2 H2 m2 Z2 a2 w2 he2 e2 r2 k2=>?_) (λid J1 A2 L m2 Z2 a2 w2 hr2 hcx2 e2 r2 hg k2=>?_) λA2 L m2 Z2 a2 w2 hr2 e2 r2 hres=>?_
   ·exact hn A2 H2 m2 Z2 a2 w2 he2 (e1.trans e2) r2 (k1'.trans (k2.mono λt ht=>by simp[writes,ht]))
   ·exact hx id J1 A2 L m2 Z2 a2 w2 hr2 hcx2 (e1.trans e2) r2 hg (k1'.trans (k2.mono λt ht=>by simp[writes,ht]))
   ·exact hrt A2 L m2 Z2 a2 w2 hr2 (e1.trans e2) r2 hres
  ·exact hx id J1 A1 L m1 Z1 a1 w1 hr1 hcx1 e1 r1 hg (k1.mono λt ht=>by simp[writes,ht])
  ·exact hrt A1 L m1 Z1 a1 w1 hr1 e1 r1 hres
 | cond x p q ihp ihq=>
  intro k h ir h' cx J A H r H' m Z a w Q hc he hr hf hW hn hx hrt;simp only[comp,yaa]at hc;obtain⟨x',hx',hc⟩:=hc;have ev:∀{b:Bool},x'.ev A=some (.bool b)->a.eval x = .bool b:=λhb=>by
   have:=zao hx' hb hr.fr;generalize a.eval x=X at this;cases this;rfl
  have hWp:∀d∈writes p,d<N:=λd hd=>hW d (by simp[writes,hd]);have hWq:∀d∈writes q,d<N:=λd hd=>hW d (by simp[writes,hd]);split at hc
  ·simp only[yaa,yac,yae]at hc;obtain⟨⟨pc,hp⟩,hcp,⟨qc,hq⟩,hcq,rfl,rfl⟩:=hc;simp only[exec]at he;cases hxe:x'.ev A with
   | none=>rw[hxe]at he;cases he
   | some cv=>
    rw[hxe]at he;obtain⟨b,rfl,he⟩:=zdK he;refine wp_cond (ev hxe) ?_;cases b
    ·exact ihq k _ qc _ cx J A H r H' m Z a w Q hcq he hr hf hWq (λA1 H1 m1 Z1 a1 w1 he1 e1 r1 k1=>hn A1 H1 m1 Z1 a1 w1 he1 e1 r1 (k1.mono λt ht=>by simp[writes,ht]))
      (λid J1 A1 L m1 Z1 a1 w1 hr1 hcx1 e1 r1 hg k1=>hx id J1 A1 L m1 Z1 a1 w1 hr1 hcx1 e1 r1 hg (k1.mono λt ht=>by simp[writes,ht])) hrt
    ·exact ihp .bad _ pc _ cx J A H r H' m Z a w Q hcp he hr hf hWp (λA1 H1 m1 Z1 a1 w1 he1 e1 r1 k1=>(zk8 he1).elim)
      (λid J1 A1 L m1 Z1 a1 w1 hr1 hcx1 e1 r1 hg k1=>hx id J1 A1 L m1 Z1 a1 w1 hr1 hcx1 e1 r1 hg (k1.mono λt ht=>by simp[writes,ht])) hrt
  ·split at hc
   ·simp only[yaa,yac,yae]at hc;obtain⟨⟨pc,hp⟩,hcp,⟨qc,hq⟩,hcq,rfl,rfl⟩:=hc;simp only[exec]at he;cases hxe:x'.ev A with
    | none=>rw[hxe]at he;cases he
    | some cv=>
     rw[hxe]at he;obtain⟨b,rfl,he⟩:=zdK he;refine wp_cond (ev hxe) ?_;cases b
     ·exact ihq .bad _ qc _ cx J A H r H' m Z a w Q hcq he hr hf hWq (λA1 H1 m1 Z1 a1 w1 he1 e1 r1 k1=>(zk8 he1).elim)
       (λid J1 A1 L m1 Z1 a1 w1 hr1 hcx1 e1 r1 hg k1=>hx id J1 A1 L m1 Z1 a1 w1 hr1 hcx1 e1 r1 hg (k1.mono λt ht=>by simp[writes,ht])) hrt
     ·exact ihp k _ pc _ cx J A H r H' m Z a w Q hcp he hr hf hWp (λA1 H1 m1 Z1 a1 w1 he1 e1 r1 k1=>hn A1 H1 m1 Z1 a1 w1 he1 e1 r1 (k1.mono λt ht=>by simp[writes,ht]))
       (λid J1 A1 L m1 Z1 a1 w1 hr1 hcx1 e1 r1 hg k1=>hx id J1 A1 L m1 Z1 a1 w1 hr1 hcx1 e1 r1 hg (k1.mono λt ht=>by simp[writes,ht])) hrt
   ·split at hc
    ·rename_i J' hs;simp only[yaa,yac,yae]at hc;obtain⟨⟨pc,hp⟩,hcp,⟨qc,hq⟩,hcq,rfl,rfl⟩:=hc;simp only[exec]at he;cases hxe:x'.ev A with
     | none=>rw[hxe]at he;cases he
     | some cv=>
      rw[hxe]at he;obtain⟨r1,H1,h1,h2⟩:=zhW he;obtain⟨b,rfl,h1⟩:=zdK h1;refine wp_cond (ev hxe) ?_;have hle1:H1.next<=H'.next:=by
       rcases h2 with⟨L,_,h3⟩|⟨_,_,rfl⟩
       ·exact(zjr hG _ _ _ _ _ _ _ h3).1
       ·exact yaj _
      -- behind either side
      have nrm:∀(c':Code),(∀t,t∈writes c'->t∈writes p++writes q)->∀A1 H2 m1 Z1 a1 w1,exec G rv .done cx J' A1 H2=some (r1,H1)->Ext m Z H w m1 Z1 H2 w1->Rel N m1 Z1 A1 H2 a1 w1->Kept (writes c') A A1->Q .normal a1 w1:=by
       intro c' hsub A1 H2 m1 Z1 a1 w1 hd e1 rr k1;simp only[exec]at hd;obtain⟨L,H3,h3,hd9⟩:=bind_some hd;obtain⟨hg,rfl⟩:=zap h3;have:=zar hd9;simp only[yae]at this;obtain⟨rfl,rfl⟩:=this;have k1':Kept (writes p++writes q) A A1:=k1.mono hsub;rcases h2 with⟨L',hL,h3⟩|⟨hne,_,_⟩
       ·simp only[Res.nrm.injEq]at hL;subst hL;exact hn _ _ m1 Z1 a1 w1 h3 e1 (rr.weaken λt v hv=>znP hg k1' hv) ((zle hg k1').mono λt ht=>by simpa [writes]using ht)
       ·exact absurd rfl (hne L)
      have exs:∀(c':Code),(∀t,t∈writes c'->t∈writes p++writes q)->∀id J1 A1 L m1 Z1 a1 w1,r1 = .ex id L->zhA cx id=some J1->Ext m Z H w m1 Z1 H1 w1->Rel N m1 Z1 A1 H1 a1 w1->zaV A1 J1=some L->Kept (writes c') A A1->Q (.exit id) a1 w1:=by
       intro c' hsub id J1 A1 L m1 Z1 a1 w1 hr1 hcx1 e1 rr hg k1;rcases h2 with⟨L',hL,_⟩|⟨_,hrr,rfl⟩
       ·rw[hr1]at hL;cases hL
       ·exact hx id J1 A1 L m1 Z1 a1 w1 (hrr.trans hr1) hcx1 e1 rr hg ((k1.mono hsub).mono λt ht=>by simpa [writes]using ht)
      have rts:∀A1 L m1 Z1 a1 w1,r1 = .ret L->Ext m Z H w m1 Z1 H1 w1->Rel N m1 Z1 A1 H1 a1 w1->results A1 rv H1=some (L,H1)->Q .ret a1 w1:=by
       intro A1 L m1 Z1 a1 w1 hr1 e1 rr hres;rcases h2 with⟨L',hL,_⟩|⟨_,hrr,rfl⟩
       ·rw[hr1]at hL;cases hL
       ·exact hrt A1 L m1 Z1 a1 w1 (hrr.trans hr1) e1 rr hres
      cases b
      ·exact ihq .done _ qc _ cx J' A H r1 H1 m Z a w Q hcq h1 hr (hf.le hle1) hWq (nrm q λt ht=>by simp[ht]) (exs q λt ht=>by simp[ht]) rts
      ·exact ihp .done _ pc _ cx J' A H r1 H1 m Z a w Q hcp h1 hr (hf.le hle1) hWp (nrm p λt ht=>by simp[ht]) (exs p λt ht=>by simp[ht]) rts
    ·cases hc
 | block id p ihp=>
  intro k h ir h' cx J A H r H' m Z a w Q hc he hr hf hW hn hx hrt;simp only[comp]at hc;split at hc
  ·rename_i J' hs;simp only[yac,yae]at hc;obtain⟨⟨pc,hp⟩,hcp,rfl,rfl⟩:=hc;simp only[exec]at he;obtain⟨r1,H1,h1,h2⟩:=zr9 he;have hle1:H1.next<=H'.next:=by
    rcases h2 with⟨L,_,h3⟩|⟨_,_,_,rfl⟩
    ·exact(zjr hG _ _ _ _ _ _ _ h3).1
    ·exact yaj _
   have out:∀A1 L m1 Z1 a1 w1,(r1 = .nrm L\/r1 = .ex id L)->zaV A1 J'=some L->Ext m Z H w m1 Z1 H1 w1->Rel N m1 Z1 A1 H1 a1 w1->Kept (writes p) A A1->Q .normal a1 w1:=by
    intro A1 L m1 Z1 a1 w1 hrl hg e1 rr k1;rcases h2 with⟨L',hL,h3⟩|⟨hne1,hne2,_⟩
    ·have:L'=L:=by
      rcases hrl with hrl|hrl<;>rcases hL with hL|hL<;>rw[hrl]at hL<;>simp only[Res.nrm.injEq,Res.ex.injEq,reduceCtorEq]at hL
      ·exact hL.symm
      ·exact hL.2.symm
     subst this;exact hn _ _ m1 Z1 a1 w1 h3 e1 (rr.weaken λt v hv=>znP hg k1 hv) (zle hg k1)
    ·rcases hrl with hrl|hrl
     ·exact absurd hrl (hne1 L)
     ·exact absurd hrl (hne2 L)
   refine wp_block (ihp .done _ pc _ ((id,J')::cx) J' A H r1 H1 m Z a w _ hcp h1 hr (hf.le hle1) hW (λA1 H2 m1 Z1 a1 w1 hd e1 rr k1=>?_) (λi J1 A1 L m1 Z1 a1 w1 hr1 hcx1 e1 rr hg k1=>?_) λA1 L m1 Z1 a1 w1 hr1 e1 rr hres=>?_)
   ·simp only[exec]at hd;obtain⟨L,H3,h3,hd9⟩:=bind_some hd;obtain⟨hg,rfl⟩:=zap h3;have:=zar hd9;simp only[yae]at this;obtain⟨hrl,rfl⟩:=this;exact out A1 L m1 Z1 a1 w1 (.inl hrl) hg e1 rr k1
   ·simp only[zhA]at hcx1;by_cases e:i=id
    ·subst e;rw[if_pos rfl]at hcx1;simp only[yab]at hcx1;subst hcx1;simp only[Exit.inBlock,if_true];exact out A1 L m1 Z1 a1 w1 (.inr hr1) hg e1 rr k1
    ·rw[if_neg (λe'=>e e'.symm)]at hcx1;simp only[Exit.inBlock];rw[if_neg e];rcases h2 with⟨L',hL,_⟩|⟨_,_,hrr,rfl⟩
     ·rcases hL with hL|hL<;>rw[hr1]at hL<;>simp only[Res.ex.injEq,reduceCtorEq]at hL
      exact absurd hL.1 e
     ·exact hx i J1 A1 L m1 Z1 a1 w1 (hrr.trans hr1) hcx1 e1 rr hg k1
   ·rcases h2 with⟨L',hL,_⟩|⟨_,_,hrr,rfl⟩
    ·rcases hL with hL|hL<;>rw[hr1]at hL<;>simp only[reduceCtorEq]at hL
    ·exact hrt A1 L m1 Z1 a1 w1 (hrr.trans hr1) e1 rr hres
  ·cases hc
 | loop p ihp=>
  intro k h ir h' cx J A H r H' m Z a w Q hc he hr hf hW hn hx hrt;simp only[comp]at hc;split at hc
  ·rename_i K hs;simp only[yac,yae]at hc;obtain⟨⟨pc,hp⟩,hcp,rfl,rfl⟩:=hc;simp only[exec]at he;obtain⟨L0,H0,h0,he8⟩:=bind_some he;obtain⟨hg0,rfl⟩:=zap h0;obtain⟨n,he9⟩:=zeO he8;have key:∀(n:Nat) (L:List V) (A1:Fr) (H1:Heap) (m1:Map) (Z1:Nat->Prop) (a1:Act) (w1:World),iterN (λL=>exec G rv pc cx K (A.join K (writes p) L)) n L H1=some (r,H')->Ext m Z H0 w m1 Z1 H1 w1->Rel N m1 Z1 A1 H1 a1 w1 ->
     zaV A1 K=some L->Kept (writes p) A A1->Code.rounds P p Q n a1 w1:=by
    intro n
    induction n with
    | zero=>intro L A1 H1 m1 Z1 a1 w1 hi;cases hi
    | succ n ih=>
     intro L A1 H1 m1 Z1 a1 w1 hi e1 rr hg k1;simp only[iterN]at hi;obtain⟨r1,H2,h1,h2⟩:=zhW hi;have hle1:H2.next<=H'.next:=by
      rcases h2 with⟨L,_,h3⟩|⟨_,_,rfl⟩
      ·exact(zrV (λL H r H' hb=>zjr hG _ _ _ _ _ _ _ hb) n _ _ _ _ h3).1
      ·exact yaj _
     have kj:=zle (L:=L) hg k1;rw[rounds_succ];refine ihp .done _ pc _ cx K _ H1 r1 H2 m1 Z1 a1 w1 _ hcp h1 (rr.weaken λt v hv=>znP hg k1 hv) ((hf.later e1).le hle1) hW (λA2 H3 m2 Z2 a2 w2 hd e2 r2 k2=>?_) (λid J1 A2 L' m2 Z2 a2 w2 hr2 hcx2 e2 r2 hg2 k2=>?_) λA2 L' m2 Z2 a2 w2 hr2 e2 r2 hres=>?_
     ·simp only[exec]at hd;obtain⟨L',H4,h4,hd9⟩:=bind_some hd;obtain⟨hg',rfl⟩:=zap h4;have:=zar hd9;simp only[yae]at this;obtain⟨rfl,rfl⟩:=this;rcases h2 with⟨L2,hL,h3⟩|⟨hne,_,_⟩
      ·simp only[Res.nrm.injEq]at hL;subst hL;exact ih L' A2 H2 m2 Z2 a2 w2 h3 (e1.trans e2) r2 hg' (kj.trans k2)
      ·exact absurd rfl (hne L')
     ·rcases h2 with⟨L2,hL,_⟩|⟨_,hrr,rfl⟩
      ·rw[hr2]at hL;cases hL
      ·exact hx id J1 A2 L' m2 Z2 a2 w2 (hrr.trans hr2) hcx2 (e1.trans e2) r2 hg2 (kj.trans k2)
     ·rcases h2 with⟨L2,hL,_⟩|⟨_,hrr,rfl⟩
      ·rw[hr2]at hL;cases hL
      ·exact hrt A2 L' m2 Z2 a2 w2 (hrr.trans hr2) (e1.trans e2) r2 hres
   exact wp_loop_rounds n (key n L0 A H0 m Z a w he9 (.refl _ _ _ _) hr hg0 (.refl _ _))
  ·cases hc
 | exit id=>
  intro k h ir h' cx J A H r H' m Z a w Q hc he hr hf hW hn hx hrt;simp only[comp,yab,yae]at hc;obtain⟨rfl,rfl⟩:=hc;simp only[exec]at he;cases hcx:zhA cx id with
  | none=>rw[hcx]at he;cases he
  | some J1=>
   rw[hcx]at he;obtain⟨L,H1,h1,he9⟩:=bind_some he;obtain⟨hg,rfl⟩:=zap h1;have:=zar he9;simp only[yae]at this;obtain⟨rfl,rfl⟩:=this;exact wp_exit (hx id J1 A L m Z a w rfl hcx (.refl _ _ _ _) hr hg (.refl _ _))
 | ret=>
  intro k h ir h' cx J A H r H' m Z a w Q hc he hr hf hW hn hx hrt;simp only[comp,yab,yae]at hc;obtain⟨rfl,rfl⟩:=hc;simp only[exec]at he;obtain⟨L,H1,h1,he9⟩:=bind_some he;have e1:=zfB h1;subst e1;have:=zar he9;simp only[yae]at this;obtain⟨rfl,rfl⟩:=this;exact wp_ret (hrt A L m Z a w rfl (.refl _ _ _ _) hr h1)
 | _=>intro k h ir h' cx J A H r H' m Z a w Q hc;simp[comp]at hc
/-! Results. -/
def rvSem(tmps:Array Value):ResultVar->Sem Value
 | .tmp t=>pure (tmps.getD t Go.undef)
 | .cell a t=>do loadVar t (<-asAddr (tmps.getD a Go.undef))
def zqB{P:Program}{N:Nat}{m:Map}{Z:Nat->Prop}{A:Fr}{H:Heap}{a:Act}{w:World}(hr:Rel N m Z A H a w):∀{rs:List ResultVar} {rv:List RV} {L:List V} {H':Heap},zgX P rs=some rv->results A rv H=some (L,H') ->
  ∃xs,(rs.mapM (rvSem a.tmps)).run P w = .ok xs w/\Reps m Z w L xs:=by
 have slot:∀{t:Nat} {v:V},A.get t=some v->Rep m Z w v (a.tmps.getD t Go.undef):=λ{t v} hv=>by
  obtain⟨x,hx,hrep⟩:=hr.fr t v hv;rw[ybe,hx];exact hrep
 intro rs
 induction rs with
 | nil=>
  intro rv L H' hc h;simp only[zgX,yab]at hc;subst hc;have:=zar h;simp only[yae]at this;rw[this.1];exact⟨[],rfl,rfl,by simp⟩
 | cons x rs ih=>
  intro rv L H' hc h;have cons:∀{v:V} {x:Value} {vs:List V} {xs:List Value},Rep m Z w v x->Reps m Z w vs xs->Reps m Z w (v::vs) (x::xs):=by
   intro v x vs xs h1 h2;refine⟨by simp[h2.1],λj u y hu hy=>?_⟩;cases j with
   | zero=>simp only[yaC,yab]at hu hy;subst hu hy;exact h1
   | succ j=>exact h2.2 j u y (by simpa using hu) (by simpa using hy)
  cases x with
  | tmp t=>
   simp only[zgX,yac]at hc;obtain⟨rv',hrv,rfl⟩:=hc;simp only[results]at h;obtain⟨v,H1,h1,h8⟩:=bind_some h;obtain⟨hv,rfl⟩:=zap h1;obtain⟨vs,H2,h2,h9⟩:=bind_some h8;have:=zar h9;simp only[yae]at this;obtain⟨xs,hxs,hreps⟩:=ih hrv h2;rw[this.1];refine⟨_::xs,?_,cons (slot hv) hreps⟩;simp only[yc3,rvSem,Sem.run_bind,Sem.run_pure,Result.andThen_ok,hxs]
  | cell p t=>
   simp only[zgX,yaa,yac]at hc;obtain⟨n,hn,rv',hrv,rfl⟩:=hc;simp only[results]at h;obtain⟨q,H1,h1,h7⟩:=bind_some h;obtain⟨hq,rfl⟩:=zap h1;obtain⟨v,H2,h2,h8⟩:=bind_some h7;obtain⟨rfl,x,hx,hrep⟩:=zpn (P:=P) hn h2 (slot hq) hr.hp;obtain⟨vs,H3,h3,h9⟩:=bind_some h8;have:=zar h9;simp only[yae]at this;obtain⟨xs,hxs,hreps⟩:=ih hrv h3;rw[this.1];refine⟨x::xs,?_,cons hrep hreps⟩;have hX:∃ad,a.tmps.getD p Go.undef = .pointer (some ad):=by
    have hs:=slot hq;unfold mload at h2;split at h2
    ·obtain⟨l,_,e⟩:=hs.inv_ptr;exact⟨_,e⟩
    ·obtain⟨b,o,e,_⟩:=hs.inv_rp;exact⟨_,e⟩
    ·cases h2
   obtain⟨ad,had⟩:=hX;rw[had]at hx;simp only[Instr.loadAt,Instr.sureAddr,Sem.run_bind,Sem.run_pure,Result.andThen_ok]at hx;simp only[yc3,rvSem,Sem.run_bind,Sem.run_pure,Result.andThen_ok,had,asAddr,hx,hxs]
def zsA{P:Program}{N:Nat}{m:Map}{Z:Nat->Prop}{A:Fr}{H H':Heap}{a:Act}{w:World}{fn:Func}{rv:List RV}{L:List V}(hr:Rel N m Z A H a w)(hc:zgX P fn.results.toList=some rv) (h:results A rv H=some (L,H')) :
  ∃x,(Go.results fn a.tmps).run P w = .ok x w/\Rep m Z w (zdD L) x:=by
 obtain⟨xs,hxs,hreps⟩:=zqB (a:=a) hr hc h;have hm:(Go.results fn a.tmps).run P w = .ok (if h:xs.toArray.size=1 then xs.toArray[0] else .tuple xs.toArray) w:=by
  have:Go.results fn a.tmps=(do let vs <-fn.results.mapM (rvSem a.tmps);pure (if h:vs.size=1 then vs[0] else .tuple vs)):=rfl;rw[this,yc7];simp only[Sem.run_bind,Sem.run_map,hxs,Result.andThen_ok,Sem.run_pure]
 refine⟨_,hm,?_⟩;have hl:=hreps.1;by_cases h1:xs.length=1
 ·obtain⟨x,rfl⟩:=ycr.1 h1;rw[h1]at hl;obtain⟨v,rfl⟩:=ycr.1 hl.symm;exact hreps.2 0 v x rfl rfl
 ·rw[dif_neg (by simpa using h1)];have ht:zdD L = .tup L:=by
   unfold zdD;split
   ·simp at hl;exact absurd hl h1
   ·rfl
  rw[ht];exact .tup (by simpa using hl) λj v x hv hx=>hreps.2 j v x hv (by simpa using hx)
/-! Calls. -/
def zsE:∀(vs:List V) (i t:Nat),(params i vs).get t=if i<=t then vs[t-i]? else none:=by
 intro vs
 induction vs with
 | nil=>intro i t;simp[params,Fr.get]
 | cons v vs ih=>
  intro i t;simp only[params,Fr.get];by_cases e:i=t
  ·subst e;simp
  ·rw[if_neg e,ih];by_cases h:i<=t
   ·rw[if_pos h,if_pos (by omega)];have:t-i=t-(i+1)+1:=by omega
    rw[this];rfl
   ·rw[if_neg h,if_neg (by omega)]
def zri {P:Program} {fn:Func} {h:List (List Nat)} {ir:Fn'} (hc:zlQ P fn h = some ir):∃ b r rv,fn.body = some b /\ comp P b .ret h = some r /\ zgX P fn.results.toList = some rv /\ (∀ d ∈ writes b,d < fn.ntmps) /\ (fn.name == "runtime.NumGoroutine") = false /\ ir = ⟨fn.ntmps,rv,r.1⟩:=by
 simp only [zlQ,yaa] at hc;obtain ⟨b,hb,r,hr,rv,hrv,hc⟩:=hc;split at hc
 ·rename_i h1;simp only [yab] at hc;exact ⟨b,r,rv,hb,hr,hrv,by simpa using h1.1,h1.2,hc.symm⟩
 ·cases hc
def fn_ok {P:Program} {G:Sem'} (hG:zgb P G) {f:FuncId} {fn:Func} {h:List (List Nat)} {ir:Fn'} (hf:P.funcs[f]? = some fn) (hc:zlQ P fn h = some ir) {args:List V} {H H':Heap} {v:V} (hl:args.length <= ir.ntmps) (hr:ir.run G args H = some (v,H')) :
  H.le H' /\ zrt P f args H v H' /\ fn.body.isSome = true /\ (fn.name == "runtime.NumGoroutine") = false:=by
 obtain ⟨b,r,rv,hb,hcomp,hrv,hW,hname,rfl⟩:=zri hc;simp only [Fn'.run] at hr;dsimp only at hl;obtain ⟨res,H1,he,hr9⟩:=bind_some hr;cases res with
 | nrm L=>cases hr9
 | ex id L=>cases hr9
 | ret L=>
  have:=zar hr9;simp only [yae] at this;obtain ⟨rfl,e9⟩:=this;subst e9;refine ⟨zjr hG _ _ _ _ _ _ _ he,fun m Z w xs hh hfr hx=>?_,by rw [hb];rfl,hname⟩;refine calls_of_wp hf hb ?_;have hxl:xs.length = args.length:=hx.1;have hrel:Rel fn.ntmps m Z (params 0 args) H { tmps:=xs.toArray ++ Array.replicate (fn.ntmps - xs.toArray.size) Go.undef,defers:=[] } w:=by
   refine ⟨by simp;omega,rfl,fun t v hv=>?_,hh⟩;rw [zsE] at hv;simp only [yaJ,if_true,ycc] at hv;have ht:t < args.length:=by rw [yax] at hv;exact hv.1
   have hxt:xs[t]? = some xs[t]:=yag _;refine ⟨xs[t],?_,hx.2 t v _ hv hxt⟩;rw [Array.getElem?_append];simp [hxl,ht]
  have post:∀ A1 m1 Z1 a1 w1,Ext m Z H w m1 Z1 H' w1 -> Rel fn.ntmps m1 Z1 A1 H' a1 w1 -> results A1 rv H' = some (L,H') ->
    a1.defers = [] /\ ∃ v,(Go.results fn a1.tmps).run P w1 = .ok v w1 /\ ∃ m' Z' x,Ending.returned v = .returned x /\ Rep m' Z' w1 (zdD L) x /\ RelH m' Z' H' w1 /\ Ext m Z H w m' Z' H' w1:=by
   intro A1 m1 Z1 a1 w1 e1 r1 hres;obtain ⟨x,hx',hrep⟩:=zsA r1 hrv hres;exact ⟨r1.defers,x,hx',m1,Z1,x,rfl,hrep,r1.hp,e1⟩
  refine exec_ok hG b .ret h r.1 r.2 [] [] _ H (.ret L) H' m Z _ w _ hcomp he hrel hfr hW (fun A1 H2 m1 Z1 a1 w1 he1 e1 r1 _=>?_) (fun id J1 A1 L' m1 Z1 a1 w1 hr1=>by cases hr1) fun A1 L' m1 Z1 a1 w1 hr1 e1 r1 hres=>?_
  ·simp only [exec] at he1;obtain ⟨L',H3,h3,he9⟩:=bind_some he1;have e3:=zfB h3;subst e3;have:=zar he9;simp only [yae,Res.ret.injEq] at this;obtain ⟨rfl,rfl⟩:=this;exact post A1 m1 Z1 a1 w1 e1 r1 h3
  ·simp only [Res.ret.injEq] at hr1;subst hr1;exact post A1 m1 Z1 a1 w1 e1 r1 hres
def FnOk (P:Program) (f:FuncId) (ir:Fn'):Prop:=∀ (G:Sem') (args:List V) (H:Heap) (v:V) (H':Heap),zgb P G -> args.length <= ir.ntmps -> ir.run G args H = some (v,H') ->
 H.le H' /\ zrt P f args H v H' /\ ∃ fn,P.funcs[f]? = some fn /\ fn.body.isSome = true /\ (fn.name == "runtime.NumGoroutine") = false
def deep_okX (P:Program) (h:FuncId -> List (List Nat)) (hO:∀ f fn,P.funcs[f]? = some fn -> (fn.name == "(*sync.Once).Do") = true -> FnOk P f zjw)
  (hD:∀ f fn,P.funcs[f]? = some fn -> (fn.name == "(*palanquin/lock.Receiver).Drop") = true -> FnOk P f zjK):∀ n,zgb P (deep (zmQ P h) n):=by
 intro n
 induction n with
 | zero=>intro f args H v H' e;cases e
 | succ n ih=>
  intro f args H v H' e;simp only [deep] at e;cases hT:zmQ P h f with
  | none=>rw [hT] at e;cases e
  | some ir=>
   rw [hT] at e;dsimp only at e;simp only [zmQ,yaa] at hT;obtain ⟨fn,hfn,hc⟩:=hT;split at e
   ·rename_i hl;unfold zov at hc;split at hc
    ·rename_i hn;injection hc with hc
     subst hc;exact hO f fn hfn hn _ _ _ _ _ ih hl e
    ·split at hc
     ·rename_i hn;injection hc with hc
      subst hc;exact hD f fn hfn hn _ _ _ _ _ ih hl e
     obtain ⟨h1,h2,h3,h4⟩:=fn_ok ih hfn hc hl e;exact ⟨h1,h2,fn,hfn,h3,h4⟩
   ·cases e
def sem_okX (P:Program) (h:FuncId -> List (List Nat)) (hO:∀ f fn,P.funcs[f]? = some fn -> (fn.name == "(*sync.Once).Do") = true -> FnOk P f zjw)
  (hD:∀ f fn,P.funcs[f]? = some fn -> (fn.name == "(*palanquin/lock.Receiver).Drop") = true -> FnOk P f zjK):zgb P (sem (zmQ P h)):=by
 intro f args H v H' e;unfold sem at e;split at e
 ·exact deep_okX P h hO hD _ f args H v H' e
 ·cases e
def Ev(p:Nat->Prop):Prop:=∃n,∀k,n<=k->p k
def Ev.const{p:Prop}(h:p):Ev λ_=>p:=⟨0,λ_ _=>h⟩
def Ev.both{p q r:Nat->Prop}(h:Ev p)(k:Ev q)(hr:∀i,p i->q i->r i):Ev r:=by
 obtain⟨n,hn⟩:=h;obtain⟨n',hn'⟩:=k;exact⟨max n n',λi hi=>hr i (hn i (by omega)) (hn' i (by omega))⟩
def Ev.mono{p q:Nat->Prop}(h:Ev p)(hr:∀i,p i->q i):Ev q:=by
 obtain⟨n,hn⟩:=h;exact⟨n,λi hi=>hr i (hn i hi)⟩
def LimM{α:Type}(x:Nat->M α)(y:M α):Prop:=∀H r,y H=some r->Ev λk=>x k H=some r
def Lim(g:Nat->Sem')(G:Sem'):Prop:=∀f args,LimM (λk=>g k f args) (G f args)
def LimM.const{α:Type}(x:M α):LimM (λ_=>x) x:=λ_ _ h=>.const h
def LimM.bind{α β:Type}{x:Nat->M α}{y:M α}{f:Nat->α->M β}{g:α->M β}(h:LimM x y) (k:∀v,LimM (λi=>f i v) (g v)):LimM (λi=>(x i).bind (f i)) (y.bind g):=by
 intro H r e;obtain⟨v,H1,h1,h2⟩:=bind_some e;refine(h H _ h1).both (k v H1 r h2) λi e1 e2=>?_;simp only[M.bind,e1,Option.bind_some];exact e2
section
variable {g:Nat->Sem'} {G:Sem'}
def lim_run(hg:Lim g G)(A:Fr)(ins:I):LimM (λk=>ins.run (g k) A) (ins.run G A):=by
 cases ins<;>first|exact LimM.const _|skip
 case call f args=>
  show LimM (λk=>withs A args λargs=>g k f args) (withs A args λargs=>G f args);unfold withs;cases evs A args with
  | none=>exact LimM.const _
  | some vs=>exact hg f vs
 case callv x args=>
  show LimM (λk=>with1 A x λx=>withs A args λargs=>callv (g k) x args) (with1 A x λx=>withs A args λargs=>callv G x args);unfold with1 withs;cases x.ev A with
  | none=>exact LimM.const _
  | some v=>
   cases evs A args with
   | none=>exact LimM.const _
   | some vs=>
    cases v<;>first|exact LimM.const _|exact hg _ _
def zm4(hg:Lim g G)(A:Fr)(o:AO):LimM (λk=>o.run (g k) A) (o.run G A):=by
 unfold AO.run;have:=lim_run hg A o.ins;cases o.gd with
 | none=>exact this
 | some p=>
  obtain⟨s,want⟩:=p;unfold guarded;dsimp only;cases A.get s with
  | none=>exact LimM.const _
  | some v=>
   cases v with
   | bool b=>
    dsimp only;by_cases hb:b=want
    ·simp only[if_pos hb];exact this
    ·simp only[if_neg hb];exact LimM.const _
   | tup vs=>
    cases vs with
    | nil=>exact LimM.const _
    | cons _ _=>exact LimM.const _
   | _=>exact LimM.const _
def lim_ops(hg:Lim g G):∀(l:List AO) (A:Fr),LimM (λk=>zdR (g k) l A) (zdR G l A):=by
 intro l
 induction l with
 | nil=>intro A;exact LimM.const _
 | cons o l ih=>intro A;exact LimM.bind (zm4 hg A o) λv=>ih _
def lim_draw(hg:Lim g G) (un:List (Nat×Nat)):∀(l:List AO) (p:Nat) (rs:List (Nat×V)) (js:List (Nat×Heap×Heap)) (A:Fr),LimM (λk=>zaC (g k) un p rs js l A) (zaC G un p rs js l A):=by
 intro l
 induction l with
 | nil=>intro p rs js A;exact LimM.const _
 | cons o l ih=>
  intro p rs js A;unfold zaC;cases hk:o.ins.kind with
  | read x=>
   dsimp only;unfold zaC.with1';cases x.ev A with
   | none=>exact LimM.bind (zm4 hg A o) λv=>LimM.bind (LimM.const _) λ_=>ih _ _ _ _
   | some a=>exact LimM.bind (zm4 hg A o) λv=>LimM.bind (LimM.const _) λ_=>ih _ _ _ _
  | act=>exact LimM.bind (LimM.const _) λh=>LimM.bind (zm4 hg A o) λv=>LimM.bind (LimM.const _) λh'=>LimM.bind (LimM.const _) λ_=>ih _ _ _ _
  | pure=>exact LimM.bind (zm4 hg A o) λv=>ih _ _ _ _
  | new=>exact LimM.bind (zm4 hg A o) λv=>ih _ _ _ _
def zsS{body:List V->M Res}:∀(n:Nat) (L:List V) (H:Heap) (r:Res×Heap),iterN body n L H=some r->iterN body (n+1) L H=some r:=by
 intro n
 induction n with
 | zero=>intro L H r h;cases h
 | succ n ih=>
  intro L H r h;have h':(M.join (body L) (iterN body n)) H=some r:=h;obtain⟨r1,H1,h1,h2⟩:=bind_some h';show(M.join (body L) (iterN body (n+1))) H=some r;simp only[M.join,M.bind,h1,Option.bind_some];cases r1 with
  | nrm L'=>exact ih L' H1 r h2
  | ex id L'=>exact h2
  | ret L'=>exact h2
def zps {body : List V -> M Res} {n k : Nat} (hnk : n <= k) {L : List V} {H : Heap} {r : Res × Heap} (h : iterN body n L H = some r) : iterN body k L H = some r:= by
  induction k with
  | zero => have : n = 0 := by omega
            subst this;exact h
  | succ k ih=>
    by_cases e : n = k + 1
    · subst e;exact h
    · exact zsS k L H r (ih (by omega))
def zfJ{body:List V->M Res}{n:Nat}{L:List V}{H:Heap}{r:Res×Heap}(h:iterN body n L H=some r):M.iter body L H=some r:=by
 unfold M.iter;have hex:∃n,(iterN body n L H).isSome=true:=⟨n,by rw[h];rfl⟩;rw[dif_pos hex];have hc:=ybl hex;generalize Classical.choose hex=k at hc;cases hk:iterN body k L H with
 | none=>rw[hk]at hc;cases hc
 | some r'=>
  rcases Nat.le_total n k with hle|hle
  ·rw[<-zps hle h,hk]
  ·rw[<-h,<-zps hle hk]
def lim_iter{body:Nat->List V->M Res}{b:List V->M Res} (h:∀L,LimM (λk=>body k L) (b L)) (L:List V):LimM (λk=>M.iter (body k) L) (M.iter b L):=by
 intro H r e;obtain⟨n,hn⟩:=zeO e;have key:∀(n:Nat) (L:List V),LimM (λk=>iterN (body k) n L) (iterN b n L):=by
  intro n
  induction n with
  | zero=>intro L;exact LimM.const _
  | succ n ih=>
   intro L;show LimM (λk=>M.join (body k L) (iterN (body k) n)) (M.join (b L) (iterN b n));refine LimM.bind (h L) λr=>?_;cases r with
   | nrm L'=>exact ih L'
   | ex id L'=>exact LimM.const _
   | ret L'=>exact LimM.const _
 exact(key n L H r hn).mono λi hi=>zfJ hi
def lim_exec(hg:Lim g G)(rv:List RV):∀(c:C) (cx:List (Nat×List Nat)) (J:List Nat) (A:Fr),LimM (λk=>exec (g k) rv c cx J A) (exec G rv c cx J A):=by
 intro c
 induction c with
 | done=>intro cx J A;exact LimM.const _
 | bad=>intro cx J A;exact LimM.const _
 | ops l k ih=>intro cx J A;exact LimM.bind (lim_ops hg l A) λA'=>ih _ _ _
 | draw l un k ih=>intro cx J A;exact LimM.bind (lim_draw hg un l 0 [] [] A) λA'=>ih _ _ _
 | cond x a b iha ihb=>
  intro cx J A;simp only[exec];cases x.ev A with
  | none=>exact LimM.const _
  | some c=>
   cases c<;>first|exact LimM.const _|skip
   rename_i b;cases b
   ·exact ihb _ _ _
   ·exact iha _ _ _
 | condJ x a b J' W k iha ihb ihk=>
  intro cx J A;simp only[exec];cases x.ev A with
  | none=>exact LimM.const _
  | some c=>
   refine LimM.bind ?_ λr=>?_
   ·cases c<;>first|exact LimM.const _|skip
    rename_i b;cases b
    ·exact ihb _ _ _
    ·exact iha _ _ _
   ·cases r with
    | nrm L=>exact ihk _ _ _
    | ex id L=>exact LimM.const _
    | ret L=>exact LimM.const _
 | blk id a J' W k iha ihk=>
  intro cx J A;simp only[exec,M.blk];refine LimM.bind (iha _ _ _) λr=>?_;cases r with
  | nrm L=>exact ihk _ _ _
  | ex i L=>
   dsimp only;by_cases e:i=id
   ·simp only[if_pos e];exact ihk _ _ _
   ·simp only[if_neg e];exact LimM.const _
  | ret L=>exact LimM.const _
 | loop a K W iha=>
  intro cx J A;exact LimM.bind (LimM.const _) λL=>lim_iter (λL=>iha _ _ _) L
 | exit id=>intro cx J A;exact LimM.const _
 | ret=>intro cx J A;exact LimM.const _
def lim_fn(hg:Lim g G)(f:Fn')(args:List V):LimM (λk=>f.run (g k) args) (f.run G args):=LimM.bind (lim_exec hg _ _ _ _ _) λ_=>LimM.const _
end
section
variable {T:FuncId->Option Fn'}
def zvr:∀(n:Nat) (f:FuncId) (args:List V) (H:Heap) (r:V×Heap),deep T n f args H=some r->deep T (n+1) f args H=some r:=by
 intro n
 induction n with
 | zero=>intro f args H r h;cases h
 | succ n ih=>
  intro f args H r h;show(match T f with|some ir=>if args.length<=ir.ntmps then ir.run (deep T (n+1)) args else M.fail|none=>M.fail) H=some r;have h':(match T f with|some ir=>if args.length<=ir.ntmps then ir.run (deep T n) args else M.fail|none=>M.fail) H=some r:=h;cases hT:T f with
  | none=>rw[hT]at h';cases h'
  | some ir=>
   rw[hT]at h';dsimp only at h' ⊢;split at h'
   ·rename_i hl;rw[if_pos hl];obtain⟨k,hk⟩:=lim_fn (g:=λ_=>deep T (n+1)) (λf args H r e=>.const (ih f args H r e)) ir args H r h';exact hk k (yaj _)
   ·cases h'
def zrf {n k : Nat} (hnk : n <= k) {f : FuncId} {args : List V} {H : Heap} {r : V × Heap} (h : deep T n f args H = some r) : deep T k f args H = some r:= by
  induction k with
  | zero => have : n = 0 := by omega
            subst this;exact h
  | succ k ih=>
    by_cases e : n = k + 1
    · subst e;exact h
    · exact zvr k f args H r (ih (by omega))
def zkL{n:Nat}{f:FuncId}{args:List V}{H:Heap}{r:V×Heap}(h:deep T n f args H=some r):sem T f args H=some r:=by
 unfold sem;have hex:∃n,(deep T n f args H).isSome=true:=⟨n,by rw[h];rfl⟩;rw[dif_pos hex];have hc:=ybl hex;generalize Classical.choose hex=k at hc;cases hk:deep T k f args H with
 | none=>rw[hk]at hc;cases hc
 | some r'=>
  rcases Nat.le_total n k with hle|hle
  ·rw[<-zrf hle h,hk]
  ·rw[<-h,<-zrf hle hk]
def sem_lim:Lim (deep T) (sem T):=by
 intro f args H r h;unfold sem at h;split at h
 ·exact⟨_,λk hk=>zrf hk h⟩
 ·cases h
def zo1{f:FuncId}{ir:Fn'}(hT:T f=some ir){args:List V}(hl:args.length<=ir.ntmps){H:Heap}{r:V×Heap} (h:ir.run (sem T) args H=some r):sem T f args H=some r:=by
 obtain⟨n,hn⟩:=lim_fn sem_lim ir args H r h;have:=hn n (yaj _);refine zkL (n:=n+1) ?_;show(match T f with|some ir=>if args.length<=ir.ntmps then ir.run (deep T n) args else M.fail|none=>M.fail) H=some r;rw[hT];dsimp only;rw[if_pos hl];exact this
end
end Go.Ax
