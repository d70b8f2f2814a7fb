/-
  Texts of mine, put together by program (wip/slim.py), for law_worldKnown: part 12.
-/
import Derived.Test.YtjabaappgopdmaaGreatZw11
noncomputable section
set_option linter.unusedVariables false
set_option linter.unusedSimpArgs false
set_option linter.defProp false
set_option maxRecDepth 100000
/- Or1 -/
namespace Go.Ax.SU
open Go.Ax Go.Proofs
inductive Bd where
 | hm (salt key:List V)
 | ex (zaE info:List V) (n:Nat)
 | se (id kid:Nat) (base:List V) (c:Nat) (m p:List V)
inductive Kd where
 | key (id kid:Nat) (base:List V)
 | sl (l:List V)
 | any
structure Tabs where
 bs:List Bd
 ks:List (Nat×Kd)
def iv(s:Nat->Nat)(q:Nat->List Nat):List V->List Nat
 | []=>[]
 | .int .u8 n::l=>n.toNat::iv s q l
 | .lit (.int .u8 n)::l=>s n.toNat::iv s q l
 | .lit (.int .u64 n)::l=>q n.toNat++iv s q l
 | _::l=>iv s q l
def bok1:V->Bool
 | .int .u8 n=>decide (0<=n)&&decide (n<256)
 | .lit (.int .u8 _)=>true
 | _=>false
def bokd:V->Bool
 | .lit (.int .u64 _)=>true
 | v=>bok1 v
structure SQ (s:Nat->Nat) (q:Nat->List Nat):Prop where
 s8:∀n,s n<256
 q8:∀n,Ok8 (q n)
 ql:∀n,(q n).length<=1048576
def bok_d{v:V}(h:bok1 v=true):bokd v=true:=by
 unfold bokd;split
 ·rfl
 ·exact h
def iv_1{d:Y.Nm}{q:Nat->List Nat}:∀{cs:List V},cs.all bok1=true->Y.shL d cs=(iv d.s q cs).map by8/\(iv d.s q cs).length=cs.length
 | [],_=>⟨rfl,rfl⟩
 | x::cs,h=>by
  simp only[yba,yal]at h;obtain⟨h1,h2⟩:=iv_1 (d:=d) (q:=q) h.2;have h0:=h.1;unfold bok1 at h0;split at h0
  ·rename_i n;simp only[yal,decide_eq_true_eq]at h0;refine⟨?_,by simp only[iv,yaw,h2]⟩;show V.int .u8 n::Y.shL d cs=V.int .u8 (n.toNat:Nat)::(iv d.s q cs).map by8;rw[h1,Int.toNat_of_nonneg h0.1]
  ·rename_i n;refine⟨?_,by simp only[iv,yaw,h2]⟩;show V.int .u8 (d.s n.toNat:Nat)::Y.shL d cs=V.int .u8 (d.s n.toNat:Nat)::(iv d.s q cs).map by8;rw[h1]
  ·cases h0
def iv_8{s:Nat->Nat}{q:Nat->List Nat}(hs:SQ s q):∀{cs:List V},cs.all bokd=true->Ok8 (iv s q cs)/\(iv s q cs).length<=cs.length*1048576
 | [],_=>⟨Ok8.nil,yaJ _⟩
 | x::cs,h=>by
  simp only[yba,yal]at h;obtain⟨h1,h2⟩:=iv_8 hs h.2;have h0:=h.1;unfold bokd at h0;split at h0
  ·rename_i n;refine⟨(hs.q8 _).app h1,?_⟩;show(q n.toNat++iv s q cs).length<=_;have:=hs.ql n.toNat;rw[yah,yaw];omega
  ·unfold bok1 at h0;split at h0
   ·rename_i n _;simp only[yal,decide_eq_true_eq]at h0;refine⟨?_,?_⟩
    ·intro y hy;rcases yaD.1 hy with rfl|hy
     ·omega
     ·exact h1 y hy
    ·show(n.toNat::iv s q cs).length<=_;rw[yaw,yaw];omega
   ·rename_i n _;refine⟨?_,?_⟩
    ·intro y hy;rcases yaD.1 hy with rfl|hy
     ·exact hs.s8 _
     ·exact h1 y hy
    ·show(s n.toNat::iv s q cs).length<=_;rw[yaw,yaw];omega
   ·cases h0
def val(s:Nat->Nat)(q:Nat->List Nat):Bd->List Nat
 | .hm a b=>hmac kc (iv s q a) (iv s q b)
 | .ex a b n=>(hkdf kc (iv s q a) (iv s q b) ((n+31)/32)).1.take n
 | .se id kid base c m p=>match szs id with
  | some (n,t)=>zc8 (drv id kid n t (iv s q base)) c (iv s q m) (iv s q p)
  | none=>[]
structure TabV (t:Tabs) (s:Nat->Nat) (q:Nat->List Nat):Prop where
 sq:SQ s q
 v:∀j d,t.bs[j]?=some d->∀i,i<(val s q d).length->i<1000->s (1000*j+i)=(val s q d).getD i 0
def tbOf(t:Tabs)(s:Nat->Nat)(q:Nat->List Nat):Y.Tb where
 R:=t.ks.length
 B:=t.ks.length
 rb:=yaj _
 s:=s
 t:=λm=>match t.ks[m]? with|some p=>p.1|none=>0
 Pf:=λm lo H id=>match t.ks[m]? with
  | some (_,.key i kid bl)=>∃n tg,szs i=some (n,tg)/\KeyB lo H id (drv i kid n tg (iv s q bl))
  | _=>False
 Pw:=λm lo H v=>match t.ks[m]? with
  | some (_,.sl l)=>By lo H v (iv s q l)/\l.all bokd=true
  | some (_,.any)=>True
  | _=>False
def syms(j o n:Nat):List V:=(List.range n).map λi=>.lit (.int .u8 ((1000*j+o+i:Nat):Int))
def zqm{t:Tabs}{s:Nat->Nat}{q:Nat->List Nat}(h:TabV t s q){d:Y.Nm}(hd:d.s=s){j:Nat}{b:Bd} (hb:t.bs[j]?=some b) {o n:Nat} (hl:(val s q b).length=o+n) (h1:o+n<=1000):Y.shL d (syms j o n)=((val s q b).drop o).map by8:=by
 subst hd;rw[Y.shL_map];unfold syms;rw[ycS];apply yci;intro i;by_cases hi:i<n
 ·rw[yaT,ybC hi,yaT,yaU,yag (by omega)];have:=h.v j b hb (o+i) (by omega) (by omega);rw[yao,yag (by omega)]at this;simp only[yaB]at this;show some (V.int .u8 (d.s (((1000*j+o+i:Nat):Int).toNat):Nat))=some (by8 _);rw[yav,ybR,this];rfl
 ·rw[yby (by simp;omega),yby (by simp;omega)]
def veq:V->V->Bool
 | .int .u8 a,.int .u8 b=>decide (a=b)
 | .lit (.int .u8 a),.lit (.int .u8 b)=>decide (a=b)
 | .lit (.int .u64 a),.lit (.int .u64 b)=>decide (a=b)
 | _,_=>false
def leq:List V->List V->Bool
 | [],[]=>true
 | x::xs,y::ys=>veq x y&&leq xs ys
 | _,_=>false
def veq_ok{a b:V}(h:veq a b=true):a=b:=by
 unfold veq at h;split at h<;>first|(cases h;done)|(have:=of_decide_eq_true h;subst this;rfl)
def zeM:∀{a b:List V},leq a b=true->a=b
 | [],[],_=>rfl
 | [],_ :: _,h=>by cases h
 | _ :: _,[],h=>by cases h
 | x::xs,y::ys,h=>by
  simp only[leq,yal]at h;rw[veq_ok h.1,zeM h.2]
def deq:Bd->Bd->Bool
 | .hm a b,.hm a' b'=>leq a a'&&leq b b'
 | .ex a b n,.ex a' b' n'=>Nat.beq n n'&&(leq a a'&&leq b b')
 | .se i k a c m p,.se i' k' a' c' m' p'=>Nat.beq i i'&&(Nat.beq k k'&&(Nat.beq c c'&&(leq a a'&&(leq m m'&&leq p p'))))
 | _,_=>false
def deq_ok{a b:Bd}(h:deq a b=true):a=b:=by
 unfold deq at h;split at h
 ·simp only[yal]at h;rw[zeM h.1,zeM h.2]
 ·simp only[yal]at h;rw[yaF h.1,zeM h.2.1,zeM h.2.2]
 ·simp only[yal]at h;rw[yaF h.1,yaF h.2.1,yaF h.2.2.1,zeM h.2.2.2.1,zeM h.2.2.2.2.1,zeM h.2.2.2.2.2]
 ·cases h
def keqd:Kd->Kd->Bool
 | .key i k a,.key i' k' a'=>Nat.beq i i'&&(Nat.beq k k'&&leq a a')
 | .sl a,.sl a'=>leq a a'
 | _,_=>false
def keqd_ok{a b:Kd}(h:keqd a b=true):a=b:=by
 unfold keqd at h;split at h
 ·simp only[yal]at h;rw[yaF h.1,yaF h.2.1,zeM h.2.2]
 ·rw[zeM h]
 ·cases h
structure Fnd where
 b:Bd->Option Nat
 k:Nat->Kd->Option Nat
 kd:Nat->Option Kd
 s:(Nat->Bd->Bool)->Option (Nat×Bd)
def zs5(p:Nat->Bd->Bool):Nat->List Bd->Option (Nat×Bd)
 | _,[]=>none
 | j,d::l=>match p j d with|true=>some (j,d)|false=>zs5 p (j+1) l
def zvk(n:Nat)(x:Kd):Nat->List (Nat×Kd)->Option Nat
 | _,[]=>none
 | j,(m,y)::l=>match Nat.beq n m&&keqd x y with|true=>some j|false=>zvk n x (j+1) l
def Tabs.fnd(t:Tabs):Fnd where
 b:=λx=>match zs5 (λ_ y=>deq x y) 0 t.bs with|some r=>some r.1|none=>none
 k:=λn x=>zvk n x 0 t.ks
 kd:=λm=>match t.ks[m]? with|some p=>some p.2|none=>none
 s:=λp=>zs5 p 0 t.bs
def zok{p:Nat->Bd->Bool}:∀{l:List Bd} {j0:Nat} {r:Nat×Bd},zs5 p j0 l=some r->∃i,r.1=j0+i/\l[i]?=some r.2/\p r.1 r.2=true
 | [],j0,r,h=>by cases h
 | d::l,j0,r,h=>by
  unfold zs5 at h;split at h
  ·rename_i hp;injection h with h
   subst h;exact⟨0,rfl,rfl,hp⟩
  ·obtain⟨i,h1,h2,h3⟩:=zok h;exact⟨i+1,by omega,h2,h3⟩
def zr0{n:Nat}{x:Kd}:∀{l:List (Nat×Kd)} {j0 r:Nat},zvk n x j0 l=some r->∃i,r=j0+i/\l[i]?=some (n,x)
 | [],j0,r,h=>by cases h
 | (m,y)::l,j0,r,h=>by
  unfold zvk at h;split at h
  ·rename_i hp;injection h with h
   subst h;rw[yal]at hp;have h1:=yaF hp.1;have h2:=keqd_ok hp.2;subst h1 h2;exact⟨0,rfl,rfl⟩
  ·obtain⟨i,h1,h2⟩:=zr0 h;exact⟨i+1,by omega,h2⟩
def fnd_b{t:Tabs}{x:Bd}{j:Nat}(h:t.fnd.b x=some j):t.bs[j]?=some x:=by
 unfold Tabs.fnd at h;dsimp only at h;split at h
 ·rename_i r hr;injection h with h
  obtain⟨i,h1,h2,h3⟩:=zok hr;have:=deq_ok h3;subst this;rw[<-h,h1,ya6];exact h2
 ·cases h
def fnd_s{t:Tabs}{p:Nat->Bd->Bool}{r:Nat×Bd}(h:t.fnd.s p=some r):t.bs[r.1]?=some r.2/\p r.1 r.2=true:=by
 obtain⟨i,h1,h2,h3⟩:=zok (show zs5 p 0 t.bs=some r from h);refine⟨?_,h3⟩;rw[h1,ya6];exact h2
def fnd_k{t:Tabs}{n:Nat}{x:Kd}{m:Nat}(h:t.fnd.k n x=some m):t.ks[m]?=some (n,x):=by
 obtain⟨i,h1,h2⟩:=zr0 (show zvk n x 0 t.ks=some m from h);rw[h1,ya6];exact h2
def fnd_kd{t:Tabs}{m:Nat}{x:Kd}(h:t.fnd.kd m=some x):∃n,t.ks[m]?=some (n,x):=by
 unfold Tabs.fnd at h;dsimp only at h;split at h
 ·rename_i p hp;injection h with h
  exact⟨p.1,by rw[hp,<-h]⟩
 ·cases h
def capb:Cap->Nat->Bool
 | .fix c,n=>Nat.ble n c
 | .opn e,_=>Nat.beq e 1
def rd(F:Fnd)(h:Heap):V->Option (List V)
 | .nils=>some []
 | .sl id off len cap=>match h.get id with
  | some b=>match Nat.ble (off+len) b.cells.length&&(capb cap len&&((b.cells.drop off).take len).all bok1) with
   | true=>some ((b.cells.drop off).take len)
   | false=>none
  | none=>none
 | .rs cells len=>match Nat.ble len cells.length&&(cells.take len).all bok1 with
  | true=>some (cells.take len)
  | false=>none
 | .lit (.int .i64 m)=>match F.kd m.toNat with
  | some (.sl l)=>some l
  | _=>none
 | _=>none
def all_d{l:List V}(h:l.all bok1=true):l.all bokd=true:=yaI.2 λx hx=>bok_d (yaI.1 h x hx)
def lc_one{lo n:Nat}{H:Heap}{v:V}{cells:List V}(h:Lc 1 lo H v cells n):v.one=true:=by
 rcases h.cases with⟨rfl,_,_⟩|⟨id,off,cap,b,rfl,_⟩|⟨cs,rfl,_⟩<;>rfl
def zmb{t:Tabs}{s:Nat->Nat}{q:Nat->List Nat}(ht:TabV t s q){g:Y.Sg}{h K:Heap} (st:Y.St (tbOf t s q) g h K) {v v':V} {l:List V} (e:rd t.fnd h v=some l) (r:Y.Rl g Y.sh v v'):By 0 K v' (iv s q l)/\Ok8 (iv s q l)/\l.all bokd=true:=by
 have es:g.e.s=s:=st.s;have rg:=r g.e (Y.Ag.self g);unfold rd at e;split at e
 ·injection e with e
  subst e rg;exact⟨Lc.nil,Ok8.nil,rfl⟩
 ·rename_i id off len cap;split at e
  ·rename_i b hb;split at e
   ·rename_i hc;injection e with e
    subst e rg;simp only[yal]at hc;obtain⟨h1,h2,h3⟩:=hc;have h1:=yau h1;obtain⟨i1,i2⟩:=iv_1 (d:=g.e) (q:=q) h3;rw[es]at i1 i2;have hl:((b.cells.drop off).take len).length=len:=by rw[yan,yat];omega
    rw[hl]at i2;have hg:=st.em g.e (Y.Ag.self g) id b hb;refine⟨⟨?_,λi hi=>?_,?_⟩,(iv_8 ht.sq (all_d h3)).1,all_d h3⟩
    ·show rcells 1 K (.sl (g.e.f id) off len cap) = _;simp only[rcells,hg,Option.bind_some];rw[Y.shB_c,Y.shL_len,if_pos (by omega),Y.shL_drop,Y.shL_take,ybc,i1,i2]
    ·have hi:g.e.f id=i:=by injection hi
     subst hi;exact⟨yaJ _,st.lt id (st.kn id b hb).1⟩
    ·show V.capOk 1 (.sl (g.e.f id) off len cap);cases cap with
     | fix c=>exact yau h2
     | opn e=>exact yaF h2
   ·cases e
  ·cases e
 ·rename_i cells len;split at e
  ·rename_i hc;injection e with e
   subst e rg;simp only[yal]at hc;obtain⟨h1,h3⟩:=hc;have h1:=yau h1;obtain⟨i1,i2⟩:=iv_1 (d:=g.e) (q:=q) h3;rw[es]at i1 i2;have hl:(cells.take len).length=len:=by rw[yan];omega
   rw[hl]at i2;refine⟨⟨?_,λi hi=>(by cases hi),trivial⟩,(iv_8 ht.sq (all_d h3)).1,all_d h3⟩;show rcells 1 K (.rs (Y.shL g.e cells) len) = _;simp only[rcells];rw[Y.shL_len,if_pos (by omega),Y.shL_take,ybc,i1,i2]
  ·cases e
 ·rename_i m;split at e
  ·rename_i l' hk;injection e with e
   subst e;obtain⟨n,hn⟩:=fnd_kd hk;have hw:=Y.wnamed r;obtain⟨-,lo,Hc,hP,sf⟩:=st.mw _ hw;have hP:(match t.ks[m.toNat]? with|some (_,.sl l)=>By lo Hc (g.e.w m.toNat) (iv s q l)/\l.all bokd=true|some (_,.any)=>True | _=>False):=hP;rw[hn]at hP;have ev:v'=g.e.w m.toNat:=by
    rw[rg];show Y.okw (g.e.w m.toNat) = _;unfold Y.okw;rw[if_pos (lc_one hP.1)]
   rw[ev];exact⟨(hP.1.keep ⟨sf.le,λi h1 h2=>sf.sm i h1 h2⟩).low (yaJ _),(iv_8 ht.sq hP.2).1,hP.2⟩
  ·cases e
 ·cases e
def okd(l:List V):Bool:=Nat.ble l.length 1000
def selO(f:FuncId)(args:List V):Bool:=
 Nat.beq f zbB||(Nat.beq f zbe||(Nat.beq f zbJ||(Nat.beq f za8||(Nat.beq f za9 ||
  (Nat.beq f zbZ&&(match args with|[.lit _]=>true | _=>false))))))
def orX(F:Fnd)(h:Heap)(a b:V):Option (V×List (Option Blk)):=
 match rd F h a,rd F h b with
 | some sl,some kl=>match okd sl&&okd kl with
  | true=>match F.b (.hm sl kl) with
   | some j=>some (.agg (syms j 0 32),[none])
   | none=>none
  | false=>none
 | _,_=>none
def orE(F:Fnd)(h:Heap)(a b:V)(n:Nat):Option (V×List (Option Blk)):=
 match rd F h a,rd F h b with
 | some sl,some il=>match okd sl&&(okd il&&(Nat.blt 0 n&&Nat.ble n 900)) with
  | true=>match F.b (.ex sl il n) with
   | some j=>some (.tup [.sl (h.next+1) 0 n (.opn 1),.int .i64 0],[none,some ⟨zad,syms j 0 n,some 1⟩,none])
   | none=>none
  | false=>none
 | _,_=>none
def orD(F:Fnd)(h:Heap)(id kid:Nat)(b:V):Option (V×List (Option Blk)):=
 match rd F h b,szs id with
 | some bl,some _=>match okd bl&&Nat.blt kid 18446744073709551616 with
  | true=>match F.k h.next (.key id kid bl) with
   | some m=>some (.tup [.ptr m 0,.int .i64 0],[none])
   | none=>none
  | false=>none
 | _,_=>none
def seC(j id kid t c:Nat)(p:List V):List V:=(hdr kid c).map by8++syms j (hdr kid c).length (p.length+t)
def orS(F:Fnd)(h:Heap)(m c:Nat)(a b:V):Option (V×List (Option Blk)):=
 match F.kd m,rd F h a,rd F h b with
 | some (.key id kid bl),some ml,some pl=>match szs id,okd ml&&(pl.all bok1&&(Nat.ble pl.length 900&&Nat.blt c 18446744073709551616)) with
  | some (_,t),true=>match F.b (.se id kid bl c ml pl) with
   | some j=>some (.tup [.sl (h.next+1) 0 ((hdr kid c).length+pl.length+t) (.fix ((hdr kid c).length+pl.length+t)),.int .i64 0],[none,some ⟨zad,seC j id kid t c pl,some 1⟩,none])
   | none=>none
  | _,_=>none
 | _,_,_=>none
def opP(id kid t:Nat)(bl ml bb:List V)(j:Nat):Bd->Bool
 | .se id' kid' bl' c ml' pl=>Nat.beq id' id&&(Nat.beq kid' kid&&(leq bl' bl&&(leq ml' ml&&(leq (seC j id kid t c pl) bb&&(pl.all bok1&&(Nat.ble pl.length 900&&Nat.blt c 18446744073709551616))))))
 | _=>false
def orO(F:Fnd)(h:Heap)(m:Nat)(a b:V):Option (V×List (Option Blk)):=
 match F.kd m,rd F h a,rd F h b with
 | some (.key id kid bl),some bb,some ml=>match szs id,okd ml&&(okd bb&&bb.all bok1) with
  | some (_,t),true=>match F.s (opP id kid t bl ml bb) with
   | some (_,.se _ _ _ c _ pl)=>some (.tup [.sl (h.next+1) 0 pl.length (.fix pl.length),.int .u64 (c:Nat),.int .i64 0],[none,some ⟨zad,pl,none⟩,none])
   | _=>none
  | _,_=>none
 | _,_,_=>none
def orC(F:Fnd)(h:Heap)(m:Nat):Option (V×List (Option Blk)):=
 match F.kd m with
 | some (.sl l)=>match okd l with
  | true=>match F.k h.next (.sl l) with
   | some m'=>some (.lit (.int .i64 (m':Nat)),[none])
   | none=>none
  | false=>none
 | _=>none
def orc(F:Fnd):Y.Orc:=λf args h=>
 match Nat.beq f zbB,args with
 | true,[a,b]=>orX F h a b
 | _,_=>match Nat.beq f zbe,args with
  | true,[a,b,.int .i64 (.ofNat n)]=>orE F h a b n
  | _,_=>match Nat.beq f zbJ,args with
   | true,[.int .i64 (.ofNat id),.int .u64 (.ofNat kid),b]=>orD F h id kid b
   | _,_=>match Nat.beq f za8,args with
    | true,[.ptr m 0,.int .u64 (.ofNat c),a,b]=>orS F h m c a b
    | _,_=>match Nat.beq f za9,args with
     | true,[.ptr m 0,a,b]=>orO F h m a b
     | _,_=>match Nat.beq f zbZ,args with
      | true,[.lit (.int .i64 m)]=>orC F h m.toNat
      | _,_=>none
section
variable {t:Tabs} {s:Nat->Nat} {q:Nat->List Nat} {g:Y.Sg} {h K:Heap}
def Ans(t:Tabs)(s:Nat->Nat)(q:Nat->List Nat)(g:Y.Sg)(h K:Heap)(f:FuncId)(args':List V) (r:V×List (Option Blk)):Prop:=
 ∃g' b K',sem T f args' K=some (b,K')/\Y.St (tbOf t s q) g' (Y.news h r.2) K'/\Y.Frm g h K g' (Y.news h r.2) K'/\Y.Rl g' Y.sh r.1 b
def ze6{l:List V}(ht:TabV t s q)(h:okd l=true)(hd:l.all bokd=true):(iv s q l).length<=1048576000:=by
 have:=(iv_8 ht.sq hd).2;have:=yau h;omega
def ans_x(ht:TabV t s q) (st:Y.St (tbOf t s q) g h K) {a b a' b':V} {r:V×List (Option Blk)} (e:orX t.fnd h a b=some r) (ra:Y.Rl g Y.sh a a') (rb:Y.Rl g Y.sh b b'):Ans t s q g h K zbB [a',b'] r:=by
 unfold orX at e;split at e
 ·rename_i sl kl h1 h2;split at e
  ·rename_i hk;rw[yal]at hk;split at e
   ·rename_i j hj;injection e with e
    subst e;obtain⟨b1,o1,d1⟩:=zmb ht st h1 ra;obtain⟨b2,o2,d2⟩:=zmb ht st h2 rb;obtain⟨r,K',e1,⟨rfl,gr⟩,hc⟩:=zsJ st.cl (znl b1 o1 (by have:=ze6 ht hk.1 d1;omega) b2 o2 (by have:=ze6 ht hk.2 d2;omega));refine⟨g,_,K',e1,st.dum gr hc,Y.fr_dum gr,λd hd=>?_⟩;show _=V.agg (Y.shL d (syms j 0 32));have hl:(val s q (.hm sl kl)).length=0+32:=zdL _ _ _;rw[zqm ht (hd.1.trans st.s) (fnd_b hj) hl (by decide),yaH];rfl
   ·cases e
  ·cases e
 ·cases e
def ans_e(ht:TabV t s q) (st:Y.St (tbOf t s q) g h K) {a b a' b':V} {n:Nat} {r:V×List (Option Blk)} (e:orE t.fnd h a b n=some r) (ra:Y.Rl g Y.sh a a') (rb:Y.Rl g Y.sh b b'):Ans t s q g h K zbe [a',b',.int .i64 (n:Nat)] r:=by
 unfold orE at e;split at e
 ·rename_i sl il h1 h2;split at e
  ·rename_i hk;simp only[yal]at hk;obtain⟨k1,k2,k3,k4⟩:=hk;have k3:0<n:=yau k3;have k4:=yau k4;split at e
   ·rename_i j hj;injection e with e
    subst e;obtain⟨b1,o1,d1⟩:=zmb ht st h1 ra;obtain⟨b2,o2,d2⟩:=zmb ht st h2 rb;obtain⟨r,K',e1,⟨v,rfl,hv,gr,hx⟩,hc⟩:=zsJ st.cl (zsf b1 o1 (by have:=ze6 ht k1 d1;omega) b2 o2 (by have:=ze6 ht k2 d2;omega) (n:=n) (by omega));obtain⟨id,rfl,hg,l1,l2⟩:=hx k3;have hl:(val s q (.ex sl il n)).length=0+n:=by
     show((hkdf kc (iv s q sl) (iv s q il) ((n+31)/32)).1.take n).length = _;rw[yan,zgf];omega
    obtain⟨g',s1,f1,n1,e2⟩:=st.blk gr hc l1 l2 (b:=⟨zad,syms j 0 n,some 1⟩) λd hd=>by
     unfold Y.shB;rw[zqm ht (hd.1.trans st.s) (fnd_b hj) hl (by omega),yaH];exact hg
    refine⟨g',_,K',e1,s1,f1,λd hd=>?_⟩;show _=V.tup [.sl (d.f (h.next+1)) 0 n (.opn 1),.int .i64 0];rw[hd.2.1 _ n1,e2]
   ·cases e
  ·cases e
 ·cases e
def ans_d(ht:TabV t s q) (st:Y.St (tbOf t s q) g h K) {b b':V} {id kid:Nat} {r:V×List (Option Blk)} (e:orD t.fnd h id kid b=some r) (rb:Y.Rl g Y.sh b b'):Ans t s q g h K zbJ [.int .i64 (id:Nat),.int .u64 (kid:Nat),b'] r:=by
 unfold orD at e;split at e
 ·rename_i bl p h1 h2;split at e
  ·rename_i hk;rw[yal]at hk;have k2:kid<18446744073709551616:=yau hk.2;split at e
   ·rename_i m hm;injection e with e
    subst e;obtain⟨b1,o1,d1⟩:=zmb ht st h1 rb;obtain⟨r,K',e1,⟨gr,hr⟩,hc⟩:=zsJ st.cl (Derive_x (id:=(id:Nat)) (by omega) k2 b1 o1 (by have:=ze6 ht hk.1 d1;omega));rw[yav]at hr;rcases hr with⟨hr|hr,-⟩|⟨n,tg,k,-,hs,rfl,hb⟩
    ·omega
    ·rw[h2]at hr;cases hr
    have hm':=fnd_k hm;have hmR:m<(tbOf t s q).R:=(yax.1 hm').1;have ht':(tbOf t s q).t m=h.next:=by
     show(match t.ks[m]? with|some p=>p.1|none=>0) = _;rw[hm']
    obtain⟨g',s1,f1,n1,e2⟩:=st.key gr hc hmR ht' hb.lo hb.low (by
     show(match t.ks[m]? with|some (_,.key i kid bl)=>∃n tg,szs i=some (n,tg)/\KeyB K.next K' k (drv i kid n tg (iv s q bl)) | _=>False);rw[hm'];exact⟨n,tg,hs,hb⟩)
    refine⟨g',_,K',e1,s1,f1,λd hd=>?_⟩;show _=V.tup [.ptr (d.f m) 0,.int .i64 0];rw[hd.2.1 _ n1,e2]
   ·cases e
  ·cases e
 ·cases e
def key_of (st:Y.St (tbOf t s q) g h K) {m id kid:Nat} {bl:List V} (hm:t.fnd.kd m=some (.key id kid bl)) {v':V} (r:Y.Rl g Y.sh (.ptr m 0) v'):∃k n tg,v' = .ptr k 0/\szs id=some (n,tg)/\KeyM K k (drv id kid n tg (iv s q bl)):=by
 obtain⟨n0,hn⟩:=fnd_kd hm;obtain⟨hf,rfl⟩:=Y.fnamed r;have hmR:m<(tbOf t s q).R:=(yax.1 hn).1;obtain⟨-,lo,Hc,hP,sf,-⟩:=st.mf m hmR hf;have hP:(match t.ks[m]? with|some (_,.key i kid bl)=>∃n tg,szs i=some (n,tg)/\KeyB lo Hc (g.e.f m) (drv i kid n tg (iv s q bl)) | _=>False):=hP;rw[hn]at hP;obtain⟨n,tg,h1,h2⟩:=hP;exact⟨_,n,tg,rfl,h1,(h2.keep ⟨sf.le,λi h1 h2=>sf.sm i h1 h2⟩).m⟩
def zqU{l:List V}(h:l.all bok1=true):(iv s q l).length=l.length:=(iv_1 (d:=⟨λ_=>0,λ_=>.any,s⟩) (q:=q) h).2
def zt8(ht:TabV t s q){d:Y.Nm}(hd:d.s=s){j id kid n tg c:Nat}{bl ml pl:List V} (hb:t.bs[j]?=some (.se id kid bl c ml pl)) (hs:szs id=some (n,tg)) (hp:pl.all bok1=true) (hl:pl.length<=900):Y.shL d (seC j id kid tg c pl)=(zc8 (drv id kid n tg (iv s q bl)) c (iv s q ml) (iv s q pl)).map by8/\(zc8 (drv id kid n tg (iv s q bl)) c (iv s q ml) (iv s q pl)).length=(hdr kid c).length+pl.length+tg:=by
 have htg:tg<=32:=yaA (szs_n hs).2.1 (by decide);have hv:val s q (.se id kid bl c ml pl)=zc8 (drv id kid n tg (iv s q bl)) c (iv s q ml) (iv s q pl):=by
  show(match szs id with|some (n,t)=>zc8 (drv id kid n t (iv s q bl)) c (iv s q ml) (iv s q pl)|none=>[]) = _;rw[hs]
 have hlen:=znw (k:=drv id kid n tg (iv s q bl)) htg c (iv s q ml) (iv s q pl);rw[zqU hp]at hlen;have hlen:(zc8 (drv id kid n tg (iv s q bl)) c (iv s q ml) (iv s q pl)).length=(hdr kid c).length+pl.length+tg:=hlen;have hh:=zu6 kid c;refine⟨?_,hlen⟩;unfold seC;rw[Y.shL_app,zqm ht hd hb (by rw[hv,hlen];omega) (by omega),hv];have e1:Y.shL d ((hdr kid c).map by8)=(hdr kid c).map by8:=by
  rw[Y.shL_map,ycS];rfl
 have e2:(zc8 (drv id kid n tg (iv s q bl)) c (iv s q ml) (iv s q pl)).take (hdr kid c).length=hdr kid c:=by
  unfold zc8;rw[ybb];exact yb6 rfl
 rw[e1]
 conv=>rhs;rw[<-ybJ (hdr kid c).length (zc8 (drv id kid n tg (iv s q bl)) c (iv s q ml) (iv s q pl)),e2]
 rw[yaP]
def ans_s(ht:TabV t s q) (st:Y.St (tbOf t s q) g h K) {a b k' a' b':V} {m c:Nat} {r:V×List (Option Blk)} (e:orS t.fnd h m c a b=some r) (rk:Y.Rl g Y.sh (.ptr m 0) k') (ra:Y.Rl g Y.sh a a') (rb:Y.Rl g Y.sh b b'):Ans t s q g h K za8 [k',.int .u64 (c:Nat),a',b'] r:=by
 unfold orS at e;split at e
 ·rename_i id kid bl ml pl hkd h1 h2;split at e
  ·rename_i nk tg hsz hk;simp only[yal]at hk;obtain⟨k1,k2,k3,k4⟩:=hk;have k3:=yau k3;have k4:c<18446744073709551616:=yau k4;split at e
   ·rename_i j hj;injection e with e
    subst e;obtain⟨k,n,tg',rfl,hs,hK⟩:=key_of st hkd rk;rw[hsz]at hs;simp only[yab,yae]at hs;obtain⟨rfl,rfl⟩:=hs;obtain⟨b1,o1,d1⟩:=zmb ht st h1 ra;obtain⟨b2,o2,d2⟩:=zmb ht st h2 rb;have pl1:=zqU (s:=s) (q:=q) k2;obtain⟨r,K',e1,⟨gr,hr⟩,hc⟩:=zsJ st.cl (Seal_x hK k4 b1 o1 b2 o2 (by have:=ze6 ht k1 d1;omega) (by omega));rw[if_neg (by omega)]at hr;obtain⟨v,rfl,id',rfl,hg,l1,l2⟩:=hr;have hl:=(zt8 ht (d:=g.e) st.s (fnd_b hj) hsz k2 k3).2;obtain⟨g',s1,f1,n1,e2⟩:=st.blk gr hc l1 l2 (b:=⟨zad,seC j id kid tg c pl,some 1⟩) λd hd=>by
     unfold Y.shB;rw[(zt8 ht (hd.1.trans st.s) (fnd_b hj) hsz k2 k3).1];exact hg
    refine⟨g',_,K',e1,s1,f1,λd hd=>?_⟩;show _=V.tup [.sl (d.f (h.next+1)) 0 _ (.fix _),.int .i64 0];rw[hd.2.1 _ n1,e2,hl]
   ·cases e
  ·cases e
 ·cases e
def ans_o(ht:TabV t s q) (st:Y.St (tbOf t s q) g h K) {a b k' a' b':V} {m:Nat} {r:V×List (Option Blk)} (e:orO t.fnd h m a b=some r) (rk:Y.Rl g Y.sh (.ptr m 0) k') (ra:Y.Rl g Y.sh a a') (rb:Y.Rl g Y.sh b b'):Ans t s q g h K za9 [k',a',b'] r:=by
 unfold orO at e;split at e
 ·rename_i id kid bl bb ml hkd h1 h2;split at e
  ·rename_i nk tg hsz hk;simp only[yal]at hk;obtain⟨k1,k2,k3⟩:=hk;split at e
   ·rename_i j id' kid' bl' c ml' pl hj;injection e with e
    subst e;obtain⟨h3,h4⟩:=fnd_s hj;simp only[opP,yal]at h4;obtain⟨p1,p2,p3,p4,p5,p6,p7,p8⟩:=h4;have p1:=yaF p1;have p2:=yaF p2;have p3:=zeM p3;have p4:=zeM p4;have p5:=zeM p5;have p7:=yau p7;have p8:c<18446744073709551616:=yau p8;subst p1 p2 p3 p4;obtain⟨k,n,tg',rfl,hs,hK⟩:=key_of st hkd rk;rw[hsz]at hs;simp only[yab,yae]at hs;obtain⟨rfl,rfl⟩:=hs;obtain⟨b1,o1,d1⟩:=zmb ht st h1 ra;obtain⟨b2,o2,d2⟩:=zmb ht st h2 rb;have hsc:=zt8 ht (d:=g.e) st.s h3 hsz p6 p7;have eb:iv s q bb=zc8 (drv id' kid' nk tg (iv s q bl')) c (iv s q ml') (iv s q pl):=by
     have h5:=(iv_1 (d:=g.e) (q:=q) k3).1;rw[st.s]at h5;rw[p5,h5]at hsc;exact(List.map_inj_right (λx y h=>by
      have:V.int .u8 (x:Nat)=V.int .u8 (y:Nat):=h;injection this with _ h
      omega)).1 hsc.1
    have pl1:=zqU (s:=s) (q:=q) p6;obtain⟨r,K',e1,⟨gr,hr⟩,hc⟩:=zsJ st.cl (Open_x hK b1 o1 b2 o2 (by have:=ze6 ht k1 d2;omega) (by have:=ze6 ht k2 d1;omega));rw[eb,zuA (yaA (szs_n hsz).2.1 (by decide)) hK.good.kid p8 (by omega)]at hr;obtain⟨v,rfl,i,rfl,hg,l1,l2⟩:=hr;obtain⟨g',s1,f1,n1,e2⟩:=st.blk gr hc l1 l2 (b:=⟨zad,pl,none⟩) λd hd=>by
     unfold Y.shB;have h6:=(iv_1 (d:=d) (q:=q) p6).1;rw[show d.s=s from hd.1.trans st.s]at h6;rw[h6];exact hg
    refine⟨g',_,K',e1,s1,f1,λd hd=>?_⟩;show _=V.tup [.sl (d.f (h.next+1)) 0 _ (.fix _),.int .u64 (c:Nat),.int .i64 0];rw[hd.2.1 _ n1,e2,pl1]
   ·cases e
  ·cases e
 ·cases e
def ans_c(ht:TabV t s q) (st:Y.St (tbOf t s q) g h K) {a':V} {m:Int} {r:V×List (Option Blk)} (e:orC t.fnd h m.toNat=some r) (ra:Y.Rl g Y.sh (.lit (.int .i64 m)) a'):Ans t s q g h K zbZ [a'] r:=by
 unfold orC at e;split at e
 ·rename_i l hkd;split at e
  ·rename_i hk;split at e
   ·rename_i m' hm;injection e with e
    subst e;have hrd:rd t.fnd h (.lit (.int .i64 m))=some l:=by
     unfold rd;dsimp only;rw[hkd]
    obtain⟨b1,o1,d1⟩:=zmb ht st hrd ra;obtain⟨r,K',e1,⟨hv,gr⟩,hc⟩:=zsJ st.cl (clone_ok b1 (by have:=ze6 ht hk d1;omega));have hm':=fnd_k hm;have hmR:m'<(tbOf t s q).R:=(yax.1 hm').1;have ht':(tbOf t s q).t m'=h.next:=by
     show(match t.ks[m']? with|some p=>p.1|none=>0) = _;rw[hm']
    obtain⟨g',s1,f1,n1,e2⟩:=st.val gr hc (v:=r) hmR ht' (by
     show(match t.ks[m']? with|some (_,.sl l)=>By K.next K' r (iv s q l)/\l.all bokd=true|some (_,.any)=>True | _=>False);rw[hm'];exact⟨hv,d1⟩)
    refine⟨g',_,K',e1,s1,f1,λd hd=>?_⟩;show _=Y.okw (d.w ((m':Nat):Int).toNat);rw[yav,hd.2.2 _ n1,e2];unfold Y.okw;rw[if_pos (lc_one hv)]
   ·cases e
  ·cases e
 ·cases e
def zcq{a:V}{l args':List V} (r:Y.Rl g Y.shL (a::l) args'):∃a' l',args'=a'::l'/\Y.Rl g Y.sh a a'/\Y.Rl g Y.shL l l':=by
 refine⟨Y.sh g.e a,Y.shL g.e l,r g.e (Y.Ag.self g),λd hd=>?_,λd hd=>?_⟩
 ·have:=(r g.e (Y.Ag.self g)).symm.trans (r d hd);injection this
 ·have:=(r g.e (Y.Ag.self g)).symm.trans (r d hd);injection this
def zmS{args':List V} (r:Y.Rl g Y.shL [] args'):args'=[]:=r g.e (Y.Ag.self g)
def zrF{k:IntKind}{n:Int}{v':V} (r:Y.Rl g Y.sh (.int k n) v'):v' = .int k n:=r g.e (Y.Ag.self g)
def orc_ok(ht:TabV t s q):Y.OrS (tbOf t s q) T selO (orc t.fnd):=by
 intro f args args' g h K v nb hsel e st r;clear hsel;unfold orc at e;split at e
 ·rename_i a b hf;have hf:=yaF hf;subst hf;obtain⟨a',l1,rfl,ra,r⟩:=zcq r;obtain⟨b',l2,rfl,rb,r⟩:=zcq r;rw[zmS r];exact ans_x ht st e ra rb
 rename_i hx;clear hx;split at e
 ·rename_i a b n hf;have hf:=yaF hf;subst hf;obtain⟨a',l1,rfl,ra,r⟩:=zcq r;obtain⟨b',l2,rfl,rb,r⟩:=zcq r;obtain⟨c',l3,rfl,rc,r⟩:=zcq r;rw[zmS r,zrF rc];exact ans_e ht st e ra rb
 rename_i hx;clear hx;split at e
 ·rename_i id kid b hf;have hf:=yaF hf;subst hf;obtain⟨a',l1,rfl,ra,r⟩:=zcq r;obtain⟨b',l2,rfl,rb,r⟩:=zcq r;obtain⟨c',l3,rfl,rc,r⟩:=zcq r;rw[zmS r,zrF ra,zrF rb];exact ans_d ht st e rc
 rename_i hx;clear hx;split at e
 ·rename_i m c a b hf;have hf:=yaF hf;subst hf;obtain⟨k',l0,rfl,rk,r⟩:=zcq r;obtain⟨c',l1,rfl,rc,r⟩:=zcq r;obtain⟨a',l2,rfl,ra,r⟩:=zcq r;obtain⟨b',l3,rfl,rb,r⟩:=zcq r;rw[zmS r,zrF rc];exact ans_s ht st e rk ra rb
 rename_i hx;clear hx;split at e
 ·rename_i m a b hf;have hf:=yaF hf;subst hf;obtain⟨k',l0,rfl,rk,r⟩:=zcq r;obtain⟨a',l2,rfl,ra,r⟩:=zcq r;obtain⟨b',l3,rfl,rb,r⟩:=zcq r;rw[zmS r];exact ans_o ht st e rk ra rb
 rename_i hx;clear hx;split at e
 ·rename_i m hf;have hf:=yaF hf;subst hf;obtain⟨a',l2,rfl,ra,r⟩:=zcq r;rw[zmS r];exact ans_c ht st e ra
 ·cases e
end
end Go.Ax.SU
/- Ax48 -/
namespace Go.Ax.Cc
def hp:List (Option Blk)->Heap
 | []=>⟨.e,0⟩
 | some b::bs=>(hp bs).new b
 | none::bs=>⟨(hp bs).t,(hp bs).next+1⟩
def hp_next:∀bs:List (Option Blk),(hp bs).abs.next=bs.length
 | []=>rfl
 | some b::bs=>by
  show((hp bs).new b).abs.next = _;rw[abs_new,zaf,hp_next bs];rfl
 | none::bs=>by
  show(hp bs).abs.next+1 = _;rw[hp_next bs];rfl
end Go.Ax.Cc
namespace Go.Ax
end Go.Ax
/- Ax32 -/
namespace Go.Ax
structure Rst where
 g:Nat->Option Blk
 r:Nat->Bool
 n:Nat
 sub:∀i b,g i=some b->r i=true
def look(l:List Nat) (r:Option (V×Cc.Heap)):Option (V×List (Option Blk)):=r.map λq=>(q.1,l.map q.2.get)
end Go.Ax
/- Or3 -/
namespace Go.Ax.SU
open Go.Ax Go.Proofs
def lowV(j:Nat):V->Bool
 | .lit (.int .u8 n)=>decide (n.toNat<1000*j)
 | _=>true
def lowL(j:Nat)(l:List V):Bool:=l.all λv=>lowV j v&&bokd v
def lowB(j:Nat):Bd->Bool
 | .hm a b=>lowL j a&&lowL j b
 | .ex a b _=>lowL j a&&lowL j b
 | .se i k a _ m p=>(match szs i with|some _=>true|none=>false)&&(Nat.blt k 18446744073709551616&&(lowL j a&&(lowL j m&&lowL j p)))
def lowT:Nat->List Bd->Bool
 | _,[]=>true
 | j,d::l=>lowB j d&&lowT (j+1) l
section
variable {q:Nat->List Nat}
def zjD{j:Nat}{s s':Nat->Nat}(h:∀n,n<1000*j->s n=s' n):∀{l:List V},lowL j l=true->iv s q l=iv s' q l
 | [],_=>rfl
 | x::l,hl=>by
  simp only[lowL,yba,yal]at hl;have ih:=zjD h (l:=l) hl.2;have h0:=hl.1.2;unfold bokd at h0;split at h0
  ·show q _++iv s q l=q _++iv s' q l;rw[ih]
  ·unfold bok1 at h0;split at h0
   ·show _::iv s q l = _::iv s' q l;rw[ih]
   ·rename_i n _;have h1:=hl.1.1;simp only[lowV,decide_eq_true_eq]at h1;show s _::iv s q l=s' _::iv s' q l;rw[ih,h _ h1]
   ·cases h0
def val_low{j:Nat}{s s':Nat->Nat}(h:∀n,n<1000*j->s n=s' n){d:Bd}(hd:lowB j d=true):val s q d=val s' q d:=by
 cases d with
 | hm a b=>
  simp only[lowB,yal]at hd;simp only[val,zjD h hd.1,zjD h hd.2]
 | ex a b n=>
  simp only[lowB,yal]at hd;simp only[val,zjD h hd.1,zjD h hd.2]
 | se i k a c m p=>
  simp only[lowB,yal]at hd;simp only[val,zjD h hd.2.2.1,zjD h hd.2.2.2.1,zjD h hd.2.2.2.2]
def lowL_d{j:Nat}{l:List V}(h:lowL j l=true):l.all bokd=true:=yaI.2 λx hx=>by
 have:=yaI.1 h x hx;simp only[yal]at this;exact this.2
def val_8{j:Nat}{s:Nat->Nat}(hs:SQ s q){d:Bd}(hd:lowB j d=true):Ok8 (val s q d):=by
 cases d with
 | hm a b=>exact zlf _ _ _
 | ex a b n=>exact Ok8.take (zlg kc _ _ _).1 _
 | se i k a c m p=>
  simp only[lowB,yal]at hd;simp only[val];cases hz:szs i with
  | none=>exact Ok8.nil
  | some x=>
   obtain⟨n,t⟩:=x;exact seal_8 (zr6 hz (yau hd.2.1)).ws (iv_8 hs (lowL_d hd.2.2.2.2)).1
def sOf(q:Nat->List Nat):List Bd->Nat->(Nat->Nat)->Nat->Nat
 | [],_,s=>s
 | d::l,j,s=>sOf q l (j+1) λn=>if n/1000=j then (val s q d).getD (n%1000) 0 else s n
def zqz:∀(l:List Bd) (j:Nat) (s:Nat->Nat) (n:Nat),n<1000*j->sOf q l j s n=s n
 | [],j,s,n,h=>rfl
 | d::l,j,s,n,h=>by
  show sOf q l (j+1) _ n=s n;rw[zqz l (j+1) _ n (by omega),if_neg (by omega)]
def sOf_sq (hq8:∀n,Ok8 (q n)) (hql:∀n,(q n).length<=1048576):∀(l:List Bd) (j:Nat) (s:Nat->Nat),lowT j l=true->SQ s q->SQ (sOf q l j s) q
 | [],j,s,_,h=>h
 | d::l,j,s,hl,h=>by
  simp only[lowT,yal]at hl;refine sOf_sq hq8 hql l (j+1) _ hl.2 ⟨λn=>?_,hq8,hql⟩;show(if n/1000=j then (val s q d).getD (n%1000) 0 else s n)<256;split
  ·exact getD_lt (val_8 h hl.1) _
  ·exact h.s8 n
def sOf_v:∀(l:List Bd) (j:Nat) (s:Nat->Nat),lowT j l=true->∀i d,l[i]?=some d->∀k,k<1000->sOf q l j s (1000*(j+i)+k)=(val (sOf q l j s) q d).getD k 0
 | [],j,s,_,i,d,hi,k,hk=>by cases hi
 | d0::l,j,s,hl,0,d,hi,k,hk=>by
  simp only[lowT,yal]at hl;simp only[yaC,yab]at hi;subst hi;have e1:sOf q (d0::l) j s (1000*(j+0)+k)=(val s q d0).getD k 0:=by
   show sOf q l (j+1) _ (1000*(j+0)+k) = _;rw[zqz l (j+1) _ _ (by omega),if_pos (by omega),show(1000*(j+0)+k)%1000=k by omega]
  rw[e1,val_low (j:=j) (s:=sOf q (d0::l) j s) (s':=s) (λn hn=>zqz (d0::l) j s n hn) hl.1]
 | d0::l,j,s,hl,i+1,d,hi,k,hk=>by
  simp only[lowT,yal]at hl;have:=sOf_v l (j+1) (λn=>if n/1000=j then (val s q d0).getD (n%1000) 0 else s n) hl.2 i d hi k hk;rw[show j+(i+1)=j+1+i by omega];exact this
def tab_ex{t:Tabs}(h:lowT 0 t.bs=true) (hq8:∀n,Ok8 (q n)) (hql:∀n,(q n).length<=1048576):∃s,TabV t s q:=
 ⟨sOf q t.bs 0 λ_=>0,sOf_sq hq8 hql _ _ _ h ⟨λ_=>by decide,hq8,hql⟩,λj d hd i _ hi=>by
  have:=sOf_v (q:=q) t.bs 0 (λ_=>0) h j d hd i hi
  rwa [ya6]at this⟩
def st_0{t:Tabs}{s:Nat->Nat}{ws:List V} (hw:∀(m:Nat) (v:V),ws[m]?=some v->∃l,t.ks[m]?=some (0,Kd.sl l)/\(∀H,By 0 H v (iv s q l))/\l.all bokd=true/\v.pid=none) (h0:0<t.ks.length) {H:Heap} (hc:H.Cl) :
  Y.St (tbOf t s q) ⟨⟨λ_=>0,λm=>(ws[m]?).getD .any,s⟩,λ_=>False,λm=>m<ws.length⟩ (Cc.hp (List.replicate t.ks.length none)).abs H:=by
 have hg:∀n i,(Cc.hp (List.replicate n none)).abs.get i=none:=λn=>by
  induction n with
  | zero=>intro i;rfl
  | succ n ih=>intro i;exact ih i
 have hn:∀n,(Cc.hp (List.replicate n none)).abs.next=n:=λn=>by rw[Cc.hp_next,yaL]
 refine⟨rfl,λi b hi=>(by rw[hg]at hi;cases hi),λi hi=>hi.elim,λi hi=>?_,by rw[hn];exact yaj _,λi j hi=>hi.elim,λi hi=>hi.elim,λd hd i b hi=>(by rw[hg]at hi;cases hi),λi hi=>hi.elim,hc,λi _ hi=>hi.elim,λi _ hi=>hi.elim,λi j _ _ hi=>hi.elim,λm _ hi=>hi.elim,λm hm=>?_⟩
 ·have hi:i<ws.length:=hi;obtain⟨l,h1,_⟩:=hw i _ (yag hi);exact(yax.1 h1).1
 ·have hm:m<ws.length:=hm;obtain⟨l,h1,h2,h3,h4⟩:=hw m _ (yag hm);refine⟨?_,H.next,H,?_,yaj _,λi h5 h6=>by omega,λi h5 h6=>by omega⟩
  ·show(match t.ks[m]? with|some p=>p.1|none=>0) < _;rw[h1,hn];exact h0
  ·show(match t.ks[m]? with|some (_,.sl l)=>By H.next H ((ws[m]?).getD .any) (iv s q l)/\l.all bokd=true|some (_,.any)=>True | _=>False);rw[h1,yag hm];exact⟨⟨(h2 H).rc,λi hi=>(by rw[yaB]at hi;rw[h4]at hi;cases hi),(h2 H).cap⟩,h3⟩
end
def hTs:∀f ir,T f=some ir->ir.body.still=true:=λf ir h=>zoQ h
def sym_oq{t:Tabs}{q:Nat->List Nat}{s:Nat->Nat}{sel:FuncId->List V->Bool}{O:Y.Orc}{OC:Y.OrcC}{T0:FuncId->Option Fn'}(hT0:∀f ir,T0 f=some ir->T f=some ir/\ir.body.still=true/\Y.ng ir.body=true)(hC:∀f a c,OC f a c=O f a c.abs) (hO:Y.OrS (tbOf t s q) T sel O) {ws:List V} (hw:∀(m:Nat) (v:V),ws[m]?=some v->∃l,t.ks[m]?=some (0,Kd.sl l)/\(∀H,By 0 H v (iv s q l))/\l.all bokd=true/\v.pid=none) (h0:0<t.ks.length)
  {f:FuncId} {m:Nat} {args args':List V} {v:V} {l:List Nat} {os:List (Option Blk)} (hr:Ax.look l (Y.cdq T0 sel OC m f args (Cc.hp (List.replicate t.ks.length none)))=some (v,os))
  (ha:∀d:Y.Nm,(∀(m:Nat) (v:V),ws[m]?=some v->d.w m=v)->args'=Y.shL d args) {H:Heap} (hc:H.Cl) :
  Ok (sem T f args') H λr H'=>∃g h',Y.St (tbOf t s q) g h' H'/\r=Y.sh g.e v/\os=l.map h'.get/\Grow H H'/\H'.Cl/\∀i,g.nf i->H.next<=g.e.f i:=by
 unfold Ax.look at hr;obtain⟨⟨v',c⟩,hr2,e⟩:=yac.1 hr;injection e with e1 e2
 subst e1 e2;clear hr;have st0:=st_0 (t:=t) (s:=s) (q:=q) hw h0 hc;obtain⟨g',b,K',e1,s1,f1,r1⟩:=Y.run_okq hC hT0 hO hr2 (args':=args') st0 λd hd=>ha d λm v hm=>by
  have:=hd.2.2 m (yax.1 hm).1;rw[this];show(ws[m]?).getD .any=v;rw[hm];rfl
 refine⟨b,K',e1,g',c.abs,s1,r1 g'.e (Y.Ag.self g'),rfl,⟨f1.le,λi hi=>f1.fr i hi λj b hj=>?_⟩,s1.cl,λi hi=>?_⟩
 ·exact absurd (st0.kn j b hj).1 (λx=>x)
 ·exact f1.ex.new i hi (λx=>x)
def take_e{H:Heap}{P:Nat}{ty:TypeId}{cs:List V}{op:Option Nat}{l:V}(hP:P<H.next) (hg:H.get P=some ⟨ty,cs,op⟩) (hb:cs[1]?=some l) (hl:vlen l=some (.int .i64 0)):Ok (sem T za0 [.ptr P 0]) H λr H'=>r = .tup [.agg [.int .i64 0,.int .i64 0,.nils],.bool false]/\Grow H H':=by
 refine zea ?_;unfold zcC uL uS uT uNFM uNF uB uI uO uR uc;have n1:P≠H.next:=by omega
 have n2:P≠H.next+1:=by omega
 simp(maxSteps:=1000000) (disch:=first|omega|(simp only[RY]<;>omega)|decide)only[↓RD,RZ,eq_self,Int.reduceToNat,Int.reduceAdd,Int.reduceSub,Int.reduceMul,Nat.reduceAdd,Nat.reduceSub,Nat.reduceMul,Nat.reduceDiv,Nat.reduceMod,Nat.reduceBEq,Nat.reduceLeDiff,RG,hg,hb,hl];exact(((Grow.new H _).trans (Grow.new _ _)).set (yaj _) _)
def taken_e{H:Heap}{D P:Nat}{ty ty':TypeId}{cs cs':List V}{op op':Option Nat}{a:Nat}{l:V}(hD:D<H.next)(hP:P<H.next)(ha:a<64) (hd:H.get D=some ⟨ty',cs',op'⟩) (hp:cs'[1470+a]?=some (.ptr P 0)) (hg:H.get P=some ⟨ty,cs,op⟩) (hb:cs[1]?=some l) (hl:vlen l=some (.int .i64 0)):Ok (sem T zb7 [.ptr D 0,.int .i64 (a:Nat),.int .i64 32]) H λr H'=>r = .nils/\Grow H H':=by
 refine zhP ?_;unfold zeY uR uc ug;refine ok_blk ?_;refine zax (α:=Res) (Q:=λr H'=>r = .ex 0 [.nils]/\Grow H H') (zaK (λi L H'=>L=[.nils,.int .i64 0]/\H'=H) 0 ⟨rfl,rfl⟩ (λi _ _ hi=>absurd hi (Nat.not_lt_zero _)) ?_) ?_
 ·rintro _ H ⟨rfl,rfl⟩;unfold zd4 uL uS uT uNF uE uB uIM uO uA uK uc ug;simp(maxSteps:=1000000) (disch:=first|omega|(simp only[RY]<;>omega)|decide)only[↓RD,RZ,eq_self,Int.reduceToNat,Int.reduceAdd,Int.reduceSub,Int.reduceMul,Nat.reduceAdd,Nat.reduceSub,Nat.reduceMul,Nat.reduceDiv,Nat.reduceMod,Nat.reduceBEq,Nat.reduceLeDiff,RG,hd,hp,ha];refine zam (take_e hP hg hb hl) ?_;rintro _ H1 ⟨rfl,s1⟩;simp(maxSteps:=1000000) (disch:=first|omega|(simp only[RY]<;>omega)|decide)only[↓RD,RZ,eq_self,Int.reduceToNat,Int.reduceAdd,Int.reduceSub,Int.reduceMul,Nat.reduceAdd,Nat.reduceSub,Nat.reduceMul,Nat.reduceDiv,Nat.reduceMod,Nat.reduceBEq,Nat.reduceLeDiff,RG];exact s1.trans ((Grow.new _ _).set (yaj _) _)
 ·rintro _ H1 ⟨rfl,s1⟩;simp(maxSteps:=1000000) (disch:=first|omega|(simp only[RY]<;>omega)|decide)only[↓RD,RZ,eq_self,Int.reduceToNat,Int.reduceAdd,Int.reduceSub,Int.reduceMul,Nat.reduceAdd,Nat.reduceSub,Nat.reduceMul,Nat.reduceDiv,Nat.reduceMod,Nat.reduceBEq,Nat.reduceLeDiff,RG];exact s1
def takes_e{H:Heap}{W D P:Nat}{ty ty' ty2:TypeId}{cs cs' cs2:List V}{op op' op2:Option Nat}{a:Nat}{l:V}(hW:W<H.next)(hD:D<H.next)(hP:P<H.next)(ha:a<64) (hw:H.get W=some ⟨ty2,cs2,op2⟩) (h2:cs2[2]?=some (.ptr D 0)) (hd:H.get D=some ⟨ty',cs',op'⟩) (hp:cs'[1470+a]?=some (.ptr P 0)) (hg:H.get P=some ⟨ty,cs,op⟩) (hb:cs[1]?=some l) (hl:vlen l=some (.int .i64 0)) :
  Ok (sem T zaL [.ptr W 0,.int .i64 (a:Nat),.int .i64 32]) H λr H'=>r = .int .i64 0/\Grow H H':=by
 refine zgl ?_;unfold zdX uL uNFM uE uA uR uc;simp(maxSteps:=1000000) (disch:=first|omega|(simp only[RY]<;>omega)|decide)only[↓RD,RZ,eq_self,Int.reduceToNat,Int.reduceAdd,Int.reduceSub,Int.reduceMul,Nat.reduceAdd,Nat.reduceSub,Nat.reduceMul,Nat.reduceDiv,Nat.reduceMod,Nat.reduceBEq,Nat.reduceLeDiff,RG,hw,h2];have hdo:Ok (sem T zc0 [.ptr D 0,.agg [.int .i64 5,.int .i64 (a:Nat),.int .i64 32,.nils]]) H λr H'=>r = .tup [.nils,.int .i64 0]/\Grow H H':=by
  refine zk3 ?_;unfold zgW uL uT uFM uNFM uNF uB uG uH uO uA uR uK uc;have ad:∀H:Heap,Ok (sem T zej [.int .i64 (a:Nat)]) H λr H'=>r = .bool true/\H'=H:=λH=>by
   refine zpi ?_;unfold zlD uL uB uG uH uR uc;have a1:(0:Int)<=(a:Nat):=by omega
   have a2:((a:Nat):Int)<=63:=by omega
   simp(maxSteps:=1000000) (disch:=first|omega|(simp only[RY]<;>omega)|decide)only[↓RD,RZ,eq_self,Int.reduceToNat,Int.reduceAdd,Int.reduceSub,Int.reduceMul,Nat.reduceAdd,Nat.reduceSub,Nat.reduceMul,Nat.reduceDiv,Nat.reduceMod,Nat.reduceBEq,Nat.reduceLeDiff,RG,a1,a2,decide_eq_true a1,decide_eq_true a2]
  have s1:=Grow.new H ⟨zhD,[.int .i64 5,.int .i64 (a:Nat),.int .i64 32,.nils],none⟩;simp(maxSteps:=1000000) (disch:=first|omega|(simp only[RY]<;>omega)|decide)only[↓RD,RZ,eq_self,Int.reduceToNat,Int.reduceAdd,Int.reduceSub,Int.reduceMul,Nat.reduceAdd,Nat.reduceSub,Nat.reduceMul,Nat.reduceDiv,Nat.reduceMod,Nat.reduceBEq,Nat.reduceLeDiff,RG];refine zam (ad _) ?_;rintro _ _ ⟨rfl,rfl⟩;simp(maxSteps:=1000000) (disch:=first|omega|(simp only[RY]<;>omega)|decide)only[↓RD,RZ,eq_self,Int.reduceToNat,Int.reduceAdd,Int.reduceSub,Int.reduceMul,Nat.reduceAdd,Nat.reduceSub,Nat.reduceMul,Nat.reduceDiv,Nat.reduceMod,Nat.reduceBEq,Nat.reduceLeDiff,RG];refine zam (taken_e (by rw[zaf];omega) (by rw[zaf];omega) ha ((s1.same D hD).trans hd) hp ((s1.same P hP).trans hg) hb hl) ?_;rintro _ H1 ⟨rfl,s2⟩;simp(maxSteps:=1000000) (disch:=first|omega|(simp only[RY]<;>omega)|decide)only[↓RD,RZ,eq_self,Int.reduceToNat,Int.reduceAdd,Int.reduceSub,Int.reduceMul,Nat.reduceAdd,Nat.reduceSub,Nat.reduceMul,Nat.reduceDiv,Nat.reduceMod,Nat.reduceBEq,Nat.reduceLeDiff,RG];exact s1.trans s2
 refine zam hdo ?_;rintro _ H1 ⟨rfl,s1⟩;simp(maxSteps:=1000000) (disch:=first|omega|(simp only[RY]<;>omega)|decide)only[↓RD,RZ,eq_self,Int.reduceToNat,Int.reduceAdd,Int.reduceSub,Int.reduceMul,Nat.reduceAdd,Nat.reduceSub,Nat.reduceMul,Nat.reduceDiv,Nat.reduceMod,Nat.reduceBEq,Nat.reduceLeDiff,RG];refine zax (α:=Res) (Q:=λr H'=>r = .ex 0 []/\H'=H1) (zaK (λi L H'=>L=[.int .i64 0]/\H'=H1) 0 ⟨rfl,rfl⟩ (λi _ _ hi=>absurd hi (Nat.not_lt_zero _)) ?_) ?_
 ·rintro _ _ ⟨rfl,rfl⟩;unfold zdr uS uT uFM uNFM uNF uB uI uO uA uK uc ug;simp(maxSteps:=1000000) (disch:=first|omega|(simp only[RY]<;>omega)|decide)only[↓RD,RZ,eq_self,Int.reduceToNat,Int.reduceAdd,Int.reduceSub,Int.reduceMul,Nat.reduceAdd,Nat.reduceSub,Nat.reduceMul,Nat.reduceDiv,Nat.reduceMod,Nat.reduceBEq,Nat.reduceLeDiff,RG]
 ·rintro _ _ ⟨rfl,rfl⟩;simp(maxSteps:=1000000) (disch:=first|omega|(simp only[RY]<;>omega)|decide)only[↓RD,RZ,eq_self,Int.reduceToNat,Int.reduceAdd,Int.reduceSub,Int.reduceMul,Nat.reduceAdd,Nat.reduceSub,Nat.reduceMul,Nat.reduceDiv,Nat.reduceMod,Nat.reduceBEq,Nat.reduceLeDiff,RG];exact s1
def emp:V->Bool
 | .nils=>true
 | .sl _ _ l _=>Nat.beq l 0
 | _=>false
def pt:V->Option Nat
 | .ptr i 0=>some i
 | _=>none
def tkO(args:List V)(h:Heap):Option (V×List (Option Blk)):=match args with
 | [.ptr w 0,.int .i64 (.ofNat a),.int .i64 (.ofNat 32)]=>
  match Nat.blt a 64 with
  | true=>(h.get w).bind λbw=>(bw.cells[2]?).bind λx=>(pt x).bind λD=>(h.get D).bind λbd=>(bd.cells[1470+a]?).bind λy=>(pt y).bind λP=>(h.get P).bind λbp=>(bp.cells[1]?).bind λl=>
   match emp l with|true=>some (.int .i64 0,[none])|false=>none
  | false=>none
 | _=>none
def selW(f:FuncId)(args:List V):Bool:=Nat.beq f zaL||selO f args
def orcW(F:Fnd):Y.Orc:=λf args h=>match Nat.beq f zaL with
 | true=>tkO args h
 | false=>orc F f args h
def zun{v:V}{i:Nat}(h:pt v=some i):v = .ptr i 0:=by
 unfold pt at h;split at h
 ·injection h with h;subst h;rfl
 ·cases h
def emp_len{g:Y.Sg}{v:V}(h:emp v=true):vlen (Y.sh g.e v)=some (.int .i64 0):=by
 unfold emp at h;split at h
 ·rfl
 ·rename_i l _;have:=yaF h;subst this;rfl
 ·cases h
def tk_ok{t:Tabs}{s:Nat->Nat}{q:Nat->List Nat}{args args':List V}{g:Y.Sg}{h K:Heap}{v:V} {nb:List (Option Blk)} (ho:tkO args h=some (v,nb)) (st:Y.St (tbOf t s q) g h K) (r:Y.Rl g Y.shL args args') :
  ∃g' b K',sem T zaL args' K=some (b,K')/\Y.St (tbOf t s q) g' (Y.news h nb) K'/\Y.Frm g h K g' (Y.news h nb) K'/\Y.Rl g' Y.sh v b:=by
 unfold tkO at ho;split at ho
 ·rename_i w a;have r0:=r g.e (Y.Ag.self g);split at ho
  ·rename_i ha;have ha:=yau ha;obtain⟨bw,w1,ho⟩:=yaa.1 ho;obtain⟨x,w2,ho⟩:=yaa.1 ho;obtain⟨D,w3,ho⟩:=yaa.1 ho;obtain⟨bd,w4,ho⟩:=yaa.1 ho;obtain⟨y,w5,ho⟩:=yaa.1 ho;obtain⟨P,w6,ho⟩:=yaa.1 ho;obtain⟨bp,w7,ho⟩:=yaa.1 ho;obtain⟨l,w8,ho⟩:=yaa.1 ho;split at ho
   ·rename_i he;cases ho;have e1:=zun w3;have e2:=zun w6;subst e1 e2;have k1:=st.em g.e (Y.Ag.self g) w bw w1;have k2:=st.em g.e (Y.Ag.self g) D bd w4;have k3:=st.em g.e (Y.Ag.self g) P bp w7;have l1:=st.lt w (st.kn w bw w1).1;have l2:=st.lt D (st.kn D bd w4).1;have l3:=st.lt P (st.kn P bp w7).1;obtain⟨b,K',e,rfl,gr⟩:=takes_e l1 l2 l3 ha k1 (Y.get_of w2) k2 (Y.get_of w5) k3 (Y.get_of w8) (emp_len he);have ea:args'=[.ptr (g.e.f w) 0,.int .i64 (a:Nat),.int .i64 32]:=r0;have hc:=(cf_sem (G:=⟨0⟩) _ _ K _ _ ⟨st.cl,yaJ _⟩ e).2.cl;exact⟨g,_,K',by rw[ea];exact e,st.dum gr hc,Y.fr_dum gr,λd hd=>rfl⟩
   ·cases ho
  ·cases ho
 ·cases ho
def orcW_ok{t:Tabs}{s:Nat->Nat}{q:Nat->List Nat}(ht:TabV t s q):Y.OrS (tbOf t s q) T selW (orcW t.fnd):=by
 intro f args args' g h K v nb hs ho st r;unfold orcW at ho;split at ho
 ·rename_i hf;have:=yaF hf;subst this;exact tk_ok ho st r
 ·rename_i hf;unfold selW at hs;rw[hf,ycI]at hs;exact orc_ok ht f args args' g h K v nb hs ho st r
/-! The same,read from the tree. -/
def cgt(c:Cc.Heap)(i k:Nat):Option V:=match c.t.get i with
 | some b=>match Nat.blt k b.n&&Nat.blt k (2 ^ b.d) with
  | true=>some (Cc.CT.get b.d b.t k)
  | false=>none
 | none=>none
def zvz{c:Cc.Heap}{i k:Nat}{v:V}(h:cgt c i k=some v):∃b,c.abs.get i=some b/\b.cells[k]?=some v:=by
 unfold cgt at h;split at h
 ·rename_i b hb;split at h
  ·rename_i hc;cases h;simp only[yal]at hc;have h1:=yau hc.1;have h2:=yau hc.2;refine⟨b.abs,?_,?_⟩
   ·show c.get i = _;unfold Cc.Heap.get;rw[hb];rfl
   ·show((Cc.CT.abs b.d b.t).take b.n)[k]? = _;rw[ya3 h1];exact Cc.CT.get_abs _ _ _ h2
  ·cases h
 ·cases h
def tkC(args:List V)(c:Cc.Heap):Option (V×List (Option Blk)):=match args with
 | [.ptr w 0,.int .i64 (.ofNat a),.int .i64 (.ofNat 32)]=>
  match Nat.blt a 64 with
  | true=>(cgt c w 2).bind λx=>(pt x).bind λD=>(cgt c D (1470+a)).bind λy=>(pt y).bind λP=>(cgt c P 1).bind λl=>
   match emp l with|true=>some (.int .i64 0,[none])|false=>none
  | false=>none
 | _=>none
def tkC_ok{args:List V}{c:Cc.Heap} {r:V×List (Option Blk)} (h:tkC args c=some r):tkO args c.abs=some r:=by
 unfold tkC at h;unfold tkO;split at h
 ·rename_i w a;split at h
  ·rename_i ha;simp only[yaa]at h;obtain⟨x,h1,D,h2,y,h3,P,h4,l,h5,h⟩:=h;obtain⟨b1,g1,k1⟩:=zvz h1;obtain⟨b2,g2,k2⟩:=zvz h3;obtain⟨b3,g3,k3⟩:=zvz h5;have e:Nat.blt a 64=true:=ha;simp only[e,g1,k1,h2,g2,k2,h4,g3,k3,Option.bind_some];exact h
  ·cases h
 ·cases h
def orcC(F:Fnd):Y.OrcC:=λf args c=>match (match Nat.beq f zaL with|true=>tkC args c|false=>none) with
 | some r=>some r
 | none=>orcW F f args c.abs
def orcC_eq(F:Fnd)(f:FuncId)(a:List V)(c:Cc.Heap):orcC F f a c=orcW F f a c.abs:=by
 unfold orcC;split
 ·rename_i r h;split at h
  ·rename_i hf;unfold orcW;rw[hf];exact(tkC_ok h).symm
  ·cases h
 ·rfl
end Go.Ax.SU
/- Ax60 -/
namespace Go.Ax.Y
abbrev Un:Type:=List (List (Nat×Nat))
def zlP(P:Program):Code->C->List (List Nat)->Un->Option (C×List (List Nat)×Un)
 | .skip,k,h,u=>some (k,h,u)
 | .region _ ops d,k,h,u=>
  cond (stops ops) (some (.bad,cond d (h.drop 1) h,cond d (u.drop 1) u)) (cond d
   (match h with
    | ord::h=>(zf9 P ops ord).map λl=>(.draw (l.map (·.2)) (u.headD []) k,h,u.drop 1)
    | []=>none)
   ((zeH P ops ops.toList).map λl=>(.ops l k,h,u)))
 | .seq a b,k,h,u=>(zlP P b k h u).bind λr=>zlP P a r.1 r.2.1 r.2.2
 | .cond x a b,k,h,u=>(zan x).bind λx=>
  cond (zpm a) ((zlP P a .bad h u).bind λr=>(zlP P b k r.2.1 r.2.2).map λs=>(.cond x r.1 s.1,s.2))
  (cond (zpm b) ((zlP P a k h u).bind λr=>(zlP P b .bad r.2.1 r.2.2).map λs=>(.cond x r.1 s.1,s.2))
  (match h with
   | J::h=>(zlP P a .done h u).bind λr=>(zlP P b .done r.2.1 r.2.2).map λs=>(.condJ x r.1 s.1 J (writes a++writes b) k,s.2)
   | []=>none))
 | .block id a,k,h,u=>
  match h with
  | J::h=>(zlP P a .done h u).map λr=>(.blk id r.1 J (writes a) k,r.2)
  | []=>none
 | .loop a,_,h,u=>
  match h with
  | K::h=>(zlP P a .done h u).map λr=>(.loop r.1 K (writes a),r.2)
  | []=>none
 | .exit id,_,h,u=>some (.exit id,h,u)
 | .ret,_,h,u=>some (.ret,h,u)
 | _,_,_,_=>none
def bit(m f:Nat):Bool:=Nat.beq (Nat.land (Nat.shiftRight m f) 1) 1
def unOf:List (Nat×Un)->Nat->Un
 | [],_=>[]
 | (k,u)::l,f=>cond (Nat.beq k f) u (unOf l f)
def quick(P:Program) (h:FuncId->List (List Nat)) (us:List (Nat×Un)) (m:Nat) (f:FuncId):Option Fn':=cond (bit m f)
 ((P.funcs[f]?).bind λfn=>fn.body.bind λb=>(zlP P b .ret (h f) (unOf us f)).bind λr=>(zgX P fn.results.toList).bind λrv=>some ⟨fn.ntmps,rv,r.1⟩) none
def AllE(T T0:FuncId->Option Fn'):List Nat->Prop
 | []=>True
 | x::xs=>T x=T0 x/\AllE T T0 xs
theorem AllE.mem{T T0:FuncId->Option Fn'}:∀{l:List Nat},AllE T T0 l->∀x∈l,T x=T0 x
 | [],_,x,h=>by cases h
 | y::l,h,x,hx=>by
  rcases yaD.1 hx with rfl|hx
  ·exact h.1
  ·exact AllE.mem h.2 x hx
structure Quick (T0 T:FuncId->Option Fn') (ids:List Nat):Prop where
 eq:∀f∈ids,T f=T0 f
 ng:(ids.all λf=>match T0 f with|some ir=>ng ir.body|none=>true)=true
 no:∀f,f∉ids->T0 f=none
def Quick.ok{T0 T:FuncId->Option Fn'}{ids:List Nat}(q:Quick T0 T ids)(hT:∀f ir,T f=some ir->ir.body.still=true)(f:FuncId)(ir:Fn')(e:T0 f=some ir):T f=some ir/\ir.body.still=true/\Y.ng ir.body=true:=by
 by_cases hm:f∈ids
 ·have h1:=(q.eq f hm).trans e;have h2:=yaI.1 q.ng f hm;rw[e]at h2;exact⟨h1,hT f ir h1,h2⟩
 ·rw[q.no f hm]at e;cases e
def bit_no{m n:Nat}{ids:List Nat} (h:((List.range n).all λf=>!(bit m f)||ids.contains f)=true) (hm:Nat.shiftRight m n=0) {f:Nat} (hf:f∉ids):bit m f=false:=by
 by_cases e:f<n
 ·have:=yaI.1 h f (yaW.2 e);cases hb:bit m f with
  | false=>rfl
  | true=>
   rw[hb]at this;simp only[ybj,ycI,List.contains_iff_mem]at this;exact absurd this hf
 ·have e1:Nat.shiftRight m f=0:=by
   have hm:m >>> n=0:=hm;show m >>> f=0;rw[show f=n+(f-n) by omega,Nat.shiftRight_add,hm,Nat.zero_shiftRight]
  unfold bit;rw[e1];rfl
def quick_no{P:Program} {h:FuncId->List (List Nat)} {us:List (Nat×Un)} {m f:Nat} (hb:bit m f=false):quick P h us m f=none:=by
 unfold quick;rw[hb];rfl
end Go.Ax.Y
/- Wk1 -/
namespace Go.Ax.SU
open Go.Ax Go.Proofs
def u8(l:List Nat):List V:=l.map by8
def wkT:Tabs:=⟨[
 .hm (u8 [111,119,110]) (u8 [0]),
 .ex (syms 0 0 32) (u8 [0,0,0,1,0,0]) 32,
 .hm ([]) (syms 1 0 32),
 .ex (syms 2 0 32) (u8 [83,70,114,97,109,101,32,49,46,48,32,82,97,116,99,104,101,116]) 32,
 .hm (u8 [112,97,105,114]) (u8 [114]),
 .ex (syms 4 0 32) (u8 [0,1]) 32,
 .se 1 8 (syms 5 0 32) 0 (u8 [0,1]) (syms 3 0 32),
 .hm (u8 [111,119,110]) (u8 [1]),
 .ex (syms 7 0 32) (u8 [0,0,0,1,0,0]) 32,
 .se 1 1 (syms 5 0 32) 0 (u8 [1,0]) (syms 8 0 32)],[
 (414,.key 1 0 (syms 1 0 32)),
 (461,.key 1 8 (syms 3 0 32)),
 (496,.key 1 8 (syms 5 0 32)),
 (570,.key 1 1 (syms 8 0 32)),
 (599,.key 1 1 (syms 5 0 32)),
 (799,.key 1 1 (syms 5 0 32)),
 (835,.key 1 8 (syms 5 0 32))]⟩
def wkM:Nat:=11935757675684386650461505985934114253095088965740612440879106829847215797169391005581064
def wkU:List (Nat×Y.Un):=[(61,[[(1,12),(5,12)],[(0,1)]]),(68,[[(1,3)],[(0,15),(0,16),(0,17),(2,15),(2,16),(2,17),(4,15),(4,16),(4,17),(6,15),(6,16),(6,17),(8,15),(8,16),(8,17),(10,15),(10,16),(10,17)]]),(80,[[(3,11),(7,11)]]),(81,[[],[],[],[],[],[(11,13)]]),(107,[[(6,12)],[(3,13),(7,13)],[],[],[(5,8)],[(5,12),(7,12),(7,15),(9,12),(9,15),(9,18)]]),(108,[[(14,15)],[(8,9)],[],[(8,9)]]),(131,[[(5,9)]]),(135,[[(4,8)],[(1,3)]]),(143,[[],[(11,13)]]),(178,[[(3,9),(3,10),(3,11)]]),(181,[[(5,11)]]),(184,[[(3,7)]])]
noncomputable def wkQ:FuncId->Option Fn':=Y.quick Tryz.prog (hintOf hintRows) wkU wkM
def wkI0:List Nat:=[3,8,9,10,11,12,13,15,16,17,18,19,25,26,27,28,29,31,32,33,34,35,36,38,40,41,42]
def wkI1:List Nat:=[44,46,54,55,56,57,58,59,60,61,65,66,68,69,73,74,80,81,84,92,103,105,106,107,108,110,112]
def wkI2:List Nat:=[118,119,131,134,135,136,137,138,143,145,150,151,152,175,176,177,178,179,180,181,182,183,184,185,188,189,190]
def wkI3:List Nat:=[219,220,221,222,229,248,251,252,253,254,255,256,257,258,259,291,292]
def wkI:List Nat:=wkI0++(wkI1++(wkI2++(wkI3)))
theorem wk_0:Y.AllE T wkQ wkI0:=⟨by kernel_rfl,by kernel_rfl,by kernel_rfl,by kernel_rfl,by kernel_rfl,by kernel_rfl,by kernel_rfl,by kernel_rfl,by kernel_rfl,by kernel_rfl,by kernel_rfl,by kernel_rfl,by kernel_rfl,by kernel_rfl,by kernel_rfl,by kernel_rfl,by kernel_rfl,by kernel_rfl,by kernel_rfl,by kernel_rfl,by kernel_rfl,by kernel_rfl,by kernel_rfl,by kernel_rfl,by kernel_rfl,by kernel_rfl,by kernel_rfl,trivial⟩
theorem wk_1:Y.AllE T wkQ wkI1:=⟨by kernel_rfl,by kernel_rfl,by kernel_rfl,by kernel_rfl,by kernel_rfl,by kernel_rfl,by kernel_rfl,by kernel_rfl,by kernel_rfl,by kernel_rfl,by kernel_rfl,by kernel_rfl,by kernel_rfl,by kernel_rfl,by kernel_rfl,by kernel_rfl,by kernel_rfl,by kernel_rfl,by kernel_rfl,by kernel_rfl,by kernel_rfl,by kernel_rfl,by kernel_rfl,by kernel_rfl,by kernel_rfl,by kernel_rfl,by kernel_rfl,trivial⟩
theorem wk_2:Y.AllE T wkQ wkI2:=⟨by kernel_rfl,by kernel_rfl,by kernel_rfl,by kernel_rfl,by kernel_rfl,by kernel_rfl,by kernel_rfl,by kernel_rfl,by kernel_rfl,by kernel_rfl,by kernel_rfl,by kernel_rfl,by kernel_rfl,by kernel_rfl,by kernel_rfl,by kernel_rfl,by kernel_rfl,by kernel_rfl,by kernel_rfl,by kernel_rfl,by kernel_rfl,by kernel_rfl,by kernel_rfl,by kernel_rfl,by kernel_rfl,by kernel_rfl,by kernel_rfl,trivial⟩
theorem wk_3:Y.AllE T wkQ wkI3:=⟨by kernel_rfl,by kernel_rfl,by kernel_rfl,by kernel_rfl,by kernel_rfl,by kernel_rfl,by kernel_rfl,by kernel_rfl,by kernel_rfl,by kernel_rfl,by kernel_rfl,by kernel_rfl,by kernel_rfl,by kernel_rfl,by kernel_rfl,by kernel_rfl,by kernel_rfl,trivial⟩
theorem wk_ng:(wkI.all λf=>match wkQ f with|some ir=>Y.ng ir.body|none=>true)=true:=by kernel_rfl
theorem wk_b:((List.range 400).all λf=>!(Y.bit wkM f)||wkI.contains f)=true:=by kernel_rfl
theorem wk_q:Y.Quick wkQ T wkI:=⟨λf hf=>by
 simp only[wkI,yaZ]at hf;rcases hf with hf|hf|hf|hf
 ·exact wk_0.mem f hf
 ·exact wk_1.mem f hf
 ·exact wk_2.mem f hf
 ·exact wk_3.mem f hf,wk_ng,λf hf=>Y.quick_no (Y.bit_no wk_b (by kernel_rfl) hf)⟩
theorem wk_run:Ax.look [] (Y.cdq wkQ selW (orcC wkT.fnd) 200 zbd [] (Cc.hp (List.replicate 7 none)))=some (.bool true,[]):=by kernel_rfl
end Go.Ax.SU
namespace Go.Ax
open SU
theorem law_worldKnown(us:List V) (h:zv7 [] us):∃H',sem T zbd us H0=some (.bool true,H'):=by
 cases us with
 | nil=>
  obtain⟨s,ht⟩:=tab_ex (t:=wkT) (q:=λ_=>[]) (by kernel_rfl) (λ_=>Ok8.nil) (λ_=>yaJ _);obtain⟨r,H',h1,g,h',-,rfl,-⟩:=sym_oq (wk_q.ok hTs) (orcC_eq _) (orcW_ok ht) (ws:=[]) (λm v hm=>by cases hm) (by decide) wk_run (args':=[]) (λd hd=>rfl) (H:=H0) (λ_ _=>rfl);exact⟨H',h1⟩
 | cons u us=>cases h
end Go.Ax
