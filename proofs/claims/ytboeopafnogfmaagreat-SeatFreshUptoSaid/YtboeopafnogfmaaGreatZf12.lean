/-
  Texts of mine, put together by program (wip/slim.py), for law_seatFresh: part 12.
-/
import Derived.Test.YtboeopafnogfmaaGreatZf11
noncomputable section
set_option linter.unusedVariables false
set_option linter.unusedSimpArgs false
set_option linter.defProp false
set_option maxRecDepth 100000
/- Ax53 -/
namespace Go.Ax.Y
def ngR (p:Option Nat×Option (Nat×Bool)) (o:AO):Bool:=match o.gd,o.ins.kind with
 | some (q,w),.read (.s t)=>(match p with
  | (some t',some (q',w'))=>Nat.beq t t'&&(Nat.beq q q'&&(w==w'))
  | _=>false)
 | some _,.read _=>false
 | _,_=>true
def ngL:Option Nat×Option (Nat×Bool)->List AO->Bool
 | _,[]=>true
 | p,o::l=>ngR p o&&ngL (o.dst,o.gd) l
def ng:C->Bool
 | .done | .bad | .exit _ | .ret=>true
 | .ops _ k=>ng k
 | .draw l un k=>(un.isEmpty||ngL (none,none) l)&&ng k
 | .cond _ a b=>ng a&&ng b
 | .condJ _ a b _ _ k=>ng a&&(ng b&&ng k)
 | .blk _ a _ _ k=>ng a&&ng k
 | .loop a _ _=>ng a
def shF(d:Nm)(A:Fr):Fr:=A.map λp=>(p.1,sh d p.2)
section
variable {d:Nm}
def zsp(A:Fr)(t:Nat):Fr.get (shF d A) t=(Fr.get A t).map (sh d):=by
 induction A with
 | nil=>rfl
 | cons p A ih=>
  obtain⟨k,v⟩:=p;show(if k=t then some (sh d v) else Fr.get (shF d A) t)=(if k=t then some v else Fr.get A t).map (sh d);split
  ·rfl
  ·exact ih
def shF_put(A:Fr)(o:Option Nat)(v:V):(shF d A).put o (sh d v)=shF d (A.put o v):=by cases o<;>rfl
def shF_drop(W:List Nat)(A:Fr):(shF d A).drop W=shF d (A.drop W):=by
 induction A with
 | nil=>rfl
 | cons p A ih=>
  obtain⟨k,v⟩:=p;show(if W.contains k then Fr.drop W (shF d A) else (k,sh d v)::Fr.drop W (shF d A))=shF d (if W.contains k then Fr.drop W A else (k,v)::Fr.drop W A);split
  ·exact ih
  ·rw[ih];rfl
def sh_getD(L:List V)(i:Nat):(shL d L).getD i .undef=sh d (L.getD i .undef):=by
 rw[yak,yak,zpC];cases L[i]?<;>rfl
def zqX(L:List V):∀(J:List Nat) (i:Nat),zr7 (shL d L) i J=shF d (zr7 L i J)
 | [],i=>rfl
 | t::ts,i=>by
  simp only[zr7];rw[sh_getD,zqX L ts (i+1)];rfl
def shF_join(A:Fr)(J W:List Nat)(L:List V):(shF d A).join J W (shL d L)=shF d (A.join J W L):=by
 unfold Fr.join;rw[zqX,shF_drop];unfold shF;rw[yaC]
def ev_sh{A:Fr}{x:Arg}(h:x.still=true):x.ev (shF d A)=(x.ev A).map (sh d):=by
 cases x with
 | s t=>exact zsp A t
 | c v=>show some v=some (sh d v);rw[zpx v h]
def evs_sh{A:Fr}:∀{xs:List Arg},xs.all Arg.still=true->evs (shF d A) xs=(evs A xs).map (shL d)
 | [],_=>rfl
 | x::xs,h=>by
  simp only[yba,yam]at h;simp only[evs];rw[ev_sh h.1,evs_sh h.2];cases x.ev A with
  | none=>rfl
  | some v=>simp only[yat,Option.bind_some,yc0];rfl
def zpc{A:Fr}:∀{ps:List (Nat×Nat×Arg)},ps.all (λp=>p.2.2.still)=true->zaX (shF d A) ps=(zaX A ps).map (shP d)
 | [],_=>rfl
 | (o,s,x)::ps,h=>by
  simp only[yba,yam]at h;simp only[zaX];rw[ev_sh h.1,zpc h.2];cases x.ev A with
  | none=>rfl
  | some v=>simp only[yat,Option.bind_some,yc0];rfl
def evOpt_sh{A:Fr}{o:Option Arg}(h:zjo o=true):zcl (shF d A) o=(zcl A o).map (Option.map (sh d)):=by
 cases o with
 | none=>rfl
 | some x=>
  simp only[zcl];rw[ev_sh h];cases x.ev A<;>rfl
def zoL(l:List V):∀i,params i (shL d l)=shF d (params i l):=by
 induction l with
 | nil=>intro i;rfl
 | cons v vs ih=>intro i;simp only[shL,params];rw[ih];rfl
def zww(L:List V):zdE (shL d L)=sh d (zdE L):=by
 rcases L with _|⟨a,_|⟨b,L⟩⟩<;>rfl
def zqV(A:Fr):∀J:List Nat,zbr (shF d A) J=(zbr A J).map (shL d)
 | []=>rfl
 | t::ts=>by
  simp only[zbr];rw[zsp,zqV A ts];cases Fr.get A t with
  | none=>rfl
  | some v=>simp only[yat,Option.bind_some,yc0];rfl
end
def of_map{α β γ δ:Type}{g:Sg}{f:Nm->α->β}{k:Nm->γ->δ}{o:γ->Option α}{o':δ->Option β} (he:∀d A,o' (k d A)=(o A).map (f d)) {A:γ} {A':δ} (hA:Rl g k A A') {v:α} (hv:o A=some v):∃v',o' A'=some v'/\Rl g f v v':=by
 refine⟨f g.e v,?_,λd hd=>?_⟩
 ·rw[hA g.e (Ag.self g),he,hv];rfl
 ·have h1:o' A'=some (f g.e v):=by rw[hA g.e (Ag.self g),he,hv];rfl
  rw[hA d hd,he,hv]at h1;injection h1 with h1
  exact h1.symm
section
variable {g:Sg} {A A':Fr}
def ev_r{x:Arg}(hs:x.still=true)(hA:Rl g shF A A'){v:V}(hv:x.ev A=some v):∃v',x.ev A'=some v'/\Rl g sh v v':=of_map (f:=sh) (k:=shF) (o:=λA=>x.ev A) (o':=λA=>x.ev A) (λd A=>ev_sh hs) hA hv
def evs_r{x:List Arg}(hs:x.all Arg.still=true)(hA:Rl g shF A A'){v:List V}(hv:evs A x=some v):∃v',evs A' x=some v'/\Rl g shL v v':=of_map (f:=shL) (k:=shF) (o:=λA=>evs A x) (o':=λA=>evs A x) (λd A=>evs_sh hs) hA hv
def zrQ {x:List (Nat×Nat×Arg)} (hs:x.all (λp=>p.2.2.still)=true) (hA:Rl g shF A A') {v:List (Nat×Nat×V)} (hv:zaX A x=some v):∃v',zaX A' x=some v'/\Rl g shP v v':=of_map (f:=shP) (k:=shF) (o:=λA=>zaX A x) (o':=λA=>zaX A x) (λd A=>zpc hs) hA hv
def zs4{x:Option Arg}(hs:zjo x=true)(hA:Rl g shF A A'){v:Option V}(hv:zcl A x=some v):∃v',zcl A' x=some v'/\Rl g (λd o=>o.map (sh d)) v v':=of_map (f:=λd (o:Option V)=>o.map (sh d)) (k:=shF) (o:=λA=>zcl A x) (o':=λA=>zcl A x) (λd A=>evOpt_sh hs) hA hv
def get_r{t:Nat}(hA:Rl g shF A A'){v:V}(hv:Fr.get A t=some v):∃v',Fr.get A' t=some v'/\Rl g sh v v':=of_map (f:=sh) (k:=shF) (o:=λA=>Fr.get A t) (o':=λA=>Fr.get A t) (λd A=>zsp A t) hA hv
def zp9{J:List Nat}(hA:Rl g shF A A'){v:List V}(hv:zbr A J=some v):∃v',zbr A' J=some v'/\Rl g shL v v':=of_map (f:=shL) (k:=shF) (o:=λA=>zbr A J) (o':=λA=>zbr A J) (λd A=>zqV A J) hA hv
end
section
variable {tb:Tb} {g:Sg} {h K:Heap} {G G':Sem'} {A A':Fr}
def zaI{x:Arg}{k k':V->M V}(hA:Rl g shF A A')(hs:x.still=true) (hk:∀v v',Rl g sh v v'->S tb g h K sh (k v) (k' v')):S tb g h K sh (with1 A x k) (with1 A' x k'):=by
 unfold with1;cases hv:x.ev A with
 | none=>exact zcV
 | some v=>
  obtain⟨v',e,r⟩:=ev_r hs hA hv;rw[e];exact hk v v' r
def zpD{xs:List Arg}{k k':List V->M V}(hA:Rl g shF A A')(hs:xs.all Arg.still=true) (hk:∀v v',Rl g shL v v'->S tb g h K sh (k v) (k' v')):S tb g h K sh (withs A xs k) (withs A' xs k'):=by
 unfold withs;cases hv:evs A xs with
 | none=>exact zcV
 | some v=>
  obtain⟨v',e,r⟩:=evs_r hs hA hv;rw[e];exact hk v v' r
def zqG(tb:Tb)(G G':Sem'):Prop:=∀f args args' g h K,St tb g h K->Rl g shL args args'->S tb g h K sh (G f args) (G' f args')
def s_callv(hg:zqG tb G G')(s:St tb g h K){x x':V}{args args':List V}(rx:Rl g sh x x')(ra:Rl g shL args args'):S tb g h K sh (callv G x args) (callv G' x' args'):=by
 cases x<;>first|exact zcV|skip
 rename_i f caps;have:=rx g.e (Ag.self g);subst this;show S tb g h K sh (G f (args++caps)) (G' f (args'++shL g.e caps));refine hg _ _ _ _ _ _ s λd hd=>?_;have:=rx d hd;simp only[sh,V.fn.injEq,true_and]at this;rw[shL_app,<-ra d hd,this]
def s_run(hg:zqG tb G G')(s:St tb g h K)(hA:Rl g shF A A')(i:I)(hs:i.still=true):S tb g h K sh (i.run G A) (i.run G' A'):=by
 cases i<;>simp only[I.still,yam]at hs<;>simp only[I.run]
 case build z ps=>
  cases hv:zaX A ps with
  | none=>exact zcV
  | some l=>
   obtain⟨l',e,r⟩:=zrQ hs.2 hA hv;rw[e];exact s_op s λd hd=>by rw[r d hd];exact zd5 λv hv=>by have:=sh_build (d:=d) hv;rw[zc1 z hs.1]at this;exact this
 case slit ty l z ps=>
  cases hv:zaX A ps with
  | none=>exact zcV
  | some q=>
   obtain⟨q',e,r⟩:=zrQ hs.2 hA hv;rw[e];exact s_op s λd hd=>by rw[r d hd];have:=r_slit (d:=d) ty l z q;rw[zc1 z hs.1]at this;exact this
 case slice ck e x lo hi mx=>
  refine zaI hA hs.1 λv v' r=>?_;cases h1:zcl A lo with
  | none=>exact zcV
  | some lo1=>
  cases h2:zcl A hi with
  | none=>exact zcV
  | some hi1=>
  cases h3:zcl A mx with
  | none=>exact zcV
  | some mx1=>
  obtain⟨lo2,e1,r1⟩:=zs4 hs.2.1 hA h1;obtain⟨hi2,e2,r2⟩:=zs4 hs.2.2.1 hA h2;obtain⟨mx2,e3,r3⟩:=zs4 hs.2.2.2 hA h3;rw[e1,e2,e3];exact s_op s λd hd=>by rw[r d hd,r1 d hd,r2 d hd,r3 d hd];exact zd5 λu hu=>zwu hu
 case minmax mx x xs=>exact zaI hA hs.1 λv v' r=>zpD hA hs.2 λl l' rl=>s_op s λd hd=>by rw[r d hd,rl d hd];exact zd5 λu hu=>zqT hu
 case call f xs=>exact zpD hA hs λl l' rl=>hg f l l' g h K s rl
 case callv x xs=>exact zaI hA hs.1 λv v' r=>zpD hA hs.2 λl l' rl=>s_callv hg s r rl
 case mkfn f xs=>exact zpD hA hs λl l' rl=>zdl s λd hd=>by rw[rl d hd];rfl
 case mkmap ty=>exact s_op s λd hd=>r_mkmap ty
 case clear z x=>exact zaI hA hs.2 λv v' r=>s_op s λd hd=>by rw[r d hd];have:=r_clear (d:=d) z v;rw[zc1 z hs.1]at this;exact this
 case appendz ty b z x y=>exact zaI hA hs.2.1 λv v' r=>zaI hA hs.2.2 λw w' q=>s_op s λd hd=>by rw[r d hd,q d hd];have:=zwV (d:=d) ty b z v w;rw[zc1 z hs.1]at this;exact this
 case mkslice ty b z x y=>exact zaI hA hs.2.1 λv v' r=>zaI hA hs.2.2 λw w' q=>s_op s λd hd=>by rw[r d hd,q d hd];have:=zwS (d:=d) ty b z v w;rw[zc1 z hs.1]at this;exact this
 case lookup mk z ok x k=>exact zaI hA hs.2.1 λv v' r=>zaI hA hs.2.2 λw w' q=>s_op s λd hd=>by rw[r d hd,q d hd];have:=r_lookup (d:=d) mk z ok v w;rw[zpx z hs.1]at this;exact this
 case mv x=>exact zaI hA hs λv v' r=>zdl s r
 case pick c a b=>exact zaI hA hs.1 λu u' p=>zaI hA hs.2.1 λv v' r=>zaI hA hs.2.2 λw w' q=>s_op s λd hd=>by rw[p d hd,r d hd,q d hd];exact zd5 λ_ hu=>sh_pick hu
 case slice2 e c a b=>exact zaI hA hs.1 λu u' p=>zaI hA hs.2.1 λv v' r=>zaI hA hs.2.2 λw w' q=>s_op s λd hd=>by rw[p d hd,r d hd,q d hd];exact r_slice2 e u v w
 case mapset mk c a b=>exact zaI hA hs.1 λu u' p=>zaI hA hs.2.1 λv v' r=>zaI hA hs.2.2 λw w' q=>s_op s λd hd=>by rw[p d hd,r d hd,q d hd];exact r_mapset mk u v w
 case box ty x=>exact zaI hA hs λv v' r=>s_op s λd hd=>by rw[r d hd];exact r_box ty v
 case load n x=>exact zaI hA hs λv v' r=>s_op s λd hd=>by rw[r d hd];exact zwU n v
 case store n p x=>exact zaI hA hs.1 λv v' r=>zaI hA hs.2 λw w' q=>s_op s λd hd=>by rw[r d hd,q d hd];exact r_store n v w
 case nilck x=>exact zaI hA hs λv v' r=>s_op s λd hd=>by rw[r d hd];exact zd5 λ_ hu=>sh_nilck hu
 case bin op x y=>exact zaI hA hs.1 λv v' r=>zaI hA hs.2 λw w' q=>s_op s λd hd=>by rw[r d hd,q d hd];exact zd5 λ_ hu=>sh_bin hu
 case eq k n x y=>exact zaI hA hs.1 λv v' r=>zaI hA hs.2 λw w' q=>s_op s λd hd=>by rw[r d hd,q d hd];exact zd5 λ_ hu=>sh_eqr hu
 case un op x=>exact zaI hA hs λv v' r=>s_op s λd hd=>by rw[r d hd];exact zd5 λ_ hu=>sh_un hu
 case cint k x=>exact zaI hA hs λv v' r=>s_op s λd hd=>by rw[r d hd];exact zd5 λ_ hu=>sh_cint hu
 case tostr x=>exact zaI hA hs λv v' r=>s_op s λd hd=>by rw[r d hd];exact r_tostr v
 case tobytes ty x=>exact zaI hA hs λv v' r=>s_op s λd hd=>by rw[r d hd];exact zra ty v
 case faddr o x=>exact zaI hA hs λv v' r=>s_op s λd hd=>by rw[r d hd];exact zd5 λ_ hu=>sh_faddr hu
 case iaddr al e x y=>exact zaI hA hs.1 λv v' r=>zaI hA hs.2 λw w' q=>s_op s λd hd=>by rw[r d hd,q d hd];exact zd5 λ_ hu=>sh_iaddr hu
 case index l e n x y=>exact zaI hA hs.1 λv v' r=>zaI hA hs.2 λw w' q=>s_op s λd hd=>by rw[r d hd,q d hd];exact zd5 λ_ hu=>sh_index hu
 case sindex x y=>exact zaI hA hs.1 λv v' r=>zaI hA hs.2 λw w' q=>s_op s λd hd=>by rw[r d hd,q d hd];exact zd5 λ_ hu=>zwy hu
 case field o n x=>exact zaI hA hs λv v' r=>s_op s λd hd=>by rw[r d hd];exact zd5 λ_ hu=>sh_field hu
 case ext i x=>exact zaI hA hs λv v' r=>s_op s λd hd=>by rw[r d hd];exact zd5 λ_ hu=>sh_ext hu
 case len x=>exact zaI hA hs λv v' r=>s_op s λd hd=>by rw[r d hd];exact zd5 λ_ hu=>sh_vlen hu
 case slen x=>exact zaI hA hs λv v' r=>s_op s λd hd=>by rw[r d hd];exact zd5 λ_ hu=>sh_slen hu
 case append ty e b x y=>exact zaI hA hs.1 λv v' r=>zaI hA hs.2 λw w' q=>s_op s λd hd=>by rw[r d hd,q d hd];exact r_append ty e b v w
 case copy e x y=>exact zaI hA hs.1 λv v' r=>zaI hA hs.2 λw w' q=>s_op s λd hd=>by rw[r d hd,q d hd];exact r_copy e v w
 case op1 k x=>exact zaI hA hs λv v' r=>s_op s λd hd=>by rw[r d hd];exact zd5 λ_ hu=>sh_op1 hu
 case mknz ty x=>exact zaI hA hs λv v' r=>s_op s λd hd=>by rw[r d hd];exact r_mknz ty v
 case remark ty x=>exact zaI hA hs λv v' r=>s_op s λd hd=>by rw[r d hd];exact r_remark ty v
 case maplen x=>exact zaI hA hs λv v' r=>s_op s λd hd=>by rw[r d hd];exact r_maplen v
 case aload k x=>exact zaI hA hs λv v' r=>s_op s λd hd=>by rw[r d hd];exact r_aload k v
 case aadd k x y=>exact zaI hA hs.1 λv v' r=>zaI hA hs.2 λw w' q=>s_op s λd hd=>by rw[r d hd,q d hd];exact r_aadd k v w
 case mdrop p o x y=>exact zaI hA hs.1 λv v' r=>zaI hA hs.2 λw w' q=>s_op s λd hd=>by rw[r d hd,q d hd];exact zwT p o v w
def zwK {gd:Option (Nat×Bool)} {x y:M V} (s:St tb g h K) (hA:Rl g shF A A') (hx:S tb g h K sh x y):S tb g h K sh (guarded A gd x) (guarded A' gd y):=by
 unfold guarded;cases gd with
 | none=>exact hx
 | some p=>
  dsimp only;cases hv:Fr.get A p.1 with
  | none=>exact zcV
  | some v=>
   obtain⟨v',e,r⟩:=get_r hA hv;rw[e];have:=r g.e (Ag.self g);subst this;cases v with
   | bool b=>
    simp only[sh];by_cases hb:b=p.2
    ·rw[if_pos hb,if_pos hb];exact hx
    ·rw[if_neg hb,if_neg hb];exact zdl s λd hd=>rfl
   | tup vs=>cases vs with|nil=>exact zdl s λd hd=>rfl|cons _ _=>exact zcV
   | _=>exact zcV
def s_ao(hg:zqG tb G G')(s:St tb g h K)(hA:Rl g shF A A')(o:AO)(hs:o.still=true):S tb g h K sh (o.run G A) (o.run G' A'):=zwK s hA (s_run hg s hA o.ins hs)
def zmR{o:Option Nat}{v v':V}(hA:Rl g shF A A')(r:Rl g sh v v'):Rl g shF (A.put o v) (A'.put o v'):=λd hd=>by rw[hA d hd,r d hd,shF_put]
def zpK{J W:List Nat}{L L':List V}(hA:Rl g shF A A')(r:Rl g shL L L'):Rl g shF (A.join J W L) (A'.join J W L'):=λd hd=>by rw[hA d hd,r d hd,shF_join]
end
section
variable {tb:Tb} {G G':Sem'}
def s_ops(hg:zqG tb G G'):∀(l:List AO) (g:Sg) (h K:Heap) (A A':Fr),St tb g h K->Rl g shF A A'->l.all AO.still=true->S tb g h K shF (zeP G l A) (zeP G' l A')
 | [],g,h,K,A,A',s,hA,_=>zdl s hA
 | o::l,g,h,K,A,A',s,hA,hs=>by
  simp only[yba,yam]at hs;exact zdF s (s_ao hg s hA o hs.1) λg' h' K' v v' s' f' r=>s_ops hg l _ _ _ _ _ s' (zmR (hA.mono f'.ex) r) hs.2
def Sol(tb:Tb):V->Prop
 | .lit _=>False
 | v=>∀id,v.pid=some id->tb.R<=id
def zwz{d:Nm}{v:V}(hs:Sol tb v):(sh d v).pid=v.pid.map d.f:=by cases v<;>first|rfl|exact hs.elim
def Sol.le{v:V}(hs:Sol tb v){id:Nat}(h:v.pid=some id):tb.R<=id:=by cases v<;>first|exact hs _ h|exact hs.elim
def named{g:Sg}{v v':V}(hs:Sol tb v)(r:Rl g sh v v'){id:Nat}(h:v.pid=some id):g.nf id:=by
 apply ycF;intro hn
 let d:Nm:=⟨λi=>if i=id then g.e.f id+1 else g.e.f i,g.e.w,g.e.s⟩
 have hd:Ag g d:=⟨rfl,λi hi=>if_neg λe=>hn (by rw[<-e];exact hi),λ_ _=>rfl⟩;have h1:=(congrArg V.pid (r d hd)).symm.trans (congrArg V.pid (r g.e (Ag.self g)));rw[zwz hs,zwz hs,h]at h1;simp only[yat,yaa]at h1;have h2:d.f id=g.e.f id+1:=if_pos rfl;omega
structure Sn (tb:Tb) (g:Sg) (h1 h2 K1 K2:Heap):Prop where
 f:∀id,g.nf id->tb.R<=id->h2.get id=h1.get id->K2.get (g.e.f id)=K1.get (g.e.f id)
 c1:K1.Cl
 c2:K2.Cl
 le:K1.next<=K2.next
def Sn.step{n:Nat}{g g':Sg}{h1 h2 K1 K2:Heap}(s:Sn tb g h1 h2 K1 K2)(x:Ex n g g')(hn:K2.next<=n):Sn tb g' h1 h2 K1 K2:=by
 refine⟨λid hi hR e=>?_,s.c1,s.c2,s.le⟩;by_cases ho:g.nf id
 ·rw[(x.f id ho).2];exact s.f id ho hR e
 ·have:=x.new id hi ho;have:=s.le;rw[s.c1 _ (by omega),s.c2 _ (by omega)]
def Sn.of{g g2:Sg}{h1 h2 K1 K2:Heap}(s1:St tb g h1 K1)(s2:St tb g2 h2 K2)(fm:Frm g h1 K1 g2 h2 K2):Sn tb g2 h1 h2 K1 K2:=by
 refine⟨λid hi hR e=>?_,s1.cl,s2.cl,fm.le⟩;cases hb:h2.get id with
 | some b=>
  rw[s2.em g2.e (Ag.self g2) id b hb];rw[hb]at e;exact(s1.em g2.e ((Ag.self g2).mono fm.ex) id b e.symm).symm
 | none=>
  rw[s2.dr id hi hR hb];rw[hb]at e;by_cases ho:g.nf id
  ·rw[(fm.ex.f id ho).2,s1.dr id ho hR e.symm]
  ·exact(s1.cl _ (fm.ex.new id hi ho)).symm
def RsR(tb:Tb)(g:Sg):List (Nat×V)->List (Nat×V)->Prop
 | [],[]=>True
 | (i,a)::l,(j,b)::m=>i=j/\(Rl g sh a b/\Sol tb a)/\RsR tb g l m
 | _,_=>False
def RsR.mono{n:Nat}{g g':Sg}(x:Ex n g g'):∀{l m:List (Nat×V)},RsR tb g l m->RsR tb g' l m
 | [],[],_=>trivial
 | (i,a)::l,(j,b)::m,r=>⟨r.1,⟨r.2.1.1.mono x,r.2.1.2⟩,RsR.mono x r.2.2⟩
 | [],_ :: _,r=>r.elim
 | _ :: _,[],r=>r.elim
def JsR(tb:Tb)(g:Sg)(K:Heap):List (Nat×Heap×Heap)->List (Nat×Heap×Heap)->Prop
 | [],[]=>True
 | (i,h1,h2)::l,(j,K1,K2)::m=>i=j/\(Sn tb g h1 h2 K1 K2/\K2.next<=K.next)/\JsR tb g K l m
 | _,_=>False
def JsR.step{g g':Sg}{K K':Heap}(x:Ex K.next g g')(hK:K.next<=K'.next):∀{l m:List (Nat×Heap×Heap)},JsR tb g K l m->JsR tb g' K' l m
 | [],[],_=>trivial
 | (i,h1,h2)::l,(j,K1,K2)::m,r=>⟨r.1,⟨r.2.1.1.step x r.2.1.2,yax r.2.1.2 hK⟩,JsR.step x hK r.2.2⟩
 | [],_ :: _,r=>r.elim
 | _ :: _,[],r=>r.elim
abbrev un1:Nm->Unit->Unit:=λ_ u=>u
def s_unch{g:Sg}{h K h1 h2 K1 K2:Heap}(s:St tb g h K){a a':V}(r:Rl g sh a a')(hs:Sol tb a)(sn:Sn tb g h1 h2 K1 K2):S tb g h K un1 (M.unch a h1 h2) (M.unch a' K1 K2):=by
 intro u h' e;unfold M.unch at e ⊢;split at e
 ·rename_i hp;cases e;refine⟨g,(),K,?_,s,Frm.refl _ _ _,λ_ _=>rfl⟩;rw[if_pos];intro id hid;have e1:=r g.e (Ag.self g);subst e1;rw[zwz hs]at hid;cases hv:a.pid with
  | none=>rw[hv]at hid;cases hid
  | some j=>
   rw[hv]at hid;have hid:g.e.f j=id:=ycq hid;subst hid;exact sn.f j (named hs r hv) (hs.le hv) (hp j hv)
 ·cases e
def zss {un:List (Nat×Nat)} {j:Nat} {h1 h2 K1 K2:Heap}:∀{rs rs':List (Nat×V)} {g:Sg} {h K:Heap},St tb g h K->RsR tb g rs rs'->Sn tb g h1 h2 K1 K2->K2.next<=K.next->S tb g h K un1 (zbn un j h1 h2 rs) (zbn un j K1 K2 rs')
 | [],[],g,h,K,s,_,_,_=>zdl s λ_ _=>rfl
 | (i,a)::l,(i',b)::m,g,h,K,s,r,sn,hn=>by
  obtain⟨rfl,⟨r1,r2⟩,r3⟩:=r;unfold zbn;by_cases hc:un.contains (i,j)=true
  ·rw[if_pos hc,if_pos hc];exact zdF s (s_unch s r1 r2 sn) λg' h' K' _ _ s' f' _=>zss s' (r3.mono f'.ex) (sn.step f'.ex hn) (yax hn f'.le)
  ·rw[if_neg hc,if_neg hc];exact zss s r3 sn hn
 | [],_ :: _,_,_,_,_,r,_,_=>r.elim
 | _ :: _,[],_,_,_,_,r,_,_=>r.elim
def zwL {un:List (Nat×Nat)} {i:Nat} {a a':V}:∀{js js':List (Nat×Heap×Heap)} {g:Sg} {h K:Heap},St tb g h K->Rl g sh a a'->Sol tb a->JsR tb g K js js'->S tb g h K un1 (zbk un i a js) (zbk un i a' js')
 | [],[],g,h,K,s,_,_,_=>zdl s λ_ _=>rfl
 | (j,h1,h2)::l,(j',K1,K2)::m,g,h,K,s,r,hs,rj=>by
  obtain⟨rfl,⟨sn,hn⟩,r3⟩:=rj;unfold zbk;by_cases hc:un.contains (i,j)=true
  ·rw[if_pos hc,if_pos hc];exact zdF s (s_unch s r hs sn) λg' h' K' _ _ s' f' _=>zwL s' (r.mono f'.ex) hs (r3.step f'.ex f'.le)
  ·rw[if_neg hc,if_neg hc];exact zwL s r hs r3
 | [],_ :: _,_,_,_,_,_,_,r=>r.elim
 | _ :: _,[],_,_,_,_,_,_,r=>r.elim
def ztF{α β:Type}{f:Nm->α->β}{g:Sg}{h K:Heap}{k:Heap->M α}{k':Heap->M β} (hk:S tb g h K f (k h) (k' K)):S tb g h K f (M.getH.bind k) (M.getH.bind k'):=hk
def reads_nil(j:Nat)(h1 h2:Heap):∀rs,zbn [] j h1 h2 rs=M.pure ()
 | []=>rfl
 | (i,a)::l=>by unfold zbn;exact reads_nil j h1 h2 l
def zuE(i:Nat)(a:V):∀js,zbk [] i a js=M.pure ()
 | []=>rfl
 | (j,h1,h2)::l=>by unfold zbk;exact zuE i a l
def zoR{α β:Type}(a:α)(k:α->M β):(M.pure a).bind k=k a:=rfl
def ztA{g:Sg}{h K:Heap}{A:Fr}{o:AO}{x:Arg}(hk:o.ins.kind = .read x)(hgd:o.gd=none)(s:St tb g h K){v:V}{h':Heap} (e:o.run G A h=some (v,h')):∃a,x.ev A=some a/\Sol tb a:=by
 obtain⟨dst,gd,ins⟩:=o;cases hgd;have e:ins.run G A h=some (v,h'):=e;have hk:ins.kind = .read x:=hk;cases ins<;>simp only[I.kind]at hk<;>first|(cases hk;done)|skip
 ·cases hk;simp only[I.run,with1]at e;cases hx:x.ev A with
  | none=>rw[hx]at e;cases e
  | some a=>
   rw[hx]at e;refine⟨a,rfl,?_⟩;cases a<;>try (cases e;done)
   ·rename_i id off;obtain⟨b,hb,e⟩:=gb e;intro j hj;injection hj with hj
    subst hj;exact(s.kn _ b hb).2
   ·intro j hj;cases hj
 ·cases hk;simp only[I.run,with1]at e;cases hx:x.ev A with
  | none=>rw[hx]at e;cases e
  | some a=>
   rw[hx]at e;refine⟨a,rfl,?_⟩;obtain⟨q,hq,e⟩:=gb e;cases a<;>try (cases hq;done)
   ·intro j hj;cases hj
   ·rename_i id off len cap;obtain⟨b,hb,hq⟩:=gb hq;intro j hj;injection hj with hj
    subst hj;exact(s.kn _ b hb).2
   ·intro j hj;cases hj
 all_goals (rw[zjO]at hk;exact hk.elim)
def s_draw0(hg:zqG tb G G'):∀(l:List AO) (p:Nat) (rs rs':List (Nat×V)) (js js':List (Nat×Heap×Heap)) (g:Sg) (h K:Heap) (A A':Fr),St tb g h K->Rl g shF A A'->l.all AO.still=true->S tb g h K shF (zaP G [] p rs js l A) (zaP G' [] p rs' js' l A'):=by
 intro l
 induction l with
 | nil=>intro p rs rs' js js' g h K A A' s hA _;exact zdl s hA
 | cons o l ih=>
  intro p rs rs' js js' g h K A A' s hA hs;simp only[yba,yam]at hs;unfold zaP;have key:∀(q q':List (Nat×V)) (u u':List (Nat×Heap×Heap)),S tb g h K shF ((o.run G A).bind λv=>zaP G [] (p+1) q u l (A.put o.dst v)) ((o.run G' A').bind λv=>zaP G' [] (p+1) q' u' l (A'.put o.dst v)):=λq q' u u'=>
   zdF s (s_ao hg s hA o hs.1) λg' h' K' v v' s' f' r=>ih _ _ _ _ _ _ _ _ _ _ s' (zmR (hA.mono f'.ex) r) hs.2
  cases hkk:o.ins.kind with
  | read x=>
   dsimp only;unfold zaP.with1';simp only[zuE,zoR];cases x.ev A<;>cases x.ev A'<;>exact key _ _ _ _
  | act=>
   dsimp only;simp only[reads_nil,zoR];exact ztF (zdF s (s_ao hg s hA o hs.1) λg' h' K' v v' s' f' r=>ztF (ih _ _ _ _ _ _ _ _ _ _ s' (zmR (hA.mono f'.ex) r) hs.2))
  | pure=>exact key _ _ _ _
  | new=>exact key _ _ _ _
def Nt(A:Fr)(q:Nat)(w:Bool):Prop:=A.get q=some (.tup [])\/∃b,A.get q=some (.bool b)/\b≠w
def sol_rd{g:Sg}{h K:Heap}{A:Fr}{o:AO}{x:Arg}(hk:o.ins.kind = .read x)(s:St tb g h K){v:V}{h':Heap} (e:o.run G A h=some (v,h')):(∃a,x.ev A=some a/\Sol tb a)\/∃q w,o.gd=some (q,w)/\Nt A q w:=by
 obtain⟨dst,gd,ins⟩:=o;cases gd with
 | none=>exact .inl (ztA hk rfl s e)
 | some p=>
  obtain⟨q,w⟩:=p;have e:guarded A (some (q,w)) (ins.run G A) h=some (v,h'):=e;unfold guarded at e;dsimp only at e;cases hq:A.get q with
  | none=>rw[hq]at e;cases e
  | some a=>
   rw[hq]at e;cases a<;>first|(cases e;done)|skip
   ·rename_i b;dsimp only at e;by_cases hbw:b=w
    ·rw[if_pos hbw]at e;exact .inl (ztA (o:=⟨dst,none,ins⟩) hk rfl s e)
    ·exact .inr ⟨q,w,rfl,.inr ⟨b,hq,hbw⟩⟩
   ·rename_i l;cases l with
    | nil=>exact .inr ⟨q,w,rfl,.inl hq⟩
    | cons x l=>cases e
def Inv(tb:Tb)(A:Fr) (p:Option Nat×Option (Nat×Bool)):Prop:=∀t q w,p=(some t,some (q,w))->Nt A q w->∃a,A.get t=some a/\Sol tb a
def zp3{h h':Heap}{A:Fr}{o:AO}{v:V} (e:o.run G A h=some (v,h')):Inv tb (A.put o.dst v) (o.dst,o.gd):=by
 obtain⟨dst,gd,ins⟩:=o;rintro t q w hp hn;injection hp with h1 h2
 have h1:dst=some t:=h1;have h2:gd=some (q,w):=h2;subst h1 h2;have hg:∀k,Fr.get (A.put (some t) v) k=if t=k then some v else A.get k:=λk=>rfl
 have hn:Nt (A.put (some t) v) q w:=hn;refine⟨v,(hg t).trans (if_pos rfl),?_⟩;unfold Nt at hn;rw[hg]at hn;by_cases htq:t=q
 ·rw[if_pos htq]at hn;rcases hn with hn|⟨b,hn,_⟩<;>(injection hn with hn;subst hn;intro id hi;cases hi)
 ·rw[if_neg htq]at hn;have e:guarded A (some (q,w)) (ins.run G A) h=some (v,h'):=e;unfold guarded at e;dsimp only at e;have hv:v = .undef:=by
   rcases hn with hn|⟨b,hn,hb⟩
   ·rw[hn]at e;injection e with e;injection e with e _;exact e.symm
   ·rw[hn]at e;dsimp only at e;rw[if_neg hb]at e;injection e with e;injection e with e _;exact e.symm
  subst hv;intro id hi;cases hi
def zpH{α β γ δ:Type}{g:Sg}{h K:Heap}{f:Nm->α->β}{k:Nm->γ->δ}{x:M α}{y:M β}{u:α->M γ}{v:β->M δ}(s:St tb g h K)(hx:S tb g h K f x y) (hk:∀g' h' K' a b,x h=some (a,h')->St tb g' h' K'->Frm g h K g' h' K'->Rl g' f a b->S tb g' h' K' k (u a) (v b)):S tb g h K k (x.bind u) (y.bind v):=by
 intro c h2 e;obtain⟨a,h1,e1,e2⟩:=bind_some e;obtain⟨g1,b,K1,y1,s1,f1,r1⟩:=hx a h1 e1;obtain⟨g2,w,K2,y2,s2,f2,r2⟩:=hk g1 h1 K1 a b e1 s1 f1 r1 c h2 e2;exact⟨g2,w,K2,by rw[bind_ok y1];exact y2,s2,Frm.trans s s1 f1 f2,r2⟩
def s_draw(hg:zqG tb G G') (un:List (Nat×Nat)):∀(l:List AO) (p:Nat) (pv:Option Nat×Option (Nat×Bool)) (rs rs':List (Nat×V)) (js js':List (Nat×Heap×Heap)) (g:Sg) (h K:Heap) (A A':Fr),St tb g h K->Rl g shF A A'->Inv tb A pv->RsR tb g rs rs'->JsR tb g K js js'->l.all AO.still=true->ngL pv l=true->S tb g h K shF (zaP G un p rs js l A) (zaP G' un p rs' js' l A'):=by
 intro l
 induction l with
 | nil=>intro p pv rs rs' js js' g h K A A' s hA _ _ _ _ _;exact zdl s hA
 | cons o l ih=>
  intro p pv rs rs' js js' g h K A A' s hA hi hr hj hs hn;simp only[yba,yam]at hs;simp only[ngL,yam]at hn;unfold zaP;cases hkk:o.ins.kind with
  | read x=>
   dsimp only;have hst:x.still=true:=by
    have h1:=hs.1;unfold AO.still at h1;cases hi:o.ins<;>rw[hi]at h1 hkk<;>first|(simp only[I.kind,zjO]at hkk;done)|(simp only[I.kind]at hkk;cases hkk;done)|(simp only[I.kind]at hkk;cases hkk;exact h1)
   have sol:∀{v h1},o.run G A h=some (v,h1)->∃a,x.ev A=some a/\Sol tb a:=λ{v h1} e=>by
    rcases sol_rd hkk s e with h0|⟨q,w,hg',hnt⟩
    ·exact h0
    ·have h0:=hn.1;unfold ngR at h0;rw[hg',hkk]at h0;cases x with
     | c v=>cases h0
     | s t=>
      obtain⟨p1,p2⟩:=pv;rcases p1 with _|t'<;>rcases p2 with _|⟨q',w'⟩<;>first|(cases h0;done)|skip
      simp only[yam,beq_iff_eq]at h0;obtain⟨h1,h2,h3⟩:=h0;have h1:=yaJ h1;have h2:=yaJ h2;subst h1 h2 h3;exact hi _ _ _ rfl hnt
   unfold zaP.with1';cases hx:x.ev A with
   | none=>
    dsimp only;intro c h2 e;obtain⟨v,h1,e1,e2⟩:=bind_some e;obtain⟨a,ha,_⟩:=sol e1;rw[hx]at ha;cases ha
   | some a=>
    obtain⟨a',ea,ra⟩:=ev_r hst hA hx;rw[ea];dsimp only;by_cases hsol:Sol tb a
    ·exact zpH s (s_ao hg s hA o hs.1) λg' h' K' v v' e0 s' f' r=>
      zdF s' (zwL s' (ra.mono f'.ex) hsol (hj.step f'.ex f'.le)) λg2 h2 K2 _ _ s2 f2 _=>
       ih _ _ _ _ _ _ _ _ _ _ _ s2 (zmR ((hA.mono f'.ex).mono f2.ex) (r.mono f2.ex)) (zp3 e0) ⟨rfl,⟨(ra.mono f'.ex).mono f2.ex,hsol⟩,(hr.mono f'.ex).mono f2.ex⟩ ((hj.step f'.ex f'.le).step f2.ex f2.le) hs.2 hn.2
    ·intro c h2 e;obtain⟨v,h1,e1,e2⟩:=bind_some e;obtain⟨b,hb,hsb⟩:=sol e1;rw[hx]at hb;injection hb with hb
     subst hb;exact absurd hsb hsol
  | act=>
   dsimp only;exact ztF (zpH s (s_ao hg s hA o hs.1) λg' h' K' v v' e0 s' f' r=>ztF (
    have sn:=Sn.of s s' f'
    zdF s' (zss s' (hr.mono f'.ex) sn (yag _)) λg2 h2 K2 _ _ s2 f2 _=>
     ih _ _ _ _ _ _ _ _ _ _ _ s2 (zmR ((hA.mono f'.ex).mono f2.ex) (r.mono f2.ex)) (zp3 e0) ((hr.mono f'.ex).mono f2.ex) ⟨rfl,⟨sn.step f2.ex (yag _),f2.le⟩,(hj.step f'.ex f'.le).step f2.ex f2.le⟩ hs.2 hn.2))
  | pure=>exact zpH s (s_ao hg s hA o hs.1) λg' h' K' v v' e0 s' f' r=>ih _ _ _ _ _ _ _ _ _ _ _ s' (zmR (hA.mono f'.ex) r) (zp3 e0) (hr.mono f'.ex) (hj.step f'.ex f'.le) hs.2 hn.2
  | new=>exact zpH s (s_ao hg s hA o hs.1) λg' h' K' v v' e0 s' f' r=>ih _ _ _ _ _ _ _ _ _ _ _ s' (zmR (hA.mono f'.ex) r) (zp3 e0) (hr.mono f'.ex) (hj.step f'.ex f'.le) hs.2 hn.2
def zpB(d:Nm):Res->Res
 | .nrm L=>.nrm (shL d L)
 | .ex id L=>.ex id (shL d L)
 | .ret L=>.ret (shL d L)
def zmS{g:Sg}{r r':Res}(h:Rl g zpB r r'):(∃L L',r = .nrm L/\r' = .nrm L'/\Rl g shL L L')\/(∃i L L',r = .ex i L/\r' = .ex i L'/\Rl g shL L L')\/∃L L',r = .ret L/\r' = .ret L'/\Rl g shL L L':=by
 have h0:=h g.e (Ag.self g);cases r with
 | nrm L=>exact .inl ⟨L,_,rfl,h0,λd hd=>by have:=h0.symm.trans (h d hd);injection this⟩
 | ex i L=>exact .inr (.inl ⟨i,L,_,rfl,h0,λd hd=>by have:=h0.symm.trans (h d hd);injection this⟩)
 | ret L=>exact .inr (.inr ⟨L,_,rfl,h0,λd hd=>by have:=h0.symm.trans (h d hd);injection this⟩)
def rl_nrm{g:Sg}{L L':List V}(r:Rl g shL L L'):Rl g zpB (.nrm L) (.nrm L'):=λd hd=>by rw[r d hd];rfl
def rl_ex{g:Sg}{i:Nat}{L L':List V}(r:Rl g shL L L'):Rl g zpB (.ex i L) (.ex i L'):=λd hd=>by rw[r d hd];rfl
def zwO{g:Sg}{L L':List V}(r:Rl g shL L L'):Rl g zpB (.ret L) (.ret L'):=λd hd=>by rw[r d hd];rfl
def s_join{g:Sg}{h K:Heap}{x y:M Res}{k k':List V->M Res}(s:St tb g h K)(hx:S tb g h K zpB x y) (hk:∀g' h' K' L L',St tb g' h' K'->Frm g h K g' h' K'->Rl g' shL L L'->S tb g' h' K' zpB (k L) (k' L')):S tb g h K zpB (M.join x k) (M.join y k'):=by
 refine zdF s hx λg' h' K' r r' s' f' hr=>?_;rcases zmS hr with⟨L,L',rfl,rfl,q⟩|⟨i,L,L',rfl,rfl,q⟩|⟨L,L',rfl,rfl,q⟩
 ·exact hk _ _ _ _ _ s' f' q
 ·exact zdl s' (rl_ex q)
 ·exact zdl s' (zwO q)
def zmP:∀(rv:List RV) (g:Sg) (h K:Heap) (A A':Fr),St tb g h K->Rl g shF A A'->S tb g h K shL (results A rv) (results A' rv)
 | [],g,h,K,A,A',s,hA=>zdl s λ_ _=>rfl
 | .tmp t::rs,g,h,K,A,A',s,hA=>
  zdF s (zq3 s λa ha=>get_r hA ha) λg1 h1 K1 v v' s1 f1 r1=>
   zdF s1 (zmP rs _ _ _ _ _ s1 (hA.mono f1.ex)) λg2 h2 K2 w w' s2 f2 r2=>zdl s2 λd hd=>by rw[r2 d hd,(r1.mono f2.ex) d hd];rfl
 | .cell t n::rs,g,h,K,A,A',s,hA=>
  zdF s (zq3 s λa ha=>get_r hA ha) λg0 h0 K0 u u' s0 f0 r0=>
   zdF s0 (s_op s0 λd hd=>by rw[r0 d hd];exact zwU n u) λg1 h1 K1 v v' s1 f1 r1=>
    zdF s1 (zmP rs _ _ _ _ _ s1 ((hA.mono f0.ex).mono f1.ex)) λg2 h2 K2 w w' s2 f2 r2=>zdl s2 λd hd=>by rw[r2 d hd,(r1.mono f2.ex) d hd];rfl
def s_exec(hg:zqG tb G G')(rv:List RV):∀(c:C) (cx:List (Nat×List Nat)) (J:List Nat) (g:Sg) (h K:Heap) (A A':Fr),St tb g h K->Rl g shF A A'->c.still=true->ng c=true->S tb g h K zpB (exec G rv c cx J A) (exec G' rv c cx J A'):=by
 intro c
 induction c with
 | done=>intro cx J g h K A A' s hA _ _;exact zdF s (zq3 s λa ha=>zp9 hA ha) λg1 h1 K1 L L' s1 f1 r1=>zdl s1 (rl_nrm r1)
 | bad=>intro cx J g h K A A' s hA _ _;exact zcV
 | ops l k ih=>
  intro cx J g h K A A' s hA hs hn;simp only[C.still,yam]at hs;exact zdF s (s_ops hg l _ _ _ _ _ s hA hs.1) λg1 h1 K1 B B' s1 f1 r1=>ih _ _ _ _ _ _ _ s1 r1 hs.2 hn
 | draw l un k ih=>
  intro cx J g h K A A' s hA hs hn;simp only[C.still,yam]at hs;simp only[ng,yam,ybt]at hn;refine zdF s ?_ λg1 h1 K1 B B' s1 f1 r1=>ih _ _ _ _ _ _ _ s1 r1 hs.2 hn.2;rcases hn.1 with hu|hu
  ·have:un=[]:=List.isEmpty_iff.1 hu;subst this;exact s_draw0 hg l 0 [] [] [] [] g h K A A' s hA hs.1
  ·exact s_draw hg un l 0 (none,none) [] [] [] [] g h K A A' s hA (λt q w hp=>by cases hp) trivial trivial hs.1 hu
 | cond x a b iha ihb=>
  intro cx J g h K A A' s hA hs hn;simp only[C.still,yam]at hs;simp only[ng,yam]at hn;simp only[exec];cases hv:x.ev A with
  | none=>exact zcV
  | some c=>
   obtain⟨c',e,r⟩:=ev_r hs.1 hA hv;rw[e];exact s_ite r (iha _ _ _ _ _ _ _ s hA hs.2.1 hn.1) (ihb _ _ _ _ _ _ _ s hA hs.2.2 hn.2)
 | condJ x a b J' W k iha ihb ihk=>
  intro cx J g h K A A' s hA hs hn;simp only[C.still,yam]at hs;simp only[ng,yam]at hn;simp only[exec];cases hv:x.ev A with
  | none=>exact zcV
  | some c=>
   obtain⟨c',e,r⟩:=ev_r hs.1 hA hv;rw[e];exact s_join s (s_ite r (iha _ _ _ _ _ _ _ s hA hs.2.1 hn.1) (ihb _ _ _ _ _ _ _ s hA hs.2.2.1 hn.2.1)) λg1 h1 K1 L L' s1 f1 r1=>ihk _ _ _ _ _ _ _ s1 (zpK (hA.mono f1.ex) r1) hs.2.2.2 hn.2.2
 | blk id a J' W k iha ihk=>
  intro cx J g h K A A' s hA hs hn;simp only[C.still,yam]at hs;simp only[ng,yam]at hn;simp only[exec,M.blk];refine zdF s (iha _ _ _ _ _ _ _ s hA hs.1 hn.1) λg1 h1 K1 r r' s1 f1 hr=>?_;rcases zmS hr with⟨L,L',rfl,rfl,q⟩|⟨i,L,L',rfl,rfl,q⟩|⟨L,L',rfl,rfl,q⟩
  ·exact ihk _ _ _ _ _ _ _ s1 (zpK (hA.mono f1.ex) q) hs.2 hn.2
  ·by_cases e:i=id
   ·simp only[if_pos e];exact ihk _ _ _ _ _ _ _ s1 (zpK (hA.mono f1.ex) q) hs.2 hn.2
   ·simp only[if_neg e];exact zdl s1 (rl_ex q)
  ·exact zdl s1 (zwO q)
 | loop a K0 W iha=>
  intro cx J g h K A A' s hA hs hn
  -- what the frame is goes along with what is carried: the loop's own frame is the same in each round
  intro r0 h2 e;obtain⟨L,h1,e1,e2⟩:=bind_some e;obtain⟨g1,L',K1,y1,s1,f1,r1⟩:=zq3 (K:=K) s (λa ha=>zp9 hA ha) L h1 e1;have hA1:=hA.mono f1.ex;obtain⟨n,hn'⟩:=zfp e2;have key:∀(n:Nat) (L L':List V) (g:Sg) (h K:Heap),St tb g h K->Rl g shF A A'->Rl g shL L L'->S tb g h K zpB (iterN (λL=>exec G rv a cx K0 (A.join K0 W L)) n L) (iterN (λL=>exec G' rv a cx K0 (A'.join K0 W L)) n L'):=by
   intro n
   induction n with
   | zero=>intros;exact zcV
   | succ n ih=>intro L L' g h K s hA r;exact s_join s (iha _ _ _ _ _ _ _ s (zpK hA r) hs hn) λg' h' K' L L' s' f' q=>ih _ _ _ _ _ s' (hA.mono f'.ex) q
  obtain⟨g',b,K',e3,s3,f3,r3⟩:=key n L L' g1 h1 K1 s1 hA1 r1 r0 h2 hn';refine⟨g',b,K',?_,s3,Frm.trans s s1 f1 f3,r3⟩;show((M.lift (zbr A' K0)).bind λL=>M.iter (λL=>exec G' rv a cx K0 (A'.join K0 W L)) L) K = _;rw[bind_ok y1];exact zhd e3
 | exit id=>
  intro cx J g h K A A' s hA _ _;simp only[exec];cases zjm cx id with
  | none=>exact zcV
  | some J=>exact zdF s (zq3 s λa ha=>zp9 hA ha) λg1 h1 K1 L L' s1 f1 r1=>zdl s1 (rl_ex r1)
 | ret=>intro cx J g h K A A' s hA _ _;exact zdF s (zmP rv _ _ _ _ _ s hA) λg1 h1 K1 L L' s1 f1 r1=>zdl s1 (zwO r1)
def s_fn(hg:zqG tb G G')(f:Fn')(hs:f.body.still=true)(hn:ng f.body=true)(args args':List V)(g:Sg)(h K:Heap)(s:St tb g h K)(r:Rl g shL args args'):S tb g h K sh (f.run G args) (f.run G' args'):=by
 unfold Fn'.run;refine zdF s (s_exec hg _ _ _ _ _ _ _ _ _ s (λd hd=>by rw[r d hd,zoL]) hs hn) λg1 h1 K1 r r' s1 f1 hr=>?_;rcases zmS hr with⟨L,L',rfl,rfl,q⟩|⟨i,L,L',rfl,rfl,q⟩|⟨L,L',rfl,rfl,q⟩
 ·exact zcV
 ·exact zcV
 ·exact zdl s1 λd hd=>by rw[q d hd,zww]
end
end Go.Ax.Y
/- Ax47 -/
namespace Go.Ax
def zaF{α β:Type}{o:Option α}{f:α->Option β}{b:β}(h:o.bind f=some b):∃a,o=some a/\f a=some b:=by
 cases o with
 | none=>cases h
 | some a=>exact⟨a,rfl,h⟩
def zbo{α β:Type}{o:Option α}{f:α->β}{b:β}(h:o.map f=some b):∃a,o=some a/\f a=b:=by
 cases o with
 | none=>cases h
 | some a=>exact⟨a,rfl,by injection h⟩
def zkr{x:Value}{v:V}(h:V.ofValue x=some v):v.still=true:=by
 unfold V.ofValue at h;split at h<;>first|(injection h with h;subst h;rfl)|cases h
def zhc:∀{l:List Value} {vs:List V},V.ofCells l=some vs->V.stills vs=true
 | [],_,h=>by injection h with h;subst h;rfl
 | x::xs,_,h=>by
  obtain⟨v,h1,h⟩:=zaF h;obtain⟨vs,h2,h⟩:=zbo h;subst h;simp only[V.stills,zkr h1,zhc h2,yaH]
def zks{x:Value}{v:V}(h:V.ofConst x=some v):v.still=true:=by
 unfold V.ofConst at h;split at h
 ·obtain⟨vs,h1,h⟩:=zbo h;subst h;exact zhc h1
 ·exact zkr h
def zag{x:Operand}{a:Arg}(h:zau x=some a):a.still=true:=by
 unfold zau at h;split at h
 ·injection h with h;subst h;rfl
 ·obtain⟨v,h1,h⟩:=zbo h;subst h;exact zks h1
 ·injection h with h;subst h;rfl
 ·cases h
def zcQ:∀{l:List Operand} {vs:List Arg},zb6 l=some vs->vs.all Arg.still=true
 | [],_,h=>by injection h with h;subst h;rfl
 | x::xs,_,h=>by
  obtain⟨v,h1,h⟩:=zaF h;obtain⟨vs,h2,h⟩:=zbo h;subst h;simp only[yba,zag h1,zcQ h2,yaH]
def zhF{x:Option Operand}{a:Option Arg}(h:zhG x=some a):zjo a=true:=by
 unfold zhG at h;split at h
 ·injection h with h;subst h;rfl
 ·obtain⟨v,h1,h⟩:=zbo h;subst h;exact zag h1
def zcZ{P:Program}{t:TypeId}{z:List V}(h:zeroOf P t=some z):V.stills z=true:=by
 obtain⟨v,h1,h⟩:=zaF h;exact zhc h
def zuL{P:Program}{t:TypeId}{z:V}(h:zvOf P t=some z):z.still=true:=by
 obtain⟨v,h1,h⟩:=zaF h;exact zks h
def zhT{P:Program}{fs:Array Field}:∀{l:List (Nat×Operand)} {ps:List (Nat×Nat×Arg)},zff P fs l=some ps->(ps.all λp=>p.2.2.still)=true
 | [],_,h=>by injection h with h;subst h;rfl
 | (i,x)::xs,_,h=>by
  obtain⟨f,h1,h⟩:=zaF h;obtain⟨s,h2,h⟩:=zaF h;obtain⟨a,h3,h⟩:=zaF h;obtain⟨vs,h4,h⟩:=zbo h;subst h;simp only[yba,zag h3,zhT h4,yaH]
def zfQ{s:Nat}:∀{l:List (Nat×Operand)} {ps:List (Nat×Nat×Arg)},zfR s l=some ps->(ps.all λp=>p.2.2.still)=true
 | [],_,h=>by injection h with h;subst h;rfl
 | (i,x)::xs,_,h=>by
  obtain⟨a,h3,h⟩:=zaF h;obtain⟨vs,h4,h⟩:=zbo h;subst h;simp only[yba,zag h3,zfQ h4,yaH]
def if_s{c:Prop}[Decidable c]{α:Type}{x:Option α}{y:α} (h:(if c then x else none)=some y):x=some y:=by
 by_cases hc:c
 ·rw[if_pos hc]at h;exact h
 ·rw[if_neg hc]at h;cases h
def zoE{P:Program}{e:TypeId}{i:TypeInfo}{u:TypeId}{x y:Operand}{o:I}(h:zmy P e i u x y=some o):o.still=true:=by
 unfold zmy at h;split at h
 ·obtain⟨z,h1,h⟩:=zaF h;obtain⟨a,h3,h⟩:=zaF (if_s h);obtain⟨b,h4,h⟩:=zbo h;subst h;simp only[I.still,zcZ h1,zag h3,zag h4,yaH]
 ·cases h
def zlC{P:Program}{b:Builtin}{es:List Operand}{ts:List TypeId}{o:I}(h:zhJ P b es ts=some o):o.still=true:=by
 unfold zhJ at h;split at h
 ·split at h
  ·obtain⟨a,h3,h⟩:=zbo h;subst h;exact zag h3
  ·obtain⟨a,h3,h⟩:=zbo h;subst h;exact zag h3
  ·injection h with h;subst h;rfl
  ·obtain⟨a,h3,h⟩:=zbo h;subst h;exact zag h3
  ·cases h
 ·obtain⟨e,h1,h⟩:=zaF h;obtain⟨i,h2,h⟩:=zaF h;obtain⟨z,h5,h⟩:=zaF h;split at h
  ·obtain⟨a,h3,h⟩:=zaF h;obtain⟨b,h4,h⟩:=zbo h;subst h;simp only[I.still,zag h3,zag h4,yaH]
  ·exact zoE h
 ·obtain⟨e,h1,h⟩:=zaF h;obtain⟨i,h2,h⟩:=zaF h;obtain⟨a,h3,h⟩:=zaF h;obtain⟨b,h4,h⟩:=zbo h;subst h;simp only[I.still,zag h3,zag h4,yaH]
 ·obtain⟨e,h1,h⟩:=zaF h;obtain⟨z,h2,h⟩:=zaF h;obtain⟨a,h3,h⟩:=zbo (if_s h);subst h;simp only[I.still,zcZ h2,zag h3,yaH]
 ·obtain⟨a,h3,h⟩:=zaF h;obtain⟨b,h4,h⟩:=zbo h;subst h;simp only[I.still,zag h3,zcQ h4,yaH]
 ·obtain⟨a,h3,h⟩:=zaF h;obtain⟨b,h4,h⟩:=zbo h;subst h;simp only[I.still,zag h3,zcQ h4,yaH]
 ·cases h
def zl2{P:Program}{n:Bool}{t:TypeId}{x y:Arg}{o:I}(hx:x.still=true)(hy:y.still=true)(h:zph P n t x y=some o):o.still=true:=by
 have key:(x.still&&y.still)=true:=by rw[hx,hy];rfl
 unfold zph at h;split at h
 ·injection h with h;subst h;exact key
 ·injection h with h;subst h;exact key
 ·injection h with h;subst h;exact key
 ·split at h
  ·have h:=if_s h;injection h with h;subst h;exact key
  ·cases h
 ·split at h
  ·injection h with h;subst h;exact key
  ·obtain⟨a,h3,h⟩:=zbo h;subst h;exact key
 ·cases h
def zqu{P:Program}{op:BinOp}{t:TypeId}{x y:Arg}{o:I}(hx:x.still=true)(hy:y.still=true)(h:znR P op t x y=some o):o.still=true:=by
 have key:(x.still&&y.still)=true:=by rw[hx,hy];rfl
 unfold znR at h;split at h
 ·injection h with h;subst h;exact key
 ·injection h with h;subst h;exact key
 ·injection h with h;subst h;exact key
 ·split at h
  ·exact zl2 hx hy h
  ·exact zl2 hx hy h
  ·cases h
 ·cases h
def zqt{k:Xk}{es:List Arg}{o:I}(ha:es.all Arg.still=true)(h:ziU k es=some o):o.still=true:=by
 unfold ziU at h;split at h<;>first
  | cases h;done
  | (injection h with h;subst h;simp only[yba,List.all_nil,yaH]at ha;exact ha)
def zoD{P:Program}{f:FuncId}{es:List Arg}{o:I}(ha:es.all Arg.still=true)(h:zmx P f es=some o):o.still=true:=by
 unfold zmx at h;split at h
 ·split at h
  ·obtain⟨k,h1,h⟩:=zaF (if_s h);exact zqt ha h
  ·injection h with h;subst h;exact ha
 ·cases h
def zl1{P:Program}{o:Op}{i:I}(h:zpg P o=some i):i.still=true:=by
 unfold zpg at h;split at h
 case h_1=>obtain⟨a,h3,h⟩:=zbo h;subst h;exact zag h3
 case h_2=>obtain⟨a,h3,h⟩:=zbo h;subst h;exact zag h3
 case h_3=>
  obtain⟨a,h1,h⟩:=zaF h;obtain⟨b,h2,h⟩:=zaF h;obtain⟨c,h3,h⟩:=zbo h;subst h;simp only[I.still,zag h1,zag h2,zag h3,yaH]
 case h_4=>obtain⟨a,h3,h⟩:=zbo h;subst h;exact zcZ h3
 case h_5=>obtain⟨a,h3,h⟩:=zbo h;subst h;exact zag h3
 case h_6=>
  obtain⟨z,h1,h⟩:=zaF h;split at h
  ·obtain⟨a,h3,h⟩:=zbo (if_s h);subst h;simp only[I.still,zcZ h1,zhT h3,yaH]
  ·obtain⟨s,h2,h⟩:=zaF h;obtain⟨a,h3,h⟩:=zbo h;subst h;simp only[I.still,zcZ h1,zfQ h3,yaH]
  ·cases h
 case h_7=>
  obtain⟨e,h1,h⟩:=zaF h;obtain⟨s,h2,h⟩:=zaF h;obtain⟨z,h4,h⟩:=zaF h;obtain⟨a,h3,h⟩:=zbo (if_s h);subst h;simp only[I.still,zcZ h4,zfQ h3,yaH]
 case h_8=>
  obtain⟨n,h1,h⟩:=zaF h;obtain⟨a,h3,h⟩:=zbo h;subst h;exact zag h3
 case h_9=>
  obtain⟨n,h1,h⟩:=zaF h;obtain⟨b,h2,h⟩:=zaF h;obtain⟨a,h3,h⟩:=zbo h;subst h;simp only[I.still,zag h2,zag h3,yaH]
 case h_10=>obtain⟨a,h3,h⟩:=zbo h;subst h;exact zag h3
 case h_11=>
  obtain⟨a,h1,h⟩:=zaF h;obtain⟨b,h2,h⟩:=zaF h;exact zqu (zag h1) (zag h2) h
 case h_12=>obtain⟨a,h3,h⟩:=zbo h;subst h;exact zag h3
 case h_13=>
  split at h
  ·obtain⟨a,h3,h⟩:=zbo h;subst h;exact zag h3
  ·obtain⟨a,h3,h⟩:=zbo h;subst h;exact zag h3
  ·split at h
   ·obtain⟨a,h3,h⟩:=zbo h;subst h;exact zag h3
   ·cases h
  ·split at h
   ·obtain⟨a,h3,h⟩:=zbo h;subst h;exact zag h3
   ·cases h
  ·split at h
   ·split at h
    ·obtain⟨a,h3,h⟩:=zbo h;subst h;exact zag h3
    ·obtain⟨a,h3,h⟩:=zbo h;subst h;exact zag h3
   ·cases h
  ·cases h
 case h_14=>
  split at h
  ·obtain⟨f,h1,h⟩:=zaF h;obtain⟨n,h2,h⟩:=zaF h;obtain⟨a,h3,h⟩:=zbo (if_s h);subst h;exact zag h3
  ·cases h
 case h_15=>
  split at h
  ·obtain⟨n,h2,h⟩:=zaF h;obtain⟨a,h1,h⟩:=zaF h;obtain⟨b,h3,h⟩:=zbo h;subst h;simp only[I.still,zag h1,zag h3,yaH]
  ·obtain⟨n,h2,h⟩:=zaF h;obtain⟨a,h1,h⟩:=zaF h;obtain⟨b,h3,h⟩:=zbo h;subst h;simp only[I.still,zag h1,zag h3,yaH]
  ·cases h
 case h_16=>
  split at h
  ·obtain⟨n,h2,h⟩:=zaF h;obtain⟨l,h4,h⟩:=zaF h;obtain⟨a,h1,h⟩:=zaF h;obtain⟨b,h3,h⟩:=zbo h;subst h;simp only[I.still,zag h1,zag h3,yaH]
  ·obtain⟨a,h1,h⟩:=zaF h;obtain⟨b,h3,h⟩:=zbo h;subst h;simp only[I.still,zag h1,zag h3,yaH]
  ·cases h
 case h_17=>
  split at h
  ·obtain⟨f,h1,h⟩:=zaF h;obtain⟨n,h2,h⟩:=zaF h;obtain⟨a,h3,h⟩:=zbo h;subst h;exact zag h3
  ·cases h
 case h_18=>obtain⟨a,h3,h⟩:=zbo h;subst h;exact zag h3
 case h_19=>
  split at h
  ·obtain⟨a,h3,h⟩:=zbo h;subst h;exact zag h3
  ·cases h
 case h_20=>
  obtain⟨a,h1,h⟩:=zaF h;obtain⟨b,h2,h⟩:=zaF h;obtain⟨c,h3,h⟩:=zaF h;obtain⟨d,h4,h⟩:=zaF h;have e1:=zag h1;have e2:=zhF h2;have e3:=zhF h3;have e4:=zhF h4;have key:(a.still&&(zjo b&&(zjo c&&zjo d)))=true:=by rw[e1,e2,e3,e4];rfl
  split at h
  ·obtain⟨s,h5,h⟩:=zaF h;split at h
   ·have h:=if_s h;injection h with h;subst h
    simp only[zjo]at e2 e3;simp only[I.still,e1,e2,e3,yaH]
   ·injection h with h;subst h;exact key
  ·obtain⟨s,h5,h⟩:=zbo h;subst h;exact key
  ·injection h with h;subst h;exact key
  ·cases h
 case h_21=>
  obtain⟨e,h1,h⟩:=zaF h;obtain⟨i,h2,h⟩:=zaF h;obtain⟨z,h5,h⟩:=zaF h;obtain⟨a,h3,h⟩:=zaF (if_s h);obtain⟨b,h4,h⟩:=zbo h;subst h;simp only[I.still,zcZ h5,zag h3,zag h4,yaH]
 case h_22=>
  obtain⟨a,h3,h⟩:=zbo (if_s h);subst h;exact zcQ h3
 case h_23=>
  split at h
  ·injection h with h;subst h;rfl
  ·cases h
 case h_24=>
  obtain⟨q,h1,h⟩:=zaF h;obtain⟨z,h2,h⟩:=zaF h;obtain⟨a,h3,h⟩:=zaF h;obtain⟨b,h4,h⟩:=zbo h;subst h;simp only[I.still,zuL h2,zag h3,zag h4,yaH]
 case h_25=>
  obtain⟨q,h1,h⟩:=zaF h;obtain⟨a,h2,h⟩:=zaF h;obtain⟨b,h3,h⟩:=zaF h;obtain⟨c,h4,h⟩:=zbo h;subst h;simp only[I.still,zag h2,zag h3,zag h4,yaH]
 case h_26=>
  obtain⟨q,h1,h⟩:=zaF h;obtain⟨a,h2,h⟩:=zaF h;obtain⟨b,h3,h⟩:=zaF h;obtain⟨c,h4,h⟩:=zbo h;subst h;simp only[I.still,zag h2,zag h3,zag h4,yaH]
 case h_27=>
  obtain⟨a,h2,h⟩:=zaF h;exact zoD (zcQ h2) h
 case h_28=>
  obtain⟨a,h2,h⟩:=zaF h;obtain⟨b,h3,h⟩:=zbo h;subst h;simp only[I.still,zag h2,zcQ h3,yaH]
 case h_29=>exact zlC h
 case h_30=>cases h
def zl4{P:Program}{ops:Array Oper}{o:Oper}{a:AO}(h:zjC P ops o=some a):a.still=true:=by
 obtain⟨i,h1,h⟩:=zaF h;split at h
 ·injection h with h;subst h;exact zl1 h1
 ·obtain⟨s,h2,h⟩:=zbo h;subst h;exact zl1 h1
def zk1{P:Program}{ops:Array Oper}:∀{l:List Oper} {es:List AO},zhH P ops l=some es->es.all AO.still=true
 | [],_,h=>by injection h with h;subst h;rfl
 | x::xs,_,h=>by
  obtain⟨a,h3,h⟩:=zaF h;obtain⟨vs,h4,h⟩:=zbo h;subst h;simp only[yba,zl4 h3,zk1 h4,yaH]
def zk2{P:Program}{ops:Array Oper}:∀{l:List Nat} {es:List (Nat×AO)},zj9 P ops l=some es->(es.map (·.2)).all AO.still=true
 | [],_,h=>by injection h with h;subst h;rfl
 | x::xs,_,h=>by
  obtain⟨o,h1,h⟩:=zaF h;obtain⟨a,h3,h⟩:=zaF h;obtain⟨vs,h4,h⟩:=zbo h;subst h;simp only[yaR,yba,zl4 h3,zk2 h4,yaH]
def zoC{P:Program}{ops:Array Oper}{ord:List Nat} {r:List AO×List (Nat×Nat)} (h:zhI P ops ord=some r):r.1.all AO.still=true:=by
 unfold zhI at h;obtain⟨l,h1,h⟩:=zaF h;have h:=if_s h;injection h with h;subst h
 exact zk2 h1
def zvM{P:Program}:∀{c:Code} {k:C} {h:List (List Nat)} {r:C×List (List Nat)},k.still=true->comp P c k h=some r->r.1.still=true:=by
 intro c
 induction c with
 | skip=>intro k h r hk e;injection e with e;subst e;exact hk
 | region _ ops d=>
  intro k h r hk e;unfold comp at e;split at e
  ·injection e with e;subst e;rfl
  ·split at e
   ·obtain⟨l,h1,e⟩:=zbo e;subst e;simp only[C.still,zk1 h1,hk,yaH]
   ·split at e
    ·obtain⟨l,h1,e⟩:=zbo (if_s e);subst e;simp only[C.still,zoC h1,hk,yaH]
    ·cases e
 | seq a b iha ihb=>
  intro k h r hk e;unfold comp at e;obtain⟨s,h1,e⟩:=zaF e;exact iha (ihb hk h1) e
 | cond x a b iha ihb=>
  intro k h r hk e;unfold comp at e;obtain⟨x',hx,e⟩:=zaF e;split at e
  ·obtain⟨s,h1,e⟩:=zaF e;obtain⟨t,h2,e⟩:=zbo e;subst e;have e1:=iha rfl h1;have e2:=ihb hk h2;simp only[C.still,zag hx,e1,e2,yaH]
  ·split at e
   ·obtain⟨s,h1,e⟩:=zaF e;obtain⟨t,h2,e⟩:=zbo e;subst e;have e1:=iha hk h1;have e2:=ihb rfl h2;simp only[C.still,zag hx,e1,e2,yaH]
   ·split at e
    ·obtain⟨s,h1,e⟩:=zaF e;obtain⟨t,h2,e⟩:=zbo e;subst e;have e1:=iha rfl h1;have e2:=ihb rfl h2;simp only[C.still,zag hx,e1,e2,hk,yaH]
    ·cases e
 | block id a iha=>
  intro k h r hk e;unfold comp at e;split at e
  ·obtain⟨s,h1,e⟩:=zbo e;subst e;have e1:=iha rfl h1;simp only[C.still,e1,hk,yaH]
  ·cases e
 | loop a iha=>
  intro k h r hk e;unfold comp at e;split at e
  ·obtain⟨s,h1,e⟩:=zbo e;subst e;have e1:=iha (k:=.done) rfl h1;exact e1
  ·cases e
 | exit id=>intro k h r hk e;injection e with e;subst e;rfl
 | ret=>intro k h r hk e;injection e with e;subst e;rfl
 | _=>intros;rename_i e;cases e
def zr1{P:Program}{fn:Func} {h:List (List Nat)} {ir:Fn'} (e:znQ P fn h=some ir):ir.body.still=true:=by
 unfold znQ at e;obtain⟨b,h1,e⟩:=zaF e;obtain⟨r,h2,e⟩:=zaF e;obtain⟨rv,h3,e⟩:=zaF e;have e:=if_s e;injection e with e;subst e
 exact zvM (k:=.ret) rfl h2
def zqr{P:Program}{fn:Func} {h:List (List Nat)} {ir:Fn'} (e:zqs P fn h=some ir):ir.body.still=true:=by
 unfold zqs at e;split at e
 ·injection e with e;subst e;rfl
 ·split at e
  ·injection e with e;subst e;rfl
  ·exact zr1 e
def zlF{P:Program} {h:FuncId->List (List Nat)} {f:FuncId} {ir:Fn'} (e:zoJ P h f=some ir):ir.body.still=true:=by
 obtain⟨fn,h1,e⟩:=zaF e;exact zqr e
end Go.Ax
/- Ax54 -/
namespace Go.Ax.Y
def news:Heap->List (Option Blk)->Heap
 | h,[]=>h
 | h,some b::l=>news (h.new b) l
 | h,none::l=>news ⟨h.get,h.next+1⟩ l
abbrev Orc:Type:=FuncId->List V->Heap->Option (V×List (Option Blk))
def zyl(T:FuncId->Option Fn')(sel:FuncId->List V->Bool)(O:Orc):Nat->Sem'
 | 0=>λ_ _=>M.fail
 | n+1=>λf args=>if sel f args=true then (λh=>(O f args h).map λr=>(r.1,news h r.2)) else
  match T f with
  | some ir=>if args.length<=ir.ntmps/\ng ir.body=true then ir.run (zyl T sel O n) args else M.fail
  | none=>M.fail
def OrS(tb:Tb)(T:FuncId->Option Fn')(sel:FuncId->List V->Bool)(O:Orc):Prop:=
 ∀f args args' g h K v nb,sel f args=true->O f args h=some (v,nb)->St tb g h K->Rl g shL args args' ->
  ∃g' b K',sem T f args' K=some (b,K')/\St tb g' (news h nb) K'/\Frm g h K g' (news h nb) K'/\Rl g' sh v b
def s_deep{tb:Tb}{T:FuncId->Option Fn'}{sel:FuncId->List V->Bool}{O:Orc}(hT:∀f ir,T f=some ir->ir.body.still=true)(hO:OrS tb T sel O):∀n,zqG tb (zyl T sel O n) (sem T)
 | 0=>λf args args' g h K s r=>zcV
 | n+1=>λf args args' g h K s r=>by
  unfold zyl;by_cases hs:sel f args=true
  ·rw[if_pos hs];intro a h' e;obtain⟨⟨v,nb⟩,e1,e2⟩:=gm e;cases e2;exact hO f args args' g h K v nb hs e1 s r
  ·rw[if_neg hs];cases hf:T f with
   | none=>exact zcV
   | some ir=>
    dsimp only;by_cases hc:args.length<=ir.ntmps/\ng ir.body=true
    ·rw[if_pos hc];intro a h' e;obtain⟨g',b,K',e1,s1,f1,r1⟩:=s_fn (s_deep hT hO n) ir (hT f ir hf) hc.2 args args' g h K s r a h' e;refine⟨g',b,K',zqZ hf ?_ e1,s1,f1,r1⟩;rw[r g.e (Ag.self g),shL_len];exact hc.1
    ·rw[if_neg hc];exact zcV
/-! The same,to compute with. -/
def zxz:Cc.Heap->List (Option Blk)->Cc.Heap
 | h,[]=>h
 | h,some b::l=>zxz (h.new b) l
 | h,none::l=>zxz ⟨h.t,h.next+1⟩ l
def zn1:∀(l:List (Option Blk)) (h:Cc.Heap),(zxz h l).abs=news h.abs l
 | [],h=>rfl
 | some b::l,h=>by show(zxz (h.new b) l).abs=news (h.abs.new b) l;rw[zn1 l,Cc.abs_new]
 | none::l,h=>zn1 l ⟨h.t,h.next+1⟩
def cdo(T:FuncId->Option Fn')(sel:FuncId->List V->Bool)(O:Orc):Nat->Cc.Sem'
 | 0=>λ_ _=>Cc.M.fail
 | n+1=>λf args=>match sel f args with
  | true=>λh=>match O f args h.abs with|some r=>some (r.1,zxz h r.2)|none=>none
  | false=>match T f with
   | some ir=>match Nat.ble args.length ir.ntmps&&ng ir.body with
    | true=>Cc.fin (Cc.execK (cdo T sel O n) ir.rv ir.body [] [] (params 0 args))
    | false=>Cc.M.fail
   | none=>Cc.M.fail
def ztB{T:FuncId->Option Fn'}{sel:FuncId->List V->Bool}{O:Orc}:∀n,Cc.Sims (cdo T sel O n) (zyl T sel O n)
 | 0=>λ_ _=>Cc.sim_fail
 | n+1=>λf args=>by
  unfold cdo zyl;cases hs:sel f args with
  | true=>
   rw[if_pos rfl];intro c v c' e;dsimp only at e ⊢;cases hO:O f args c.abs with
   | none=>rw[hO]at e;cases e
   | some r=>
    rw[hO]at e;cases e;rw[yat,zn1]
  | false=>
   rw[if_neg (by decide)];cases hf:T f with
   | none=>exact Cc.sim_fail
   | some ir=>
    dsimp only;cases hc:Nat.ble args.length ir.ntmps&&ng ir.body with
    | false=>exact Cc.sim_fail
    | true=>
     rw[yam]at hc;rw[if_pos ⟨yau hc.1,hc.2⟩,ztH];exact Cc.sim_fin (Cc.sim_exec (ztB n) _ _ _ _ _)
def run_ok{tb:Tb}{T:FuncId->Option Fn'}{sel:FuncId->List V->Bool}{O:Orc}(hT:∀f ir,T f=some ir->ir.body.still=true)(hO:OrS tb T sel O){m:Nat}{f:FuncId}{args args':List V}{c:Cc.Heap}{v:V}{c':Cc.Heap} (h:cdo T sel O m f args c=some (v,c')) {g:Sg} {K:Heap} (s:St tb g c.abs K) (r:Rl g shL args args') :
  ∃g' b K',sem T f args' K=some (b,K')/\St tb g' c'.abs K'/\Frm g c.abs K g' c'.abs K'/\Rl g' sh v b:=
 s_deep hT hO m f args args' g c.abs K s r v c'.abs (ztB m f args c v c' h)
end Go.Ax.Y
/- Ax55 -/
namespace Go.Ax.Y
variable {tb:Tb} {g:Sg} {h K K':Heap}
def fr_dum(gr:Grow K K'):Frm g h K g ⟨h.get,h.next+1⟩ K':=
 ⟨Ex.refl _ _,gr.next,ybT _,λi hi _=>gr.same i hi,λj b hj=>.inl ⟨b,hj⟩⟩
def St.dum(s:St tb g h K)(gr:Grow K K')(hc:K'.Cl):St tb g (news h [none]) K':=by
 have fm:=fr_dum (g:=g) (h:=h) gr;refine⟨s.s,s.kn,λi hi=>ybD (s.nb i hi),s.nwb,ydd s.lo,s.inj,λi hi=>yai (s.lt i hi) gr.next,λd hd i b hi=>?_,λi hi hR hn=>?_,hc,s.seq,λi hR hi e=>?_,s.mono,λm hm hf=>?_,λm hw=>?_⟩
 ·rw[gr.same _ (by rw[hd.2.1 i (s.kn i b hi).1];exact s.lt i (s.kn i b hi).1)];exact s.em d hd i b hi
 ·rw[gr.same _ (s.lt i hi)];exact s.dr i hi hR hn
 ·have:=s.nb i hi;have e:i+1=h.next+1:=e;omega
 ·obtain⟨h1,lo,Hc,h2,h3,h4⟩:=s.mf m hm hf;exact⟨ybD h1,lo,Hc,h2,h3.step s fm,h4⟩
 ·obtain⟨h1,lo,Hc,h2,h3⟩:=s.mw m hw;exact⟨ybD h1,lo,Hc,h2,h3.step s fm⟩
def St.blk(s:St tb g h K)(gr:Grow K K')(hc:K'.Cl){id:Nat}(h1:K.next<=id)(h2:id<K'.next){b:Blk} (hb:∀d,Ag g d->K'.get id=some (shB d b)) :
  ∃g',St tb g' (news h [none,some b,none]) K'/\Frm g h K g' (news h [none,some b,none]) K'/\g'.nf (h.next+1)/\g'.e.f (h.next+1)=id:=by
 let e2:Nm:=⟨λi=>if i=h.next+1 then id else g.e.f i,g.e.w,g.e.s⟩
 let g':Sg:=⟨e2,λi=>g.nf i\/i=h.next+1,g.nw⟩
 have fn:e2.f (h.next+1)=id:=if_pos rfl;have f2:∀i,g.nf i->e2.f i=g.e.f i:=λi hi=>if_neg (by have:=s.nb i hi;omega);have hget:∀j,(news h [none,some b,none]).get j=if j=h.next+1 then some b else h.get j:=λj=>rfl
 have hnx:(news h [none,some b,none]).next=h.next+1+1+1:=rfl;have kn':∀j c,(news h [none,some b,none]).get j=some c->(j=h.next+1/\c=b)\/(j≠h.next+1/\h.get j=some c):=λj c hj=>by
  rw[hget]at hj;by_cases e:j=h.next+1
  ·rw[if_pos e]at hj;injection hj with hj;exact .inl ⟨e,hj.symm⟩
  ·rw[if_neg e]at hj;exact .inr ⟨e,hj⟩
 have ex:Ex K.next g g':=⟨rfl,λi hi=>⟨.inl hi,f2 i hi⟩,λi hi=>⟨hi,rfl⟩,λi hi hn=>by
  rcases hi with hi|rfl
  ·exact absurd hi hn
  ·show K.next<=e2.f (h.next+1);rw[fn];exact h1⟩
 have fm:Frm g h K g' (news h [none,some b,none]) K':=⟨ex,gr.next,by rw[hnx];omega,λi hi _=>gr.same i hi,λj c hj=>by
  rcases kn' j c hj with⟨rfl,_⟩|⟨_,hj⟩
  ·refine .inr ?_;show K.next<=e2.f (h.next+1);rw[fn];exact h1
  ·exact .inl ⟨c,hj⟩⟩
 have lt':∀i,g.nf i->g.e.f i<K.next:=s.lt;refine⟨g',⟨s.s,λi c hi=>?_,λi hi=>?_,s.nwb,by rw[hnx];have:=s.lo;omega,λi j hi hj eq=>?_,λi hi=>?_,λd hd i c hi=>?_,λi hi hR hn=>?_,hc,λi hR hi hj=>?_,λi hR hi e=>?_,λi j hR hl hi hj=>?_,λm hm hf=>?_,λm hw=>?_⟩,fm,.inr rfl,fn⟩
 ·rcases kn' i c hi with⟨rfl,_⟩|⟨_,hi⟩
  ·exact⟨.inr rfl,by have:=s.lo;omega⟩
  ·exact⟨.inl (s.kn i c hi).1,(s.kn i c hi).2⟩
 ·rw[hnx];rcases hi with hi|rfl
  ·have:=s.nb i hi;omega
  ·omega
 ·have eq:e2.f i=e2.f j:=eq;rcases hi with hi|rfl<;>rcases hj with hj|rfl
  ·rw[f2 i hi,f2 j hj]at eq;exact s.inj i j hi hj eq
  ·rw[f2 i hi,fn]at eq;have:=lt' i hi;omega
  ·rw[f2 j hj,fn]at eq;have:=lt' j hj;omega
  ·rfl
 ·show e2.f i<K'.next;rcases hi with hi|rfl
  ·rw[f2 i hi];exact yai (lt' i hi) gr.next
  ·rw[fn];exact h2
 ·have hd0:=hd.mono ex;rcases kn' i c hi with⟨rfl,rfl⟩|⟨_,hi⟩
  ·have:d.f (h.next+1)=id:=(hd.2.1 (h.next+1) (.inr rfl)).trans fn;rw[this];exact hb d hd0
  ·rw[gr.same _ (by rw[hd0.2.1 i (s.kn i c hi).1];exact lt' i (s.kn i c hi).1)];exact s.em d hd0 i c hi
 ·show K'.get (e2.f i)=none;rcases hi with hi|rfl
  ·rw[f2 i hi,gr.same _ (lt' i hi)];refine s.dr i hi hR ?_;rw[hget,if_neg (by have:=s.nb i hi;omega)]at hn;exact hn
  ·rw[hget,if_pos rfl]at hn;cases hn
 ·show e2.f (i+1)=e2.f i+1;rcases hi with hi|rfl
  ·rcases hj with hj|hj
   ·rw[f2 i hi,f2 _ hj];exact s.seq i hR hi hj
   ·have:=s.nb i hi;omega
  ·rcases hj with hj|hj
   ·have:=s.nb _ hj;omega
   ·omega
 ·rw[hnx]at e;rcases hi with hi|rfl
  ·have:=s.nb i hi;omega
  ·omega
 ·show e2.f i<e2.f j;rcases hi with hi|rfl
  ·rw[f2 i hi];rcases hj with hj|rfl
   ·rw[f2 j hj];exact s.mono i j hR hl hi hj
   ·rw[fn];have:=lt' i hi;omega
  ·rcases hj with hj|rfl
   ·have:=s.nb j hj;omega
   ·omega
 ·rcases hf with hf|rfl
  ·obtain⟨q1,lo,Hc,q2,q3,q4⟩:=s.mf m hm hf;refine⟨by rw[hnx];omega,lo,Hc,by show tb.Pf m lo Hc (e2.f m);rw[f2 m hf];exact q2,q3.step s fm,λi hR hl hi=>?_⟩;show e2.f i<lo;rcases hi with hi|rfl
   ·rw[f2 i hi];exact q4 i hR hl hi
   ·omega
  ·have:=s.lo;omega
 ·obtain⟨q1,lo,Hc,q2,q3⟩:=s.mw m hw;exact⟨by rw[hnx];omega,lo,Hc,q2,q3.step s fm⟩
def St.key(s:St tb g h K)(gr:Grow K K')(hc:K'.Cl){id m:Nat}(hm:m<tb.R)(ht:tb.t m=h.next)(h1:K.next<=id)(h2:id<K'.next)(hP:tb.Pf m K.next K' id) :
  ∃g',St tb g' (news h [none]) K'/\Frm g h K g' (news h [none]) K'/\g'.nf m/\g'.e.f m=id:=by
 have hnm:¬g.nf m:=λhf=>by have:=(s.mf m hm hf).1;omega
 let e2:Nm:=⟨λi=>if i=m then id else g.e.f i,g.e.w,g.e.s⟩
 let g':Sg:=⟨e2,λi=>g.nf i\/i=m,g.nw⟩
 have fn:e2.f m=id:=if_pos rfl;have f2:∀i,g.nf i->e2.f i=g.e.f i:=λi hi=>if_neg (by rintro rfl;exact hnm hi);have nR:∀i,tb.R<=i->i≠m:=λi hi=>by omega
 have nf':∀i,tb.R<=i->g'.nf i->g.nf i:=λi hR hi=>hi.resolve_right (nR i hR);have ex:Ex K.next g g':=⟨rfl,λi hi=>⟨.inl hi,f2 i hi⟩,λi hi=>⟨hi,rfl⟩,λi hi hn=>by
  rcases hi with hi|rfl
  ·exact absurd hi hn
  ·show K.next<=e2.f i;rw[fn];exact h1⟩
 have fm:Frm g h K g' (news h [none]) K':=⟨ex,gr.next,ybT _,λi hi _=>gr.same i hi,λj c hj=>.inl ⟨c,hj⟩⟩;have lt':∀i,g.nf i->g.e.f i<K.next:=s.lt;refine⟨g',⟨s.s,λi c hi=>⟨.inl (s.kn i c hi).1,(s.kn i c hi).2⟩,λi hi=>?_,s.nwb,ydd s.lo,λi j hi hj eq=>?_,λi hi=>?_,λd hd i c hi=>?_,λi hi hR hn=>?_,hc,λi hB hi hj=>?_,λi hB hi e=>?_,λi j hB hl hi hj=>?_,λn hn hf=>?_,λn hw=>?_⟩,fm,.inr rfl,fn⟩
 ·show i<h.next+1;rcases hi with hi|rfl
  ·have:=s.nb i hi;omega
  ·have:=s.lo;omega
 ·have eq:e2.f i=e2.f j:=eq;rcases hi with hi|rfl<;>rcases hj with hj|rfl
  ·rw[f2 i hi,f2 j hj]at eq;exact s.inj i j hi hj eq
  ·rw[f2 i hi,fn]at eq;have:=lt' i hi;omega
  ·rw[f2 j hj,fn]at eq;have:=lt' j hj;omega
  ·rfl
 ·show e2.f i<K'.next;rcases hi with hi|rfl
  ·rw[f2 i hi];exact yai (lt' i hi) gr.next
  ·rw[fn];exact h2
 ·have hd0:=hd.mono ex;rw[gr.same _ (by rw[hd0.2.1 i (s.kn i c hi).1];exact lt' i (s.kn i c hi).1)];exact s.em d hd0 i c hi
 ·show K'.get (e2.f i)=none;have hi:=nf' i hR hi;rw[f2 i hi,gr.same _ (lt' i hi)];exact s.dr i hi hR hn
 ·show e2.f (i+1)=e2.f i+1;have hR:=yax tb.rb hB;have hi:=nf' i hR hi;have hj:=nf' (i+1) (by omega) hj;rw[f2 i hi,f2 _ hj];exact s.seq i hB hi hj
 ·have:=s.nb i (nf' i (yax tb.rb hB) hi);have e:i+1=h.next+1:=e;omega
 ·show e2.f i<e2.f j;have hR:=yax tb.rb hB;have hi:=nf' i hR hi;have hj:=nf' j (by omega) hj;rw[f2 i hi,f2 j hj];exact s.mono i j hB hl hi hj
 ·rcases hf with hf|rfl
  ·obtain⟨q1,lo,Hc,q2,q3,q4⟩:=s.mf n hn hf;refine⟨ybD q1,lo,Hc,by show tb.Pf n lo Hc (e2.f n);rw[f2 n hf];exact q2,q3.step s fm,λi hR hl hi=>?_⟩;show e2.f i<lo;have hi:=nf' i hR hi;rw[f2 i hi];exact q4 i hR hl hi
  ·refine⟨by rw[ht];exact yaY _,K.next,K',by show tb.Pf n K.next K' (e2.f n);rw[fn];exact hP,⟨yag _,λ_ _ _=>rfl,λi q1 q2 j c hj e=>?_⟩,λi hR hl hi=>?_⟩
   ·have hj':=(s.kn j c hj).1;have e:e2.f j=i:=e;rw[f2 j hj']at e;have:=lt' j hj';omega
   ·show e2.f i<K.next;have hi:=nf' i hR hi;rw[f2 i hi];exact lt' i hi
 ·obtain⟨q1,lo,Hc,q2,q3⟩:=s.mw n hw;exact⟨ybD q1,lo,Hc,q2,q3.step s fm⟩
def St.val(s:St tb g h K)(gr:Grow K K')(hc:K'.Cl){m:Nat}{v:V}(hm:m<tb.R)(ht:tb.t m=h.next)(hP:tb.Pw m K.next K' v) :
  ∃g',St tb g' (news h [none]) K'/\Frm g h K g' (news h [none]) K'/\g'.nw m/\g'.e.w m=v:=by
 have hnm:¬g.nw m:=λhf=>by have:=(s.mw m hf).1;omega
 let e2:Nm:=⟨g.e.f,λi=>if i=m then v else g.e.w i,g.e.s⟩
 let g':Sg:=⟨e2,g.nf,λi=>g.nw i\/i=m⟩
 have fn:e2.w m=v:=if_pos rfl;have w2:∀i,g.nw i->e2.w i=g.e.w i:=λi hi=>if_neg (by rintro rfl;exact hnm hi);have ex:Ex K.next g g':=⟨rfl,λi hi=>⟨hi,rfl⟩,λi hi=>⟨.inl hi,w2 i hi⟩,λi hi hn=>absurd hi hn⟩;have fm:Frm g h K g' (news h [none]) K':=⟨ex,gr.next,ybT _,λi hi _=>gr.same i hi,λj c hj=>.inl ⟨c,hj⟩⟩;have lt':∀i,g.nf i->g.e.f i<K.next:=s.lt;refine⟨g',⟨s.s,s.kn,λi hi=>ybD (s.nb i hi),λi hi=>?_,ydd s.lo,s.inj,λi hi=>yai (lt' i hi) gr.next,λd hd i c hi=>?_,λi hi hR hn=>?_,hc,s.seq,λi hR hi e=>?_,s.mono,λn hn hf=>?_,λn hw=>?_⟩,fm,.inr rfl,fn⟩
 ·rcases hi with hi|rfl
  ·exact s.nwb i hi
  ·exact hm
 ·have hd0:=hd.mono ex;rw[gr.same _ (by rw[hd0.2.1 i (s.kn i c hi).1];exact lt' i (s.kn i c hi).1)];exact s.em d hd0 i c hi
 ·show K'.get (g.e.f i)=none;rw[gr.same _ (lt' i hi)];exact s.dr i hi hR hn
 ·have:=s.nb i hi;have e:i+1=h.next+1:=e;omega
 ·obtain⟨q1,lo,Hc,q2,q3,q4⟩:=s.mf n hn hf;exact⟨ybD q1,lo,Hc,q2,q3.step s fm,q4⟩
 ·rcases hw with hw|rfl
  ·obtain⟨q1,lo,Hc,q2,q3⟩:=s.mw n hw;exact⟨ybD q1,lo,Hc,by show tb.Pw n lo Hc (e2.w n);rw[w2 n hw];exact q2,q3.step s fm⟩
  ·refine⟨by rw[ht];exact yaY _,K.next,K',by show tb.Pw n K.next K' (e2.w n);rw[fn];exact hP,⟨yag _,λ_ _ _=>rfl,λi q1 q2 j c hj e=>?_⟩⟩;have e:g.e.f j=i:=e;have:=lt' j (s.kn j c hj).1;omega
def wnamed{m:Int}{v':V} (r:Rl g sh (.lit (.int .i64 m)) v'):g.nw m.toNat:=by
 apply ycF;intro hn
 let d (x:V):Nm:=⟨g.e.f,λi=>if i=m.toNat then x else g.e.w i,g.e.s⟩
 have hd:∀x,Ag g (d x):=λx=>⟨rfl,λi hi=>rfl,λi hi=>if_neg (by rintro rfl;exact hn hi)⟩;have h1:=r (d .nils) (hd _);have h2:=r (d .nilp) (hd _);have e:∀x,sh (d x) (.lit (.int .i64 m))=okw x:=λx=>congrArg okw (if_pos rfl);rw[e]at h1 h2;rw[h1]at h2;cases h2
def fnamed{m o:Nat}{v':V} (r:Rl g sh (.ptr m o) v'):g.nf m/\v' = .ptr (g.e.f m) o:=
 ⟨named (tb:=⟨0,0,yag 0,λ_=>0,λ_=>0,λ_ _ _ _=>True,λ_ _ _ _=>True⟩) (v:=.ptr m o) (λ_ _=>yaD _) r rfl,r g.e (Ag.self g)⟩
end Go.Ax.Y
/- Or1 -/
namespace Go.Ax.SU
open Go.Ax Go.Proofs
inductive Bd where
 | hm (salt key:List V)
 | ex (zaY info:List V) (n:Nat)
 | se (id kid:Nat) (base:List V) (c:Nat) (m p:List V)
inductive Kd where
 | key (id kid:Nat) (base:List V)
 | sl (l:List V)
 | any
structure Tabs where
 bs:List Bd
 ks:List (Nat×Kd)
def iv(s:Nat->Nat)(q:Nat->List Nat):List V->List Nat
 | []=>[]
 | .int .u8 n::l=>n.toNat::iv s q l
 | .lit (.int .u8 n)::l=>s n.toNat::iv s q l
 | .lit (.int .u64 n)::l=>q n.toNat++iv s q l
 | _::l=>iv s q l
def bok1:V->Bool
 | .int .u8 n=>decide (0<=n)&&decide (n<256)
 | .lit (.int .u8 _)=>true
 | _=>false
def bokd:V->Bool
 | .lit (.int .u64 _)=>true
 | v=>bok1 v
structure SQ (s:Nat->Nat) (q:Nat->List Nat):Prop where
 s8:∀n,s n<256
 q8:∀n,Ok8 (q n)
 ql:∀n,(q n).length<=1048576
def bok_d{v:V}(h:bok1 v=true):bokd v=true:=by
 unfold bokd;split
 ·rfl
 ·exact h
def iv_1{d:Y.Nm}{q:Nat->List Nat}:∀{cs:List V},cs.all bok1=true->Y.shL d cs=(iv d.s q cs).map by8/\(iv d.s q cs).length=cs.length
 | [],_=>⟨rfl,rfl⟩
 | x::cs,h=>by
  simp only[yba,yam]at h;obtain⟨h1,h2⟩:=iv_1 (d:=d) (q:=q) h.2;have h0:=h.1;unfold bok1 at h0;split at h0
  ·rename_i n;simp only[yam,decide_eq_true_eq]at h0;refine⟨?_,by simp only[iv,List.length_cons,h2]⟩;show V.int .u8 n::Y.shL d cs=V.int .u8 (n.toNat:Nat)::(iv d.s q cs).map by8;rw[h1,Int.toNat_of_nonneg h0.1]
  ·rename_i n;refine⟨?_,by simp only[iv,List.length_cons,h2]⟩;show V.int .u8 (d.s n.toNat:Nat)::Y.shL d cs=V.int .u8 (d.s n.toNat:Nat)::(iv d.s q cs).map by8;rw[h1]
  ·cases h0
def iv_8{s:Nat->Nat}{q:Nat->List Nat}(hs:SQ s q):∀{cs:List V},cs.all bokd=true->Ok8 (iv s q cs)/\(iv s q cs).length<=cs.length*1048576
 | [],_=>⟨Ok8.nil,yaD _⟩
 | x::cs,h=>by
  simp only[yba,yam]at h;obtain⟨h1,h2⟩:=iv_8 hs h.2;have h0:=h.1;unfold bokd at h0;split at h0
  ·rename_i n;refine⟨(hs.q8 _).app h1,?_⟩;show(q n.toNat++iv s q cs).length<=_;have:=hs.ql n.toNat;rw[yaf,List.length_cons];omega
  ·unfold bok1 at h0;split at h0
   ·rename_i n _;simp only[yam,decide_eq_true_eq]at h0;refine⟨?_,?_⟩
    ·intro y hy;rcases yao.1 hy with rfl|hy
     ·omega
     ·exact h1 y hy
    ·show(n.toNat::iv s q cs).length<=_;rw[List.length_cons,List.length_cons];omega
   ·rename_i n _;refine⟨?_,?_⟩
    ·intro y hy;rcases yao.1 hy with rfl|hy
     ·exact hs.s8 _
     ·exact h1 y hy
    ·show(s n.toNat::iv s q cs).length<=_;rw[List.length_cons,List.length_cons];omega
   ·cases h0
def val(s:Nat->Nat)(q:Nat->List Nat):Bd->List Nat
 | .hm a b=>hmac kc (iv s q a) (iv s q b)
 | .ex a b n=>(hkdf kc (iv s q a) (iv s q b) ((n+31)/32)).1.take n
 | .se id kid base c m p=>match szs id with
  | some (n,t)=>zcd (drv id kid n t (iv s q base)) c (iv s q m) (iv s q p)
  | none=>[]
structure TabV (t:Tabs) (s:Nat->Nat) (q:Nat->List Nat):Prop where
 sq:SQ s q
 v:∀j d,t.bs[j]?=some d->∀i,i<(val s q d).length->i<1000->s (1000*j+i)=(val s q d).getD i 0
def tbOf(t:Tabs)(s:Nat->Nat)(q:Nat->List Nat):Y.Tb where
 R:=t.ks.length
 B:=t.ks.length
 rb:=yag _
 s:=s
 t:=λm=>match t.ks[m]? with|some p=>p.1|none=>0
 Pf:=λm lo H id=>match t.ks[m]? with
  | some (_,.key i kid bl)=>∃n tg,szs i=some (n,tg)/\KeyB lo H id (drv i kid n tg (iv s q bl))
  | _=>False
 Pw:=λm lo H v=>match t.ks[m]? with
  | some (_,.sl l)=>By lo H v (iv s q l)/\l.all bokd=true
  | some (_,.any)=>True
  | _=>False
def syms(j o n:Nat):List V:=(List.range n).map λi=>.lit (.int .u8 ((1000*j+o+i:Nat):Int))
def zmH{t:Tabs}{s:Nat->Nat}{q:Nat->List Nat}(h:TabV t s q){d:Y.Nm}(hd:d.s=s){j:Nat}{b:Bd} (hb:t.bs[j]?=some b) {o n:Nat} (hl:(val s q b).length=o+n) (h1:o+n<=1000):Y.shL d (syms j o n)=((val s q b).drop o).map by8:=by
 subst hd;rw[Y.shL_map];unfold syms;rw[ycC];apply ycL;intro i;by_cases hi:i<n
 ·rw[yaT,ybE hi,yaT,ya0,yae (by omega)];have:=h.v j b hb (o+i) (by omega) (by omega);rw[yak,yae (by omega)]at this;simp only[Option.getD_some]at this;show some (V.int .u8 (d.s (((1000*j+o+i:Nat):Int).toNat):Nat))=some (by8 _);rw[yan,yb5,this];rfl
 ·rw[ybp (by simp;omega),ybp (by simp;omega)]
def veq:V->V->Bool
 | .int .u8 a,.int .u8 b=>decide (a=b)
 | .lit (.int .u8 a),.lit (.int .u8 b)=>decide (a=b)
 | .lit (.int .u64 a),.lit (.int .u64 b)=>decide (a=b)
 | _,_=>false
def leq:List V->List V->Bool
 | [],[]=>true
 | x::xs,y::ys=>veq x y&&leq xs ys
 | _,_=>false
def veq_ok{a b:V}(h:veq a b=true):a=b:=by
 unfold veq at h;split at h<;>first|(cases h;done)|(have:=of_decide_eq_true h;subst this;rfl)
def zgI:∀{a b:List V},leq a b=true->a=b
 | [],[],_=>rfl
 | [],_ :: _,h=>by cases h
 | _ :: _,[],h=>by cases h
 | x::xs,y::ys,h=>by
  simp only[leq,yam]at h;rw[veq_ok h.1,zgI h.2]
def deq:Bd->Bd->Bool
 | .hm a b,.hm a' b'=>leq a a'&&leq b b'
 | .ex a b n,.ex a' b' n'=>Nat.beq n n'&&(leq a a'&&leq b b')
 | .se i k a c m p,.se i' k' a' c' m' p'=>Nat.beq i i'&&(Nat.beq k k'&&(Nat.beq c c'&&(leq a a'&&(leq m m'&&leq p p'))))
 | _,_=>false
def deq_ok{a b:Bd}(h:deq a b=true):a=b:=by
 unfold deq at h;split at h
 ·simp only[yam]at h;rw[zgI h.1,zgI h.2]
 ·simp only[yam]at h;rw[yaJ h.1,zgI h.2.1,zgI h.2.2]
 ·simp only[yam]at h;rw[yaJ h.1,yaJ h.2.1,yaJ h.2.2.1,zgI h.2.2.2.1,zgI h.2.2.2.2.1,zgI h.2.2.2.2.2]
 ·cases h
def keqd:Kd->Kd->Bool
 | .key i k a,.key i' k' a'=>Nat.beq i i'&&(Nat.beq k k'&&leq a a')
 | .sl a,.sl a'=>leq a a'
 | _,_=>false
def keqd_ok{a b:Kd}(h:keqd a b=true):a=b:=by
 unfold keqd at h;split at h
 ·simp only[yam]at h;rw[yaJ h.1,yaJ h.2.1,zgI h.2.2]
 ·rw[zgI h]
 ·cases h
structure Fnd where
 b:Bd->Option Nat
 k:Nat->Kd->Option Nat
 kd:Nat->Option Kd
 s:(Nat->Bd->Bool)->Option (Nat×Bd)
def zvF(p:Nat->Bd->Bool):Nat->List Bd->Option (Nat×Bd)
 | _,[]=>none
 | j,d::l=>match p j d with|true=>some (j,d)|false=>zvF p (j+1) l
def zyc(n:Nat)(x:Kd):Nat->List (Nat×Kd)->Option Nat
 | _,[]=>none
 | j,(m,y)::l=>match Nat.beq n m&&keqd x y with|true=>some j|false=>zyc n x (j+1) l
def Tabs.fnd(t:Tabs):Fnd where
 b:=λx=>match zvF (λ_ y=>deq x y) 0 t.bs with|some r=>some r.1|none=>none
 k:=λn x=>zyc n x 0 t.ks
 kd:=λm=>match t.ks[m]? with|some p=>some p.2|none=>none
 s:=λp=>zvF p 0 t.bs
def zqg{p:Nat->Bd->Bool}:∀{l:List Bd} {j0:Nat} {r:Nat×Bd},zvF p j0 l=some r->∃i,r.1=j0+i/\l[i]?=some r.2/\p r.1 r.2=true
 | [],j0,r,h=>by cases h
 | d::l,j0,r,h=>by
  unfold zvF at h;split at h
  ·rename_i hp;injection h with h
   subst h;exact⟨0,rfl,rfl,hp⟩
  ·obtain⟨i,h1,h2,h3⟩:=zqg h;exact⟨i+1,by omega,h2,h3⟩
def zum{n:Nat}{x:Kd}:∀{l:List (Nat×Kd)} {j0 r:Nat},zyc n x j0 l=some r->∃i,r=j0+i/\l[i]?=some (n,x)
 | [],j0,r,h=>by cases h
 | (m,y)::l,j0,r,h=>by
  unfold zyc at h;split at h
  ·rename_i hp;injection h with h
   subst h;rw[yam]at hp;have h1:=yaJ hp.1;have h2:=keqd_ok hp.2;subst h1 h2;exact⟨0,rfl,rfl⟩
  ·obtain⟨i,h1,h2⟩:=zum h;exact⟨i+1,by omega,h2⟩
def fnd_b{t:Tabs}{x:Bd}{j:Nat}(h:t.fnd.b x=some j):t.bs[j]?=some x:=by
 unfold Tabs.fnd at h;dsimp only at h;split at h
 ·rename_i r hr;injection h with h
  obtain⟨i,h1,h2,h3⟩:=zqg hr;have:=deq_ok h3;subst this;rw[<-h,h1,ya8];exact h2
 ·cases h
def fnd_s{t:Tabs}{p:Nat->Bd->Bool}{r:Nat×Bd}(h:t.fnd.s p=some r):t.bs[r.1]?=some r.2/\p r.1 r.2=true:=by
 obtain⟨i,h1,h2,h3⟩:=zqg (show zvF p 0 t.bs=some r from h);refine⟨?_,h3⟩;rw[h1,ya8];exact h2
def fnd_k{t:Tabs}{n:Nat}{x:Kd}{m:Nat}(h:t.fnd.k n x=some m):t.ks[m]?=some (n,x):=by
 obtain⟨i,h1,h2⟩:=zum (show zyc n x 0 t.ks=some m from h);rw[h1,ya8];exact h2
def fnd_kd{t:Tabs}{m:Nat}{x:Kd}(h:t.fnd.kd m=some x):∃n,t.ks[m]?=some (n,x):=by
 unfold Tabs.fnd at h;dsimp only at h;split at h
 ·rename_i p hp;injection h with h
  exact⟨p.1,by rw[hp,<-h]⟩
 ·cases h
def capb:Cap->Nat->Bool
 | .fix c,n=>Nat.ble n c
 | .opn e,_=>Nat.beq e 1
def rd(F:Fnd)(h:Heap):V->Option (List V)
 | .nils=>some []
 | .sl id off len cap=>match h.get id with
  | some b=>match Nat.ble (off+len) b.cells.length&&(capb cap len&&((b.cells.drop off).take len).all bok1) with
   | true=>some ((b.cells.drop off).take len)
   | false=>none
  | none=>none
 | .rs cells len=>match Nat.ble len cells.length&&(cells.take len).all bok1 with
  | true=>some (cells.take len)
  | false=>none
 | .lit (.int .i64 m)=>match F.kd m.toNat with
  | some (.sl l)=>some l
  | _=>none
 | _=>none
def all_d{l:List V}(h:l.all bok1=true):l.all bokd=true:=yaz.2 λx hx=>bok_d (yaz.1 h x hx)
def zxH{lo n:Nat}{H:Heap}{v:V}{cells:List V}(h:Lc 1 lo H v cells n):v.one=true:=by
 rcases h.cases with⟨rfl,_,_⟩|⟨id,off,cap,b,rfl,_⟩|⟨cs,rfl,_⟩<;>rfl
def zmV{t:Tabs}{s:Nat->Nat}{q:Nat->List Nat}(ht:TabV t s q){g:Y.Sg}{h K:Heap} (st:Y.St (tbOf t s q) g h K) {v v':V} {l:List V} (e:rd t.fnd h v=some l) (r:Y.Rl g Y.sh v v'):By 0 K v' (iv s q l)/\Ok8 (iv s q l)/\l.all bokd=true:=by
 have es:g.e.s=s:=st.s;have rg:=r g.e (Y.Ag.self g);unfold rd at e;split at e
 ·injection e with e
  subst e rg;exact⟨Lc.nil,Ok8.nil,rfl⟩
 ·rename_i id off len cap;split at e
  ·rename_i b hb;split at e
   ·rename_i hc;injection e with e
    subst e rg;simp only[yam]at hc;obtain⟨h1,h2,h3⟩:=hc;have h1:=yau h1;obtain⟨i1,i2⟩:=iv_1 (d:=g.e) (q:=q) h3;rw[es]at i1 i2;have hl:((b.cells.drop off).take len).length=len:=by rw[yaq,yas];omega
    rw[hl]at i2;have hg:=st.em g.e (Y.Ag.self g) id b hb;refine⟨⟨?_,λi hi=>?_,?_⟩,(iv_8 ht.sq (all_d h3)).1,all_d h3⟩
    ·show rcells 1 K (.sl (g.e.f id) off len cap) = _;simp only[rcells,hg,Option.bind_some];rw[Y.shB_c,Y.shL_len,if_pos (by omega),Y.shL_drop,Y.shL_take,ya5,i1,i2]
    ·have hi:g.e.f id=i:=by injection hi
     subst hi;exact⟨yaD _,st.lt id (st.kn id b hb).1⟩
    ·show V.capOk 1 (.sl (g.e.f id) off len cap);cases cap with
     | fix c=>exact yau h2
     | opn e=>exact yaJ h2
   ·cases e
  ·cases e
 ·rename_i cells len;split at e
  ·rename_i hc;injection e with e
   subst e rg;simp only[yam]at hc;obtain⟨h1,h3⟩:=hc;have h1:=yau h1;obtain⟨i1,i2⟩:=iv_1 (d:=g.e) (q:=q) h3;rw[es]at i1 i2;have hl:(cells.take len).length=len:=by rw[yaq];omega
   rw[hl]at i2;refine⟨⟨?_,λi hi=>(by cases hi),trivial⟩,(iv_8 ht.sq (all_d h3)).1,all_d h3⟩;show rcells 1 K (.rs (Y.shL g.e cells) len) = _;simp only[rcells];rw[Y.shL_len,if_pos (by omega),Y.shL_take,ya5,i1,i2]
  ·cases e
 ·rename_i m;split at e
  ·rename_i l' hk;injection e with e
   subst e;obtain⟨n,hn⟩:=fnd_kd hk;have hw:=Y.wnamed r;obtain⟨-,lo,Hc,hP,sf⟩:=st.mw _ hw;have hP:(match t.ks[m.toNat]? with|some (_,.sl l)=>By lo Hc (g.e.w m.toNat) (iv s q l)/\l.all bokd=true|some (_,.any)=>True | _=>False):=hP;rw[hn]at hP;have ev:v'=g.e.w m.toNat:=by
    rw[rg];show Y.okw (g.e.w m.toNat) = _;unfold Y.okw;rw[if_pos (zxH hP.1)]
   rw[ev];exact⟨(hP.1.keep ⟨sf.le,λi h1 h2=>sf.sm i h1 h2⟩).low (yaD _),(iv_8 ht.sq hP.2).1,hP.2⟩
  ·cases e
 ·cases e
def okd(l:List V):Bool:=Nat.ble l.length 1000
def selO(f:FuncId)(args:List V):Bool:=
 Nat.beq f zbV||(Nat.beq f zbD||(Nat.beq f zbg||(Nat.beq f zba||(Nat.beq f zbb ||
  (Nat.beq f zbp&&(match args with|[.lit _]=>true | _=>false))))))
def orX(F:Fnd)(h:Heap)(a b:V):Option (V×List (Option Blk)):=
 match rd F h a,rd F h b with
 | some sl,some kl=>match okd sl&&okd kl with
  | true=>match F.b (.hm sl kl) with
   | some j=>some (.agg (syms j 0 32),[none])
   | none=>none
  | false=>none
 | _,_=>none
def orE(F:Fnd)(h:Heap)(a b:V)(n:Nat):Option (V×List (Option Blk)):=
 match rd F h a,rd F h b with
 | some sl,some il=>match okd sl&&(okd il&&(Nat.blt 0 n&&Nat.ble n 900)) with
  | true=>match F.b (.ex sl il n) with
   | some j=>some (.tup [.sl (h.next+1) 0 n (.opn 1),.int .i64 0],[none,some ⟨zab,syms j 0 n,some 1⟩,none])
   | none=>none
  | false=>none
 | _,_=>none
def orD(F:Fnd)(h:Heap)(id kid:Nat)(b:V):Option (V×List (Option Blk)):=
 match rd F h b,szs id with
 | some bl,some _=>match okd bl&&Nat.blt kid 18446744073709551616 with
  | true=>match F.k h.next (.key id kid bl) with
   | some m=>some (.tup [.ptr m 0,.int .i64 0],[none])
   | none=>none
  | false=>none
 | _,_=>none
def seC(j id kid t c:Nat)(p:List V):List V:=(hdr kid c).map by8++syms j (hdr kid c).length (p.length+t)
def orS(F:Fnd)(h:Heap)(m c:Nat)(a b:V):Option (V×List (Option Blk)):=
 match F.kd m,rd F h a,rd F h b with
 | some (.key id kid bl),some ml,some pl=>match szs id,okd ml&&(pl.all bok1&&(Nat.ble pl.length 900&&Nat.blt c 18446744073709551616)) with
  | some (_,t),true=>match F.b (.se id kid bl c ml pl) with
   | some j=>some (.tup [.sl (h.next+1) 0 ((hdr kid c).length+pl.length+t) (.fix ((hdr kid c).length+pl.length+t)),.int .i64 0],[none,some ⟨zab,seC j id kid t c pl,some 1⟩,none])
   | none=>none
  | _,_=>none
 | _,_,_=>none
def opP(id kid t:Nat)(bl ml bb:List V)(j:Nat):Bd->Bool
 | .se id' kid' bl' c ml' pl=>Nat.beq id' id&&(Nat.beq kid' kid&&(leq bl' bl&&(leq ml' ml&&(leq (seC j id kid t c pl) bb&&(pl.all bok1&&(Nat.ble pl.length 900&&Nat.blt c 18446744073709551616))))))
 | _=>false
def orO(F:Fnd)(h:Heap)(m:Nat)(a b:V):Option (V×List (Option Blk)):=
 match F.kd m,rd F h a,rd F h b with
 | some (.key id kid bl),some bb,some ml=>match szs id,okd ml&&(okd bb&&bb.all bok1) with
  | some (_,t),true=>match F.s (opP id kid t bl ml bb) with
   | some (_,.se _ _ _ c _ pl)=>some (.tup [.sl (h.next+1) 0 pl.length (.fix pl.length),.int .u64 (c:Nat),.int .i64 0],[none,some ⟨zab,pl,none⟩,none])
   | _=>none
  | _,_=>none
 | _,_,_=>none
def orC(F:Fnd)(h:Heap)(m:Nat):Option (V×List (Option Blk)):=
 match F.kd m with
 | some (.sl l)=>match okd l with
  | true=>match F.k h.next (.sl l) with
   | some m'=>some (.lit (.int .i64 (m':Nat)),[none])
   | none=>none
  | false=>none
 | _=>none
def orc(F:Fnd):Y.Orc:=λf args h=>
 match Nat.beq f zbV,args with
 | true,[a,b]=>orX F h a b
 | _,_=>match Nat.beq f zbD,args with
  | true,[a,b,.int .i64 (.ofNat n)]=>orE F h a b n
  | _,_=>match Nat.beq f zbg,args with
   | true,[.int .i64 (.ofNat id),.int .u64 (.ofNat kid),b]=>orD F h id kid b
   | _,_=>match Nat.beq f zba,args with
    | true,[.ptr m 0,.int .u64 (.ofNat c),a,b]=>orS F h m c a b
    | _,_=>match Nat.beq f zbb,args with
     | true,[.ptr m 0,a,b]=>orO F h m a b
     | _,_=>match Nat.beq f zbp,args with
      | true,[.lit (.int .i64 m)]=>orC F h m.toNat
      | _,_=>none
section
variable {t:Tabs} {s:Nat->Nat} {q:Nat->List Nat} {g:Y.Sg} {h K:Heap}
def Ans(t:Tabs)(s:Nat->Nat)(q:Nat->List Nat)(g:Y.Sg)(h K:Heap)(f:FuncId)(args':List V) (r:V×List (Option Blk)):Prop:=
 ∃g' b K',sem T f args' K=some (b,K')/\Y.St (tbOf t s q) g' (Y.news h r.2) K'/\Y.Frm g h K g' (Y.news h r.2) K'/\Y.Rl g' Y.sh r.1 b
def zg9{l:List V}(ht:TabV t s q)(h:okd l=true)(hd:l.all bokd=true):(iv s q l).length<=1048576000:=by
 have:=(iv_8 ht.sq hd).2;have:=yau h;omega
def ans_x(ht:TabV t s q) (st:Y.St (tbOf t s q) g h K) {a b a' b':V} {r:V×List (Option Blk)} (e:orX t.fnd h a b=some r) (ra:Y.Rl g Y.sh a a') (rb:Y.Rl g Y.sh b b'):Ans t s q g h K zbV [a',b'] r:=by
 unfold orX at e;split at e
 ·rename_i sl kl h1 h2;split at e
  ·rename_i hk;rw[yam]at hk;split at e
   ·rename_i j hj;injection e with e
    subst e;obtain⟨b1,o1,d1⟩:=zmV ht st h1 ra;obtain⟨b2,o2,d2⟩:=zmV ht st h2 rb;obtain⟨r,K',e1,⟨rfl,gr⟩,hc⟩:=zko st.cl (zlE b1 o1 (by have:=zg9 ht hk.1 d1;omega) b2 o2 (by have:=zg9 ht hk.2 d2;omega));refine⟨g,_,K',e1,st.dum gr hc,Y.fr_dum gr,λd hd=>?_⟩;show _=V.agg (Y.shL d (syms j 0 32));have hl:(val s q (.hm sl kl)).length=0+32:=zdQ _ _ _;rw[zmH ht (hd.1.trans st.s) (fnd_b hj) hl (by decide),yaA];rfl
   ·cases e
  ·cases e
 ·cases e
def ans_e(ht:TabV t s q) (st:Y.St (tbOf t s q) g h K) {a b a' b':V} {n:Nat} {r:V×List (Option Blk)} (e:orE t.fnd h a b n=some r) (ra:Y.Rl g Y.sh a a') (rb:Y.Rl g Y.sh b b'):Ans t s q g h K zbD [a',b',.int .i64 (n:Nat)] r:=by
 unfold orE at e;split at e
 ·rename_i sl il h1 h2;split at e
  ·rename_i hk;simp only[yam]at hk;obtain⟨k1,k2,k3,k4⟩:=hk;have k3:0<n:=yau k3;have k4:=yau k4;split at e
   ·rename_i j hj;injection e with e
    subst e;obtain⟨b1,o1,d1⟩:=zmV ht st h1 ra;obtain⟨b2,o2,d2⟩:=zmV ht st h2 rb;obtain⟨r,K',e1,⟨v,rfl,hv,gr,hx⟩,hc⟩:=zko st.cl (zuH b1 o1 (by have:=zg9 ht k1 d1;omega) b2 o2 (by have:=zg9 ht k2 d2;omega) (n:=n) (by omega));obtain⟨id,rfl,hg,l1,l2⟩:=hx k3;have hl:(val s q (.ex sl il n)).length=0+n:=by
     show((hkdf kc (iv s q sl) (iv s q il) ((n+31)/32)).1.take n).length = _;rw[yaq,zga];omega
    obtain⟨g',s1,f1,n1,e2⟩:=st.blk gr hc l1 l2 (b:=⟨zab,syms j 0 n,some 1⟩) λd hd=>by
     unfold Y.shB;rw[zmH ht (hd.1.trans st.s) (fnd_b hj) hl (by omega),yaA];exact hg
    refine⟨g',_,K',e1,s1,f1,λd hd=>?_⟩;show _=V.tup [.sl (d.f (h.next+1)) 0 n (.opn 1),.int .i64 0];rw[hd.2.1 _ n1,e2]
   ·cases e
  ·cases e
 ·cases e
def ans_d(ht:TabV t s q) (st:Y.St (tbOf t s q) g h K) {b b':V} {id kid:Nat} {r:V×List (Option Blk)} (e:orD t.fnd h id kid b=some r) (rb:Y.Rl g Y.sh b b'):Ans t s q g h K zbg [.int .i64 (id:Nat),.int .u64 (kid:Nat),b'] r:=by
 unfold orD at e;split at e
 ·rename_i bl p h1 h2;split at e
  ·rename_i hk;rw[yam]at hk;have k2:kid<18446744073709551616:=yau hk.2;split at e
   ·rename_i m hm;injection e with e
    subst e;obtain⟨b1,o1,d1⟩:=zmV ht st h1 rb;obtain⟨r,K',e1,⟨gr,hr⟩,hc⟩:=zko st.cl (zuI (id:=(id:Nat)) (by omega) k2 b1 o1 (by have:=zg9 ht hk.1 d1;omega));rw[yan]at hr;rcases hr with⟨hr|hr,-⟩|⟨n,tg,k,-,hs,rfl,hb⟩
    ·omega
    ·rw[h2]at hr;cases hr
    have hm':=fnd_k hm;have hmR:m<(tbOf t s q).R:=(yaw.1 hm').1;have ht':(tbOf t s q).t m=h.next:=by
     show(match t.ks[m]? with|some p=>p.1|none=>0) = _;rw[hm']
    obtain⟨g',s1,f1,n1,e2⟩:=st.key gr hc hmR ht' hb.lo hb.low (by
     show(match t.ks[m]? with|some (_,.key i kid bl)=>∃n tg,szs i=some (n,tg)/\KeyB K.next K' k (drv i kid n tg (iv s q bl)) | _=>False);rw[hm'];exact⟨n,tg,hs,hb⟩)
    refine⟨g',_,K',e1,s1,f1,λd hd=>?_⟩;show _=V.tup [.ptr (d.f m) 0,.int .i64 0];rw[hd.2.1 _ n1,e2]
   ·cases e
  ·cases e
 ·cases e
def key_of (st:Y.St (tbOf t s q) g h K) {m id kid:Nat} {bl:List V} (hm:t.fnd.kd m=some (.key id kid bl)) {v':V} (r:Y.Rl g Y.sh (.ptr m 0) v'):∃k n tg,v' = .ptr k 0/\szs id=some (n,tg)/\KeyM K k (drv id kid n tg (iv s q bl)):=by
 obtain⟨n0,hn⟩:=fnd_kd hm;obtain⟨hf,rfl⟩:=Y.fnamed r;have hmR:m<(tbOf t s q).R:=(yaw.1 hn).1;obtain⟨-,lo,Hc,hP,sf,-⟩:=st.mf m hmR hf;have hP:(match t.ks[m]? with|some (_,.key i kid bl)=>∃n tg,szs i=some (n,tg)/\KeyB lo Hc (g.e.f m) (drv i kid n tg (iv s q bl)) | _=>False):=hP;rw[hn]at hP;obtain⟨n,tg,h1,h2⟩:=hP;exact⟨_,n,tg,rfl,h1,(h2.keep ⟨sf.le,λi h1 h2=>sf.sm i h1 h2⟩).m⟩
def zsW{l:List V}(h:l.all bok1=true):(iv s q l).length=l.length:=(iv_1 (d:=⟨λ_=>0,λ_=>.any,s⟩) (q:=q) h).2
def zwH(ht:TabV t s q){d:Y.Nm}(hd:d.s=s){j id kid n tg c:Nat}{bl ml pl:List V} (hb:t.bs[j]?=some (.se id kid bl c ml pl)) (hs:szs id=some (n,tg)) (hp:pl.all bok1=true) (hl:pl.length<=900):Y.shL d (seC j id kid tg c pl)=(zcd (drv id kid n tg (iv s q bl)) c (iv s q ml) (iv s q pl)).map by8/\(zcd (drv id kid n tg (iv s q bl)) c (iv s q ml) (iv s q pl)).length=(hdr kid c).length+pl.length+tg:=by
 have htg:tg<=32:=yax (szs_n hs).2.1 (by decide);have hv:val s q (.se id kid bl c ml pl)=zcd (drv id kid n tg (iv s q bl)) c (iv s q ml) (iv s q pl):=by
  show(match szs id with|some (n,t)=>zcd (drv id kid n t (iv s q bl)) c (iv s q ml) (iv s q pl)|none=>[]) = _;rw[hs]
 have hlen:=zf4 (k:=drv id kid n tg (iv s q bl)) htg c (iv s q ml) (iv s q pl);rw[zsW hp]at hlen;have hlen:(zcd (drv id kid n tg (iv s q bl)) c (iv s q ml) (iv s q pl)).length=(hdr kid c).length+pl.length+tg:=hlen;have hh:=zjR kid c;refine⟨?_,hlen⟩;unfold seC;rw[Y.shL_app,zmH ht hd hb (by rw[hv,hlen];omega) (by omega),hv];have e1:Y.shL d ((hdr kid c).map by8)=(hdr kid c).map by8:=by
  rw[Y.shL_map,ycC];rfl
 have e2:(zcd (drv id kid n tg (iv s q bl)) c (iv s q ml) (iv s q pl)).take (hdr kid c).length=hdr kid c:=by
  unfold zcd;rw[yaI];exact ybU rfl
 rw[e1]
 conv=>rhs;rw[<-ybV (hdr kid c).length (zcd (drv id kid n tg (iv s q bl)) c (iv s q ml) (iv s q pl)),e2]
 rw[yaC]
def ans_s(ht:TabV t s q) (st:Y.St (tbOf t s q) g h K) {a b k' a' b':V} {m c:Nat} {r:V×List (Option Blk)} (e:orS t.fnd h m c a b=some r) (rk:Y.Rl g Y.sh (.ptr m 0) k') (ra:Y.Rl g Y.sh a a') (rb:Y.Rl g Y.sh b b'):Ans t s q g h K zba [k',.int .u64 (c:Nat),a',b'] r:=by
 unfold orS at e;split at e
 ·rename_i id kid bl ml pl hkd h1 h2;split at e
  ·rename_i nk tg hsz hk;simp only[yam]at hk;obtain⟨k1,k2,k3,k4⟩:=hk;have k3:=yau k3;have k4:c<18446744073709551616:=yau k4;split at e
   ·rename_i j hj;injection e with e
    subst e;obtain⟨k,n,tg',rfl,hs,hK⟩:=key_of st hkd rk;rw[hsz]at hs;simp only[yaa,yad]at hs;obtain⟨rfl,rfl⟩:=hs;obtain⟨b1,o1,d1⟩:=zmV ht st h1 ra;obtain⟨b2,o2,d2⟩:=zmV ht st h2 rb;have pl1:=zsW (s:=s) (q:=q) k2;obtain⟨r,K',e1,⟨gr,hr⟩,hc⟩:=zko st.cl (Seal_x hK k4 b1 o1 b2 o2 (by have:=zg9 ht k1 d1;omega) (by omega));rw[if_neg (by omega)]at hr;obtain⟨v,rfl,id',rfl,hg,l1,l2⟩:=hr;have hl:=(zwH ht (d:=g.e) st.s (fnd_b hj) hsz k2 k3).2;obtain⟨g',s1,f1,n1,e2⟩:=st.blk gr hc l1 l2 (b:=⟨zab,seC j id kid tg c pl,some 1⟩) λd hd=>by
     unfold Y.shB;rw[(zwH ht (hd.1.trans st.s) (fnd_b hj) hsz k2 k3).1];exact hg
    refine⟨g',_,K',e1,s1,f1,λd hd=>?_⟩;show _=V.tup [.sl (d.f (h.next+1)) 0 _ (.fix _),.int .i64 0];rw[hd.2.1 _ n1,e2,hl]
   ·cases e
  ·cases e
 ·cases e
def ans_o(ht:TabV t s q) (st:Y.St (tbOf t s q) g h K) {a b k' a' b':V} {m:Nat} {r:V×List (Option Blk)} (e:orO t.fnd h m a b=some r) (rk:Y.Rl g Y.sh (.ptr m 0) k') (ra:Y.Rl g Y.sh a a') (rb:Y.Rl g Y.sh b b'):Ans t s q g h K zbb [k',a',b'] r:=by
 unfold orO at e;split at e
 ·rename_i id kid bl bb ml hkd h1 h2;split at e
  ·rename_i nk tg hsz hk;simp only[yam]at hk;obtain⟨k1,k2,k3⟩:=hk;split at e
   ·rename_i j id' kid' bl' c ml' pl hj;injection e with e
    subst e;obtain⟨h3,h4⟩:=fnd_s hj;simp only[opP,yam]at h4;obtain⟨p1,p2,p3,p4,p5,p6,p7,p8⟩:=h4;have p1:=yaJ p1;have p2:=yaJ p2;have p3:=zgI p3;have p4:=zgI p4;have p5:=zgI p5;have p7:=yau p7;have p8:c<18446744073709551616:=yau p8;subst p1 p2 p3 p4;obtain⟨k,n,tg',rfl,hs,hK⟩:=key_of st hkd rk;rw[hsz]at hs;simp only[yaa,yad]at hs;obtain⟨rfl,rfl⟩:=hs;obtain⟨b1,o1,d1⟩:=zmV ht st h1 ra;obtain⟨b2,o2,d2⟩:=zmV ht st h2 rb;have hsc:=zwH ht (d:=g.e) st.s h3 hsz p6 p7;have eb:iv s q bb=zcd (drv id' kid' nk tg (iv s q bl')) c (iv s q ml') (iv s q pl):=by
     have h5:=(iv_1 (d:=g.e) (q:=q) k3).1;rw[st.s]at h5;rw[p5,h5]at hsc;exact(List.map_inj_right (λx y h=>by
      have:V.int .u8 (x:Nat)=V.int .u8 (y:Nat):=h;injection this with _ h
      omega)).1 hsc.1
    have pl1:=zsW (s:=s) (q:=q) p6;obtain⟨r,K',e1,⟨gr,hr⟩,hc⟩:=zko st.cl (Open_x hK b1 o1 b2 o2 (by have:=zg9 ht k1 d2;omega) (by have:=zg9 ht k2 d1;omega));rw[eb,zri (yax (szs_n hsz).2.1 (by decide)) hK.good.kid p8 (by omega)]at hr;obtain⟨v,rfl,i,rfl,hg,l1,l2⟩:=hr;obtain⟨g',s1,f1,n1,e2⟩:=st.blk gr hc l1 l2 (b:=⟨zab,pl,none⟩) λd hd=>by
     unfold Y.shB;have h6:=(iv_1 (d:=d) (q:=q) p6).1;rw[show d.s=s from hd.1.trans st.s]at h6;rw[h6];exact hg
    refine⟨g',_,K',e1,s1,f1,λd hd=>?_⟩;show _=V.tup [.sl (d.f (h.next+1)) 0 _ (.fix _),.int .u64 (c:Nat),.int .i64 0];rw[hd.2.1 _ n1,e2,pl1]
   ·cases e
  ·cases e
 ·cases e
def ans_c(ht:TabV t s q) (st:Y.St (tbOf t s q) g h K) {a':V} {m:Int} {r:V×List (Option Blk)} (e:orC t.fnd h m.toNat=some r) (ra:Y.Rl g Y.sh (.lit (.int .i64 m)) a'):Ans t s q g h K zbp [a'] r:=by
 unfold orC at e;split at e
 ·rename_i l hkd;split at e
  ·rename_i hk;split at e
   ·rename_i m' hm;injection e with e
    subst e;have hrd:rd t.fnd h (.lit (.int .i64 m))=some l:=by
     unfold rd;dsimp only;rw[hkd]
    obtain⟨b1,o1,d1⟩:=zmV ht st hrd ra;obtain⟨r,K',e1,⟨hv,gr⟩,hc⟩:=zko st.cl (zuu b1 (by have:=zg9 ht hk d1;omega));have hm':=fnd_k hm;have hmR:m'<(tbOf t s q).R:=(yaw.1 hm').1;have ht':(tbOf t s q).t m'=h.next:=by
     show(match t.ks[m']? with|some p=>p.1|none=>0) = _;rw[hm']
    obtain⟨g',s1,f1,n1,e2⟩:=st.val gr hc (v:=r) hmR ht' (by
     show(match t.ks[m']? with|some (_,.sl l)=>By K.next K' r (iv s q l)/\l.all bokd=true|some (_,.any)=>True | _=>False);rw[hm'];exact⟨hv,d1⟩)
    refine⟨g',_,K',e1,s1,f1,λd hd=>?_⟩;show _=Y.okw (d.w ((m':Nat):Int).toNat);rw[yan,hd.2.2 _ n1,e2];unfold Y.okw;rw[if_pos (zxH hv)]
   ·cases e
  ·cases e
 ·cases e
def zdj{a:V}{l args':List V} (r:Y.Rl g Y.shL (a::l) args'):∃a' l',args'=a'::l'/\Y.Rl g Y.sh a a'/\Y.Rl g Y.shL l l':=by
 refine⟨Y.sh g.e a,Y.shL g.e l,r g.e (Y.Ag.self g),λd hd=>?_,λd hd=>?_⟩
 ·have:=(r g.e (Y.Ag.self g)).symm.trans (r d hd);injection this
 ·have:=(r g.e (Y.Ag.self g)).symm.trans (r d hd);injection this
def zoN{args':List V} (r:Y.Rl g Y.shL [] args'):args'=[]:=r g.e (Y.Ag.self g)
def ztK{k:IntKind}{n:Int}{v':V} (r:Y.Rl g Y.sh (.int k n) v'):v' = .int k n:=r g.e (Y.Ag.self g)
def orc_ok(ht:TabV t s q):Y.OrS (tbOf t s q) T selO (orc t.fnd):=by
 intro f args args' g h K v nb hsel e st r;clear hsel;unfold orc at e;split at e
 ·rename_i a b hf;have hf:=yaJ hf;subst hf;obtain⟨a',l1,rfl,ra,r⟩:=zdj r;obtain⟨b',l2,rfl,rb,r⟩:=zdj r;rw[zoN r];exact ans_x ht st e ra rb
 rename_i hx;clear hx;split at e
 ·rename_i a b n hf;have hf:=yaJ hf;subst hf;obtain⟨a',l1,rfl,ra,r⟩:=zdj r;obtain⟨b',l2,rfl,rb,r⟩:=zdj r;obtain⟨c',l3,rfl,rc,r⟩:=zdj r;rw[zoN r,ztK rc];exact ans_e ht st e ra rb
 rename_i hx;clear hx;split at e
 ·rename_i id kid b hf;have hf:=yaJ hf;subst hf;obtain⟨a',l1,rfl,ra,r⟩:=zdj r;obtain⟨b',l2,rfl,rb,r⟩:=zdj r;obtain⟨c',l3,rfl,rc,r⟩:=zdj r;rw[zoN r,ztK ra,ztK rb];exact ans_d ht st e rc
 rename_i hx;clear hx;split at e
 ·rename_i m c a b hf;have hf:=yaJ hf;subst hf;obtain⟨k',l0,rfl,rk,r⟩:=zdj r;obtain⟨c',l1,rfl,rc,r⟩:=zdj r;obtain⟨a',l2,rfl,ra,r⟩:=zdj r;obtain⟨b',l3,rfl,rb,r⟩:=zdj r;rw[zoN r,ztK rc];exact ans_s ht st e rk ra rb
 rename_i hx;clear hx;split at e
 ·rename_i m a b hf;have hf:=yaJ hf;subst hf;obtain⟨k',l0,rfl,rk,r⟩:=zdj r;obtain⟨a',l2,rfl,ra,r⟩:=zdj r;obtain⟨b',l3,rfl,rb,r⟩:=zdj r;rw[zoN r];exact ans_o ht st e rk ra rb
 rename_i hx;clear hx;split at e
 ·rename_i m hf;have hf:=yaJ hf;subst hf;obtain⟨a',l2,rfl,ra,r⟩:=zdj r;rw[zoN r];exact ans_c ht st e ra
 ·cases e
end
end Go.Ax.SU
/- Ax48 -/
namespace Go.Ax.Cc
def hp:List (Option Blk)->Heap
 | []=>⟨.e,0⟩
 | some b::bs=>(hp bs).new b
 | none::bs=>⟨(hp bs).t,(hp bs).next+1⟩
def hp_next:∀bs:List (Option Blk),(hp bs).abs.next=bs.length
 | []=>rfl
 | some b::bs=>by
  show((hp bs).new b).abs.next = _;rw[abs_new,zae,hp_next bs];rfl
 | none::bs=>by
  show(hp bs).abs.next+1 = _;rw[hp_next bs];rfl
end Go.Ax.Cc
namespace Go.Ax
end Go.Ax
/- Ax32 -/
namespace Go.Ax
structure Rst where
 g:Nat->Option Blk
 r:Nat->Bool
 n:Nat
 sub:∀i b,g i=some b->r i=true
def Heap.plus(H:Heap)(G:Rst):Heap:=⟨λi=>match G.g i with|some b=>some b|none=>H.get i,H.next⟩
structure Dj (H:Heap) (G:Rst):Prop where
 low:G.n<=H.next
 non':∀i,G.r i=true->H.get i=none/\i<G.n
section
variable {G:Rst} {H H':Heap}
def Dj.non(h:Dj H G){id:Nat}{b:Blk}(hb:H.get id=some b):G.g id=none:=by
 cases hg:G.g id with
 | none=>rfl
 | some c=>rw[(h.non' id (G.sub _ _ hg)).1]at hb;cases hb
def Dj.get(h:Dj H G){id:Nat}{b:Blk}(hb:H.get id=some b):(H.plus G).get id=some b:=by
 show(match G.g id with|some b=>some b|none=>H.get id) = _;rw[h.non hb];exact hb
def Dj.set(h:Dj H G){id:Nat}{b:Blk}(hb:H.get id=some b)(o:Option Blk):(H.plus G).set id o=(H.set id o).plus G/\Dj (H.set id o) G:=by
 have hg:=h.non hb;refine⟨?_,h.low,λi hi=>?_⟩
 ·show Heap.mk _ _=Heap.mk _ _;congr 1;funext i;show(if i=id then o else (match G.g i with|some b=>some b|none=>H.get i))=(match G.g i with|some b=>some b|none=>if i=id then o else H.get i);by_cases e:i=id
  ·subst e;rw[hg,if_pos rfl]
  ·rw[if_neg e,if_neg e]
 ·obtain⟨h1,h2⟩:=h.non' i hi;refine⟨?_,h2⟩;rw[zaj]
  ·exact h1
  ·intro e;subst e;rw[h1]at hb;cases hb
def Dj.new(h:Dj H G)(b:Blk):(H.plus G).new b=(H.new b).plus G/\Dj (H.new b) G:=by
 have hl:=h.low;have hg:G.g H.next=none:=by
  cases hg:G.g H.next with
  | none=>rfl
  | some c=>have:=(h.non' _ (G.sub _ _ hg)).2;omega
 refine⟨?_,by rw[zae];omega,λi hi=>?_⟩
 ·show Heap.mk _ _=Heap.mk _ _;congr 1;funext i;show(if i=H.next then some b else (match G.g i with|some b=>some b|none=>H.get i))=(match G.g i with|some b=>some b|none=>if i=H.next then some b else H.get i);by_cases e:i=H.next
  ·subst e;rw[hg,if_pos rfl]
  ·rw[if_neg e,if_neg e]
 ·obtain⟨h1,h2⟩:=h.non' i hi;exact⟨by rw[zas _ _ (by omega)];exact h1,h2⟩
def FrR(G:Rst){α:Type}(x y:M α):Prop:=∀H a H',Dj H G->x H=some (a,H')->y (H.plus G)=some (a,H'.plus G)/\Dj H' G
abbrev FrM(G:Rst){α:Type}(x:M α):Prop:=FrR G x x
section
variable {α β:Type}
def zb8(v:α):FrM G (M.pure v):=by
 intro H a H' hd h;simp only[M.pure,yaa,yad]at h ⊢;obtain⟨rfl,rfl⟩:=h;exact⟨⟨rfl,rfl⟩,hd⟩
def zct{y:M α}:FrR G M.fail y:=by intro H a H' hd h;cases h
def zfs(o:Option α):FrM G (M.lift o):=by
 intro H a H' hd h;cases o with
 | none=>cases h
 | some v=>exact zb8 v H a H' hd h
def zbG{x x':M α}{f g:α->M β}(h:FrR G x x') (k:∀v,FrR G (f v) (g v)):FrR G (x.bind f) (x'.bind g):=by
 intro H a H' hd e;obtain⟨v,H1,h1,h2⟩:=bind_some e;obtain⟨e1,d1⟩:=h H v H1 hd h1;obtain⟨e2,d2⟩:=k v H1 a H' d1 h2;exact⟨by rw[bind_ok e1];exact e2,d2⟩
def fr_ite(c:V){x x' y y':M α}(h:FrR G x y)(k:FrR G x' y'):FrR G (M.ite c x x') (M.ite c y y'):=by
 cases c<;>first|exact zct|skip
 rename_i b;cases b
 ·exact k
 ·exact h
def zdx{H:Heap}{a v:α}{H':Heap}(hd:Dj H G) (h:(v,H)=(a,H')):(some (v,H.plus G):Option (α×Heap))=some (a,H'.plus G)/\Dj H' G:=by
 injection h with h1 h2
 subst h1 h2;exact⟨rfl,hd⟩
def zlP{H:Heap}{a v:α}{H':Heap}{id:Nat}{b:Blk}{o:Option Blk}(hd:Dj H G)(hb:H.get id=some b) (h:(v,H.set id o)=(a,H')):(some (v,(H.plus G).set id o):Option (α×Heap))=some (a,H'.plus G)/\Dj H' G:=by
 injection h with h1 h2
 subst h1 h2;obtain⟨e,d⟩:=hd.set hb o;exact⟨by rw[e],d⟩
def zlQ{H:Heap}{a v:α}{H':Heap}{b:Blk}(hd:Dj H G) (h:(v,H.new b)=(a,H')):(some (v,(H.plus G).new b):Option (α×Heap))=some (a,H'.plus G)/\Dj H' G:=by
 injection h with h1 h2
 subst h1 h2;obtain⟨e,d⟩:=hd.new b;exact⟨by rw[e],d⟩
def fr_snew{H:Heap}{a v:α}{H':Heap}{id:Nat}{b c:Blk}{o:Option Blk}(hd:Dj H G)(hb:H.get id=some b) (h:(v,(H.set id o).new c)=(a,H')):(some (v,((H.plus G).set id o).new c):Option (α×Heap))=some (a,H'.plus G)/\Dj H' G:=by
 injection h with h1 h2
 subst h1 h2;obtain⟨e,d⟩:=hd.set hb o;obtain⟨e',d'⟩:=d.new c;exact⟨by rw[e,e'],d'⟩
def zeb{p:Prop}[Decidable p] {X Y:Option (α×Heap)} {X' Y':Option (α×Heap)} {a:α} {H':Heap} {R:Prop} (h1:X=some (a,H')->X'=some (a,H'.plus G)/\R) (h2:Y=some (a,H')->Y'=some (a,H'.plus G)/\R) (h:(if p then X else Y)=some (a,H')):(if p then X' else Y')=some (a,H'.plus G)/\R:=by
 by_cases hp:p
 ·rw[if_pos hp]at h ⊢;exact h1 h
 ·rw[if_neg hp]at h ⊢;exact h2 h
def zaV{a:α}{H':Heap}{X:Prop} (h:(none:Option (α×Heap))=some (a,H')):X:=by cases h
def zgK{H:Heap}{id:Nat} {k k':Blk->Option (α×Heap)} {a:α} {H':Heap} (hd:Dj H G) (h:(H.get id).bind k=some (a,H')) (hk:∀b,H.get id=some b->k b=some (a,H')->k' b=some (a,H'.plus G)/\Dj H' G):((H.plus G).get id).bind k'=some (a,H'.plus G)/\Dj H' G:=by
 rw[yab]at h;obtain⟨b,hb,h⟩:=h;rw[hd.get hb];exact hk b hb h
def zno{γ:Type}{o:Option γ}{k k':γ->α×Heap}{a:α}{H':Heap}{R:Prop} (h:o.map k=some (a,H')) (hk:∀b,some (k b)=some (a,H')->some (k' b)=some (a,H'.plus G)/\R):o.map k'=some (a,H'.plus G)/\R:=by
 cases o with
 | none=>cases h
 | some b=>exact hk b h
end
def zbe{γ:Type}{x y:γ}(h:some x=some y):x=y:=ycq h
def zsY(n:Option Nat)(p:V):FrM G (mload n p):=by
 intro H a H' hd h;cases p<;>first|exact zaV h|skip
 ·exact zgK hd h λb hb h=>zno h λv h=>zdx hd (zbe h)
 ·exact zno h λv h=>zdx hd (zbe h)
def fr_store(n:Nat)(p x:V):FrM G (mstore n p x):=by
 intro H a H' hd h;cases p<;>first|exact zaV h|skip
 exact zgK hd h λb hb h=>zeb (λh=>zlP hd hb (zbe h)) zaV h
def fr_box(ty:TypeId)(x:V):FrM G (mbox ty x):=by
 intro H a H' hd h;exact zeb (λh=>zlQ hd (zbe h)) zaV h
def fr_slit(ty:TypeId)(l:Nat)(z:List V) (ps:List (Nat×Nat×V)):FrM G (mslit ty l z ps):=by
 intro H a H' hd h;exact zno h λcs h=>zlQ hd (zbe h)
def zmW(hd:Dj H G){e:Nat}{v:V}{q:List V×Nat}(h:rcells e H v=some q):rcells e (H.plus G) v=some q:=by
 cases v<;>first|exact h|skip
 simp only[rcells,yab]at h ⊢;obtain⟨b,hb,h⟩:=h;exact⟨b,hd.get hb,h⟩
def zts(hd:Dj H G){e:Nat}{v:V}{q:List V×Nat}(h:acells e H v=some q):acells e (H.plus G) v=some q:=by
 cases v with
 | sl id off len cap=>exact zmW (v:=.sl id off len cap) hd h
 | _=>exact h
def fr_ac{α:Type}{H:Heap}{e:Nat}{v:V} {k k':List V×Nat->Option (α×Heap)} {a:α} {H':Heap} (hd:Dj H G) (h:(acells e H v).bind k=some (a,H')) (hk:∀q,k q=some (a,H')->k' q=some (a,H'.plus G)/\Dj H' G):(acells e (H.plus G) v).bind k'=some (a,H'.plus G)/\Dj H' G:=by
 rw[yab]at h;obtain⟨q,hq,h⟩:=h;rw[zts hd hq];exact hk q h
def fr_rc{α:Type}{H:Heap}{e:Nat}{v:V} {k k':List V×Nat->Option (α×Heap)} {a:α} {H':Heap} (hd:Dj H G) (h:(rcells e H v).bind k=some (a,H')) (hk:∀q,k q=some (a,H')->k' q=some (a,H'.plus G)/\Dj H' G):(rcells e (H.plus G) v).bind k'=some (a,H'.plus G)/\Dj H' G:=by
 rw[yab]at h;obtain⟨q,hq,h⟩:=h;rw[zmW hd hq];exact hk q h
def zo6(ty e b:Nat)(q:List V×Nat)(x:V):FrM G (mappendq ty e b q x):=by
 intro H a H' hd h;cases x<;>first|exact zaV h|skip
 ·exact zeb (λh=>zdx hd (zbe h)) (zeb (λh=>zlQ hd (zbe h)) zaV) h
 ·rename_i id off len cap;refine zgK hd h λb hb h=>zeb (λh=>?_) zaV h;cases cap with
  | fix c=>exact zeb (zeb (λh=>zlP hd hb (zbe h)) zaV) (zeb (λh=>zlQ hd (zbe h)) zaV) h
  | opn ee=>exact zeb (zeb (λh=>zdx hd (zbe h)) (zeb (λh=>fr_snew hd hb (zbe h)) zaV)) (zeb (λh=>zdx hd (zbe h)) (zeb (λh=>zlP hd hb (zbe h)) zaV)) h
 ·exact zeb (λh=>zdx hd (zbe h)) zaV h
def zx6(ty e b:Nat)(x y:V):FrM G (mappend ty e b x y):=by
 intro H a H' hd h;exact fr_ac hd h λq h=>zo6 ty e b q x H a H' hd h
def zvC(ty b:Nat)(z:List V)(x y:V):FrM G (mappendz ty b z x y):=by
 intro H a H' hd h;cases y<;>first|exact zaV h|skip
 exact zeb (λh=>zo6 _ _ _ _ _ H a H' hd h) zaV h
def fr_copy(e:Nat)(x y:V):FrM G (mcopy e x y):=by
 intro H a H' hd h;refine fr_ac hd h λq h=>?_;cases x<;>first|exact zaV h|skip
 ·exact zdx hd (zbe h)
 ·exact zgK hd h λb hb h=>zeb (λh=>zlP hd hb (zbe h)) zaV h
def fr_tostr(x:V):FrM G (mtostr x):=by
 intro H a H' hd h;exact fr_rc hd h λq h=>zno h λv h=>zdx hd (zbe h)
def zo5(ty:TypeId)(x:V):FrM G (mtobytes ty x):=by
 intro H a H' hd h;cases x<;>first|exact zaV h|skip
 exact zeb (λh=>zlQ hd (zbe h)) zaV h
def zx0(ty:TypeId)(x:V):FrM G (mremark ty x):=by
 intro H a H' hd h;cases x<;>first|exact zaV h|skip
 ·exact zo5 ty (.str _) H a H' hd h
 ·exact zgK hd h λb hb h=>zeb zaV (λh=>zdx hd (zbe h)) h
def zvz(ty b:Nat)(z:List V)(l c:V):FrM G (mmkslice ty b z l c):=by
 intro H a H' hd h;unfold mmkslice at h ⊢;split at h
 ·exact zeb (λh=>zlQ hd (zbe h)) zaV h
 ·exact zaV h
def fr_mknz(ty:TypeId)(x:V):FrM G (mmknz ty x):=by
 intro H a H' hd h;unfold mmknz at h ⊢;split at h
 ·exact zeb (λh=>zlQ hd (zbe h)) zaV h
 ·exact zaV h
def zxZ(e:Nat)(x lo hi:V):FrM G (mslice2 e x lo hi):=by
 intro H a H' hd h;unfold mslice2 at h ⊢;split at h
 ·exact zgK hd h λb hb h=>zeb (λh=>zdx hd (zbe h)) zaV h
 ·exact zaV h
def fr_clear(z:List V)(x:V):FrM G (mclear z x):=by
 intro H a H' hd h;cases x<;>first|exact zaV h|skip
 exact zeb (λh=>zdx hd (zbe h)) (λh=>zgK hd h λb hb h=>zeb (λh=>zlP hd hb (zbe h)) zaV h) h
def fr_mkmap(ty:TypeId):FrM G (mmkmap ty):=by
 intro H a H' hd h;exact zlQ hd (zbe h)
def zx3(mk:MK)(z:V)(ok:Bool)(x k:V):FrM G (mlookup mk z ok x k):=by
 intro H a H' hd h;cases x<;>first|exact zaV h|skip
 exact zgK hd h λb hb h=>zeb (λh=>zno h λv h=>zdx hd (zbe h)) zaV h
def zx1(mk:MK)(x k v:V):FrM G (mmapset mk x k v):=by
 intro H a H' hd h;cases x<;>first|exact zaV h|skip
 exact zgK hd h λb hb h=>zeb (λh=>zno h λv h=>zlP hd hb (zbe h)) zaV h
def zx2(x:V):FrM G (mmaplen x):=by
 intro H a H' hd h;cases x<;>first|exact zaV h|skip
 rename_i id;have h':(H.get id).bind (λb=>some (V.int .i64 ((b.cells.length/2:Nat):Int),H))=some (a,H'):=by rw[<-h];simp only[mmaplen];cases H.get id<;>rfl
 have:=zgK (k':=λb=>some (V.int .i64 ((b.cells.length/2:Nat):Int),H.plus G)) hd h' λb hb h=>zdx hd (zbe h);rw[<-this.1];exact⟨by simp only[mmaplen];cases (H.plus G).get id<;>rfl,this.2⟩
def fr_aload(k:IntKind)(p:V):FrM G (matoload k p):=by
 intro H a H' hd h;unfold matoload at h ⊢;rw[yab]at h;obtain⟨⟨v,H1⟩,h1,h⟩:=h;obtain⟨e1,d1⟩:=zsY none p H v H1 hd h1;rw[e1];dsimp only[Option.bind_some]at h ⊢;cases v<;>first|exact zaV h|skip
 exact zeb (λh=>zdx d1 (zbe h)) zaV h
def fr_aadd(k:IntKind)(p y:V):FrM G (matoadd k p y):=by
 intro H a H' hd h;unfold matoadd at h ⊢;split at h
 ·refine zgK hd h λb hb h=>?_;split at h
  ·rename_i hc;exact zeb (λh=>zlP hd hb (zbe h)) zaV h
  ·exact zaV h
 ·exact zaV h
def zvA(p:Bool)(o:Nat)(x n:V):FrM G (mmapdrop p o x n):=by
 intro H a H' hd h;unfold mmapdrop at h ⊢;split at h
 ·refine zgK hd h λb hb h=>?_;split at h
  ·rename_i hc;exact zgK hd h λb hb h=>zno h λv h=>zlP hd hb (zbe h)
  ·exact zaV h
 ·exact zaV h
section
variable {g:Sem'}
def zaK{A:Fr}{x:Arg}{k:V->M V} (h:∀v,FrM G (k v)):FrM G (with1 A x k):=by
 unfold with1;cases x.ev A with
 | none=>exact zct
 | some v=>exact h v
def zmv{A:Fr}{xs:List Arg}{k:List V->M V} (h:∀v,FrM G (k v)):FrM G (withs A xs k):=by
 unfold withs;cases evs A xs with
 | none=>exact zct
 | some v=>exact h v
def fr_run (hg:∀f args,FrM G (g f args)) (A:Fr) (ins:I):FrM G (ins.run g A):=by
 cases ins<;>unfold I.run<;>dsimp only
 case mkmap=>exact fr_mkmap _
 case build zero parts=>cases zaX A parts with|none=>exact zct|some ps=>exact zfs _
 case slit=>rename_i ps;cases zaX A ps with|none=>exact zct|some ps=>exact fr_slit _ _ _ _
 case call f args=>exact zmv λv=>hg f v
 case mkfn f caps=>exact zmv λv=>zb8 _
 case callv x args=>exact zaK λv=>zmv λvs=>by cases v<;>first|exact zct|exact hg _ _
 case slice ck esz x lo hi mx=>
  refine zaK λv=>?_;split
  ·exact zfs _
  ·exact zct
 case minmax=>exact zaK λv=>zmv λvs=>zfs _
 all_goals first
  | exact zaK λv=>zb8 _
  | exact zaK λv=>zfs _
  | exact zaK λv=>zaK λw=>zfs _
  | exact zaK λv=>zaK λw=>zaK λu=>zfs _
  | exact zaK λv=>fr_box _ _
  | exact zaK λv=>zsY _ _
  | exact zaK λv=>fr_tostr _
  | exact zaK λv=>zo5 _ _
  | exact zaK λv=>zx0 _ _
  | exact zaK λv=>fr_mknz _ _
  | exact zaK λv=>fr_clear _ _
  | exact zaK λv=>zx2 _
  | exact zaK λv=>fr_aload _ _
  | exact zaK λv=>zaK λw=>fr_store _ _ _
  | exact zaK λv=>zaK λw=>zx6 _ _ _ _ _
  | exact zaK λv=>zaK λw=>zvC _ _ _ _ _
  | exact zaK λv=>zaK λw=>fr_copy _ _ _
  | exact zaK λv=>zaK λw=>zvz _ _ _ _ _
  | exact zaK λv=>zaK λw=>zx3 _ _ _ _ _
  | exact zaK λv=>zaK λw=>fr_aadd _ _ _
  | exact zaK λv=>zaK λw=>zvA _ _ _ _
  | exact zaK λv=>zaK λw=>zaK λu=>zxZ _ _ _ _
  | exact zaK λv=>zaK λw=>zaK λu=>zx1 _ _ _ _
def zvB{A:Fr} {gd:Option (Nat×Bool)} {x:M V} (h:FrM G x):FrM G (guarded A gd x):=by
 unfold guarded;cases gd with
 | none=>exact h
 | some p=>
  dsimp only;cases A.get p.1 with
  | none=>exact zct
  | some v=>
   cases v with
   | bool b=>
    dsimp only;by_cases hb:b=p.2
    ·rw[if_pos hb];exact h
    ·rw[if_neg hb];exact zb8 _
   | tup vs=>cases vs with|nil=>exact zb8 _|cons _ _=>exact zct
   | _=>exact zct
def zvD (hg:∀f args,FrM G (g f args)) (A:Fr) (o:AO):FrM G (o.run g A):=zvB (fr_run hg A o.ins)
def fr_ops (hg:∀f args,FrM G (g f args)):∀(l:List AO) (A:Fr),FrM G (zeP g l A)
 | [],A=>zb8 A
 | o::l,A=>zbG (zvD hg A o) λv=>fr_ops hg l _
def zxY(v:V)(h h':Heap):FrR G (M.unch v h h') (M.unch v (h.plus G) (h'.plus G)):=by
 intro H a H' hd e;unfold M.unch at e ⊢;split at e
 ·rename_i hp;rw[if_pos]
  ·exact zdx hd (zbe e)
  ·intro id hid;show(match G.g id with|some b=>some b|none=>h'.get id)=(match G.g id with|some b=>some b|none=>h.get id);rw[hp id hid]
 ·exact zaV e
def zqb (un:List (Nat×Nat)) (j:Nat) (h h':Heap):∀rs,FrR G (zbn un j h h' rs) (zbn un j (h.plus G) (h'.plus G) rs)
 | []=>zb8 ()
 | (i,a)::rs=>by
  unfold zbn;by_cases hc:un.contains (i,j)=true
  ·rw[if_pos hc,if_pos hc];exact zbG (zxY a h h') λ_=>zqb un j h h' rs
  ·rw[if_neg hc,if_neg hc];exact zqb un j h h' rs
def zqc (un:List (Nat×Nat)) (i:Nat) (a:V):∀js,FrR G (zbk un i a js) (zbk un i a (js.map λq=>(q.1,q.2.1.plus G,q.2.2.plus G)))
 | []=>zb8 ()
 | (j,h,h')::js=>by
  show FrR G (zbk un i a ((j,h,h')::js)) (zbk un i a ((j,h.plus G,h'.plus G)::js.map λq=>(q.1,q.2.1.plus G,q.2.2.plus G)));unfold zbk;by_cases hc:un.contains (i,j)=true
  ·rw[if_pos hc,if_pos hc];exact zbG (zxY a h h') λ_=>zqc un i a js
  ·rw[if_neg hc,if_neg hc];exact zqc un i a js
def zx4{α:Type}{f f':Heap->M α} (h:∀H,Dj H G->FrR G (f H) (f' (H.plus G))):FrR G (M.getH.bind f) (M.getH.bind f'):=by
 intro H a H' hd e;exact h H hd H a H' hd e
def fr_draw (hg:∀f args,FrM G (g f args)) (un:List (Nat×Nat)):∀(l:List AO) (p:Nat) (rs:List (Nat×V)) (js:List (Nat×Heap×Heap)) (A:Fr),FrR G (zaP g un p rs js l A) (zaP g un p rs (js.map λq=>(q.1,q.2.1.plus G,q.2.2.plus G)) l A):=by
 intro l
 induction l with
 | nil=>intro p rs js A;exact zb8 A
 | cons o l ih=>
  intro p rs js A;unfold zaP;cases hk:o.ins.kind with
  | read x=>
   dsimp only;unfold zaP.with1';cases x.ev A with
   | none=>exact zbG (zvD hg A o) λv=>zbG (zqc un p _ js) λ_=>ih _ _ _ _
   | some a=>exact zbG (zvD hg A o) λv=>zbG (zqc un p _ js) λ_=>ih _ _ _ _
  | act=>exact zx4 λh hd=>zbG (zvD hg A o) λv=>zx4 λh' hd'=>zbG (zqb un p h h' rs) λ_=>ih _ _ ((p,h,h')::js) _
  | pure=>exact zbG (zvD hg A o) λv=>ih _ _ _ _
  | new=>exact zbG (zvD hg A o) λv=>ih _ _ _ _
def fr_iter{body:List V->M Res} (h:∀L,FrM G (body L)) (L:List V):FrM G (M.iter body L):=by
 intro H a H' hd e;obtain⟨n,hn⟩:=zfp e;have key:∀(n:Nat) (L:List V),FrM G (iterN body n L):=by
  intro n
  induction n with
  | zero=>intro L;exact zct
  | succ n ih=>
   intro L;show FrM G (M.join (body L) (iterN body n));refine zbG (h L) λr=>?_;cases r with
   | nrm L'=>exact ih L'
   | ex id L'=>exact zb8 _
   | ret L'=>exact zb8 _
 obtain⟨e1,d1⟩:=key n L H a H' hd hn;exact⟨zhd e1,d1⟩
def zlo(A:Fr):∀rv,FrM G (results A rv)
 | []=>zb8 _
 | .tmp t::rs=>zbG (zfs _) λv=>zbG (zlo A rs) λvs=>zb8 _
 | .cell t n::rs=>zbG (zfs _) λa=>zbG (zsY n a) λv=>zbG (zlo A rs) λvs=>zb8 _
def fr_exec (hg:∀f args,FrM G (g f args)) (rv:List RV):∀(c:C) (cx:List (Nat×List Nat)) (J:List Nat) (A:Fr),FrM G (exec g rv c cx J A):=by
 intro c
 induction c with
 | done=>intro cx J A;exact zbG (zfs _) λL=>zb8 _
 | bad=>intro cx J A;exact zct
 | ops l k ih=>intro cx J A;exact zbG (fr_ops hg l A) λA'=>ih _ _ _
 | draw l un k ih=>intro cx J A;exact zbG (fr_draw hg un l 0 [] [] A) λA'=>ih _ _ _
 | cond x a b iha ihb=>
  intro cx J A;simp only[exec];cases x.ev A with
  | none=>exact zct
  | some c=>exact fr_ite c (iha _ _ _) (ihb _ _ _)
 | condJ x a b J' W k iha ihb ihk=>
  intro cx J A;simp only[exec];cases x.ev A with
  | none=>exact zct
  | some c=>
   refine zbG (fr_ite c (iha _ _ _) (ihb _ _ _)) λr=>?_;cases r with
   | nrm L=>exact ihk _ _ _
   | ex id L=>exact zb8 _
   | ret L=>exact zb8 _
 | blk id a J' W k iha ihk=>
  intro cx J A;simp only[exec,M.blk];refine zbG (iha _ _ _) λr=>?_;cases r with
  | nrm L=>exact ihk _ _ _
  | ex i L=>
   dsimp only;by_cases e:i=id
   ·simp only[if_pos e];exact ihk _ _ _
   ·simp only[if_neg e];exact zb8 _
  | ret L=>exact zb8 _
 | loop a K W iha=>
  intro cx J A;exact zbG (zfs _) λL=>fr_iter (λL=>iha _ _ _) L
 | exit id=>
  intro cx J A;simp only[exec];cases zjm cx id with
  | none=>exact zct
  | some J=>exact zbG (zfs _) λL=>zb8 _
 | ret=>intro cx J A;exact zbG (zlo A rv) λL=>zb8 _
def fr_fn (hg:∀f args,FrM G (g f args)) (f:Fn') (args:List V):FrM G (f.run g args):=zbG (fr_exec hg _ _ _ _ _) λr=>by
 cases r with
 | ret L=>exact zb8 _
 | nrm L=>exact zct
 | ex id L=>exact zct
end
def zx5{T:FuncId->Option Fn'}:∀(n:Nat) (f:FuncId) (args:List V),FrM G (deep T n f args)
 | 0,f,args=>zct
 | n+1,f,args=>by
  unfold deep;cases T f with
  | none=>exact zct
  | some ir=>
   dsimp only;split
   ·exact fr_fn (zx5 n) ir args
   ·exact zct
def fr_sem{T:FuncId->Option Fn'}(f:FuncId)(args:List V):FrM G (sem T f args):=by
 intro H a H' hd e;unfold sem at e;split at e
 ·obtain⟨e1,d1⟩:=zx5 _ f args H a H' hd e;exact⟨zjH e1,d1⟩
 ·cases e
def Heap.sans(H:Heap)(N:Nat->Bool):Heap:=⟨λi=>if i<H.next/\N i=true then none else H.get i,H.next⟩
def ok_sans{T:FuncId->Option Fn'}{f:FuncId}{args:List V}{H:Heap}{Q:V->Heap->Prop}(N:Nat->Bool) (h:Ok (sem T f args) (H.sans N) Q) :
  Ok (sem T f args) H λv H'=>∃H1,Q v H1/\H'.next=H1.next/\H.next<=H'.next/\(∀i,i<H.next->N i=true->H'.get i=H.get i)/\∀i,¬(i<H.next/\N i=true)->H'.get i=H1.get i:=by
 obtain⟨v,H1,h1,hq⟩:=h;have hG:∀i b,(if i<H.next/\N i=true then H.get i else none)=some b->decide (i<H.next/\N i=true)=true:=λi b hb=>by
  by_cases hc:i<H.next/\N i=true
  ·exact decide_eq_true hc
  ·rw[if_neg hc]at hb;cases hb
 generalize hR:(⟨λi=>if i<H.next/\N i=true then H.get i else none,λi=>decide (i<H.next/\N i=true),H.next,hG⟩:Rst)=G;have hg:∀i,G.g i=if i<H.next/\N i=true then H.get i else none:=λi=>by rw[<-hR]
 have hr:∀i,G.r i=decide (i<H.next/\N i=true):=λi=>by rw[<-hR]
 have hn:G.n=H.next:=by rw[<-hR]
 have hd:Dj (H.sans N) G:=by
  refine⟨by rw[hn];exact yag _,λi hb=>?_⟩;rw[hr]at hb;have hb:=of_decide_eq_true hb;exact⟨if_pos hb,by rw[hn];exact hb.1⟩
 have e:(H.sans N).plus G=H:=by
  show Heap.mk _ _=H;congr 1;funext i;rw[hg];by_cases hc:i<H.next/\N i=true
  ·rw[if_pos hc];cases hgi:H.get i with
   | none=>show(if i<H.next/\N i=true then none else H.get i)=none;rw[if_pos hc]
   | some b=>rfl
  ·rw[if_neg hc];exact if_neg hc
 obtain⟨e1,d1⟩:=fr_sem f args (H.sans N) v H1 hd h1;rw[e]at e1;refine⟨v,_,e1,H1,hq,rfl,by have:=d1.low;rw[hn]at this;exact this,λi h1 h2=>?_,λi hi=>?_⟩
 ·have hz:=(d1.non' i (by rw[hr];exact decide_eq_true ⟨h1,h2⟩)).1;show(match G.g i with|some b=>some b|none=>H1.get i)=H.get i;rw[hg,if_pos ⟨h1,h2⟩,hz];cases H.get i<;>rfl
 ·show(match G.g i with|some b=>some b|none=>H1.get i)=H1.get i;rw[hg,if_neg hi]
end
def look(l:List Nat) (r:Option (V×Cc.Heap)):Option (V×List (Option Blk)):=r.map λq=>(q.1,l.map q.2.get)
end Go.Ax
/- Or3 -/
namespace Go.Ax.SU
open Go.Ax Go.Proofs
def lowV(j:Nat):V->Bool
 | .lit (.int .u8 n)=>decide (n.toNat<1000*j)
 | _=>true
def lowL(j:Nat)(l:List V):Bool:=l.all λv=>lowV j v&&bokd v
def lowB(j:Nat):Bd->Bool
 | .hm a b=>lowL j a&&lowL j b
 | .ex a b _=>lowL j a&&lowL j b
 | .se i k a _ m p=>(match szs i with|some _=>true|none=>false)&&(Nat.blt k 18446744073709551616&&(lowL j a&&(lowL j m&&lowL j p)))
def lowT:Nat->List Bd->Bool
 | _,[]=>true
 | j,d::l=>lowB j d&&lowT (j+1) l
section
variable {q:Nat->List Nat}
def zlO{j:Nat}{s s':Nat->Nat}(h:∀n,n<1000*j->s n=s' n):∀{l:List V},lowL j l=true->iv s q l=iv s' q l
 | [],_=>rfl
 | x::l,hl=>by
  simp only[lowL,yba,yam]at hl;have ih:=zlO h (l:=l) hl.2;have h0:=hl.1.2;unfold bokd at h0;split at h0
  ·show q _++iv s q l=q _++iv s' q l;rw[ih]
  ·unfold bok1 at h0;split at h0
   ·show _::iv s q l = _::iv s' q l;rw[ih]
   ·rename_i n _;have h1:=hl.1.1;simp only[lowV,decide_eq_true_eq]at h1;show s _::iv s q l=s' _::iv s' q l;rw[ih,h _ h1]
   ·cases h0
def val_low{j:Nat}{s s':Nat->Nat}(h:∀n,n<1000*j->s n=s' n){d:Bd}(hd:lowB j d=true):val s q d=val s' q d:=by
 cases d with
 | hm a b=>
  simp only[lowB,yam]at hd;simp only[val,zlO h hd.1,zlO h hd.2]
 | ex a b n=>
  simp only[lowB,yam]at hd;simp only[val,zlO h hd.1,zlO h hd.2]
 | se i k a c m p=>
  simp only[lowB,yam]at hd;simp only[val,zlO h hd.2.2.1,zlO h hd.2.2.2.1,zlO h hd.2.2.2.2]
def lowL_d{j:Nat}{l:List V}(h:lowL j l=true):l.all bokd=true:=yaz.2 λx hx=>by
 have:=yaz.1 h x hx;simp only[yam]at this;exact this.2
def val_8{j:Nat}{s:Nat->Nat}(hs:SQ s q){d:Bd}(hd:lowB j d=true):Ok8 (val s q d):=by
 cases d with
 | hm a b=>exact zlm _ _ _
 | ex a b n=>exact Ok8.take (zjQ kc _ _ _).1 _
 | se i k a c m p=>
  simp only[lowB,yam]at hd;simp only[val];cases hz:szs i with
  | none=>exact Ok8.nil
  | some x=>
   obtain⟨n,t⟩:=x;exact zoM (zcq hz (yau hd.2.1)).ws (iv_8 hs (lowL_d hd.2.2.2.2)).1
def sOf(q:Nat->List Nat):List Bd->Nat->(Nat->Nat)->Nat->Nat
 | [],_,s=>s
 | d::l,j,s=>sOf q l (j+1) λn=>if n/1000=j then (val s q d).getD (n%1000) 0 else s n
def zsw:∀(l:List Bd) (j:Nat) (s:Nat->Nat) (n:Nat),n<1000*j->sOf q l j s n=s n
 | [],j,s,n,h=>rfl
 | d::l,j,s,n,h=>by
  show sOf q l (j+1) _ n=s n;rw[zsw l (j+1) _ n (by omega),if_neg (by omega)]
def sOf_sq (hq8:∀n,Ok8 (q n)) (hql:∀n,(q n).length<=1048576):∀(l:List Bd) (j:Nat) (s:Nat->Nat),lowT j l=true->SQ s q->SQ (sOf q l j s) q
 | [],j,s,_,h=>h
 | d::l,j,s,hl,h=>by
  simp only[lowT,yam]at hl;refine sOf_sq hq8 hql l (j+1) _ hl.2 ⟨λn=>?_,hq8,hql⟩;show(if n/1000=j then (val s q d).getD (n%1000) 0 else s n)<256;split
  ·exact getD_lt (val_8 h hl.1) _
  ·exact h.s8 n
def sOf_v:∀(l:List Bd) (j:Nat) (s:Nat->Nat),lowT j l=true->∀i d,l[i]?=some d->∀k,k<1000->sOf q l j s (1000*(j+i)+k)=(val (sOf q l j s) q d).getD k 0
 | [],j,s,_,i,d,hi,k,hk=>by cases hi
 | d0::l,j,s,hl,0,d,hi,k,hk=>by
  simp only[lowT,yam]at hl;simp only[yaE,yaa]at hi;subst hi;have e1:sOf q (d0::l) j s (1000*(j+0)+k)=(val s q d0).getD k 0:=by
   show sOf q l (j+1) _ (1000*(j+0)+k) = _;rw[zsw l (j+1) _ _ (by omega),if_pos (by omega),show(1000*(j+0)+k)%1000=k by omega]
  rw[e1,val_low (j:=j) (s:=sOf q (d0::l) j s) (s':=s) (λn hn=>zsw (d0::l) j s n hn) hl.1]
 | d0::l,j,s,hl,i+1,d,hi,k,hk=>by
  simp only[lowT,yam]at hl;have:=sOf_v l (j+1) (λn=>if n/1000=j then (val s q d0).getD (n%1000) 0 else s n) hl.2 i d hi k hk;rw[show j+(i+1)=j+1+i by omega];exact this
def tab_ex{t:Tabs}(h:lowT 0 t.bs=true) (hq8:∀n,Ok8 (q n)) (hql:∀n,(q n).length<=1048576):∃s,TabV t s q:=
 ⟨sOf q t.bs 0 λ_=>0,sOf_sq hq8 hql _ _ _ h ⟨λ_=>by decide,hq8,hql⟩,λj d hd i _ hi=>by
  have:=sOf_v (q:=q) t.bs 0 (λ_=>0) h j d hd i hi
  rwa [ya8]at this⟩
def zsV{t:Tabs}{s:Nat->Nat}(h:TabV t s q){j:Nat}{b:Bd} (hb:t.bs[j]?=some b) {n:Nat} (hl:(val s q b).length=n) (h1:n<=1000):iv s q (syms j 0 n)=val s q b:=by
 have h2:=zmH h (d:=⟨λ_=>0,λ_=>.any,s⟩) rfl hb (o:=0) (n:=n) (by omega) (by omega);have h3:=(iv_1 (d:=⟨λ_=>0,λ_=>.any,s⟩) (q:=q) (cs:=syms j 0 n) (yaz.2 λx hx=>by
  obtain⟨i,_,rfl⟩:=yaW.1 hx;rfl)).1
 rw[h2,yaA]at h3;exact((List.map_inj_right (λx y h=>by
  have:V.int .u8 (x:Nat)=V.int .u8 (y:Nat):=h;injection this with _ h
  omega)).1 h3).symm
def st_0{t:Tabs}{s:Nat->Nat}{ws:List V} (hw:∀(m:Nat) (v:V),ws[m]?=some v->∃l,t.ks[m]?=some (0,Kd.sl l)/\(∀H,By 0 H v (iv s q l))/\l.all bokd=true/\v.pid=none) (h0:0<t.ks.length) {H:Heap} (hc:H.Cl) :
  Y.St (tbOf t s q) ⟨⟨λ_=>0,λm=>(ws[m]?).getD .any,s⟩,λ_=>False,λm=>m<ws.length⟩ (Cc.hp (List.replicate t.ks.length none)).abs H:=by
 have hg:∀n i,(Cc.hp (List.replicate n none)).abs.get i=none:=λn=>by
  induction n with
  | zero=>intro i;rfl
  | succ n ih=>intro i;exact ih i
 have hn:∀n,(Cc.hp (List.replicate n none)).abs.next=n:=λn=>by rw[Cc.hp_next,yaF]
 refine⟨rfl,λi b hi=>(by rw[hg]at hi;cases hi),λi hi=>hi.elim,λi hi=>?_,by rw[hn];exact yag _,λi j hi=>hi.elim,λi hi=>hi.elim,λd hd i b hi=>(by rw[hg]at hi;cases hi),λi hi=>hi.elim,hc,λi _ hi=>hi.elim,λi _ hi=>hi.elim,λi j _ _ hi=>hi.elim,λm _ hi=>hi.elim,λm hm=>?_⟩
 ·have hi:i<ws.length:=hi;obtain⟨l,h1,_⟩:=hw i _ (yae hi);exact(yaw.1 h1).1
 ·have hm:m<ws.length:=hm;obtain⟨l,h1,h2,h3,h4⟩:=hw m _ (yae hm);refine⟨?_,H.next,H,?_,yag _,λi h5 h6=>by omega,λi h5 h6=>by omega⟩
  ·show(match t.ks[m]? with|some p=>p.1|none=>0) < _;rw[h1,hn];exact h0
  ·show(match t.ks[m]? with|some (_,.sl l)=>By H.next H ((ws[m]?).getD .any) (iv s q l)/\l.all bokd=true|some (_,.any)=>True | _=>False);rw[h1,yae hm];exact⟨⟨(h2 H).rc,λi hi=>(by rw[Option.getD_some]at hi;rw[h4]at hi;cases hi),(h2 H).cap⟩,h3⟩
end
def hTs:∀f ir,T f=some ir->ir.body.still=true:=λf ir h=>zlF h
def sym_ok{t:Tabs}{q:Nat->List Nat}{s:Nat->Nat}(ht:TabV t s q){ws:List V} (hw:∀(m:Nat) (v:V),ws[m]?=some v->∃l,t.ks[m]?=some (0,Kd.sl l)/\(∀H,By 0 H v (iv s q l))/\l.all bokd=true/\v.pid=none) (h0:0<t.ks.length)
  {f:FuncId} {m:Nat} {args args':List V} {v:V} {l:List Nat} {os:List (Option Blk)} (hr:Ax.look l (Y.cdo T selO (orc t.fnd) m f args (Cc.hp (List.replicate t.ks.length none)))=some (v,os))
  (ha:∀d:Y.Nm,(∀(m:Nat) (v:V),ws[m]?=some v->d.w m=v)->args'=Y.shL d args) {H:Heap} (hc:H.Cl) :
  Ok (sem T f args') H λr H'=>∃g h',Y.St (tbOf t s q) g h' H'/\r=Y.sh g.e v/\os=l.map h'.get/\Grow H H'/\H'.Cl/\∀i,g.nf i->H.next<=g.e.f i:=by
 unfold Ax.look at hr;obtain⟨⟨v',c⟩,hr2,e⟩:=yac.1 hr;injection e with e1 e2
 subst e1 e2;clear hr;have st0:=st_0 (t:=t) (s:=s) (q:=q) hw h0 hc;obtain⟨g',b,K',e1,s1,f1,r1⟩:=Y.run_ok hTs (orc_ok ht) hr2 (args':=args') st0 λd hd=>ha d λm v hm=>by
  have:=hd.2.2 m (yaw.1 hm).1;rw[this];show(ws[m]?).getD .any=v;rw[hm];rfl
 refine⟨b,K',e1,g',c.abs,s1,r1 g'.e (Y.Ag.self g'),rfl,⟨f1.le,λi hi=>f1.fr i hi λj b hj=>?_⟩,s1.cl,λi hi=>?_⟩
 ·exact absurd (st0.kn j b hj).1 (λx=>x)
 ·exact f1.ex.new i hi (λx=>x)
end Go.Ax.SU
/- Lk3 -/
namespace Go.Ax.SU
open Go.Ax
def bl(n:Nat):Nat:=if n=0 then 0 else n.log2+1
def bl_div(n:Nat)(h:0<n):bl n=bl (n/2)+1:=by
 unfold bl;rw[if_neg (by omega)];by_cases e:n/2=0
 ·rw[if_pos e];have:n=1:=by omega
  subst this;rfl
 ·rw[if_neg e,Nat.log2_def,if_pos (by omega)]
def lt_bl(n:Nat):n<2 ^ bl n:=by
 unfold bl;split
 ·omega
 ·exact Nat.lt_log2_self
def bl_le(n:Nat)(h:0<n):2 ^ (bl n-1)<=n:=by
 unfold bl;rw[if_neg (by omega)];exact Nat.log2_self_le (by omega)
def zdq(n k:Nat):bl n<=k<->n<2 ^ k:=by
 constructor
 ·intro h;exact yai (lt_bl n) (ybB (by decide) h)
 ·intro h;by_cases h0:n=0
  ·subst h0;simp[bl]
  ·by_cases hk:bl n<=k
   ·exact hk
   ·have h1:=bl_le n (by omega);have:2 ^ k<=2 ^ (bl n-1):=ybB (by decide) (by omega);omega
def zlG(x:Nat)(h:x<256):Ax.sindex (.str zcb) (.int .u8 (x:Int))=some (.int .u8 (bl x:Nat)):=by
 have key:∀y:Fin 256,(zcb[y.val]?).map UInt8.toNat=some (bl y.val):=by decide +kernel
 have:=key ⟨x,h⟩;simp only[Ax.sindex];rw[if_pos (by omega)];simp only[yan];cases ht:zcb[x]? with
 | none=>rw[ht]at this;cases this
 | some b=>rw[ht]at this;simp only[yat,yaa]at this ⊢;rw[this]
def zth(n k m:Nat)(hm:m=2 ^ k)(h:0<n/m):bl n=bl (n/m)+k:=by
 subst hm
 induction k with
 | zero=>simp
 | succ k ih=>
  have e:n/2 ^ (k+1)=(n/2 ^ k)/2:=by rw[ybu,ycc]
  rw[e]at h ⊢;have h':0<n/2 ^ k:=by omega
  rw[ih h',bl_div _ h'];omega
def len64(n:Nat)(h:n<18446744073709551616):sem T zcW [.int .u64 n]=M.pure (.int .i64 (bl n:Nat)):=by
 refine zgE λH=>?_;refine zkn ?_;unfold zgX uL uB uR uK uc uq ug;simp(disch:=omega)only[↓RD,RZ,eq_self,seval];refine zcm (λh1=>?_) (λh1=>?_)
 ·have b1:=zth n 32 4294967296 rfl (by omega);simp(disch:=omega)only[↓RD,RZ,eq_self,seval];refine zcm (λh2=>?_) (λh2=>?_)
  ·have b2:=zth (n/4294967296) 16 65536 rfl (by omega);simp(disch:=omega)only[↓RD,RZ,eq_self,seval];refine zcm (λh3=>?_) (λh3=>?_)
   ·have b3:=zth (n/4294967296/65536) 8 256 rfl (by omega);have b8:bl (n/4294967296/65536/256)<=8:=(zdq _ 8).2 (by omega);simp(disch:=omega)only[↓RD,RZ,eq_self,seval,zlG];congr 1;omega
   ·have b8:bl (n/4294967296/65536)<=8:=(zdq _ 8).2 (by omega);simp(disch:=omega)only[↓RD,RZ,eq_self,seval,zlG];congr 1;omega
  ·simp(disch:=omega)only[↓RD,RZ,eq_self,seval];refine zcm (λh3=>?_) (λh3=>?_)
   ·have b3:=zth (n/4294967296) 8 256 rfl (by omega);have b8:bl (n/4294967296/256)<=8:=(zdq _ 8).2 (by omega);simp(disch:=omega)only[↓RD,RZ,eq_self,seval,zlG];congr 1;omega
   ·have b8:bl (n/4294967296)<=8:=(zdq _ 8).2 (by omega);simp(disch:=omega)only[↓RD,RZ,eq_self,seval,zlG];congr 1;omega
 ·simp(disch:=omega)only[↓RD,RZ,eq_self,seval];refine zcm (λh2=>?_) (λh2=>?_)
  ·have b2:=zth n 16 65536 rfl (by omega);simp(disch:=omega)only[↓RD,RZ,eq_self,seval];refine zcm (λh3=>?_) (λh3=>?_)
   ·have b3:=zth (n/65536) 8 256 rfl (by omega);have b8:bl (n/65536/256)<=8:=(zdq _ 8).2 (by omega);simp(disch:=omega)only[↓RD,RZ,eq_self,seval,zlG];congr 1;omega
   ·have b8:bl (n/65536)<=8:=(zdq _ 8).2 (by omega);simp(disch:=omega)only[↓RD,RZ,eq_self,seval,zlG];congr 1;omega
  ·simp(disch:=omega)only[↓RD,RZ,eq_self,seval];refine zcm (λh3=>?_) (λh3=>?_)
   ·have b3:=zth n 8 256 rfl (by omega);have b8:bl (n/256)<=8:=(zdq _ 8).2 (by omega);simp(disch:=omega)only[↓RD,RZ,eq_self,seval,zlG];congr 1;omega
   ·have b8:bl (n)<=8:=(zdq _ 8).2 (by omega);simp(disch:=omega)only[↓RD,RZ,eq_self,seval,zlG];congr 1;omega
def wsv(w:WS):V:=.agg [.bool w.1,.int .u64 (w.2.1:Nat),.int .u64 (w.2.2:Nat)]
def wsR(w:WS):Prop:=w.2.1<18446744073709551616/\w.2.2<18446744073709551616
def zp7(w:WS):Bool:=if w.1 then decide (w.2.2%2=1)&&decide (bl w.2.2<=w.2.1+1) else decide (w.2.1=0)&&decide (w.2.2=0)
def mayW(w:WS)(n:Nat):Nat:=if zp7 w=false then 1 else if w.1=false\/w.2.1<n then 0 else if 64<=w.2.1-n\/shr w.2.2 (w.2.1-n)%2=1 then 9 else 0
def zhY(w:WS)(n:Nat):WS:=if w.1=false then (true,n,1) else if w.2.1<n then (true,n,w.2.2*2 ^ min (n-w.2.1) 64%18446744073709551616 ||| 1) else (true,w.2.1,w.2.2 ||| 2 ^ (w.2.1-n))
def zxS{H:Heap}{w:WS}(hw:wsR w):Ok (sem T zen [wsv w]) H λr H'=>r = .bool (zp7 w)/\Grow H H':=by
 refine zob ?_;unfold zkJ uL uS uFM uB uG uH uO uU uZ uR uq;obtain⟨a,hi,se⟩:=w;obtain⟨h1,h2⟩:=hw;dsimp only at h1 h2;have s1:=Grow.new H ⟨zan,[.bool a,.int .u64 (hi:Nat),.int .u64 (se:Nat)],none⟩;unfold wsv;cases a with
 | false=>
  have e:Ax.eqr (.st [.bool,.int,.int]) false (.agg [.bool false,.int .u64 (hi:Nat),.int .u64 (se:Nat)]) (.agg [.bool false,.int .u64 0,.int .u64 0])=some (.bool (zp7 (false,hi,se))):=by
   have d1:(((hi:Nat):Int)==0)=decide (hi=0):=by
    by_cases h:hi=0
    ·subst h;rfl
    ·rw[decide_eq_false h];have:¬((hi:Nat):Int)=0:=by omega
     simpa using this
   have d2:(((se:Nat):Int)==0)=decide (se=0):=by
    by_cases h:se=0
    ·subst h;rfl
    ·rw[decide_eq_false h];have:¬((se:Nat):Int)=0:=by omega
     simpa using this
   simp only[Ax.eqr,eqv,za0,if_true,yat,zp7,yaO,if_false,beq_self_eq_true,ycp,yaH,d1,d2]
  simp(disch:=first|omega|(simp only[RY]<;>omega)|decide)only[↓RD,RZ,eq_self,seval,e];exact s1
 | true=>
  have hb:=len64 se h2;have l1:bl se<=64:=(zdq _ _).2 (by omega);by_cases h:se%2=1
  ·have c1:(((se &&& 1:Nat):Int)==1)=true:=by rw[ycA,h];rfl
   have b1:1<=bl se:=by
    have:=(zdq se 0);omega
   have w1:IntKind.u64.wrap ((bl se:Nat):Int)=((bl se:Nat):Int):=by rw[wrap_u64];omega
   have w2:IntKind.u64.wrap (((bl se:Nat):Int)-1)=((bl se-1:Nat):Int):=by rw[wrap_u64];omega
   have g:zp7 (true,hi,se)=decide (bl se-1<=hi):=by
    simp only[zp7,if_true,h,decide_true,ycp];exact decide_eq_decide.2 (by omega)
   have d:decide (((bl se-1:Nat):Int)<=((hi:Nat):Int))=decide (bl se-1<=hi):=decide_eq_decide.2 (by omega);simp(disch:=first|omega|(simp only[RY]<;>omega)|decide)only[↓RD,RZ,eq_self,seval,c1,hb,w1,w2,g,d];exact s1
  ·have c1:(((se &&& 1:Nat):Int)==1)=false:=by rw[ycA,show se%2=0 by omega];rfl
   have g:zp7 (true,hi,se)=false:=by simp only[zp7,if_true,decide_eq_false h,ycG]
   simp(disch:=first|omega|(simp only[RY]<;>omega)|decide)only[↓RD,RZ,eq_self,seval,c1,g];exact s1
def zt3{H:Heap}{w:WS}{n:Nat}(hw:wsR w)(hn:n<18446744073709551616):Ok (sem T zdS [wsv w,.int .u64 (n:Nat)]) H λr H'=>r = .int .i64 (mayW w n:Nat)/\Grow H H':=by
 refine zpO ?_;unfold zlS uL uS uFM uB uG uH uO uA uR uK uc uq;have hgw:=λH=>@zxS H w hw;obtain⟨a,hi,se⟩:=w;obtain⟨h1,h2⟩:=hw;dsimp only at h1 h2;have s1:=Grow.new H ⟨zan,[.bool a,.int .u64 (hi:Nat),.int .u64 (se:Nat)],none⟩;have g1:(H.new ⟨zan,[.bool a,.int .u64 (hi:Nat),.int .u64 (se:Nat)],none⟩).get H.next=some ⟨zan,[.bool a,.int .u64 (hi:Nat),.int .u64 (se:Nat)],none⟩:=zaf _ _;have n1:(H.new ⟨zan,[.bool a,.int .u64 (hi:Nat),.int .u64 (se:Nat)],none⟩).next=H.next+1:=zae _ _;unfold wsv;dsimp only;simp(maxSteps:=1000000) (disch:=first|omega|(simp only[RY]<;>omega)|decide)only[↓RD,RZ,eq_self,Int.reduceToNat,Int.reduceAdd,Int.reduceSub,Int.reduceMul,Nat.reduceAdd,Nat.reduceSub,Nat.reduceMul,Nat.reduceDiv,Nat.reduceMod,Nat.reduceBEq,Nat.reduceLeDiff];generalize hq:H.next=q at *;generalize H.new _=H1 at *;refine zad (hgw H1) ?_;rintro _ H2 ⟨rfl,s2⟩;have g2:=(s2.same q (by omega)).trans g1;have s12:=s1.trans s2;cases hg:zp7 (a,hi,se) with
 | false=>
  have e:mayW (a,hi,se) n=1:=by simp only[mayW,hg,if_true]
  simp(maxSteps:=1000000) (disch:=first|omega|(simp only[RY]<;>omega)|decide)only[↓RD,RZ,eq_self,Int.reduceToNat,Int.reduceAdd,Int.reduceSub,Int.reduceMul,Nat.reduceAdd,Nat.reduceSub,Nat.reduceMul,Nat.reduceDiv,Nat.reduceMod,Nat.reduceBEq,Nat.reduceLeDiff,e];exact⟨rfl,s12⟩
 | true=>
  cases a with
  | false=>
   have e:mayW (false,hi,se) n=0:=by simp[mayW,hg]
   simp(maxSteps:=1000000) (disch:=first|omega|(simp only[RY]<;>omega)|decide)only[↓RD,RZ,eq_self,Int.reduceToNat,Int.reduceAdd,Int.reduceSub,Int.reduceMul,Nat.reduceAdd,Nat.reduceSub,Nat.reduceMul,Nat.reduceDiv,Nat.reduceMod,Nat.reduceBEq,Nat.reduceLeDiff,g2,e];exact⟨rfl,s12⟩
  | true=>
   by_cases h3:hi<n
   ·have e:mayW (true,hi,se) n=0:=by simp[mayW,hg,h3]
    have d:decide (hi<n)=true:=decide_eq_true h3;simp(maxSteps:=1000000) (disch:=first|omega|(simp only[RY]<;>omega)|decide)only[↓RD,RZ,eq_self,Int.reduceToNat,Int.reduceAdd,Int.reduceSub,Int.reduceMul,Nat.reduceAdd,Nat.reduceSub,Nat.reduceMul,Nat.reduceDiv,Nat.reduceMod,Nat.reduceBEq,Nat.reduceLeDiff,g2,d,e];exact⟨rfl,s12⟩
   ·have d:decide (hi<n)=false:=decide_eq_false h3;have w1:IntKind.u64.wrap (((hi:Nat):Int)-((n:Nat):Int))=((hi-n:Nat):Int):=by rw[wrap_u64];omega
    by_cases h4:64<=hi-n
    ·have e:mayW (true,hi,se) n=9:=by simp[mayW,hg,h3,h4]
     have d4:decide (64<=hi-n)=true:=decide_eq_true h4;have d4':decide ((64:Int)<=((hi-n:Nat):Int))=true:=decide_eq_true (by omega);simp(maxSteps:=1000000) (disch:=first|omega|(simp only[RY]<;>omega)|decide)only[↓RD,RZ,eq_self,Int.reduceToNat,Int.reduceAdd,Int.reduceSub,Int.reduceMul,Nat.reduceAdd,Nat.reduceSub,Nat.reduceMul,Nat.reduceDiv,Nat.reduceMod,Nat.reduceBEq,Nat.reduceLeDiff,g2,d,w1,d4,d4',e];exact⟨rfl,s12⟩
    ·have hb:shr se (hi-n)<18446744073709551616:=yc5 (zws _ _) h2;have d4:decide (64<=hi-n)=false:=decide_eq_false h4;have d4':decide ((64:Int)<=((hi-n:Nat):Int))=false:=decide_eq_false (by omega);by_cases h5:shr se (hi-n)%2=1
     ·have e:mayW (true,hi,se) n=9:=by simp[mayW,hg,h3,h5]
      have c1:(((shr se (hi-n) &&& 1:Nat):Int)==1)=true:=by rw[ycA,h5];rfl
      simp(maxSteps:=1000000) (disch:=first|omega|(simp only[RY]<;>omega)|decide)only[↓RD,RZ,eq_self,Int.reduceToNat,Int.reduceAdd,Int.reduceSub,Int.reduceMul,Nat.reduceAdd,Nat.reduceSub,Nat.reduceMul,Nat.reduceDiv,Nat.reduceMod,Nat.reduceBEq,Nat.reduceLeDiff,g2,d,w1,d4,d4',c1,e];exact⟨rfl,s12⟩
     ·have e:mayW (true,hi,se) n=0:=by simp[mayW,hg,h3,h4,h5]
      have c1:(((shr se (hi-n) &&& 1:Nat):Int)==1)=false:=by rw[ycA,show shr se (hi-n)%2=0 by omega];rfl
      simp(maxSteps:=1000000) (disch:=first|omega|(simp only[RY]<;>omega)|decide)only[↓RD,RZ,eq_self,Int.reduceToNat,Int.reduceAdd,Int.reduceSub,Int.reduceMul,Nat.reduceAdd,Nat.reduceSub,Nat.reduceMul,Nat.reduceDiv,Nat.reduceMod,Nat.reduceBEq,Nat.reduceLeDiff,g2,d,w1,d4,d4',c1,e];exact⟨rfl,s12⟩
def zt4{w:WS}{n:Nat}(h:mayW w n=0)(ha:w.1=true)(hn:¬w.2.1<n):¬64<=w.2.1-n:=by
 intro h4;unfold mayW at h;split at h
 ·cases h
 ·rw[if_neg (by simp[ha,hn]),if_pos (.inl h4)]at h;cases h
def shl_u64{a k:Nat}:Ax.bin .shl (.int .u64 (a:Nat)) (.int .u64 (k:Nat))=some (.int .u64 (a*2 ^ min k 64%18446744073709551616:Nat)):=by
 have h0:¬((k:Nat):Int)<0:=by omega
 simp only[Ax.bin,if_neg h0,wrap_u64,yan];have:((a:Nat):Int)*2 ^ min k 64=((a*2 ^ min k 64:Nat):Int):=by push_cast;rfl
 show some (V.int .u64 (((a:Nat):Int)*2 ^ min k 64%18446744073709551616)) = _;rw[this];rfl
def zxC{H:Heap}{w:WS}{n:Nat}(hw:wsR w)(hn:n<18446744073709551616):Ok (sem T zem [wsv w,.int .u64 (n:Nat)]) H λr H'=>Grow H H'/\(mayW w n=0->r = .tup [wsv (zhY w n),.int .i64 0])/\(mayW w n≠0->r = .tup [wsv (false,0,0),.int .i64 (mayW w n:Nat)]):=by
 refine zoa ?_;unfold zkI uL uS uT uF uFM uB uO uA uR uK uc uq;have hgw:=λH=>@zt3 H w n hw hn;obtain⟨a,hi,se⟩:=w;obtain⟨h1,h2⟩:=hw;dsimp only at h1 h2;have s0:=Grow.new H ⟨zan,[.bool a,.int .u64 (hi:Nat),.int .u64 (se:Nat)],none⟩;have g0:(H.new ⟨zan,[.bool a,.int .u64 (hi:Nat),.int .u64 (se:Nat)],none⟩).get H.next=some ⟨zan,[.bool a,.int .u64 (hi:Nat),.int .u64 (se:Nat)],none⟩:=zaf _ _;have n0:(H.new ⟨zan,[.bool a,.int .u64 (hi:Nat),.int .u64 (se:Nat)],none⟩).next=H.next+1:=zae _ _;unfold wsv;dsimp only;refine zaQ (zdO rfl ?_);rw[zaD];generalize hq:H.next=q at *;generalize H.new _=H0 at *;refine zaQ (zdO rfl ?_);rw[zaD];have s1:=s0.trans (Grow.new H0 ⟨zan,[.bool false,.int .u64 0,.int .u64 0],none⟩);have g1:=(zas H0 ⟨zan,[.bool false,.int .u64 0,.int .u64 0],none⟩ (i:=q) (by omega)).trans g0;have p1:(H0.new ⟨zan,[.bool false,.int .u64 0,.int .u64 0],none⟩).get H0.next=some ⟨zan,[.bool false,.int .u64 0,.int .u64 0],none⟩:=zaf _ _;have n1:(H0.new ⟨zan,[.bool false,.int .u64 0,.int .u64 0],none⟩).next=q+2:=by rw[zae,n0]
 rw[n0]at *;generalize H0.new _=H1 at *;simp(maxSteps:=1000000) (disch:=first|omega|(simp only[RY]<;>omega)|decide)only[↓RD,RZ,eq_self,Int.reduceToNat,Int.reduceAdd,Int.reduceSub,Int.reduceMul,Nat.reduceAdd,Nat.reduceSub,Nat.reduceMul,Nat.reduceDiv,Nat.reduceMod,Nat.reduceBEq,Nat.reduceLeDiff,g1];refine zad (hgw H1) ?_;rintro _ H2 ⟨rfl,s2⟩;have g2:=(s2.same q (by omega)).trans g1;have p2:=(s2.same (q+1) (by omega)).trans p1;have s12:=s1.trans s2;have n2:=s2.next;have fin:∀b,Grow H (H2.set (q+1) b):=λb=>s12.set (by omega) b;have fin2:∀b b',Grow H ((H2.set q b).set (q+1) b'):=λb b'=>(s12.set (by omega) b).set (by omega) b';by_cases hm:mayW (a,hi,se) n=0
 ·have e0:(((mayW (a,hi,se) n:Nat):Int) != 0)=false:=by rw[hm];rfl
  cases a with
  | false=>
   have em:zhY (false,hi,se) n=(true,n,1):=rfl;simp(maxSteps:=1000000) (disch:=first|omega|(simp only[RY]<;>omega)|decide)only[↓RD,RZ,eq_self,Int.reduceToNat,Int.reduceAdd,Int.reduceSub,Int.reduceMul,Nat.reduceAdd,Nat.reduceSub,Nat.reduceMul,Nat.reduceDiv,Nat.reduceMod,Nat.reduceBEq,Nat.reduceLeDiff,e0,g2,p2];exact⟨fin _,λ_=>by rw[em];rfl,λh=>absurd hm h⟩
  | true=>
   by_cases h3:hi<n
   ·have em:zhY (true,hi,se) n=(true,n,se*2 ^ min (n-hi) 64%18446744073709551616 ||| 1):=by simp[zhY,h3]
    have d:decide (hi<n)=true:=decide_eq_true h3;have w1:IntKind.u64.wrap (((n:Nat):Int)-((hi:Nat):Int))=((n-hi:Nat):Int):=by rw[wrap_u64];omega
    have sh:=@shl_u64 se (n-hi);have hb:se*2 ^ min (n-hi) 64%18446744073709551616<18446744073709551616:=ybc _ (by decide);generalize se*2 ^ min (n-hi) 64%18446744073709551616=z at *;simp(maxSteps:=1000000) (disch:=first|omega|(simp only[RY]<;>omega)|decide)only[↓RD,RZ,eq_self,Int.reduceToNat,Int.reduceAdd,Int.reduceSub,Int.reduceMul,Nat.reduceAdd,Nat.reduceSub,Nat.reduceMul,Nat.reduceDiv,Nat.reduceMod,Nat.reduceBEq,Nat.reduceLeDiff,e0,g2,p2,d,w1,sh];exact⟨fin _,λ_=>by rw[em],λh=>absurd hm h⟩
   ·have d:decide (hi<n)=false:=decide_eq_false h3;have h4:¬64<=hi-n:=zt4 hm rfl h3;have em:zhY (true,hi,se) n=(true,hi,se ||| 2 ^ (hi-n)):=by simp[zhY,h3]
    have w1:IntKind.u64.wrap (((hi:Nat):Int)-((n:Nat):Int))=((hi-n:Nat):Int):=by rw[wrap_u64];omega
    have sh:Ax.bin .shl (.int .u64 1) (.int .u64 (hi-n:Nat))=some (.int .u64 (2 ^ (hi-n):Nat)):=by
     have:=@shl_u64 1 (hi-n);rw[Nat.one_mul,ya7 (by omega),yaB (yai (ycW (by decide) (show hi-n<64 by omega)) (by decide))]at this;exact this
    have hb:2 ^ (hi-n)<18446744073709551616:=yai (ycW (by decide) (show hi-n<64 by omega)) (by decide);generalize 2 ^ (hi-n)=z at *;simp(maxSteps:=1000000) (disch:=first|omega|(simp only[RY]<;>omega)|decide)only[↓RD,RZ,eq_self,Int.reduceToNat,Int.reduceAdd,Int.reduceSub,Int.reduceMul,Nat.reduceAdd,Nat.reduceSub,Nat.reduceMul,Nat.reduceDiv,Nat.reduceMod,Nat.reduceBEq,Nat.reduceLeDiff,e0,g2,p2,d,w1,sh];exact⟨fin2 _ _,λ_=>by rw[em],λh=>absurd hm h⟩
 ·have e0:(((mayW (a,hi,se) n:Nat):Int) != 0)=true:=by
   have:¬((mayW (a,hi,se) n:Nat):Int)=0:=by omega
   simpa using this
  simp(maxSteps:=1000000) (disch:=first|omega|(simp only[RY]<;>omega)|decide)only[↓RD,RZ,eq_self,Int.reduceToNat,Int.reduceAdd,Int.reduceSub,Int.reduceMul,Nat.reduceAdd,Nat.reduceSub,Nat.reduceMul,Nat.reduceDiv,Nat.reduceMod,Nat.reduceBEq,Nat.reduceLeDiff,e0,p2];exact⟨fin _,λh=>absurd h hm,λ_=>rfl⟩
end Go.Ax.SU
/- Re21 -/
namespace Go.Ax.SU
open Go.Ax
end Go.Ax.SU
namespace Go.Ax
open SU
end Go.Ax
/- Lk5 -/
namespace Go.Ax.SU
open Go.Ax
abbrev SS:=Option (Ky×Int×Int×Nat)
def sndC(id slot:Int)(kv:V)(e st:Int)(kid c:Nat):List V:=[.int .i64 id,.int .i64 slot,kv,.int .i64 e,.int .i64 st,.int .u64 (kid:Nat),.int .u64 (c:Nat)]
def zoH.to{lo k:Nat}{H H':Heap}(h:zoH lo H k)(e:H'.get k=H.get k):zoH lo H' k:=λx y a av sv g=>h x y a av sv (e ▸ g)
def zoH.low{lo lo' k:Nat}{H:Heap}(h:zoH lo H k)(hl:lo'<=lo):zoH lo' H k:=λx y a av sv g j hj=>yax hl (h x y a av sv g j hj)
def KeyM.atL{lo:Nat}{S:List Nat}{H H':Heap}{k:Nat}{K:Ky}(h:KeyM H k K)(hl:zoH lo H k)(s:AtS S H H')(hS:∀i∈S,i<lo/\∃b,H.get i=some b/\b.ty≠zaR/\b.ty≠zaT/\b.ty≠zaw):KeyM H' k K/\H'.get k=H.get k:=by
 obtain⟨a,av,sv,h1,h2,h3,h4⟩:=h.mem;obtain⟨id,g1,g2,l1,l2,hw⟩:=h2;have hne:∀{i b},H.get i=some b->(b.ty=zaR\/b.ty=zaT\/b.ty=zaw)->i∉S:=λhb ho e=>by
  obtain⟨_,b',hb',o1,o2,o3⟩:=hS _ e;rw[hb]at hb';injection hb' with hb'
  subst hb';rcases ho with o|o|o
  ·exact o1 o
  ·exact o2 o
  ·exact o3 o
 have by':∀{v:V} {l:List Nat},By 0 H v l->(∀j,v.pid=some j->lo<=j)->By 0 H' v l:=λhv hj=>Lc.atS hv s λi hi e=>by
  have:=(hS _ e).1;have:=hj i hi;omega
 have hlo:=hl _ _ _ _ _ h1;have ek:=s.same k h.low (hne h1 (.inl rfl));refine⟨⟨h.good,⟨a,av,sv,ek.trans h1,⟨id,?_,?_,yai l1 s.next,yai l2 s.next,hw⟩,by' h3 λj hj=>hlo j (.inl hj),by' h4 λj hj=>hlo j (.inr hj)⟩,yai h.low s.next⟩,ek⟩
 ·rw[s.same a l1 (hne g1 (.inr (.inl rfl)))];exact g1
 ·rw[s.same id l2 (hne g2 (.inr (.inr rfl)))];exact g2
def zbF(H:Heap)(k:Nat)(a b:Option Blk):(H.set k a).set k b=H.set k b:=by
 unfold Heap.set;congr 1;funext i;dsimp only;split<;>rfl
def odd_snd(id slot:Int){kv:V}(e st:Int)(kid c:Nat)(hk:kv = .nilp\/∃k,kv = .ptr k 0):Odd ⟨zaA,sndC id slot kv e st kid c,none⟩:=by
 refine⟨show zaA≠zaR by decide,show zaA≠zaT by decide,show zaA≠zaw by decide,λv hv n e=>?_⟩;subst e;unfold sndC at hv;rcases hk with rfl|⟨k,rfl⟩<;>simp at hv
def sealS(x:SS)(p:List Nat):SS:=
 match x with
 | none=>none
 | some (K,e,st,c)=>if 1000<p.length then some (K,e,st,c) else some (K,e,st,(c+1)%18446744073709551616)
def OddR(b:Blk):Prop:=Odd b/\b.ty≠zab/\b.ty≠zav
structure ChainM (lo:Nat) (H:Heap) (q st:Nat) (base:List Nat):Prop where
 low:q<H.next
 lo':lo<=q
 mem:∃bv,H.get q=some ⟨zav,[.int .i64 (st:Nat),bv],none⟩/\By lo H bv base/\∀i,bv.pid=some i->∃b,H.get i=some b/\b.ty=zab
 b8:Ok8 base
 bl:base.length<=1099511627
 st31:st<=31
def ChainM.atS{lo:Nat}{S:List Nat}{H H':Heap}{q st:Nat}{base:List Nat}(h:ChainM lo H q st base)(s:AtS S H H')(hS:∀i∈S,i<lo\/∃b,H.get i=some b/\OddR b):ChainM lo H' q st base:=by
 obtain⟨bv,h1,h2,h3⟩:=h.mem;have hq:q∉S:=λe=>by
  rcases hS q e with h4|⟨b,hb,ho⟩
  ·have:=h.lo';omega
  ·rw[h1]at hb;injection hb with hb;subst hb;exact ho.2.2 rfl
 have hv:∀i,bv.pid=some i->i∉S:=λi hi e=>by
  rcases hS i e with h4|⟨b,hb,ho⟩
  ·have:=(h2.own i hi).1;omega
  ·obtain⟨b',hb',ht⟩:=h3 i hi;rw[hb]at hb';injection hb' with hb';subst hb';exact ho.2.1 ht
 exact⟨yai h.low s.next,h.lo',⟨bv,(s.same q h.low hq).trans h1,Lc.atS h2 s hv,λi hi=>by
  obtain⟨b,hb,ht⟩:=h3 i hi;exact⟨b,(s.same i (h2.own i hi).2 (hv i hi)).trans hb,ht⟩⟩,h.b8,h.bl,h.st31⟩
def ChainM.grow{lo:Nat}{H H':Heap}{q st:Nat}{base:List Nat}(h:ChainM lo H q st base)(s:Grow H H'):ChainM lo H' q st base:=h.atS (Grow.atS s []) λi hi=>by simp at hi
structure Rc where
 id:Nat
 ch:List ((Int×Int)×(Nat×List Nat))
 win:List (Nat×WS)
 ks:List (Nat×Ky)
def Al{α β γ:Type}(P:β->γ->Prop):List (α×β)->List (α×γ)->Prop
 | [],[]=>True
 | p::l,q::m=>p.1=q.1/\P p.2 q.2/\Al P l m
 | _,_=>False
def Al.mono{α β γ:Type}{P Q:β->γ->Prop}(h:∀b c,P b c->Q b c):∀{l:List (α×β)} {m:List (α×γ)},Al P l m->Al Q l m
 | [],[],_=>trivial
 | _ :: _,_ :: _,⟨h1,h2,h3⟩=>⟨h1,h _ _ h2,Al.mono h h3⟩
 | [],_ :: _,h=>h.elim
 | _ :: _,[],h=>h.elim
def Al.look{α β γ:Type}[DecidableEq α]{P:β->γ->Prop}(a:α):∀{l:List (α×β)} {m:List (α×γ)},Al P l m->(look a l=none/\look a m=none)\/∃x y,look a l=some x/\look a m=some y/\P x y
 | [],[],_=>.inl ⟨rfl,rfl⟩
 | (k,v)::l,(k',v')::m,⟨h1,h2,h3⟩=>by
  have h1:k=k':=h1;subst h1;simp only[SU.look];by_cases e:a=k
  ·rw[if_pos e,if_pos e];exact .inr ⟨_,_,rfl,rfl,h2⟩
  ·rw[if_neg e,if_neg e];exact Al.look a h3
 | [],_ :: _,h=>h.elim
 | _ :: _,[],h=>h.elim
def Al.put{α β γ:Type}[DecidableEq α]{P:β->γ->Prop}(a:α){x:β}{y:γ}(hp:P x y):∀{l:List (α×β)} {m:List (α×γ)},Al P l m->Al P (putl a x l) (putl a y m)
 | [],[],_=>⟨rfl,hp,trivial⟩
 | (k,v)::l,(k',v')::m,⟨h1,h2,h3⟩=>by
  have h1:k=k':=h1;subst h1;simp only[putl];by_cases e:a=k
  ·rw[if_pos e,if_pos e];exact⟨rfl,hp,h3⟩
  ·rw[if_neg e,if_neg e];exact⟨rfl,h2,Al.put a hp h3⟩
 | [],_ :: _,h=>h.elim
 | _ :: _,[],h=>h.elim
def mapv{α β:Type}(f:β->V) (l:List (α×β)):List (α×V):=l.map λp=>(p.1,f p.2)
def zku{α β:Type}[DecidableEq α](f:β->V)(a:α):∀l:List (α×β),look a (mapv f l)=(look a l).map f
 | []=>rfl
 | (k,v)::l=>by
  show look a ((k,f v)::mapv f l) = _;simp only[look];split
  ·rfl
  ·exact zku f a l
def zpL{α β:Type}[DecidableEq α](f:β->V)(a:α)(b:β):∀l:List (α×β),putl a (f b) (mapv f l)=mapv f (putl a b l)
 | []=>rfl
 | (k,v)::l=>by
  show putl a (f b) ((k,f v)::mapv f l) = _;simp only[putl];split
  ·rfl
  ·rw[zpL f a b l];rfl
def ptrv(k:Nat):V:=.ptr k 0
def zs6{α:Type}{ek:α->V} {l:List (α×V)} (h1:∀a n,ek a≠.int .u8 n) (h2:∀p∈l,∀n,p.2≠.int .u8 n):∀v∈encM ek l,∀n,v≠.int .u8 n:=by
 intro v hv n;unfold encM at hv;obtain⟨p,hp,hv⟩:=List.mem_flatMap.1 hv;simp only[yao,yap,or_false]at hv;rcases hv with rfl|rfl
 ·exact h1 _ _
 ·exact h2 p hp n
abbrev tyC:=zdL
abbrev tyW:=zfh
abbrev tyK:=zfU
def odd_c (l:List ((Int×Int)×Nat)):OddR ⟨tyC,encM eplc (mapv ptrv l),none⟩:=
 ⟨⟨show tyC≠zaR by decide,show tyC≠zaT by decide,show tyC≠zaw by decide,zs6 (λ_ _ h=>by cases h) λp hp n h=>by
  obtain⟨q,_,rfl⟩:=yaW.1 hp;cases h⟩,show tyC≠zab by decide,show tyC≠zav by decide⟩
def odd_w (l:List (Nat×WS)):OddR ⟨tyW,encM ekid (mapv wsv l),none⟩:=
 ⟨⟨show tyW≠zaR by decide,show tyW≠zaT by decide,show tyW≠zaw by decide,zs6 (λ_ _ h=>by cases h) λp hp n h=>by
  obtain⟨q,_,rfl⟩:=yaW.1 hp;cases h⟩,show tyW≠zab by decide,show tyW≠zav by decide⟩
def odd_k (l:List (Nat×Nat)):OddR ⟨tyK,encM ekid (mapv ptrv l),none⟩:=
 ⟨⟨show tyK≠zaR by decide,show tyK≠zaT by decide,show tyK≠zaw by decide,zs6 (λ_ _ h=>by cases h) λp hp n h=>by
  obtain⟨q,_,rfl⟩:=yaW.1 hp;cases h⟩,show tyK≠zab by decide,show tyK≠zav by decide⟩
structure RcM (H:Heap) (c:Nat) (R:Rc):Prop where
 top:c+4<=H.next
 rcd:H.get (c+3)=some ⟨zbw,[.int .i64 (R.id:Nat),.mp c,.mp (c+1),.mp (c+2)],none⟩
 ch:∃lc:List ((Int×Int)×Nat),H.get c=some ⟨tyC,encM eplc (mapv ptrv lc),none⟩/\Al (λq x=>ChainM (c+4) H q x.1 x.2) lc R.ch
 win:H.get (c+1)=some ⟨tyW,encM ekid (mapv wsv R.win),none⟩
 wr:∀p∈R.win,wsR p.2
 ks:∃lk:List (Nat×Nat),H.get (c+2)=some ⟨tyK,encM ekid (mapv ptrv lk),none⟩/\Al (λq x=>KeyM H q x) lk R.ks
def RcM.atS{S:List Nat}{H H':Heap}{c:Nat}{R:Rc}(h:RcM H c R)(s:AtS S H H')(hc:∀i∈S,i<c\/c+4<=i)(hS:∀i∈S,∃b,H.get i=some b/\OddR b):RcM H' c R:=by
 have ht:=h.top;have hn:∀i,c<=i->i<c+4->H'.get i=H.get i:=λi h1 h2=>s.same i (by omega) λe=>by have:=hc i e;omega
 obtain⟨lc,h1,h2⟩:=h.ch;obtain⟨lk,h3,h4⟩:=h.ks;exact⟨yax ht s.next,(hn _ (by omega) (by omega)).trans h.rcd,⟨lc,(hn _ (by omega) (by omega)).trans h1,h2.mono λ_ _ g=>g.atS s λi hi=>.inr (hS i hi)⟩,
  (hn _ (by omega) (by omega)).trans h.win,h.wr,⟨lk,(hn _ (by omega) (by omega)).trans h3,h4.mono λ_ _ g=>g.atS s λi hi=>by
   obtain⟨b,hb,ho⟩:=hS i hi;exact⟨b,hb,ho.1⟩⟩⟩
def RcM.grow{H H':Heap}{c:Nat}{R:Rc}(h:RcM H c R)(s:Grow H H'):RcM H' c R:=h.atS (Grow.atS s []) (λi hi=>by simp at hi) λi hi=>by simp at hi
def RcM.odd{H:Heap}{c:Nat}{R:Rc}(h:RcM H c R):∀i,c<=i->i<c+3->∃b,H.get i=some b/\OddR b:=by
 intro i h1 h2;obtain⟨lc,g1,_⟩:=h.ch;obtain⟨lk,g3,_⟩:=h.ks;have:i=c\/i=c+1\/i=c+2:=by omega
 rcases this with rfl|rfl|rfl
 ·exact⟨_,g1,odd_c _⟩
 ·exact⟨_,h.win,odd_w _⟩
 ·exact⟨_,g3,odd_k _⟩
def kok_plc(p:Int×Int):kok (.st [.int,.int]) (eplc p)=true:=rfl
def zp0(n:Nat):kok .int (ekid n)=true:=rfl
def zyR{lo q st:Nat}{H:Heap}{base:List Nat}(h:ChainM lo H q st base):Ok (sem T zce [.ptr q 0]) H λr H'=>r = .int .i64 (st:Nat)/\H'=H:=by
 refine zii ?_;unfold zeS uNFM uR;obtain⟨bv,h1,h2,h3⟩:=h.mem;simp(disch:=omega)only[↓RD,RZ,h1]
def At_c_ok{lo q st n:Nat}{H:Heap}{base:List Nat}(h:ChainM lo H q st base)(hn:n<=31)(hst:st<=n):Ok (sem T zcI [.ptr q 0,.int .i64 (n:Nat)]) H λr H'=>∃v,r = .tup [v,.int .i64 0]/\By H.next H' v (zd4 base (n-st))/\Grow H H':=by
 refine zjK ?_;unfold zgj uL uNFM uE uB uA uR uK uc;obtain⟨bv,h1,h2,h3⟩:=h.mem;have hw:=@zeQ _ _ _ _ (@zqI H ((n:Nat):Int));rw[decide_eq_true (show 0<=((n:Nat):Int)/\((n:Nat):Int)<=31 by omega)]at hw;have d:decide (((n:Nat):Int)<((st:Nat):Int))=false:=decide_eq_false (by omega);have w1:IntKind.i64.wrap (((n:Nat):Int)-((st:Nat):Int))=((n-st:Nat):Int):=by rw[wrap_i64 (by omega) (by omega)];omega
 simp(disch:=omega)only[↓RD,RZ,hw,h1,d,w1];refine zad (zv0 h2 h.b8 h.bl (by omega)) ?_;rintro _ H1 ⟨v,rfl,hv,s1⟩;simp(disch:=omega)only[↓RD,RZ];exact⟨v,rfl,hv,s1⟩
def keyR(R:Rc)(n t kid:Nat)(base:List Nat):Ky:=(look kid R.ks).getD (drv R.id kid n t base)
def ze1(R:Rc)(n t kid:Nat)(base:List Nat):Rc:=match look kid R.ks with|some _=>R|none=>{ R with ks:=putl kid (drv R.id kid n t base) R.ks }
def key_ok{lo c n t kid:Nat}{H:Heap}{R:Rc}{bv:V}{base:List Nat}(hR:RcM H c R) (hsz:szs R.id=some (n,t)) (hk:kid<18446744073709551616) (hb:By lo H bv base) (b8:Ok8 base) (bl:base.length<=1099511627776) :
  Ok (sem T zco [.ptr (c+3) 0,.int .u64 (kid:Nat),bv]) H λr H'=>∃k,r = .tup [.ptr k 0,.int .i64 0]/\KeyM H' k (keyR R n t kid base)/\RcM H' c (ze1 R n t kid base)/\AtS [c+1,c+2] H H':=by
 refine zi5 ?_;unfold zfK uL uNFM uE uB uA uR uK uc;have hr:=hR.rcd;have htop:=hR.top;obtain⟨lk,h3,h4⟩:=hR.ks;simp(disch:=omega)only[↓RD,RZ,hr];refine zlh (ek:=ekid) (a:=kid) zp1 (zp0 _) h3 ?_;rw[zku];rcases Al.look kid h4 with⟨a,b⟩|⟨k,K,a,b,hK⟩
 ·have e1:keyR R n t kid base=drv R.id kid n t base:=by unfold keyR;rw[b];rfl
  have e2:ze1 R n t kid base = { R with ks:=putl kid (drv R.id kid n t base) R.ks }:=by unfold ze1;rw[b]
  have e3:Ax.eqr .ptr true (((none:Option Nat).map ptrv).getD .nilp) .nilp=some (.bool false):=rfl;rw[a,e1,e2];simp(disch:=omega)only[↓RD,RZ,e3,hr];refine zad (zrY hsz hk hb b8 bl) ?_;rintro _ H1 ⟨s1,k,rfl,hK,hlow⟩;have hR1:=hR.grow s1;have hr1:=hR1.rcd;have n1:=s1.next;simp(disch:=omega)only[↓RD,RZ,hr1];obtain⟨lk',h3',h4'⟩:=hR1.ks;refine zoS (ek:=ekid) (a:=kid) (v:=ptrv k) zp1 (zp0 _) h3' ?_;rw[zpL];simp(disch:=omega)only[↓RD,RZ];have a1:AtS [c+1,c+2] H1 (H1.set (c+2) (some ⟨tyK,encM ekid (mapv ptrv (putl kid k lk')),none⟩)):=AtS.set _ (by simp) _;have nn:∀i,i≠c+2->(H1.set (c+2) (some ⟨tyK,encM ekid (mapv ptrv (putl kid k lk')),none⟩)).get i=H1.get i:=λi hi=>zaj _ _ hi;have hS:∀i∈[c+1,c+2],i<c+4\/∃b,H1.get i=some b/\OddR b:=λi hi=>by simp at hi;omega
  have hO:∀i∈[c+1,c+2],∃b,H1.get i=some b/\Odd b:=λi hi=>by
   obtain⟨b,hb,ho⟩:=hR1.odd i (by simp at hi;omega) (by simp at hi;omega);exact⟨b,hb,ho.1⟩
  obtain⟨lc,h1,h2⟩:=hR1.ch;refine⟨k,rfl,hK.atS a1 hO,⟨by rw[zam];omega,(nn _ (by omega)).trans hr1,⟨lc,(nn _ (by omega)).trans h1,h2.mono λ_ _ g=>g.atS a1 hS⟩,(nn _ (by omega)).trans hR1.win,hR1.wr,⟨putl kid k lk',zai _ _ _,?_⟩⟩,(Grow.atS s1 _).trans a1⟩;exact Al.put (P:=λq x=>KeyM (H1.set (c+2) (some ⟨tyK,encM ekid (mapv ptrv (putl kid k lk')),none⟩)) q x) kid (hK.atS a1 hO) (h4'.mono λ_ _ g=>g.atS a1 hO)
 ·have e1:keyR R n t kid base=K:=by unfold keyR;rw[b];rfl
  have e2:ze1 R n t kid base=R:=by unfold ze1;rw[b]
  have e3:Ax.eqr .ptr true (.ptr k 0) .nilp=some (.bool true):=rfl;have e4:((some k:Option Nat).map ptrv).getD .nilp = .ptr k 0:=rfl;rw[a,e1,e2,e4];simp(disch:=omega)only[↓RD,RZ,e3];exact⟨k,rfl,hK,hR,AtS.refl _ _⟩
inductive GR
 | err (e:Nat)
 | got (e st sl c:Nat) (p:List Nat)
def grv(H0 H:Heap)(r:V):GR->Prop
 | .err e=>r = .tup [.agg [.int .i64 0,.int .i64 0,.int .i64 0,.int .u64 0,.nils],.int .i64 (e:Nat)]
 | .got e st sl c p=>∃v,r = .tup [.agg [.int .i64 (e:Nat),.int .i64 (st:Nat),.int .i64 (sl:Nat),.int .u64 (c:Nat),v],.int .i64 0]/\By H0.next H v p
def winR(R:Rc)(k:Nat):WS:=(look k R.win).getD (false,0,0)
def zeY(R:Rc)(n t:Nat)(m b:List Nat):Rc×GR:=
 match parse b with
 | .err e=>(R,.err e)
 | .ok k c _=>
  if 16777216<=k then (R,.err 2) else
  match look (((k/256:Nat):Int),((k%8:Nat):Int)) R.ch with
  | none=>(R,.err 10)
  | some (st,base)=>
   if k%256/8<st then (R,.err 10) else
   if mayW (winR R k) c≠0 then (R,.err (mayW (winR R k) c)) else
   match zm3 (keyR R n t k (zd4 base (k%256/8-st))) b m with
   | .err e=>(ze1 R n t k (zd4 base (k%256/8-st)),.err e)
   | .ok p _=>({ ze1 R n t k (zd4 base (k%256/8-st)) with win:=putl k (zhY (winR R k) c) R.win },.got (k/256) (k%256/8) (k%8) c p)
def zxK(R:Rc)(n t kid:Nat)(base:List Nat):(ze1 R n t kid base).win=R.win:=by unfold ze1;split<;>rfl
def zud(R:Rc)(n t kid:Nat)(base:List Nat):(ze1 R n t kid base).ch=R.ch:=by unfold ze1;split<;>rfl
def zuc(R:Rc)(n t kid:Nat)(base:List Nat):(ze1 R n t kid base).id=R.id:=by unfold ze1;split<;>rfl
def zt7{α β:Type}[DecidableEq α]{a:α}{b:β}:∀{l:List (α×β)},look a l=some b->(a,b)∈l
 | [],h=>by cases h
 | (k,v)::l,h=>by
  simp only[look]at h;split at h
  ·rename_i e;subst e;injection h with h
   subst h;exact yaQ
  ·exact yaN _ (zt7 h)
def zt2{α β:Type}[DecidableEq α]{a:α}{b:β}{p:α×β}:∀{l:List (α×β)},p∈putl a b l->p=(a,b)\/p∈l
 | [],h=>by simp[putl]at h;exact .inl h
 | (k,v)::l,h=>by
  simp only[putl]at h;split at h
  ·rcases yao.1 h with h|h
   ·exact .inl h
   ·exact .inr (yaN _ h)
  ·rcases yao.1 h with h|h
   ·exact .inr (h ▸ yaQ)
   ·rcases zt2 h with h|h
    ·exact .inl h
    ·exact .inr (yaN _ h)
def winR_r{R:Rc}(h:∀p∈R.win,wsR p.2)(k:Nat):wsR (winR R k):=by
 unfold winR;cases hl:look k R.win with
 | none=>exact⟨by decide,by decide⟩
 | some w=>exact h _ (zt7 hl)
def markW_r{w:WS}{n:Nat}(hw:wsR w)(hn:n<18446744073709551616)(hm:mayW w n=0):wsR (zhY w n):=by
 obtain⟨a,hi,se⟩:=w;obtain⟨h1,h2⟩:=hw;dsimp only at h1 h2;unfold zhY;dsimp only;split
 ·exact⟨hn,show(1:Nat)<18446744073709551616 by decide⟩
 ·rename_i ha;have ha:a=true:=by simpa using ha
  subst ha;split
  ·exact⟨hn,yce (n:=64) (ybc _ (by decide)) (by decide)⟩
  ·rename_i h3;have h4:=zt4 hm rfl h3;dsimp only at h4;exact⟨h1,yce (n:=64) h2 (ycW (by decide) (by omega))⟩
def ztQ{b:List Nat}{e:Nat}(hp:parse b = .err e):e≠0:=by
 unfold parse at hp;split at hp
 ·injection hp with hp;omega
 ·dsimp only at hp;split at hp
  ·injection hp with hp;omega
  ·split at hp
   ·cases hp
   ·injection hp with hp;omega
def open_err{K:Ky}{b m:List Nat}{e:Nat}(h:zm3 K b m = .err e):e≠0:=by
 unfold zm3 at h;cases hp:parse b with
 | err e'=>rw[hp]at h;injection h with h;subst h;exact ztQ hp
 | ok kid c n=>
  rw[hp]at h;dsimp only at h;split at h
  ·injection h with h;omega
  ·split at h
   ·injection h with h;omega
   ·split at h
    ·injection h with h;omega
    ·split at h
     ·cases h
     ·injection h with h;omega
def neqz{e:Nat}(h:e≠0):(((e:Nat):Int)==0)=false:=by
 have:¬((e:Nat):Int)=0:=by omega
 simpa using this
def AtS.setn{S:List Nat}{H H':Heap}(h:AtS S H H'){q:Nat}(hq:H.next<=q)(b:Option Blk):AtS S H (H'.set q b):=
 ⟨by rw[zam];exact h.next,λi hi hs=>by rw[zaj _ _ (by omega)];exact h.same i hi hs⟩
def zxq{cs:List V}(h:∀v∈cs,∀n,v≠.int .u8 n):OddR ⟨zaN,cs,none⟩:=
 ⟨⟨show zaN≠zaR by decide,show zaN≠zaT by decide,show zaN≠zaw by decide,h⟩,show zaN≠zab by decide,show zaN≠zav by decide⟩
def OpenR_ok{lo1 lo2 c n t:Nat}{H:Heap}{R:Rc}{mv bv:V}{m b:List Nat}(hR:RcM H c R) (hsz:szs R.id=some (n,t)) (hm:By lo1 H mv m) (m8:Ok8 m) (hb:By lo2 H bv b) (b8:Ok8 b) (ml:m.length<=274877906944) (bl:b.length<=1099511627776)
  (hmp:∀i,mv.pid=some i->i<c\/c+4<=i) (hbp:∀i,bv.pid=some i->i<c\/c+4<=i) :
  Ok (sem T zcf [.ptr (c+3) 0,mv,bv]) H λr H'=>grv H H' r (zeY R n t m b).2/\RcM H' c (zeY R n t m b).1/\AtS [c+1,c+2] H H':=by
 refine zik ?_;unfold zeU uL uM uS uT uNFM uNF uE uB uG uH uO uU uA uZ uR uc uq;have htop:=hR.top;refine zaQ (zdO rfl ?_);rw[zaD];have s0:=Grow.new H ⟨zaN,[.int .i64 0,.int .i64 0,.int .i64 0,.int .u64 0,.nils],none⟩;have g0:(H.new ⟨zaN,[.int .i64 0,.int .i64 0,.int .i64 0,.int .u64 0,.nils],none⟩).get H.next=some ⟨zaN,[.int .i64 0,.int .i64 0,.int .i64 0,.int .u64 0,.nils],none⟩:=zaf _ _;have n0:(H.new ⟨zaN,[.int .i64 0,.int .i64 0,.int .i64 0,.int .u64 0,.nils],none⟩).next=H.next+1:=zae _ _;generalize hq:H.next=q at *;generalize H.new _=H0 at *;have hR0:=hR.grow s0;have hb0:=hb.ext s0;have hm0:=hm.ext s0;have fin:∀(H1:Heap) (R1:Rc) (cs:List V),RcM H1 c R1->AtS [c+1,c+2] H H1->H1.get q=some ⟨zaN,[.int .i64 0,.int .i64 0,.int .i64 0,.int .u64 0,.nils],none⟩ ->
   RcM (H1.set q (some ⟨zaN,cs,none⟩)) c R1/\AtS [c+1,c+2] H (H1.set q (some ⟨zaN,cs,none⟩)):=λH1 R1 cs h1 h2 h3=>
  ⟨h1.atS (AtS.set (S:=[q]) H1 (by simp) _) (λi hi=>by simp at hi;omega) λi hi=>by
   simp only[yar]at hi;subst hi;exact⟨_,h3,zxq (by simp)⟩,h2.setn (by omega) _⟩
 have hpar:=@zeQ _ _ _ _ (zpq hb0 b8 (by omega));cases hp:parse b with
 | err e=>
  have eo:zeY R n t m b=(R,.err e):=by unfold zeY;rw[hp]
  rw[hp]at hpar;have e0:=neqz (ztQ hp);rw[eo];simp(disch:=first|omega|(simp only[RY]<;>omega)|decide)only[↓RD,RZ,eq_self,seval,hpar,phv,e0,ya6,g0];obtain⟨f1,f2⟩:=fin H0 R [.int .i64 0,.int .i64 0,.int .i64 0,.int .u64 0,.nils] hR0 (Grow.atS s0 _) g0;exact⟨rfl,f1,f2⟩
 | ok k ct hl=>
  rw[hp]at hpar;obtain⟨p1,p2,p3,p4⟩:=zxb hp b8;have hpt:=@zeQ _ _ _ _ (@zrA H0 k p3);by_cases h1:16777216<=k
  ·have eo:zeY R n t m b=(R,.err 2):=by unfold zeY;rw[hp];dsimp only;rw[if_pos h1]
   have ep:zmY k = .tup [.int .i64 0,.int .i64 0,.int .i64 0,.bool false]:=by unfold zmY;rw[if_pos h1]
   rw[ep]at hpt;rw[eo];simp(disch:=first|omega|(simp only[RY]<;>omega)|decide)only[↓RD,RZ,eq_self,seval,hpar,phv,hpt,g0];obtain⟨f1,f2⟩:=fin H0 R [.int .i64 0,.int .i64 0,.int .i64 0,.int .u64 0,.nils] hR0 (Grow.atS s0 _) g0;exact⟨rfl,f1,f2⟩
  ·have ep:zmY k = .tup [.int .i64 (k/256:Nat),.int .i64 (k%256/8:Nat),.int .i64 (k%8:Nat),.bool true]:=by unfold zmY;rw[if_neg h1]
   rw[ep]at hpt;have hr0:=hR0.rcd;obtain⟨lc,c1,c2⟩:=hR0.ch;simp(disch:=first|omega|(simp only[RY]<;>omega)|decide)only[↓RD,RZ,eq_self,seval,hpar,phv,hpt,hr0];refine zlh (ek:=eplc) (a:=(((k/256:Nat):Int),((k%8:Nat):Int))) keq_plc (kok_plc _) c1 ?_;rw[zku];rcases Al.look (((k/256:Nat):Int),((k%8:Nat):Int)) c2 with⟨a1,a2⟩|⟨y,x,a1,a2,hch⟩
   ·have eo:zeY R n t m b=(R,.err 10):=by unfold zeY;rw[hp];dsimp only;rw[if_neg h1,a2]
    have e3:((none:Option Nat).map ptrv).getD .nilp = .nilp:=rfl;rw[eo,a1,e3];simp(disch:=first|omega|(simp only[RY]<;>omega)|decide)only[↓RD,RZ,eq_self,seval,g0];obtain⟨f1,f2⟩:=fin H0 R [.int .i64 0,.int .i64 0,.int .i64 0,.int .u64 0,.nils] hR0 (Grow.atS s0 _) g0;exact⟨rfl,f1,f2⟩
   ·obtain⟨st,base⟩:=x;dsimp only at hch;have e3:((some y:Option Nat).map ptrv).getD .nilp = .ptr y 0:=rfl;have hst:=@zeQ _ _ _ _ (zyR hch);rw[a1,e3];by_cases h2:k%256/8<st
    ·have eo:zeY R n t m b=(R,.err 10):=by unfold zeY;rw[hp];dsimp only;rw[if_neg h1,a2];dsimp only;rw[if_pos h2]
     have d:decide (((k%256/8:Nat):Int)<((st:Nat):Int))=true:=decide_eq_true (by omega);have d':decide (k%256/8<st)=true:=decide_eq_true h2;rw[eo];simp(disch:=first|omega|(simp only[RY]<;>omega)|decide)only[↓RD,RZ,eq_self,seval,hst,d,d',g0];obtain⟨f1,f2⟩:=fin H0 R [.int .i64 0,.int .i64 0,.int .i64 0,.int .u64 0,.nils] hR0 (Grow.atS s0 _) g0;exact⟨rfl,f1,f2⟩
    ·have d:decide (((k%256/8:Nat):Int)<((st:Nat):Int))=false:=decide_eq_false (by omega);have d':decide (k%256/8<st)=false:=decide_eq_false h2;simp(disch:=first|omega|(simp only[RY]<;>omega)|decide)only[↓RD,RZ,eq_self,seval,hst,d,d',hr0];refine zlh (ek:=ekid) (a:=k) zp1 (zp0 _) hR0.win ?_;rw[zku];have ew:((look k R.win).map wsv).getD (.agg [.bool false,.int .u64 0,.int .u64 0])=wsv (winR R k):=by unfold winR;cases look k R.win<;>rfl
     rw[ew];have hwr:=winR_r hR0.wr k;have gz:=zaf H0 ⟨zan,[.bool false,.int .u64 0,.int .u64 0],none⟩;have sz:=Grow.new H0 ⟨zan,[.bool false,.int .u64 0,.int .u64 0],none⟩;have nz:(H0.new ⟨zan,[.bool false,.int .u64 0,.int .u64 0],none⟩).next=H0.next+1:=zae _ _;refine zaQ (zdO rfl ?_);rw[zaD];generalize hqw:H0.next=q1 at *;generalize H0.new _=Hz at *;refine zaQ (ztY gz (by rfl) (by decide) (by rfl) ?_);have s1:Grow H0 (Hz.set q1 (some ⟨zan,[.bool (winR R k).1,.int .u64 ((winR R k).2.1:Nat),.int .u64 ((winR R k).2.2:Nat)],none⟩)):=sz.set (by omega) _;have g1:(Hz.set q1 (some ⟨zan,[.bool (winR R k).1,.int .u64 ((winR R k).2.1:Nat),.int .u64 ((winR R k).2.2:Nat)],none⟩)).get q1 = _:=zai _ _ _;have n1:(Hz.set q1 (some ⟨zan,[.bool (winR R k).1,.int .u64 ((winR R k).2.1:Nat),.int .u64 ((winR R k).2.2:Nat)],none⟩)).next=Hz.next:=rfl;show Ok _ (Hz.set q1 (some ⟨zan,[.bool (winR R k).1,.int .u64 ((winR R k).2.1:Nat),.int .u64 ((winR R k).2.2:Nat)],none⟩)) _;generalize hw:winR R k=W at *;generalize Heap.set Hz _ _=H1 at *;have hmay:=@zt3 H1 W ct hwr p4;obtain⟨wa,wh,ws⟩:=W;simp(disch:=first|omega|(simp only[RY]<;>omega)|decide)only[↓RD,RZ,eq_self,seval,g1];refine zad hmay ?_;rintro _ H2 ⟨rfl,s2⟩;have s12:=s1.trans s2;have hR2:=hR0.grow s12;have g2:=(s12.same q (by omega)).trans g0;have gw2:=(s2.same q1 (by omega)).trans g1;have a02:=Grow.atS (s0.trans s12) [c+1,c+2];have n2:=s2.next;by_cases h3:mayW (wa,wh,ws) ct=0
     ·have e0:(((mayW (wa,wh,ws) ct:Nat):Int)==0)=true:=by rw[h3];rfl
      have hst31:k%256/8<=31:=by omega
      simp(disch:=first|omega|(simp only[RY]<;>omega)|decide)only[↓RD,RZ,eq_self,seval,e0,ybn];refine zad (At_c_ok (hch.grow s12) hst31 (by omega)) ?_;rintro _ H3 ⟨v3,rfl,hv3,s3⟩;have n3:=s3.next;have B8:=zuB hch.b8 (k%256/8-st);have Bl:=zpm (m:=1099511627) hch.bl (by decide) (k%256/8-st);generalize hB:zd4 base (k%256/8-st)=B at *;simp(disch:=first|omega|(simp only[RY]<;>omega)|decide)only[↓RD,RZ,eq_self,seval];refine zad (key_ok (hR2.grow s3) hsz p3 hv3 B8 (by omega)) ?_;rintro _ H4 ⟨k4,rfl,hk4,hR4,a4⟩;have n4:=a4.next;have a04:=(a02.trans (Grow.atS s3 _)).trans a4;have nS:∀i,c+4<=i->i∉[c+1,c+2]:=λi hi=>by simp;omega
      have bS:∀{v:V},(∀i,v.pid=some i->i<c\/c+4<=i)->∀i,v.pid=some i->i∉[c+1,c+2]:=λh i hi=>by have:=h i hi;simp;omega
      have g4:=(a4.same q (by omega) (nS _ (by omega))).trans ((s3.same q (by omega)).trans g2);have gw4:=(a4.same q1 (by omega) (nS _ (by omega))).trans ((s3.same q1 (by omega)).trans gw2);have hb4:=Lc.atS ((hb0.ext s12).ext s3) a4 (bS hbp);have hm4:=Lc.atS ((hm0.ext s12).ext s3) a4 (bS hmp);simp(disch:=first|omega|(simp only[RY]<;>omega)|decide)only[↓RD,RZ,eq_self,seval];refine zad (Open_ok hk4 hb4 b8 hm4 m8 ml bl) ?_;rintro _ H5 ⟨s5,h5⟩;have n5:=s5.next;have hR5:=hR4.grow s5;have g5:=(s5.same q (by omega)).trans g4;have gw5:=(s5.same q1 (by omega)).trans gw4;have a05:=a04.trans (Grow.atS s5 _);have eo0:zeY R n t m b=match zm3 (keyR R n t k B) b m with
        | .err e=>(ze1 R n t k B,.err e)
        | .ok p _=>({ ze1 R n t k B with win:=putl k (zhY (wa,wh,ws) ct) R.win },.got (k/256) (k%256/8) (k%8) ct p):=by
       unfold zeY;rw[hp];dsimp only;rw[if_neg h1,a2];dsimp only;rw[if_neg h2,hw,hB,if_neg (λh=>h h3)]
      cases hop:zm3 (keyR R n t k B) b m with
      | err e=>
       rw[hop]at h5 eo0;have h5:_ = _:=h5;subst h5;have e5:=neqz (open_err hop);rw[eo0];simp(disch:=first|omega|(simp only[RY]<;>omega)|decide)only[↓RD,RZ,eq_self,seval,e5,ya6,g5];obtain⟨f1,f2⟩:=fin H5 _ [.int .i64 0,.int .i64 0,.int .i64 0,.int .u64 0,.nils] hR5 a05 g5;exact⟨rfl,f1,f2⟩
      | ok p c'=>
       rw[hop]at h5 eo0;obtain⟨v5,rfl,hv5⟩:=h5;have hr5:=hR5.rcd;have hmk:=@zxC H5 (wa,wh,ws) ct hwr p4;rw[eo0];simp(disch:=first|omega|(simp only[RY]<;>omega)|decide)only[↓RD,RZ,eq_self,seval,hr5,gw5];refine zad hmk ?_;rintro _ H6 ⟨s6,h6,-⟩;have h6:=h6 h3;subst h6;have n6:=s6.next;have hR6:=hR5.grow s6;have hr6:=hR6.rcd;have e6:H6.get (c+3)=H5.get (c+3):=s6.same _ (by omega);have g6:=(s6.same q (by omega)).trans g5;have hw6:=hR6.win;rw[zxK]at hw6;have m1:=markW_r (n:=ct) hwr p4 h3;simp(disch:=first|omega|(simp only[RY]<;>omega)|decide)only[↓RD,RZ,eq_self,seval,e6];refine zoS (ek:=ekid) (a:=k) (v:=wsv (zhY (wa,wh,ws) ct)) zp1 (zp0 _) hw6 ?_;rw[zpL];have a7:AtS [c+1,c+2] H6 (H6.set (c+1) (some ⟨tyW,encM ekid (mapv wsv (putl k (zhY (wa,wh,ws) ct) R.win)),none⟩)):=AtS.set _ (by simp) _;have g7:(H6.set (c+1) (some ⟨tyW,encM ekid (mapv wsv (putl k (zhY (wa,wh,ws) ct) R.win)),none⟩)).get (c+1) = _:=zai _ _ _;have nn:∀i,i≠c+1->(H6.set (c+1) (some ⟨tyW,encM ekid (mapv wsv (putl k (zhY (wa,wh,ws) ct) R.win)),none⟩)).get i=H6.get i:=λi hi=>zaj _ _ hi;have n7:(H6.set (c+1) (some ⟨tyW,encM ekid (mapv wsv (putl k (zhY (wa,wh,ws) ct) R.win)),none⟩)).next=H6.next:=rfl;generalize Heap.set H6 _ _=H7 at *;have hS:∀i∈[c+1,c+2],i<c+4\/∃b,H6.get i=some b/\OddR b:=λi hi=>by simp at hi;omega
       have hO:∀i∈[c+1,c+2],∃b,H6.get i=some b/\Odd b:=λi hi=>by
        obtain⟨b,hb,ho⟩:=hR6.odd i (by simp at hi;omega) (by simp at hi;omega);exact⟨b,hb,ho.1⟩
       obtain⟨lc',x1,x2⟩:=hR6.ch;obtain⟨lk',x3,x4⟩:=hR6.ks;have hR7:RcM H7 c { ze1 R n t k B with win:=putl k (zhY (wa,wh,ws) ct) R.win }:=
        ⟨by have:=hR6.top;omega,(nn _ (by omega)).trans hr6,⟨lc',(nn _ (by omega)).trans x1,x2.mono λ_ _ g=>g.atS a7 hS⟩,g7,λp hp=>by
         rcases zt2 hp with rfl|hp
         ·exact m1
         ·exact hR.wr p hp,⟨lk',(nn _ (by omega)).trans x3,x4.mono λ_ _ g=>g.atS a7 hO⟩⟩
       have gq7:=(nn q (by omega)).trans g6;have a07:=(a05.trans (Grow.atS s6 _)).trans a7;have hv7:=Lc.atS (hv5.ext s6) a7 λi hi=>nS i (by have:=(hv5.own i hi).1;omega);have vc:=hv7.cells1;have vo:=hv7.okc;simp(disch:=first|omega|(simp only[RY]<;>omega)|decide)only[↓RD,RZ,eq_self,seval,gq7,vc,vo];obtain⟨f1,f2⟩:=fin H7 _ [.int .i64 (k/256:Nat),.int .i64 (k%256/8:Nat),.int .i64 (k%8:Nat),.int .u64 (ct:Nat),v5] hR7 a07 gq7;refine⟨⟨v5,rfl,?_⟩,f1,f2⟩;exact(Lc.atS hv7 (AtS.set (S:=[q]) H7 (by simp) _) λi hi e=>by
        simp only[yar]at e;have:=(hv5.own i hi).1;omega).low (by omega)
     ·have eo:zeY R n t m b=(R,.err (mayW (wa,wh,ws) ct)):=by
       unfold zeY;rw[hp];dsimp only;rw[if_neg h1,a2];dsimp only;rw[if_neg h2,hw,if_pos h3]
      have e0:=neqz h3;rw[eo];simp(disch:=first|omega|(simp only[RY]<;>omega)|decide)only[↓RD,RZ,eq_self,seval,e0,ya6,g2];obtain⟨f1,f2⟩:=fin H2 R [.int .i64 0,.int .i64 0,.int .i64 0,.int .u64 0,.nils] hR2 a02 g2;exact⟨rfl,f1,f2⟩
end Go.Ax.SU
/- St1 -/
namespace Go.Ax.SU
open Go.Ax Go.Proofs
def hT:∀f ir,T f=some ir->ir.body.still=true:=λf ir h=>zlF h
def ztW{β:Type}{H:Heap}{ty:TypeId}{zs:List V}{f:V->M β}{Q:β->Heap->Prop} (k:∀q H',q=H.next->H'.get q=some ⟨ty,zs,none⟩->Grow H H'->H'.next=H.next+1->(H.Cl->H'.Cl)->Ok (f (.ptr q 0)) H' Q):Ok ((mbox ty (.agg zs)).bind f) H Q:=by
 refine zaQ (zdO rfl ?_);rw[zaD];exact k _ _ rfl (zaf _ _) (Grow.new _ _) rfl λhc=>zd7 hc _
def zrn{β:Type}{H:Heap}{ty:TypeId}{n:Nat}{zs cs:List V}{f:V->V->M β}{Q:β->Heap->Prop}(hc:H.Cl)(hz:zs.length=n)(hl:cs.length=n) (k:∀q H',q=H.next->H'.get q=some ⟨ty,cs,none⟩->Grow H H'->H'.next=H.next+1->H'.Cl->Ok (f (.ptr q 0) .undef) H' Q) :
  Ok ((mbox ty (.agg zs)).bind λt=>(mstore n t (.agg cs)).bind λu=>f t u) H Q:=by
 refine zaQ (zdO rfl ?_);rw[zaD];have g:=zaf H ⟨ty,zs,none⟩;refine zaQ (ztY g (by rw[zaD];exact hl) (by show 0+n<=zs.length;omega) rfl ?_);refine k _ _ rfl ?_ ((Grow.new _ _).set (yag _) _) rfl (zcE (zd7 hc _) (by rw[zae];omega) _);rw[zai,zaD];congr 2;unfold splice;rw[ya4,yaU,yaS (by show zs.length<=0+cs.length;omega),yaK]
def zbQ{H:Heap}(hc:H.Cl){i:Nat}{b:Blk}(hg:H.get i=some b):i<H.next:=by
 by_cases h:i<H.next
 ·exact h
 ·rw[hc i (by omega)]at hg;cases hg
def zwk{H:Heap}{k:Int}(hk:k=0\/k=1\/k=2):Ok (sem T zcM [.int .i64 k]) H λr H'=>r = .bool true/\H'=H:=by
 refine zl8 ?_;unfold ziM uL uB uG uH uR uc;rcases hk with rfl|rfl|rfl<;>simp(maxSteps:=1000000) (disch:=first|omega|(simp only[RY]<;>omega)|decide)only[↓RD,RZ,eq_self,Int.reduceToNat,Int.reduceAdd,Int.reduceSub,Int.reduceMul,Nat.reduceAdd,Nat.reduceSub,Nat.reduceMul,Nat.reduceDiv,Nat.reduceMod,Nat.reduceBEq,Nat.reduceLeDiff,RG]
end Go.Ax.SU
/- Ax56 -/
namespace Go.Ax.Y
mutual
def okN(p:Nat->Bool):V->Bool
 | .ptr i _=>p i
 | .mp i=>p i
 | .sl i _ _ _=>p i
 | .rs cs _=>okNL p cs
 | .rp cs _=>okNL p cs
 | .fn _ cs=>okNL p cs
 | .agg cs=>okNL p cs
 | .tup cs=>okNL p cs
 | .bool _=>true
 | .int _ _=>true
 | .str _=>true
 | .nilp=>true
 | .nils=>true
 | .lit _=>true
 | .any=>true
def okNL(p:Nat->Bool):List V->Bool
 | []=>true
 | x::xs=>okN p x&&okNL p xs
end
section
variable {d d':Nm} {p:Nat->Bool}
mutual
theorem sh_exn(hs:d.s=d'.s)(hw:d.w=d'.w)(hp:∀i,p i=true->d.f i=d'.f i):∀v:V,okN p v=true->sh d v=sh d' v
 | .ptr i _,h=>by simp only[okN]at h;simp only[sh];rw[hp i h]
 | .mp i,h=>by simp only[okN]at h;simp only[sh];rw[hp i h]
 | .sl i _ _ _,h=>by simp only[okN]at h;simp only[sh];rw[hp i h]
 | .rs cs _,h=>by simp only[okN]at h;simp only[sh];rw[zg7 hs hw hp cs h]
 | .rp cs _,h=>by simp only[okN]at h;simp only[sh];rw[zg7 hs hw hp cs h]
 | .fn _ cs,h=>by simp only[okN]at h;simp only[sh];rw[zg7 hs hw hp cs h]
 | .agg cs,h=>by simp only[okN]at h;simp only[sh];rw[zg7 hs hw hp cs h]
 | .tup cs,h=>by simp only[okN]at h;simp only[sh];rw[zg7 hs hw hp cs h]
 | .bool _,_=>rfl
 | .int _ _,_=>rfl
 | .str _,_=>rfl
 | .nilp,_=>rfl
 | .nils,_=>rfl
 | .lit _,_=>by simp only[sh];unfold sy;rw[hs,hw]
 | .any,_=>rfl
theorem zg7(hs:d.s=d'.s)(hw:d.w=d'.w)(hp:∀i,p i=true->d.f i=d'.f i):∀l:List V,okNL p l=true->shL d l=shL d' l
 | [],_=>rfl
 | x::xs,h=>by
  simp only[okNL,yam]at h;simp only[shL];rw[sh_exn hs hw hp x h.1,zg7 hs hw hp xs h.2]
end
end
def mkc:List (Nat×Blk)->Nat->Cc.Heap
 | [],n=>⟨.e,n⟩
 | p::l,n=>(mkc l n).set p.1 (some p.2)
def zpT(n:Nat):∀l,(mkc l n).abs.next=n
 | []=>rfl
 | p::l=>by
  show((mkc l n).set p.1 (some p.2)).abs.next=n;rw[Cc.abs_set];exact zpT n l
def mkc_get(n:Nat):∀(l:List (Nat×Blk)) (i:Nat),(∀b,(mkc l n).abs.get i=some b->(i,b)∈l)/\((l.any λp=>Nat.beq p.1 i)=true->∃b,(mkc l n).abs.get i=some b)
 | [],i=>⟨λb h=>(by cases h),λh=>(by cases h)⟩
 | p::l,i=>by
  obtain⟨h1,h2⟩:=mkc_get n l i;have e:(mkc (p::l) n).abs=(mkc l n).abs.set p.1 (some p.2):=Cc.abs_set _ _ _;rw[e];by_cases hi:i=p.1
  ·subst hi;rw[zai];exact⟨λb hb=>by injection hb with hb;subst hb;exact yaQ,λ_=>⟨_,rfl⟩⟩
  ·rw[zaj _ _ hi];refine⟨λb hb=>yaN _ (h1 b hb),λhq=>h2 ?_⟩;simp only[List.any_cons,ybt]at hq;rcases hq with hq|hq
   ·exact absurd (yaJ hq).symm hi
   ·exact hq
def inl(R:Nat) (l:List (Nat×Blk)) (i:Nat):Bool:=Nat.blt i R||l.any λp=>Nat.beq p.1 i
def okC(R n:Nat) (l:List (Nat×Blk)):Bool:=Nat.ble R n&&l.all λp=>Nat.blt (p.1+1) n&&okNL (inl R l) p.2.cells
def St.upd{tb:Tb}{g:Sg}{h K K':Heap}(s:St tb g h K) {l:List (Nat×Blk)} {n:Nat} (hc:K'.Cl) (hn:K.next<=K'.next) {S:List Nat} (hS:∀i∈S,∃j b,h.get j=some b/\g.e.f j=i) (hf:∀i,i<K.next->i∉S->K'.get i=K.get i)
  (hl:∀p∈l,(∃b0,h.get p.1=some b0)/\((h.get p.1=some p.2/\g.e.f p.1∉S)\/∀d,Ag g d->K'.get (d.f p.1)=some (shB d p.2))) (ok:okC tb.R n l=true) (ht:∀m,m<tb.R->tb.t m<h.next->tb.t m<n) :
  ∃g',St tb g' (mkc l n).abs K'/\g'.e=g.e/\(∀i,g'.nf i<->g.nf i/\inl tb.R l i=true)/\g'.nw=g.nw:=by
 classical
 simp only[okC,yam]at ok;have hR:=yau ok.1;have hk:∀p∈l,p.1+1<n/\okNL (inl tb.R l) p.2.cells=true:=λp hp=>by
  have:=yaz.1 ok.2 p hp;simp only[yam]at this;exact⟨yau this.1,this.2⟩
 have nx:(mkc l n).abs.next=n:=zpT n l;have G:=λi b (hb:(mkc l n).abs.get i=some b)=>(mkc_get n l i).1 b hb;have ix:∀i,inl tb.R l i=true->tb.R<=i->∃b,(mkc l n).abs.get i=some b:=λi hi hr=>by
  unfold inl at hi;simp only[ybt]at hi;rcases hi with hi|hi
  ·have:i+1<=tb.R:=yau hi;omega
  ·exact(mkc_get n l i).2 hi
 have ib:∀i b,(mkc l n).abs.get i=some b->inl tb.R l i=true:=λi b hb=>by
  have:=G i b hb;unfold inl;rw[ybt];refine .inr (ybG.2 ⟨_,this,?_⟩);exact Nat.beq_refl i
 have lt1:∀i,inl tb.R l i=true->tb.R<=i->i+1<n:=λi hi hr=>by
  obtain⟨b,hb⟩:=ix i hi hr;exact(hk _ (G i b hb)).1
 let g':Sg:=⟨g.e,λi=>g.nf i/\inl tb.R l i=true,g.nw⟩
 refine⟨g',⟨s.s,λi b hi=>?_,λi hi=>?_,s.nwb,?_,λi j hi hj=>s.inj i j hi.1 hj.1,λi hi=>yai (s.lt i hi.1) hn,λd hd i b hi=>?_,λi hi hr e=>?_,hc,λi hr hi hj=>s.seq i hr hi.1 hj.1,λi hr hi e=>?_,λi j hr hl hi hj=>s.mono i j hr hl hi.1 hj.1,λm hm hf'=>?_,λm hw=>?_⟩,rfl,λ_=>yde,rfl⟩
 ·obtain⟨⟨b0,hb0⟩,-⟩:=hl _ (G i b hi);exact⟨⟨(s.kn i b0 hb0).1,ib i b hi⟩,(s.kn i b0 hb0).2⟩
 ·rw[nx];by_cases hr:tb.R<=i
  ·have:=lt1 i hi.2 hr;omega
  ·omega
 ·rw[nx];exact hR
 ·let d1:Nm:=⟨λj=>if g.nf j then g.e.f j else d.f j,d.w,d.s⟩
  have a1:Ag g d1:=⟨hd.1,λj hj=>if_pos hj,hd.2.2⟩;have hm:=G i b hi;obtain⟨⟨b0,hb0⟩,h2⟩:=hl _ hm;have hnf:=(s.kn i b0 hb0).1;have e1:∀j,inl tb.R l j=true->d1.f j=d.f j:=λj hj=>by
   show(if g.nf j then g.e.f j else d.f j)=d.f j;by_cases hg:g.nf j
   ·rw[if_pos hg];exact(hd.2.1 j ⟨hg,hj⟩).symm
   ·rw[if_neg hg]
  have e2:shB d1 b=shB d b:=by
   unfold shB;rw[zg7 (d:=d1) (d':=d) rfl rfl e1 b.cells (hk _ hm).2]
  have e3:d1.f i=d.f i:=e1 i (ib i b hi);rw[<-e2,<-e3];rcases h2 with⟨h2,h3⟩|h2
  ·have h4:=s.em d1 a1 i b h2;have h5:d1.f i=g.e.f i:=if_pos hnf;have h3:g.e.f i∉S:=h3;rw[h5]at h4 ⊢;rw[hf _ (s.lt i hnf) h3];exact h4
  ·exact h2 d1 a1
 ·obtain⟨b,hb⟩:=ix i hi.2 hr;rw[hb]at e;cases e
 ·rw[nx]at e;have:=lt1 i hi.2 (yax tb.rb hr);omega
 ·obtain⟨q1,lo,Hc,q2,q3,q4⟩:=s.mf m hm hf'.1;refine⟨by rw[nx];exact ht m hm q1,lo,Hc,q2,⟨yax q3.le hn,λi h1 h2=>?_,λi h1 h2 j b hj e=>?_⟩,λi hr hl hi=>q4 i hr hl hi.1⟩
  ·rw[hf i (yai h2 q3.le) λhi=>?_]
   ·exact q3.sm i h1 h2
   ·obtain⟨j,b,hj,e⟩:=hS i hi;exact q3.ap i h1 h2 j b hj e
  ·obtain⟨⟨b0,hb0⟩,-⟩:=hl _ (G j b hj);exact q3.ap i h1 h2 j b0 hb0 e
 ·obtain⟨q1,lo,Hc,q2,q3⟩:=s.mw m hw;refine⟨by rw[nx];exact ht m (s.nwb m hw) q1,lo,Hc,q2,⟨yax q3.le hn,λi h1 h2=>?_,λi h1 h2 j b hj e=>?_⟩⟩
  ·rw[hf i (yai h2 q3.le) λhi=>?_]
   ·exact q3.sm i h1 h2
   ·obtain⟨j,b,hj,e⟩:=hS i hi;exact q3.ap i h1 h2 j b hj e
  ·obtain⟨⟨b0,hb0⟩,-⟩:=hl _ (G j b hj);exact q3.ap i h1 h2 j b0 hb0 e
def rl_keep{g g':Sg}{R:Nat} {l:List (Nat×Blk)} (he:g'.e=g.e) (hf:∀i,g'.nf i<->g.nf i/\inl R l i=true) (hw:g'.nw=g.nw) {vs vs':List V} (r:Rl g shL vs vs') (ok:okNL (inl R l) vs=true):Rl g' shL vs vs':=by
 classical
 intro d hd
 let d1:Nm:=⟨λj=>if g.nf j then g.e.f j else d.f j,d.w,d.s⟩
 have a1:Ag g d1:=⟨by rw[<-he];exact hd.1,λj hj=>if_pos hj,λj hj=>by
  have:=hd.2.2 j (by rw[hw];exact hj);rw[he]at this;exact this⟩
 rw[r d1 a1];refine zg7 (d:=d1) (d':=d) rfl rfl (λj hj=>?_) vs ok;show(if g.nf j then g.e.f j else d.f j)=d.f j;by_cases hg:g.nf j
 ·rw[if_pos hg,<-he];exact(hd.2.1 j ((hf j).2 ⟨hg,hj⟩)).symm
 ·rw[if_neg hg]
inductive Step where
 | call (f:FuncId) (args:List V)
 | ins (i:I) (args:List V)
def fl:Cc.Sem':=λ_ _=>Cc.M.fail
section
variable (T:FuncId->Option Fn') (sel:FuncId->List V->Bool) (O:Orc) (m:Nat)
def Step.run:Step->Cc.M V
 | .call f args=>cdo T sel O m f args
 | .ins i args=>Cc.I.run fl (params 0 args) i
def runs:List Step->Cc.Heap->Option (List V×Cc.Heap)
 | [],c=>some ([],c)
 | s::l,c=>match s.run T sel O m c with
  | some (v,c1)=>(match runs l c1 with|some (vs,c2)=>some (v::vs,c2)|none=>none)
  | none=>none
end
def seen(l:List Nat) (r:Option (List V×Cc.Heap)):Option (List V×Nat×List (Option Blk)):=r.map λq=>(q.1,q.2.next,l.map q.2.get)
section
variable {T:FuncId->Option Fn'} {sel:FuncId->List V->Bool} {O:Orc} {m:Nat}
def zq4{s:Step}{l:List Step}{c c2:Cc.Heap}{v:V}{vs:List V} (h:runs T sel O m (s::l) c=some (v::vs,c2)):∃c1,s.run T sel O m c=some (v,c1)/\runs T sel O m l c1=some (vs,c2):=by
 unfold runs at h;cases h1:s.run T sel O m c with
 | none=>rw[h1]at h;cases h
 | some q=>
  obtain⟨v1,c1⟩:=q;rw[h1]at h;dsimp only at h;cases h2:runs T sel O m l c1 with
  | none=>rw[h2]at h;cases h
  | some q=>
   obtain⟨vs1,c3⟩:=q;rw[h2]at h;simp only[yaa,yad,ybs]at h;obtain⟨⟨rfl,rfl⟩,rfl⟩:=h;exact⟨c1,rfl,h2⟩
def seen_ok{l:List Nat} {r:Option (List V×Cc.Heap)} {vs:List V} {n:Nat} {os:List (Option Blk)} (h:seen l r=some (vs,n,os)):∃c,r=some (vs,c)/\c.abs.next=n/\os=l.map c.abs.get:=by
 unfold seen at h;cases r with
 | none=>cases h
 | some q=>
  simp only[yat,yaa,yad]at h;obtain⟨rfl,rfl,rfl⟩:=h;exact⟨q.2,rfl,rfl,rfl⟩
end
def rl_n{g:Sg}:Rl g shL [] []:=λ_ _=>rfl
def rl_c{g:Sg}{v v':V}{l l':List V}(r:Rl g sh v v')(rs:Rl g shL l l'):Rl g shL (v::l) (v'::l'):=λd hd=>by rw[r d hd,rs d hd];rfl
def rl_h{g:Sg}{v v':V}{l l':List V} (r:Rl g shL (v::l) (v'::l')):Rl g sh v v':=λd hd=>(List.cons.inj (r d hd)).1
def rl_t{g:Sg}{v v':V}{l l':List V} (r:Rl g shL (v::l) (v'::l')):Rl g shL l l':=λd hd=>(List.cons.inj (r d hd)).2
section
variable {tb:Tb} {H K:Heap} {P:Nat->Prop} {g:Sg} {c:Cc.Heap}
variable {T:FuncId->Option Fn'} {sel:FuncId->List V->Bool} {O:Orc} {m:Nat} {l:List Step} {v:V} {vs:List V} {c2:Cc.Heap} {args args' env env':List V}
def map_get {l:List (Nat×Blk)} {f:Nat->Option Blk} (h:(l.map λp=>some p.2)=(l.map (·.1)).map f):∀p∈l,f p.1=some p.2:=by
 induction l with
 | nil=>intro p hp;cases hp
 | cons q l ih=>
  simp only[yaR,ybs]at h;intro p hp;rcases yao.1 hp with rfl|hp
  ·exact h.1.symm
  ·exact ih h.2 p hp
def runs_nil{c c2:Cc.Heap}{vs:List V} (h:runs T sel O m [] c=some (vs,c2)):c2=c/\vs=[]:=by
 unfold runs at h;simp only[yaa,yad]at h;exact⟨h.2.symm,h.1.symm⟩
def rl_p{i o:Nat}{b:V} (r:Rl g sh (.ptr i o) b):∃A,b = .ptr A o/\A=g.e.f i:=⟨_,r g.e (Ag.self g),rfl⟩
def rl_tup2{x y b:V} (r:Rl g sh (.tup [x,y]) b):∃X Y,b = .tup [X,Y]/\Rl g sh x X/\Rl g sh y Y:=by
 refine⟨sh g.e x,sh g.e y,r g.e (Ag.self g),λd hd=>?_,λd hd=>?_⟩
 ·have h:=(r g.e (Ag.self g)).symm.trans (r d hd);simp only[sh,shL,V.tup.injEq,ybs,and_true]at h;exact h.1
 ·have h:=(r g.e (Ag.self g)).symm.trans (r d hd);simp only[sh,shL,V.tup.injEq,ybs,and_true]at h;exact h.2
end
def tb0(n:Nat):Tb:=⟨0,n,yaD _,λ_=>0,λ_=>0,λ_ _ _ _=>False,λ_ _ _ _=>False⟩
def ns:FuncId->List V->Bool:=λ_ _=>false
def no:Orc:=λ_ _ _=>none
def no_ok{T:FuncId->Option Fn'}{n:Nat}:OrS (tb0 n) T ns no:=λf args args' g h K v nb hs=>by cases hs
def nmO(s:List Nat)(w:Nat->V):Nm:=⟨λi=>s.getD i 0,w,λ_=>0⟩
def wA:Nat->V:=λ_=>.any
def plc:Nat->List Blk->List (Nat×Blk)
 | _,[]=>[]
 | n,b::l=>(n,b)::plc (n+1) l
def zsB:∀{n:Nat} {bs:List Blk} {i:Nat} {b:Blk},(i,b)∈plc n bs->n<=i/\bs[i-n]?=some b
 | n,[],i,b,h=>by cases h
 | n,c::bs,i,b,h=>by
  rcases yao.1 h with h|h
  ·injection h with h1 h2
   subst h1 h2;exact⟨yag _,by rw[ycy];rfl⟩
  ·obtain⟨h1,h2⟩:=zsB h;refine⟨by omega,?_⟩;rw[show i-n=i-(n+1)+1 by omega,ybi];exact h2
def zw1:∀{n:Nat} {bs:List Blk} {i:Nat},n<=i->i<n+bs.length->((plc n bs).any λp=>Nat.beq p.1 i)=true
 | n,[],i,h,h'=>by rw[List.length_nil]at h';omega
 | n,c::bs,i,h,h'=>by
  rw[List.length_cons]at h';show(Nat.beq n i||(plc (n+1) bs).any _)=true;by_cases e:n=i
  ·subst e;rw[Nat.beq_refl];rfl
  ·rw[zw1 (n:=n+1) (by omega) (by omega),ydi]
def hb(bs:List Blk):Cc.Heap:=mkc (plc 0 bs) bs.length
def zvk{s:List Nat}{w:Nat->V}{i:Nat}(h:i<s.length):(nmO s w).f i=s[i]:=by show s.getD i 0 = _;rw[yak,yae h];rfl
def gO(s:List Nat):Sg:=⟨nmO s wA,λi=>i<s.length,λ_=>False⟩
def gO_d{s:List Nat}{d:Nm} (hd:Ag (gO s) d) {l:List V} (ok:okNL (λi=>Nat.blt i s.length) l=true):shL (nmO s d.w) l=shL d l:=
 zg7 (d:=nmO s d.w) (d':=d) hd.1.symm rfl (λi hi=>(hd.2.1 i (yau hi)).symm) l ok
def St.start{K:Heap}(hc:K.Cl){s:List Nat}{bs:List Blk}(nd:s.Nodup)(lt:∀j∈s,j<K.next)(hl:s.length=bs.length) (hg:∀w i (h:i<s.length) (h':i<bs.length),K.get s[i]=some (shB (nmO s w) bs[i])) (ok:(bs.all λb=>okNL (λi=>Nat.blt i s.length) b.cells)=true) :
  St (tb0 bs.length) (gO s) (hb bs).abs K:=by
 have nx:(hb bs).abs.next=bs.length:=zpT _ _;have gt:∀i b,(hb bs).abs.get i=some b->bs[i]?=some b:=λi b h=>(zsB ((mkc_get _ _ i).1 b h)).2;have no:∀i,bs.length<=i->(gO s).nf i->False:=λi h (h':i<s.length)=>by omega
 refine⟨rfl,λi b h=>⟨?_,yaD _⟩,λi (hi:i<s.length)=>by omega,λ_ h=>h.elim,yaD _,λi j (hi:i<s.length) (hj:j<s.length) e=>?_,λi (hi:i<s.length)=>?_,λd hd i b hi=>?_,λi (hi:i<s.length) _ hn=>?_,hc,λi h1 h2=>(no i h1 h2).elim,λi h1 h2=>(no i h1 h2).elim,λi j h1 _ h2=>(no i h1 h2).elim,λm hm=>absurd hm (Nat.not_lt_zero _),λ_ h=>h.elim⟩
 ·obtain⟨h,-⟩:=yaw.1 (gt i b h);show i<s.length;omega
 ·have e:(nmO s wA).f i=(nmO s wA).f j:=e;rw[zvk hi,zvk hj]at e;exact(List.getElem_inj nd).1 e
 ·show(nmO s wA).f i < _;rw[zvk hi];exact lt _ (yaV _)
 ·obtain⟨h,e⟩:=yaw.1 (gt i b hi);have hs:i<s.length:=by omega
  have h0:=yaz.1 ok b (e ▸ yaV h);rw[show d.f i=s[i] from (hd.2.1 i hs).trans (zvk hs),hg d.w i hs h,e];unfold shB;rw[gO_d hd h0]
 ·obtain⟨b,hb'⟩:=(mkc_get bs.length (plc 0 bs) i).2 (zw1 (yaD _) (by omega));have hb':(hb bs).abs.get i=some b:=hb';rw[hb']at hn;cases hn
def lk(l:List Nat) (r:Option (V×Cc.Heap)):Option (V×List (Option Blk)):=r.map λq=>(q.1,l.map q.2.get)
def calls{T:FuncId->Option Fn'}(hT:∀f ir,T f=some ir->ir.body.still=true){f:FuncId}{args args':List V}{m:Nat}{v:V}{bs:List Blk} {l:List (Nat×Blk)} (h:lk (List.range bs.length++l.map Prod.fst) (cdo T ns no m f args (hb bs))=some (v,(bs++l.map Prod.snd).map some)) {K:Heap} (hc:K.Cl) {s:List Nat} (nd:s.Nodup) (lt:∀j∈s,j<K.next)
  (hl:s.length=bs.length) (hg:∀w i (h:i<s.length) (h':i<bs.length),K.get s[i]=some (shB (nmO s w) bs[i])) (ok:((args::bs.map Blk.cells).all λb=>okNL (λi=>Nat.blt i s.length) b)=true) (ea:∀w,args'=shL (nmO s w) args) (hv:(l.all λp=>Nat.ble bs.length p.1)=true) :
  Ok (sem T f args') K λr K'=>∃d:Nm,r=sh d v/\Grow K K'/\(∀p∈l,K'.get (d.f p.1)=some (shB d p.2)/\K.next<=d.f p.1)/\(∀p∈l,∀q∈l,(p.1<q.1->d.f p.1<d.f q.1)/\(p.1+1=q.1->d.f q.1=d.f p.1+1))/\K'.Cl:=by
 obtain⟨c,hcd,hs⟩:∃c,cdo T ns no m f args (hb bs)=some (v,c)/\(bs++l.map Prod.snd).map some=(List.range bs.length++l.map Prod.fst).map c.get:=by
  unfold lk at h;cases hr:cdo T ns no m f args (hb bs) with
  | none=>rw[hr]at h;cases h
  | some q=>
   rw[hr]at h;simp only[yat,yaa,yad]at h;obtain⟨rfl,h⟩:=h;exact⟨q.2,rfl,h.symm⟩
 simp only[yaC,ycC]at hs;obtain⟨h1,h2⟩:=List.append_inj hs (by simp);have k1:∀i (hi:i<bs.length),c.abs.get i=some bs[i]:=λi hi=>by
  have:=congrArg (λx=>x[i]?) h1;simp only[yaT,ybE hi,yae hi,yat]at this;exact(ycq this).symm
 have k2:∀p∈l,c.abs.get p.1=some p.2:=map_get (l:=l) (f:=c.get) (by rw[ycC];simpa [Function.comp_def]using h2);simp only[yba,ycD,yam]at ok;have st:=St.start hc nd lt hl hg ok.2;obtain⟨g',b,K',e1,s1,f1,r1⟩:=run_ok hT no_ok hcd st (λd hd=>(ea d.w).trans (gO_d hd ok.1));have nw:∀p∈l,g'.nf p.1/\K.next<=g'.e.f p.1:=λp hp=>by
  have hn:=(s1.kn _ _ (k2 p hp)).1;have:=yau (yaz.1 hv p hp);exact⟨hn,f1.ex.new _ hn λ(h:p.1<s.length)=>by omega⟩
 refine⟨b,K',e1,g'.e,r1 _ (Ag.self g'),⟨f1.le,λi hi=>?_⟩,λp hp=>⟨s1.em _ (Ag.self g') _ _ (k2 p hp),(nw p hp).2⟩,λp hp q hq=>⟨λhlt=>s1.mono _ _ (yau (yaz.1 hv p hp)) hlt (nw p hp).1 (nw q hq).1,λe=>by
  have:=s1.seq _ (yau (yaz.1 hv p hp)) (nw p hp).1 (by rw[e];exact(nw q hq).1);rw[e]at this;exact this⟩,s1.cl⟩
 by_cases hx:i∈s
 ·obtain⟨j,hj,rfl⟩:=List.mem_iff_getElem.1 hx;have hj':j<bs.length:=by omega
  have:=s1.em _ (Ag.self g') _ _ (k1 j hj');rw[(f1.ex.f j hj).2,show(gO s).e.f j=s[j] from zvk hj]at this;rw[this,hg g'.e.w j hj hj'];have h0:=yaz.1 ok.2 bs[j] (yaV hj');have hd:Ag (gO s) g'.e:=(Ag.self g').mono f1.ex;unfold shB;rw[gO_d hd h0]
 ·exact f1.fr i hi λj b' hj e=>hx (by
   obtain⟨h,-⟩:=yaw.1 (show bs[j]?=some b' from (zsB ((mkc_get _ _ j).1 b' hj)).2);rw[<-e,show(gO s).e.f j=s[j]'(by omega) from zvk (by omega)];exact yaV _)
end Go.Ax.Y
/- St7 -/
namespace Go.Ax.SU
open Go.Ax Go.Proofs
def Has(H:Heap) (L:List (Nat×Blk)):Prop:=∀p∈L,H.get p.1=some p.2
def Has.lt{H:Heap} {L:List (Nat×Blk)} (h:Has H L) (hc:H.Cl):∀j∈L.map Prod.fst,j<H.next:=λj hj=>by
 obtain⟨p,hp,rfl⟩:=yaW.1 hj;exact zbQ hc (h p hp)
def Has.grow{H H':Heap} {L:List (Nat×Blk)} (h:Has H L) (hc:H.Cl) (g:Grow H H'):Has H' L:=λp hp=>(g.same p.1 (zbQ hc (h p hp))).trans (h p hp)
def Has.atS{H H':Heap}{S:List Nat} {L:List (Nat×Blk)} (h:Has H L) (hc:H.Cl) (g:AtS S H H') (hS:∀i∈S,i∉L.map Prod.fst):Has H' L:=λp hp=>(g.same p.1 (zbQ hc (h p hp)) λe=>hS _ e (ycs hp)).trans (h p hp)
def Has.app{H:Heap} {L L':List (Nat×Blk)} (h:Has H L) (h':Has H L'):Has H (L++L'):=λp hp=>(yaG.1 hp).elim (h p) (h' p)
def sh8(d:Y.Nm):∀l:List Nat,Y.shL d (l.map by8)=l.map by8
 | []=>rfl
 | x::l=>by show by8 x::Y.shL d (l.map by8)=by8 x::l.map by8;rw[sh8 d l]
def ztg{H:Heap}{d:Y.Nm}{lo k n:Nat}{l:List Nat} (g:H.get k=some (Y.shB d ⟨zab,l.map by8,some 1⟩)) (hc:H.Cl) (hk:lo<=k) (hn:l.length=n:=by rfl):By lo H (.sl k 0 n (.opn 1)) l:=by
 subst hn;unfold Y.shB at g;rw[sh8]at g;refine⟨?_,λi h=>?_,rfl⟩
 ·simp only[rcells,g,Option.bind_some,yah,ya8,ya5,yaA];rw[if_pos (yag _),yaj (by rw[yah];exact yag _)]
 ·injection h with h
  subst h;exact⟨hk,zbQ hc g⟩
def zi2{f:FuncId}{args args':List V}{m:Nat}{v:V}{bs:List Blk} {l:List (Nat×Blk)} (h:Y.lk (List.range bs.length++l.map Prod.fst) (Y.cdo T Y.ns Y.no m f args (Y.hb bs))=some (v,(bs++l.map Prod.snd).map some)) {H:Heap} (hc:H.Cl) {L:List (Nat×Blk)} (hL:Has H L) (nd:(L.map Prod.fst).Nodup) (hl:L.length=bs.length)
  (e:∀w,L.map Prod.snd=bs.map (Y.shB (Y.nmO (L.map Prod.fst) w))) (ok:((args::bs.map Blk.cells).all λb=>Y.okNL (λi=>Nat.blt i (L.map Prod.fst).length) b)=true) (ea:∀w,args'=Y.shL (Y.nmO (L.map Prod.fst) w) args) (hv:(l.all λp=>Nat.ble bs.length p.1)=true) :
  Ok (sem T f args') H λr H'=>∃d:Y.Nm,r=Y.sh d v/\(∀p∈l,H.next<=d.f p.1)/\(∀p∈l,∀q∈l,(p.1<q.1->d.f p.1<d.f q.1)/\(p.1+1=q.1->d.f q.1=d.f p.1+1))/\Has H' (l.map λp=>(d.f p.1,Y.shB d p.2))/\Grow H H'/\H'.Cl:=by
 refine zao (Y.calls hT h hc nd (hL.lt hc) (by rw[yah];exact hl) (λw i hi hi'=>?_) ok ea hv) ?_
 ·have hi:i<L.length:=by rw[yah]at hi;exact hi
  rw[ybQ,hL _ (yaV hi)];have h1:(L.map Prod.snd)[i]?=some (L[i]).2:=by rw[yaT,yae hi];rfl
  rw[e w,yaT,yae hi']at h1;exact h1.symm
 ·rintro r H' ⟨d,h1,h2,h3,h4,h5⟩;refine⟨d,h1,λp hp=>(h3 p hp).2,h4,λp hp=>?_,h2,h5⟩;obtain⟨q,hq,rfl⟩:=yaW.1 hp;exact(h3 q hq).1
def strL(k:Nat):List (Nat×Blk):=[(k,⟨zfi,[.int .i64 2,.int .i64 2],none⟩),(k+1,⟨zfi,[.int .i64 0],none⟩),(k+2,⟨zfi,[.int .i64 2,.int .i64 2],none⟩),(k+3,⟨zfi,[.int .i64 2],none⟩),(k+4,⟨zfi,[.int .i64 2],none⟩),(k+5,⟨zfi,[.int .i64 1,.int .i64 0],none⟩),(k+6,⟨zfi,[.int .i64 1],none⟩),(k+7,⟨zfi,[.int .i64 1],none⟩),
 (k+8,⟨zf3,[.int .i64 0,.int .i64 0,.sl k 0 2 (.fix 2),.nils,.sl (k+1) 0 1 (.fix 1),.int .i64 0,.int .i64 0,.sl (k+2) 0 2 (.fix 2),.sl (k+3) 0 1 (.fix 1),.sl (k+4) 0 1 (.fix 1),.int .i64 0,.int .i64 1,.sl (k+5) 0 2 (.fix 2),.sl (k+6) 0 1 (.fix 1),.sl (k+7) 0 1 (.fix 1)],none⟩),(k+9,⟨zfi,[.int .i64 0,.int .i64 0],none⟩)]
def strV(k:Nat):List V:=[.int .i64 0,.int .i64 2,.sl (k+8) 0 3 (.fix 3),.int .i64 1,.sl (k+9) 0 2 (.fix 2),.nils]
def zic{H:Heap}(hc:H.Cl):Ok (sem T zcv []) H λr H'=>∃k,r = .agg (strV k)/\H.next<=k/\Has H' (strL k)/\Grow H H'/\H'.Cl:=by
 refine zao (zi2 (m:=5) (bs:=[]) (L:=[]) (l:=strL 1) (v:=.agg (strV 1)) (args:=[]) (by kernel_rfl) hc (λp hp=>by cases hp) List.nodup_nil rfl (λ_=>rfl) rfl (λ_=>rfl) rfl) ?_;rintro r H' ⟨d,rfl,h1,h2,h3,s,c⟩;have e:∀j,j<10->d.f (1+j)=d.f 1+j:=λj=>by
  induction j with
  | zero=>intro _;rfl
  | succ j ih=>
   intro hj;have hm:∀i,i<10->∃p∈strL 1,p.1=1+i:=λi hi=>by
    obtain⟨p,hp,e⟩:=ybG.1 (yaz.1 (show((List.range 10).all λi=>(strL 1).any λp=>Nat.beq p.1 (1+i))=true by rfl) i (yaZ.2 hi));exact⟨p,hp,yaJ e⟩
   obtain⟨p,hp,e1⟩:=hm j (by omega);obtain⟨q,hq,e2⟩:=hm (j+1) hj;have:=(h2 p hp q hq).2 (by omega);rw[e1,e2,ih (by omega)]at this;exact this
 have e1:=e 1 (by decide);have e2:=e 2 (by decide);have e3:=e 3 (by decide);have e4:=e 4 (by decide);have e5:=e 5 (by decide);have e6:=e 6 (by decide);have e7:=e 7 (by decide);have e8:=e 8 (by decide);have e9:=e 9 (by decide);refine⟨d.f 1,?_,h1 _ (.head _),?_,s,c⟩
 ·show V.agg [.int .i64 0,.int .i64 2,.sl (d.f (1+8)) 0 3 (.fix 3),.int .i64 1,.sl (d.f (1+9)) 0 2 (.fix 2),.nils] = _;rw[e8,e9];rfl
 ·have:(strL 1).map (λp=>(d.f p.1,Y.shB d p.2))=strL (d.f 1):=by
   simp only[strL,yaR,ybC,Y.shB,Y.shL,Y.sh,e1,e2,e3,e4,e5,e6,e7,e8,e9]
  rw[this]at h3;exact h3
def zg6{k:Nat}:∀j∈(strL k).map Prod.fst,k<=j/\j<=k+9:=by
 intro j hj;simp only[strL,yaR,ybC,yao,yap,or_false]at hj;omega
def zk9(k:Nat):((strL k).map Prod.fst).Nodup:=by
 simp[strL]
def strL2_nd{k k':Nat}(h:k+9<k'):((strL k++strL k').map Prod.fst).Nodup:=by
 rw[yaC,ycJ];refine⟨zk9 k,zk9 k',λa ha b hb=>?_⟩;have:=zg6 a ha;have:=zg6 b hb;omega
def frA(st en:Bool)(id f:Nat)(new:Bool)(S:List V)(a b c:V):List V:=[.bool st,.bool en,.int .i64 (id:Nat),.int .u16 (f:Nat),.bool new]++S++[.bool false,.int .u32 0,.bool false,.bool false,.bool false,a,b,c]
def nS:List V:=[.int .i64 0,.int .i64 0,.nils,.int .i64 0,.nils,.nils]
def frL(i j:Nat):List (Nat×Blk):=[(i,⟨zfi,[.int .i64 2,.int .i64 2],some 1⟩),(j,⟨zfi,[.int .i64 0],some 1⟩)]
def frL2(i j l:Nat):List (Nat×Blk):=[(i,⟨zfi,[.int .i64 1,.int .i64 0],some 1⟩),(j,⟨zfi,[.int .i64 1],some 1⟩),(l,⟨zfi,[.int .i64 1],some 1⟩)]
def ddB(st en:Bool)(id f:Nat)(new:Bool):List Nat:=[(if st then 128 else 0)+(if en then 64 else 0)+id,0,f]++if new then [128,1,30,169,17,65,1,8] else []
def of_new{H:Heap}{k k' f:Nat}(hc:H.Cl) (h1:Has H (strL k)) (h2:Has H (strL k')) (hk:k+9<k') (hf:f=0\/f=1) :
  Ok (sem T zgf [.agg (frA false false 0 f true (strV k) .nils .nils .nils),.agg (strV k')]) H λr H'=>∃i j b,r = .tup [.agg [.int .i64 0,.int .i64 0,.sl i 0 2 (.opn 1),.nils,.sl j 0 1 (.opn 1)],b]/\H.next<=i/\i<j/\Has H' (frL i j)/\Grow H H'/\H'.Cl:=by
 refine zao (zi2 (m:=30) (bs:=(strL 0).map Prod.snd++(strL 10).map Prod.snd) (l:=frL 73 75) (args:=[.agg (frA false false 0 f true (strV 0) .nils .nils .nils),.agg (strV 10)]) (v:=.tup [.agg [.int .i64 0,.int .i64 0,.sl 73 0 2 (.opn 1),.nils,.sl 75 0 1 (.opn 1)],.bool true]) (by rcases hf with rfl|rfl<;>kernel_rfl) hc (h1.app h2) (strL2_nd hk) rfl (λ_=>rfl) rfl (λ_=>rfl) rfl) ?_;rintro r H' ⟨d,rfl,h3,h4,h5,s,c⟩;exact⟨d.f 73,d.f 75,_,rfl,h3 _ (.head _),(h4 _ (.head _) _ (.tail _ (.head _))).1 (by decide),h5,s,c⟩
def of_two{H:Heap}{k':Nat}(hc:H.Cl) (h2:Has H (strL k')) :
  Ok (sem T zgf [.agg (frA false false 2 1 false nS .nils .nils .nils),.agg (strV k')]) H λr H'=>∃i j l b,r = .tup [.agg [.int .i64 0,.int .i64 1,.sl i 0 2 (.opn 1),.sl j 0 1 (.opn 1),.sl l 0 1 (.opn 1)],b]/\H.next<=i/\i<j/\j<l/\Has H' (frL2 i j l)/\Grow H H'/\H'.Cl:=by
 refine zao (zi2 (m:=30) (bs:=(strL 0).map Prod.snd) (l:=frL2 63 65 67) (args:=[.agg (frA false false 2 1 false nS .nils .nils .nils),.agg (strV 0)]) (v:=.tup [.agg [.int .i64 0,.int .i64 1,.sl 63 0 2 (.opn 1),.sl 65 0 1 (.opn 1),.sl 67 0 1 (.opn 1)],.bool true]) (by kernel_rfl) hc h2 (zk9 _) rfl (λ_=>rfl) rfl (λ_=>rfl) rfl) ?_;rintro r H' ⟨d,rfl,h3,h4,h5,s,c⟩;exact⟨d.f 63,d.f 65,d.f 67,_,rfl,h3 _ (.head _),(h4 _ (.head _) _ (.tail _ (.head _))).1 (by decide),(h4 _ (.tail _ (.head _)) _ (.tail _ (.tail _ (.head _)))).1 (by decide),h5,s,c⟩
def frL_nd{i j k':Nat}(h:i<j)(h':j<k'):((frL i j++strL k').map Prod.fst).Nodup:=by
 rw[yaC,ycJ];refine⟨by simp[frL];omega,zk9 k',λa ha b hb=>?_⟩;have:=zg6 b hb;simp[frL]at ha;omega
def frL2_nd{i j l k':Nat}(h:i<j)(h1:j<l)(h':l<k'):((frL2 i j l++strL k').map Prod.fst).Nodup:=by
 rw[yaC,ycJ];refine⟨by simp[frL2];omega,zk9 k',λa ha b hb=>?_⟩;have:=zg6 b hb;simp[frL2]at ha;omega
def frLk_nd{k i j k':Nat}(hk:k+9<i)(h:i<j)(h':j<k'):((strL k++(frL i j++strL k')).map Prod.fst).Nodup:=by
 rw[yaC,ycJ];refine⟨zk9 k,frL_nd h h',λa ha b hb=>?_⟩;have:=zg6 a ha;rw[yaC,yaG]at hb;rcases hb with hb|hb
 ·simp[frL]at hb;omega
 ·have:=zg6 b hb;omega
def ddb_new{H:Heap}{k i j k' f:Nat}{en:Bool}(hc:H.Cl) (h1:Has H (strL k)) (h3:Has H (frL i j)) (h2:Has H (strL k')) (hk:k+9<i) (hi:i<j) (hj:j<k') (hf:f=0\/f=1) :
  Ok (sem T zbI [.agg (frA true en 0 f true (strV k) (.sl i 0 2 (.opn 1)) .nils (.sl j 0 1 (.opn 1))),.agg (strV k')]) H λr H'=>∃v,r = .tup [v,.int .i64 0]/\By H.next H' v (ddB true en 0 f true)/\Grow H H'/\H'.Cl:=by
 refine zao (zi2 (m:=40) (bs:=(strL 0).map Prod.snd++((frL 10 11).map Prod.snd++(strL 12).map Prod.snd)) (l:=[(177,⟨zab,(ddB true en 0 f true).map by8,some 1⟩)]) (args:=[.agg (frA true en 0 f true (strV 0) (.sl 10 0 2 (.opn 1)) .nils (.sl 11 0 1 (.opn 1))),.agg (strV 12)]) (v:=.tup [.sl 177 0 11 (.opn 1),.int .i64 0]) (by rcases hf with rfl|rfl<;>cases en<;>kernel_rfl) hc (h1.app (h3.app h2)) (frLk_nd hk hi hj) rfl (λ_=>rfl) rfl (λ_=>rfl) rfl) ?_;rintro r H' ⟨d,rfl,h4,-,h5,s,c⟩;exact⟨_,rfl,ztg (h5 _ (.head _)) c (h4 _ (.head _)),s,c⟩
def ddb_mid{H:Heap}{i j k' f:Nat}{en:Bool}(hc:H.Cl) (h3:Has H (frL i j)) (h2:Has H (strL k')) (hi:i<j) (hj:j<k') (hf:f=0\/f=1) :
  Ok (sem T zbI [.agg (frA false en 0 f false nS (.sl i 0 2 (.opn 1)) .nils (.sl j 0 1 (.opn 1))),.agg (strV k')]) H λr H'=>∃v,r = .tup [v,.int .i64 0]/\By H.next H' v (ddB false en 0 f false)/\Grow H H'/\H'.Cl:=by
 refine zao (zi2 (m:=40) (bs:=(frL 0 1).map Prod.snd++(strL 2).map Prod.snd) (l:=[(92,⟨zab,(ddB false en 0 f false).map by8,some 1⟩)]) (args:=[.agg (frA false en 0 f false nS (.sl 0 0 2 (.opn 1)) .nils (.sl 1 0 1 (.opn 1))),.agg (strV 2)]) (v:=.tup [.sl 92 0 3 (.opn 1),.int .i64 0]) (by rcases hf with rfl|rfl<;>cases en<;>kernel_rfl) hc (h3.app h2) (frL_nd hi hj) rfl (λ_=>rfl) rfl (λ_=>rfl) rfl) ?_;rintro r H' ⟨d,rfl,h4,-,h5,s,c⟩;exact⟨_,rfl,ztg (h5 _ (.head _)) c (h4 _ (.head _)),s,c⟩
def zym{H:Heap}{i j l k':Nat}{st en:Bool}(hc:H.Cl) (h3:Has H (frL2 i j l)) (h2:Has H (strL k')) (hi:i<j) (hj:j<l) (hl:l<k') :
  Ok (sem T zbI [.agg (frA st en 2 1 false nS (.sl i 0 2 (.opn 1)) (.sl j 0 1 (.opn 1)) (.sl l 0 1 (.opn 1))),.agg (strV k')]) H λr H'=>∃v,r = .tup [v,.int .i64 0]/\By H.next H' v (ddB st en 2 1 false)/\Grow H H'/\H'.Cl:=by
 refine zao (zi2 (m:=40) (bs:=(frL2 0 1 2).map Prod.snd++(strL 3).map Prod.snd) (l:=[(95,⟨zab,(ddB st en 2 1 false).map by8,some 1⟩)]) (args:=[.agg (frA st en 2 1 false nS (.sl 0 0 2 (.opn 1)) (.sl 1 0 1 (.opn 1)) (.sl 2 0 1 (.opn 1))),.agg (strV 3)]) (v:=.tup [.sl 95 0 3 (.opn 1),.int .i64 0]) (by cases st<;>cases en<;>kernel_rfl) hc (h3.app h2) (frL2_nd hi hj hl) rfl (λ_=>rfl) rfl (λ_=>rfl) rfl) ?_;rintro r H' ⟨d,rfl,h4,-,h5,s,c⟩;exact⟨_,rfl,ztg (h5 _ (.head _)) c (h4 _ (.head _)),s,c⟩
def stX(a id:Nat)(sv rv:V)(W:Nat->V)(snd rcv:V)(f q:Nat)(b o:Bool):List V:=[.int .i64 (a:Nat),.int .i64 (id:Nat),sv,rv,W 4,W 5,.bool true,W 7,W 8,W 9,W 10,W 11,W 12,W 13,W 14,W 15,W 16,W 17,W 18,W 19,W 20,W 21,snd,rcv,.int .i64 (f:Nat),.int .u16 (q:Nat),.bool b,.bool o,.int .i64 0,.int .u16 0,.bool false,.bool false,.int .i64 0,.int .u16 0,.bool false,.bool false]
def zsr{H:Heap}{s a id f q:Nat}{W:Nat->V}{sv rv snd rcv:V}{b o key:Bool}(hc:H.Cl) (hg:H.get s=some ⟨zah,stX a id sv rv W snd rcv f q b o,none⟩) (hk:key=true\/b=false) (hf:f=0\/f=1) :
  Ok (sem T zbM [.ptr s 24,.bool key]) H λr H'=>∃k i j,r = .agg (frA false false 0 f true (strV k) (.sl i 0 2 (.opn 1)) .nils (.sl j 0 1 (.opn 1)))/\H'.get s=some ⟨zah,stX a id sv rv W snd rcv f q true false,none⟩ /\
   H.next<=k/\k+9<i/\i<j/\Has H' (strL k)/\Has H' (frL i j)/\AtS [s] H H'/\H'.Cl:=by
 have hlt:=zbQ hc hg;have w:IntKind.u16.wrap ((f:Nat):Int)=(f:Nat):=by rcases hf with rfl|rfl<;>rfl
 refine zeR ?_;unfold zdy uL uM uS uT uF uFM uNFM uNF uE uG uH uO uU uA uZ uR uK uc;refine ztW λq0 H1 e1 g1 s1 n1 c1=>?_;have c1:=c1 hc;have gs1:=(s1.same s hlt).trans hg;have l1:s<H1.next:=by omega
 unfold stX at gs1;rcases hk with rfl|rfl
 all_goals
  simp(disch:=first|omega|(simp only[RY]<;>omega)|decide)only[↓RD,RZ,eq_self,seval,RG,gs1,w,zbF,ydi];rw[za2];generalize hX:Heap.set (Heap.set (Heap.new H1 _) _ _) s _=H2;have n2:H2.next=H1.next+1:=by rw[<-hX];rfl
  have g2s:H2.get s=some ⟨zah,stX a id sv rv W snd rcv f q true false,none⟩:=by rw[<-hX];exact zai _ _ _
  have g2q:H2.get H1.next=some ⟨zaO,frA false false 0 f false nS .nils .nils .nils,none⟩:=by rw[<-hX];exact(zaj _ _ (by omega)).trans (zai _ _ _)
  have a2:AtS [s] H1 H2:=by rw[<-hX];exact(Grow.atS ((Grow.new _ _).set (yag _) _) _).trans (AtS.set _ (by simp) _)
  have c2:H2.Cl:=by rw[<-hX];exact zcE (zcE (zd7 c1 _) (by rw[zae];omega) _) (by rw[zam,zae];omega) _
  clear hX;refine zad (zic c2) ?_;rintro _ H3 ⟨k,rfl,lk,hk,s3,c3⟩;have n3:=s3.next;have g3q:=(s3.same _ (by omega)).trans g2q;have g3s:=(s3.same _ (by omega)).trans g2s;simp only[frA,nS,ybF,yaU]at g3q;simp only[strV];simp(disch:=first|omega|(simp only[RY]<;>omega)|decide)only[↓RD,RZ,eq_self,seval,RG,g3q,zbF];rw[za2];generalize hX:Heap.set H3 _ _=H4;have n4:H4.next=H3.next:=by rw[<-hX];rfl
  have g4q:H4.get H1.next=some ⟨zaO,frA false false 0 f true (strV k) .nils .nils .nils,none⟩:=by rw[<-hX];exact zai _ _ _
  have g4s:H4.get s=some ⟨zah,stX a id sv rv W snd rcv f q true false,none⟩:=by rw[<-hX];exact(zaj _ _ (by omega)).trans g3s
  have a4:AtS [H1.next] H3 H4:=by rw[<-hX];exact AtS.set _ (by simp) _
  have c4:H4.Cl:=by rw[<-hX];exact zcE c3 (by omega) _
  clear hX;refine zad (zic c4) ?_;rintro _ H5 ⟨k',rfl,lk',hk',s5,c5⟩;have n5:=s5.next;have g5q:=(s5.same _ (by omega)).trans g4q;have g5s:=(s5.same _ (by omega)).trans g4s;have hk4:=hk.atS c3 a4 (by simp only[yar];rintro x rfl hx;have:=zg6 _ hx;omega);have hk5:=hk4.grow c4 s5;simp(disch:=first|omega|(simp only[RY]<;>omega)|decide)only[↓RD,RZ,eq_self,seval,RG,g4q,g5q];have lk9:k+9<H4.next:=zbQ c4 (hk4 (k+9,⟨zfi,[.int .i64 0,.int .i64 0],none⟩) (by simp[strL]));refine zad (of_new c5 hk5 hk' (by omega) hf) ?_;rintro _ H6 ⟨i,j,b1,rfl,li,lij,hij,s6,c6⟩;have n6:=s6.next;have g6q:=(s6.same _ (by omega)).trans g5q;have g6s:=(s6.same _ (by omega)).trans g5s;simp only[frA,strV,ybF,yaU]at g6q;have l6:H1.next<H6.next:=by omega
  have l6':H1.next≠H6.next:=by omega
  have g6a:=((s6.same _ (by omega)).trans ((s5.same _ (by omega)).trans ((a4.same _ (by omega) (by simp;omega)).trans ((s3.same _ (by omega)).trans (a2.same q0 (by omega) (by simp;omega)))))).trans g1;have nq:q0≠H1.next:=by omega
  have nq':H1.next≠q0:=by omega
  have l0:q0<H6.next:=by omega
  have hlt0:q0≠H6.next:=by omega
  simp(disch:=first|omega|(simp only[RY]<;>omega)|decide)only[↓RD,RZ,eq_self,seval,RG,g6q,g6a,zbF];generalize hX:Heap.set (Heap.set (Heap.set (Heap.new H6 _) _ _) _ _) _ _=H7;have n7:H7.next=H6.next+1:=by rw[<-hX];rfl
  have a7:AtS [H1.next,q0] H6 H7:=by rw[<-hX];exact((Grow.atS ((Grow.new _ _).set (yag _) _) _).trans (AtS.set _ (by simp) _)).trans (AtS.set _ (by simp) _)
  have c7:H7.Cl:=by rw[<-hX];exact zcE (zcE (zcE (zd7 c6 _) (by rw[zae];omega) _) (by rw[zam,zae];omega) _) (by rw[zam,zam,zae];omega) _
  clear hX;refine⟨k,i,j,rfl,g6s,by omega,by omega,lij,(hk5.grow c5 s6).atS c6 a7 ?_,hij.atS c6 a7 ?_,⟨by omega,λx hx hn=>?_⟩,c7⟩
  ·intro x hx hx';have:=zg6 _ hx';simp at hx;omega
  ·intro x hx hx';simp[frL]at hx hx';omega
  ·have hn':x≠s:=by simpa using hn
   rw[a7.same x (by omega) (by simp;omega),s6.same x (by omega),s5.same x (by omega),a4.same x (by omega) (by simp;omega),s3.same x (by omega),a2.same x (by omega) hn,s1.same x (by omega)]
def zsq{H:Heap}{s a id q:Nat}{W:Nat->V}{sv rv snd rcv:V}(hc:H.Cl) (hg:H.get s=some ⟨zah,stX a id sv rv W snd rcv 1 q true false,none⟩) :
  Ok (sem T zbM [.ptr s 24,.bool false]) H λr H'=>∃i j l,r = .agg (frA false false 2 1 false nS (.sl i 0 2 (.opn 1)) (.sl j 0 1 (.opn 1)) (.sl l 0 1 (.opn 1)))/\H'.get s=some ⟨zah,stX a id sv rv W snd rcv 1 q true true,none⟩ /\
   H.next<=i/\i<j/\j<l/\Has H' (frL2 i j l)/\AtS [s] H H'/\H'.Cl:=by
 have hlt:=zbQ hc hg;have w:IntKind.u16.wrap (((1:Nat):Nat):Int)=(1:Nat):=rfl;refine zeR ?_;unfold zdy uL uM uS uT uF uFM uNFM uNF uE uG uH uO uU uA uZ uR uK uc;refine ztW λq0 H1 e1 g1 s1 n1 c1=>?_;have c1:=c1 hc;have gs1:=(s1.same s hlt).trans hg;have l1:s<H1.next:=by omega
 unfold stX at gs1;simp(disch:=first|omega|(simp only[RY]<;>omega)|decide)only[↓RD,RZ,eq_self,seval,RG,gs1,w,zbF,ydi];rw[za2];generalize hX:Heap.set (Heap.set (Heap.new H1 _) _ _) s _=H4;have n2:H4.next=H1.next+1:=by rw[<-hX];rfl
 have g4s:H4.get s=some ⟨zah,stX a id sv rv W snd rcv 1 q true true,none⟩:=by rw[<-hX];exact zai _ _ _
 have g4q:H4.get H1.next=some ⟨zaO,frA false false 2 1 false nS .nils .nils .nils,none⟩:=by rw[<-hX];exact(zaj _ _ (by omega)).trans (zai _ _ _)
 have a2:AtS [s] H1 H4:=by rw[<-hX];exact(Grow.atS ((Grow.new _ _).set (yag _) _) _).trans (AtS.set _ (by simp) _)
 have c4:H4.Cl:=by rw[<-hX];exact zcE (zcE (zd7 c1 _) (by rw[zae];omega) _) (by rw[zam,zae];omega) _
 clear hX;refine zad (zic c4) ?_;rintro _ H5 ⟨k',rfl,lk',hk',s5,c5⟩;have n5:=s5.next;have g5q:=(s5.same _ (by omega)).trans g4q;have g5s:=(s5.same _ (by omega)).trans g4s;simp(disch:=first|omega|(simp only[RY]<;>omega)|decide)only[↓RD,RZ,eq_self,seval,RG,g4q,g5q];refine zad (of_two c5 hk') ?_;rintro _ H6 ⟨i,j,l,b1,rfl,li,lij,ljl,hij,s6,c6⟩;have n6:=s6.next;have g6q:=(s6.same _ (by omega)).trans g5q;have g6s:=(s6.same _ (by omega)).trans g5s;simp only[frA,nS,ybF,yaU]at g6q;have l6:H1.next<H6.next:=by omega
 have l6':H1.next≠H6.next:=by omega
 have g6a:=((s6.same _ (by omega)).trans ((s5.same _ (by omega)).trans (a2.same q0 (by omega) (by simp;omega)))).trans g1;have nq:q0≠H1.next:=by omega
 have nq':H1.next≠q0:=by omega
 have l0:q0<H6.next:=by omega
 have hlt0:q0≠H6.next:=by omega
 simp(disch:=first|omega|(simp only[RY]<;>omega)|decide)only[↓RD,RZ,eq_self,seval,RG,g6q,g6a,zbF];generalize hX:Heap.set (Heap.set (Heap.set (Heap.new H6 _) _ _) _ _) _ _=H7;have n7:H7.next=H6.next+1:=by rw[<-hX];rfl
 have a7:AtS [H1.next,q0] H6 H7:=by rw[<-hX];exact((Grow.atS ((Grow.new _ _).set (yag _) _) _).trans (AtS.set _ (by simp) _)).trans (AtS.set _ (by simp) _)
 have c7:H7.Cl:=by rw[<-hX];exact zcE (zcE (zcE (zd7 c6 _) (by rw[zae];omega) _) (by rw[zam,zae];omega) _) (by rw[zam,zam,zae];omega) _
 clear hX;refine⟨i,j,l,rfl,g6s,by omega,by omega,by omega,hij.atS c6 a7 ?_,⟨by omega,λx hx hn=>?_⟩,c7⟩
 ·intro x hx hx';simp[frL2]at hx hx';omega
 ·have hn':x≠s:=by simpa using hn
  rw[a7.same x (by omega) (by simp;omega),s6.same x (by omega),s5.same x (by omega),a2.same x (by omega) hn,s1.same x (by omega)]
section
variable {t:Tabs} {s:Nat->Nat} {q:Nat->List Nat} {g:Y.Sg} {h K:Heap}
def ztf (st:Y.St (tbOf t s q) g h K) {i k:Nat} {b:Blk} {v:V} (hb:h.get i=some b) (hk:b.cells[k]?=some v):Y.Rl g Y.sh v (Y.sh g.e v):=λd hd=>by
 have h1:=st.em g.e (Y.Ag.self g) i b hb;have h2:=st.em d hd i b hb;rw[hd.2.1 i (st.kn i b hb).1,h1]at h2;simp only[Y.shB,yaa,Blk.mk.injEq,true_and,and_true]at h2;have h3:=Y.get_of (d:=g.e) hk;rw[h2,Y.get_of hk]at h3;injection h3 with h3
 exact h3.symm
def key_at(ht:TabV t s q) (st:Y.St (tbOf t s q) g h K) {i k m n0 id kid:Nat} {b:Blk} {bl:List V} (hb:h.get i=some b) (hk:b.cells[k]?=some (.ptr m 0)) (hm:t.ks[m]?=some (n0,.key id kid bl)) :
  ∃n tg lo,szs id=some (n,tg)/\KeyB lo K (g.e.f m) (drv id kid n tg (iv s q bl))/\∀j,t.ks.length<=j->j<n0->g.nf j->g.e.f j<lo:=by
 obtain⟨hf,-⟩:=Y.fnamed (ztf st hb hk);have hmR:m<(tbOf t s q).R:=(yaw.1 hm).1;obtain⟨-,lo,Hc,hP,sf,hl⟩:=st.mf m hmR hf;have hP:(match t.ks[m]? with|some (_,.key i kid bl)=>∃n tg,szs i=some (n,tg)/\KeyB lo Hc (g.e.f m) (drv i kid n tg (iv s q bl)) | _=>False):=hP;have et:(tbOf t s q).t m=n0:=by
  show(match t.ks[m]? with|some p=>p.1|none=>0)=n0;rw[hm]
 rw[hm]at hP;obtain⟨n,tg,h1,h2⟩:=hP;exact⟨n,tg,lo,h1,h2.keep ⟨sf.le,λi h1 h2=>sf.sm i h1 h2⟩,λj h3 h4 h5=>hl j h3 (by rw[et];exact h4) h5⟩
def zd8 (st:Y.St (tbOf t s q) g h K) {i:Nat} {b:Blk} (hb:h.get i=some b):K.get (g.e.f i)=some (Y.shB g.e b)/\g.nf i/\g.e.f i<K.next/\t.ks.length<=i:=
 ⟨st.em g.e (Y.Ag.self g) i b hb,(st.kn i b hb).1,st.lt i (st.kn i b hb).1,(st.kn i b hb).2⟩
end
end Go.Ax.SU
/- Rtp1 -/
namespace Go.Ax.R7
open Go.Ax
def be(l:List Nat):Nat:=l.foldl (λa b=>a*256+b) 0
def be_snoc(l:List Nat)(b:Nat):be (l++[b])=be l*256+b:=by simp[be]
def be_lt(l:List Nat)(h:∀x∈l,x<256):be l<256 ^ l.length:=by
 have key:∀(l:List Nat),(∀x∈l,x<256)->∀l':List Nat,l=l'.reverse->be l<256 ^ l.length:=by
  intro l hl l' e;subst e
  induction l' with
  | nil=>simp[be]
  | cons b l' ih=>
   rw[ycf,be_snoc,yaf,yci,ybu];have h1:=ih λx hx=>hl x (by rw[ycf];exact yco _ hx);have h2:=hl b (by simp);omega
 exact key l h l.reverse (by simp)
def or256(a b:Nat)(h:b<256):a*256 ||| b=a*256+b:=by
 have:=ybP (i:=8) (b:=b) h a;rw[ybl]at this;exact this.symm
abbrev By(lo:Nat)(H:Heap)(v:V)(l:List Nat):Prop:=Lc 1 lo H v (l.map by8) l.length
def Ok8(l:List Nat):Prop:=∀x∈l,x<256
def Ok8.take{l:List Nat}(h:Ok8 l)(n:Nat):Ok8 (l.take n):=λx hx=>h x (ybL hx)
def Ok8.drop{l:List Nat}(h:Ok8 l)(n:Nat):Ok8 (l.drop n):=λx hx=>h x (ybM hx)
def by_at{lo:Nat}{H:Heap}{v:V}{l:List Nat}(h:By lo H v l){i:Int}(h0:0<=i)(h1:i<l.length):∃p,(∀{k:IntKind},Ax.iaddr none 1 v (.int k i)=some p)/\LdR none H p (.int .u8 (l.getD i.toNat 0:Nat))/\p.pid=v.pid:=by
 obtain⟨p,hp,hl⟩:=h.at h0 h1;have hi:i.toNat<l.length:=by omega
 have e:((l.map by8).drop (i.toNat*1)).take 1=[by8 l[i.toNat]]:=by
  rw[ya5,<-yb7,yaM hi];rfl
 rw[e]at hl;refine⟨p,hp,λf Q=>?_,hl.pid.1⟩;rw[hl.ld0 (by simp)];have hg:l.getD i.toNat 0=l[i.toNat]:=by rw[yak,yae hi];rfl
 rw[hg];exact zpl
def zr6{lo:Nat}{H:Heap}{v:V}{l:List Nat}(h:By lo H v l){i:Int}(h0:0<=i)(h1:i<l.length):∃p,(∀{k:IntKind},Ax.iaddr none 1 v (.int k i)=some p)/\(∀H',By lo H' v l->LdR none H' p (.int .u8 (l.getD i.toNat 0:Nat)))/\p.pid=v.pid:=by
 obtain⟨p,hp,hl,hd⟩:=by_at h h0 h1;refine⟨p,hp,λH' h'=>?_,hd⟩;obtain⟨p',hp',hl',-⟩:=by_at h' h0 h1;have:p=p':=by
  have:=(hp (k:=.i64)).symm.trans (hp' (k:=.i64));simpa using this
 subst this;exact hl'
def by_slice{lo:Nat}{H:Heap}{v:V}{l:List Nat}(h:By lo H v l){x y:Int}(h0:0<=x)(h1:x<=y)(h2:y<=l.length) :
  ∃v',(∀{k k':IntKind},zat .sl 1 v (some (.int k x)) (some (.int k' y)) none=some v')/\(x=0->∀{k':IntKind},zat .sl 1 v none (some (.int k' y)) none=some v')/\(y=l.length->∀{k:IntKind},zat .sl 1 v (some (.int k x)) none none=some v') /\
   By lo H v' ((l.drop x.toNat).take (y.toNat-x.toNat))/\v'.pid=v.pid:=by
 obtain⟨v',a,b,c,d,e⟩:=h.slice h0 h1 h2;refine⟨v',a,b,c,?_,e⟩;have hl:((l.drop x.toNat).take (y.toNat-x.toNat)).length=y.toNat-x.toNat:=by rw[yaq,yas];omega
 have:=d;rw[ya5,ya5,<-yb7,<-yb6]at this;unfold By;rw[hl];exact this
def getD_lt{l:List Nat}(h:Ok8 l)(i:Nat):l.getD i 0<256:=by
 rw[yak];cases e:l[i]? with
 | none=>simp
 | some x=>exact h x (ybb e)
def take_snoc{l:List Nat}{i:Nat}(h:i<l.length):l.take (i+1)=l.take i++[l.getD i 0]:=by
 rw[ybY,yae h,yak,yae h];rfl
def be_take_lt{l:List Nat}(h:Ok8 l){i n:Nat}(hi:i<=n):be (l.take i)<256 ^ n:=by
 have h1:=be_lt _ (h.take i);have h2:256 ^ (l.take i).length<=256 ^ n:=ybB (by decide) (by rw[yaq];omega);omega
def zo4{lo:Nat}{H:Heap}{v:V}{l:List Nat}(h:By lo H v l)(h8:Ok8 l)(hn:l.length<=4):Ok (sem T zdd [v]) H λr H'=>r = .int .u32 (be l:Nat)/\H'=H:=by
 refine zve ?_;unfold zrO uL uR uc ug;simp(maxSteps:=1000000) (disch:=first|omega|(simp only[RY]<;>omega)|decide)only[↓RD,RZ,eq_self,Int.reduceToNat,Int.reduceAdd,Int.reduceSub,Int.reduceMul,Nat.reduceAdd,Nat.reduceSub,Nat.reduceMul,Nat.reduceDiv,Nat.reduceMod,Nat.reduceBEq,Nat.reduceLeDiff,h.vlen];refine zaS (λk L H'=>L=[.int .u32 (be (l.take k):Nat),.int .i64 (k:Nat)]/\H'=H) l.length ?_ ?_ ?_
 ·exact⟨by simp[be],rfl⟩
 ·rintro k L H1 hk ⟨rfl,rfl⟩;obtain⟨p,hp,hld,-⟩:=by_at h (i:=(k:Nat)) (by omega) (by omega);have hb:=be_take_lt h8 (i:=k) (n:=3) (by omega);have hg:=getD_lt h8 k;have hm:be (l.take k)*256%4294967296=be (l.take k)*256:=yaB (by omega);unfold zj2 uL uB uIM uK uc uq ug;simp(maxSteps:=1000000) (disch:=first|omega|(simp only[RY]<;>omega)|decide)only[↓RD,RZ,eq_self,Int.reduceToNat,Int.reduceAdd,Int.reduceSub,Int.reduceMul,Nat.reduceAdd,Nat.reduceSub,Nat.reduceMul,Nat.reduceDiv,Nat.reduceMod,Nat.reduceBEq,Nat.reduceLeDiff,hp,hld,hm,or256 _ _ hg];rw[take_snoc hk,be_snoc];rfl
 ·rintro L H1 ⟨rfl,rfl⟩;unfold zj2 uL uB uIM uK uc uq ug;simp(maxSteps:=1000000) (disch:=first|omega|(simp only[RY]<;>omega)|decide)only[↓RD,RZ,eq_self,Int.reduceToNat,Int.reduceAdd,Int.reduceSub,Int.reduceMul,Nat.reduceAdd,Nat.reduceSub,Nat.reduceMul,Nat.reduceDiv,Nat.reduceMod,Nat.reduceBEq,Nat.reduceLeDiff];rw[ya2]
def okb_copy{β:Type}{ty e bytes m:Nat}{H:Heap}{y:V}{q:List V}{f:V->M β}{Q:β->Heap->Prop} (hy:acells e H y=some (q,m)) (hp:∀id,y.pid=some id->id<H.next) (hq:q.length=m*e)
  (hb:m*bytes<=140737488355328) (hm:m<=140737488355328)
  (k:∀x' H',App ty e H.next H' x' q m->Grow H H'->Ok (f x') H' Q):Ok ((mappend ty e bytes (.sl H.next 0 0 (.fix 0)) y).bind f) (H.new ⟨ty,[],none⟩) Q:=by
 have ha:App ty e H.next (H.new ⟨ty,[],none⟩) (.sl H.next 0 0 (.fix 0)) [] 0:=.lit (zaf _ _) (yag _) (by rw[zae];omega);refine zig ha (by rw[zae];omega) (by rw[zr9 λi hi=>zas _ _ (by have:=hp i hi;omega)];exact hy) hq (by simpa using hb) (by omega) λx' H' h hs=>?_;refine k x' H' (by simpa using h) ⟨by have:=hs.next;rw[zae]at this;omega,λi hi=>?_⟩;rw[hs.same i (by rw[zae];omega) (by simp[V.pid];omega),zas _ _ (by omega)]
def zuJ{lo:Nat}{H:Heap}{v:V}{l:List Nat}(h:By lo H v l)(hl:l.length<=1099511627776):Ok (sem T zbp [v]) H λr H'=>By H.next H' r l/\Grow H H':=by
 refine zjp ?_;unfold zhB uL uR ub;rcases h.cases with⟨rfl,hc,hn⟩|⟨id,off,cap,b,rfl,_⟩|⟨cs,rfl,_⟩
 ·simp(disch:=omega)only[↓RD,RZ];have:l=[]:=yay hn;subst this;exact⟨Lc.nil,Grow.refl _⟩
 ·simp(disch:=omega)only[↓RD,RZ];refine okb_copy h.ac (λi hi=>(h.own i hi).2) (by simp) (by omega) (by omega) λx' H' ha hg=>?_;simp(disch:=omega)only[↓RD,RZ];exact⟨ha.lc,hg⟩
 ·simp(disch:=omega)only[↓RD,RZ];refine okb_copy h.ac (λi hi=>(h.own i hi).2) (by simp) (by omega) (by omega) λx' H' ha hg=>?_;simp(disch:=omega)only[↓RD,RZ];exact⟨ha.lc,hg⟩
end Go.Ax.R7
/- Rtp2 -/
namespace Go.Ax
def Lc.step{e lo n:Nat}{H H':Heap}{F F':List Nat}{v:V}{cells:List V}(h:Lc e lo H v cells n)(s:Step H H' F F')(hd:∀id,v.pid=some id->id∉F):Lc e lo H' v cells n:=
 ⟨by rw[zc2 λi hi=>s.same i (h.own i hi).2 (hd i hi)];exact h.rc,λi hi=>⟨(h.own i hi).1,yai (h.own i hi).2 s.next⟩,h.cap⟩
def Lc.setn{e lo n:Nat}{H:Heap}{v:V}{cells:List V}(h:Lc e lo H v cells n){w:Nat}(hd:v.pid≠some w)(b:Option Blk):Lc e lo (H.set w b) v cells n:=
 ⟨by rw[zc2 λi hi=>zaj _ _ (λe=>hd (by rw[hi,e]))];exact h.rc,h.own,h.cap⟩
def Lc.newn{e lo n:Nat}{H:Heap}{v:V}{cells:List V}(h:Lc e lo H v cells n)(b:Blk):Lc e lo (H.new b) v cells n:=h.ext (Grow.new H b)
end Go.Ax
namespace Go.Ax.R7
open Go.Ax
abbrev X:Type:=Int×List Nat
def xc(w:X×V):List V:=[.int .i64 w.1.1,w.2]
structure Exs (lo:Nat) (H:Heap) (v:V) (xs:List X):Prop where
 ex:∃ws:List (X×V),ws.map (·.1)=xs/\Lc 2 lo H v (ws.map xc).flatten ws.length/\∀w∈ws,By lo H w.2 w.1.2
def Exs.nil{lo:Nat}{H:Heap}:Exs lo H .nils []:=⟨[],rfl,Lc.nil,λw h=>by cases h⟩
def Exs.keep{lo:Nat}{H H':Heap}{v:V}{xs:List X}(h:Exs lo H v xs)(k:Keep lo H H'):Exs lo H' v xs:=by
 obtain⟨ws,h1,h2,h3⟩:=h;exact⟨ws,h1,h2.keep k,λw hw=>(h3 w hw).keep k⟩
def Exs.ext{lo:Nat}{H H':Heap}{v:V}{xs:List X}(h:Exs lo H v xs)(k:Grow H H'):Exs lo H' v xs:=h.keep (k.keep lo)
def Exs.low{lo lo':Nat}{H:Heap}{v:V}{xs:List X}(h:Exs lo H v xs)(hl:lo'<=lo):Exs lo' H v xs:=by
 obtain⟨ws,h1,h2,h3⟩:=h;exact⟨ws,h1,h2.low hl,λw hw=>(h3 w hw).low hl⟩
def Exs.vlen{lo:Nat}{H:Heap}{v:V}{xs:List X}(h:Exs lo H v xs):Ax.vlen v=some (.int .i64 (xs.length:Nat)):=by
 obtain⟨ws,rfl,h2,h3⟩:=h;rw[h2.vlen,yah]
def Exs.cells1{lo:Nat}{H:Heap}{v:V}{xs:List X}(h:Exs lo H v xs):v.cells=[v]:=by
 obtain⟨ws,rfl,h2,h3⟩:=h;exact h2.cells1
def Exs.okc{lo:Nat}{H:Heap}{v:V}{xs:List X}(h:Exs lo H v xs):v.okc=true:=by
 obtain⟨ws,rfl,h2,h3⟩:=h;exact h2.okc
def zlx{α:Type}{k:Nat} (es:List (List α)) (h:∀x∈es,x.length=k) (i:Nat) (hi:i<es.length):(es.flatten.drop (i*k)).take k=es[i]:=(zx9 es h i es[i] (yae hi)).1
def xc_len (ws:List (X×V)):∀x∈ws.map xc,x.length=2:=λx hx=>by
 obtain⟨w,_,rfl⟩:=yaW.1 hx;rfl
def Exs.at{lo:Nat}{H:Heap}{v:V}{xs:List X}(h:Exs lo H v xs){i:Nat}(hi:i<xs.length):∃p bv,(∀{k:IntKind},Ax.iaddr none 2 v (.int k i)=some p)/\Pl H p [.int .i64 xs[i].1,bv] v.pid/\By lo H bv xs[i].2:=by
 obtain⟨ws,rfl,h2,h3⟩:=h;rw[yah]at hi;obtain⟨p,hp,hl⟩:=h2.at (i:=(i:Nat)) (by omega) (by omega);have e:((ws.map xc).flatten.drop (i*2)).take 2=[.int .i64 ws[i].1.1,ws[i].2]:=by
  rw[zlx _ (xc_len ws) i (by rw[yah];exact hi),ybQ];rfl
 rw[yan,e]at hl;refine⟨p,ws[i].2,hp,?_,?_⟩
 ·simpa using hl
 ·simpa using h3 _ (yaV hi)
structure AppX (ty lo:Nat) (H:Heap) (v:V) (xs:List X):Prop where
 ex:∃ws:List (X×V),ws.map (·.1)=xs/\App ty 2 lo H v (ws.map xc).flatten ws.length/\∀w∈ws,By lo H w.2 w.1.2/\∀id,w.2.pid=some id->v.pid≠some id
def AppX.exs{ty lo:Nat}{H:Heap}{v:V}{xs:List X}(h:AppX ty lo H v xs):Exs lo H v xs:=by
 obtain⟨ws,h1,h2,h3⟩:=h;exact⟨ws,h1,h2.lc,λw hw=>(h3 w hw).1⟩
def AppX.nil{ty lo:Nat}{H:Heap}:AppX ty lo H .nils []:=⟨[],rfl,App.nil,λw h=>by cases h⟩
def App.keep{ty e lo n:Nat}{H H':Heap}{v:V}{cells:List V}(h:App ty e lo H v cells n)(k:Keep lo H H'):App ty e lo H' v cells n:=by
 cases h with
 | opn h ho=>exact .opn (h.to λi hi=>k.same i (ho i hi).1 (ho i hi).2) λi hi=>⟨(ho i hi).1,yai (ho i hi).2 k.next⟩
 | lit h h0 h1=>exact .lit (by rw[k.same _ h0 h1,h]) h0 (yai h1 k.next)
def AppX.keep{ty lo:Nat}{H H':Heap}{v:V}{xs:List X}(h:AppX ty lo H v xs)(k:Keep lo H H'):AppX ty lo H' v xs:=by
 obtain⟨ws,h1,h2,h3⟩:=h;exact⟨ws,h1,App.keep h2 k,λw hw=>⟨(h3 w hw).1.keep k,(h3 w hw).2⟩⟩
def okb_appx{β:Type}{ty bytes lo:Nat}{H:Heap}{x y bv:V}{xs:List X}{a:Int}{b:List Nat}{f:V->M β}{Q:β->Heap->Prop}(hx:AppX ty lo H x xs)(hlo:lo<=H.next) (hy:acells 2 H y=some ([.int .i64 a,bv],1)) (hbv:By lo H bv b) (hd:∀id,bv.pid=some id->x.pid≠some id)
  (hb:(xs.length+1)*bytes<=140737488355328) (hm:xs.length+1<=140737488355328)
  (k:∀x' H',AppX ty lo H' x' (xs++[(a,b)])->Step H H' x.pid.toList x'.pid.toList->Ok (f x') H' Q):Ok ((mappend ty 2 bytes x y).bind f) H Q:=by
 obtain⟨ws,rfl,h2,h3⟩:=hx;rw[yah]at hb hm;refine zig h2 hlo hy rfl hb hm λx' H' h s=>k x' H' ⟨ws++[((a,b),bv)],by simp,?_,?_⟩ s
 ·simpa [xc]using h
 ·have hpid:∀id,x'.pid=some id->x.pid=some id\/H.next<=id:=λid hi=>by
   rcases s.own id (by simp[hi]) with h|h
   ·exact .inl (by simpa [zbP]using h)
   ·exact .inr h.1
  have key:∀(u:V) (l:List Nat),By lo H u l->(∀id,u.pid=some id->x.pid≠some id)->By lo H' u l/\∀id,u.pid=some id->x'.pid≠some id:=by
   intro u l hu hn;refine⟨hu.step s λid hi hF=>hn id hi (by simpa [zbP]using hF),λid hi he=>?_⟩;rcases hpid id he with h|h
   ·exact hn id hi h
   ·have:=(hu.own id hi).2;omega
  intro w hw;rcases yaG.1 hw with hw|hw
  ·exact key _ _ (h3 w hw).1 (h3 w hw).2
  ·simp only[yar]at hw;subst hw;exact key _ _ hbv hd
/-! One element. -/
def eid(one:Bool)(l:List Nat):Nat:=if one then l.getD 0 0/16 else l.getD 0 0
def zfe(one:Bool):Nat:=if one then 1 else 2
def enum(one:Bool)(l:List Nat):Nat:=if one then l.getD 0 0%16+1 else l.getD 1 0
def ebad(one:Bool)(l:List Nat):Prop:=eid one l=0\/l.length<zfe one+enum one l
def zoz(one:Bool)(l:List Nat):X:=((eid one l:Nat),(l.drop (zfe one)).take (enum one l))
def elen(one:Bool)(l:List Nat):Nat:=zfe one+enum one l
instance (one:Bool) (l:List Nat):Decidable (ebad one l):=by unfold ebad;infer_instance
def zvK {lo : Nat} {H : Heap} {v : V} {l : List Nat} (h : By lo H v l) (h8 : Ok8 l) (hl : l.length <= 1048576) (h0 : 0 < l.length) (prof : Int) (hp : -9223372036854775808 <= prof /\ prof <= 9223372036854775807) :
    Ok (sem T zer [.int .i64 prof, v]) H fun r H'=> Grow H H' /\
      (if ebad (decide (prof = 48862)) l then r = .tup [.agg [.int .i64 0, .nils], .int .i64 0, .bool false]
       else ∃ bv, r = .tup [.agg [.int .i64 (zoz (decide (prof = 48862)) l).1, bv], .int .i64 (elen (decide (prof = 48862)) l : Nat), .bool true] /\ By H.next H' bv (zoz (decide (prof = 48862)) l).2):= by
  obtain ⟨p0, hp0, hl0, -⟩:= zr6 h (i:= 0) (by omega) (by omega)
  have hb0:= getD_lt h8 0
  have hb1:= getD_lt h8 1
  have hv : ∀ id, v.pid = some id -> id < H.next:= fun id hi=> (h.own id hi).2
  refine zoh ?_
  unfold zkP uL uS uT uF uFM uB uIM uG uH uO uA uR uK uc ub uq ug
  have e1:= hl0 (H.new ⟨zaU, [.int .i64 0, .nils], none⟩) (h.newn _)
  simp (disch:= first | omega | (simp only [RY] <;> omega) | decide) only [↓RD, RZ, eq_self, seval, hp0, e1]
  generalize hH1 : (Heap.new (Heap.new _ _) _).set _ _ = H1
  have hn1 : H1.next = H.next + 2:= by rw [<- hH1];rfl
  have hg1 : Grow H H1:= by rw [<- hH1];exact ((Grow.new H _).trans (Grow.new _ _)).set (by omega) _
  have hd4 : H1.get H.next = some ⟨zaU, [.int .i64 0, .nils], none⟩:= by rw [<- hH1, zaj _ _ (by omega), zas _ _ (by rw [zae];omega), zaf]
  have hd7 : H1.get (H.next + 1) = some ⟨zaU, [.int .i64 (l.getD 0 0 : Nat), .nils], none⟩:= by rw [<- hH1, zai]
  have h1 : By lo H1 v l:= h.ext hg1
  clear hH1
  -- both shapes of a head
  refine zao (Q:= fun r H'=> r = Res.nrm [.int .i64 (zfe (decide (prof = 48862)) : Nat), .int .i64 (enum (decide (prof = 48862)) l : Nat)] /\ By lo H' v l /\ Grow H H' /\ H'.next = H1.next /\ H'.get H.next = H1.get H.next /\ H'.get (H.next + 1) = some ⟨zaU, [.int .i64 (eid (decide (prof = 48862)) l : Nat), .nils], none⟩) ?_ ?_
  · have e2:= hl0 H1 h1
    refine zxm (fun hpr=> ?_) fun hpr=> ?_
    · have e3:= hl0 (H1.set (H.next + 1) (some ⟨zaU, [.int .i64 (l.getD 0 0 / 16 : Nat), .nils], none⟩)) (h1.setn (fun e=> by have:= hv _ e;omega) _)
      simp (disch:= omega) only [↓RD, RZ, eq_self, seval, hp0, e2, hd7, e3]
      have hen : enum (decide (prof = 48862)) l = l.getD 0 0 % 16 + 1:= by rw [decide_eq_true hpr];rfl
      have hef : zfe (decide (prof = 48862)) = 1:= by rw [decide_eq_true hpr];rfl
      have hei : eid (decide (prof = 48862)) l = l.getD 0 0 / 16:= by rw [decide_eq_true hpr];rfl
      rw [hen, hef, hei]
      exact ⟨rfl, h1.setn (fun e=> by have:= hv _ e;omega) _, hg1.set (by omega) _, by trivial⟩
    · have hei : eid (decide (prof = 48862)) l = l.getD 0 0:= by rw [decide_eq_false hpr];rfl
      have hef : zfe (decide (prof = 48862)) = 2:= by rw [decide_eq_false hpr];rfl
      have hen : enum (decide (prof = 48862)) l = l.getD 1 0:= by rw [decide_eq_false hpr];rfl
      rw [hen, hef, hei]
      simp (maxSteps:= 1000000) (disch:= first | omega | (simp only [RY] <;> omega) | decide) only [↓RD, RZ, eq_self, Int.reduceToNat, Int.reduceAdd, Int.reduceSub, Int.reduceMul, Nat.reduceAdd, Nat.reduceSub, Nat.reduceMul, Nat.reduceDiv, Nat.reduceMod, Nat.reduceBEq, Nat.reduceLeDiff, h1.vlen]
      by_cases hl1 : 1 < l.length
      · obtain ⟨p1, hp1, hl1', -⟩:= by_at h1 (i:= 1) (by omega) (by omega)
        simp (maxSteps:= 1000000) (disch:= first | omega | (simp only [RY] <;> omega) | decide) only [↓RD, RZ, eq_self, Int.reduceToNat, Int.reduceAdd, Int.reduceSub, Int.reduceMul, Nat.reduceAdd, Nat.reduceSub, Nat.reduceMul, Nat.reduceDiv, Nat.reduceMod, Nat.reduceBEq, Nat.reduceLeDiff, hp1, hl1']
        exact ⟨rfl, h1, hg1, hd7⟩
      · have hz : l.getD 1 0 = 0:= by rw [yak, ybp (by omega)];rfl
        simp (maxSteps:= 1000000) (disch:= first | omega | (simp only [RY] <;> omega) | decide) only [↓RD, RZ, eq_self, Int.reduceToNat, Int.reduceAdd, Int.reduceSub, Int.reduceMul, Nat.reduceAdd, Nat.reduceSub, Nat.reduceMul, Nat.reduceDiv, Nat.reduceMod, Nat.reduceBEq, Nat.reduceLeDiff, hz]
        exact ⟨rfl, h1, hg1, hd7⟩
  · rintro _ H2 ⟨rfl, h2, hg2, hn2, hd4', hd7'⟩
    rw [hd4] at hd4'
    simp (disch:= omega) only [↓RD, RZ, eq_self, seval, hd4', hd7', h2.vlen]
    have hef : zfe (decide (prof = 48862)) <= 2:= by unfold zfe;split <;> omega
    have hen : enum (decide (prof = 48862)) l <= 255:= by unfold enum;split <;> omega
    have hei : eid (decide (prof = 48862)) l <= 255:= by unfold eid;split <;> omega
    unfold zoz elen
    generalize hone : decide (prof = 48862) = one at *
    by_cases hz : eid one l = 0
    · have hbad : ebad one l:= .inl hz
      rw [hz] at hd7'
      simp (disch:= first | omega | (simp only [RY] <;> omega) | decide) only [↓RD, RZ, eq_self, seval, hz, hd4', hd7']
      rw [if_pos hbad]
      exact ⟨hg2.set (by omega) _, by trivial⟩
    · by_cases hs : l.length < zfe one + enum one l
      · have hbad : ebad one l:= .inr hs
        simp (disch:= first | omega | (simp only [RY] <;> omega) | decide) only [↓RD, RZ, eq_self, seval, hd4', hd7', h2.vlen]
        rw [if_pos hbad]
        exact ⟨hg2.set (by omega) _, by trivial⟩
      · have hbad : ¬ ebad one l:= fun h=> h.elim hz hs
        obtain ⟨v', hs1, -, -, hs4, hs5⟩:= by_slice h2 (x:= (zfe one : Nat)) (y:= (zfe one + enum one l : Nat)) (by omega) (by omega) (by omega)
        have ec : (zfe one : Int) + (enum one l : Int) = ((zfe one + enum one l : Nat) : Int):= rfl
        have el : ((zfe one + enum one l : Nat) : Int).toNat - ((zfe one : Nat) : Int).toNat = enum one l:= by omega
        rw [el, yan] at hs4
        simp (disch:= omega) only [↓RD, RZ, eq_self, seval, h2.vlen, ec, hs1]
        refine zad (zuJ hs4 (by rw [yaq, yas];omega)) ?_
        rintro bv H3 ⟨hb3, hg3⟩
        have hd4'' : H3.get H.next = some ⟨zaU, [.int .i64 0, .nils], none⟩:= by rw [hg3.same _ (by omega), hd4']
        have hd7'' : H3.get (H.next + 1) = some ⟨zaU, [.int .i64 (eid one l : Nat), .nils], none⟩:= by rw [hg3.same _ (by omega), hd7']
        simp (disch:= first | omega | (simp only [RY] <;> omega) | decide) only [↓RD, RZ, eq_self, seval, hd4'', hd7'', hb3.cells1, hb3.okc]
        rw [if_neg hbad]
        have hne : ∀ w, w <= H.next + 1 -> bv.pid ≠ some w:= fun w hw e=> by have:= (hb3.own w e).1;omega
        exact ⟨((hg2.trans hg3).set (by omega) _).set (by omega) _, bv, rfl, ((hb3.low (by omega)).setn (hne _ (by omega)) _).setn (hne _ (by omega)) _⟩
/-! All elements. -/
def zfV(one:Bool)(l:List Nat):Option (List X):=
 if h:l.length=0 then some []
 else if l.getD 0 0=0 then zfV one (l.drop 1)
 else if one=true/\l.getD 0 0/16=15 then some []
 else if ebad one l then none
 else (zfV one (l.drop (elen one l))).map (zoz one l :: ·)
termination_by l.length
decreasing_by
 all_goals simp only[yas]
 ·omega
 ·unfold elen zfe;split<;>omega
def elen_pos(one:Bool)(l:List Nat):0<elen one l:=by unfold elen zfe;split<;>omega
def exts_ok{lo:Nat}{H:Heap}{v:V}{l:List Nat}(h:By lo H v l)(h8:Ok8 l)(hl:l.length<=1048576)(prof:Int)(hp:-9223372036854775808<=prof/\prof<=9223372036854775807) :
  Ok (sem T zfu [.int .i64 prof,v]) H λr H'=>Grow H H'/\match zfV (decide (prof=48862)) l with
   | none=>r = .tup [.nils,.bool false]
   | some xs=>∃xv,r = .tup [xv,.bool true]/\Exs H.next H' xv xs/\xs.length<=l.length:=by
 refine zsJ ?_;unfold zo9 uR ug;simp(disch:=omega)only[↓RD,RZ,eq_self,seval];generalize hone:decide (prof=48862)=one;refine ztX (λL H' m=>∃w acc k xs,L=[w,acc]/\m=l.length-k/\k<=l.length/\By lo H' w (l.drop k)/\w.pid=v.pid/\AppX zaU H.next H' acc xs/\Grow H H'/\xs.length<=k/\zfV one l=(zfV one (l.drop k)).map (xs ++ ·)) l.length ?_ ?_
 ·exact⟨v,.nils,0,[],rfl,by simp,by omega,by simpa using h,rfl,AppX.nil,Grow.refl _,by simp,by simp⟩
 ·rintro L H1 m ⟨w,acc,k,xs,rfl,rfl,hk,hw,hwp,ha,hg,hx,hpe⟩;have hdl:(l.drop k).length=l.length-k:=by rw[yas]
  unfold zlT uL uM uS uT uE uB uG uH uO uA uR uK uc ub uq ug;simp(disch:=omega)only[↓RD,RZ,eq_self,seval,hw.vlen,hdl];by_cases h0:l.length-k=0
  ·have hp0:zfV one (l.drop k)=some []:=by rw[zfV,dif_pos (by omega)]
   rw[hp0]at hpe;simp(disch:=omega)only[↓RD,RZ,eq_self,seval,hw.vlen,hdl];refine⟨hg,?_⟩;rw[hpe];exact⟨acc,rfl,by simpa using ha.exs,by simpa using (by omega:xs.length<=l.length)⟩
  ·have hpos:0<l.length-k:=by omega
   obtain⟨p0,hp0,hl0,-⟩:=zr6 hw (i:=0) (by omega) (by omega);have e1:=hl0 H1 hw;have h8k:=h8.drop k;have hb0:=getD_lt h8k 0;have ht0:(0:Int).toNat=0:=rfl;rw[ht0]at e1;have hp1:zfV one (l.drop k)=if (l.drop k).getD 0 0=0 then zfV one ((l.drop k).drop 1) else if one=true/\(l.drop k).getD 0 0/16=15 then some [] else if ebad one (l.drop k) then none else (zfV one ((l.drop k).drop (elen one (l.drop k)))).map (zoz one (l.drop k) :: ·):=by
    rw[zfV,dif_neg (by omega)]
   simp(disch:=omega)only[↓RD,RZ,eq_self,seval,hp0,e1];refine zxm (λhz=>?_) λhz=>?_
   ·obtain⟨v',-,-,hs3,hs4,hs5⟩:=by_slice hw (x:=1) (y:=(l.length-k:Nat)) (by omega) (by omega) (by omega);rw[if_pos (by omega)]at hp1;have hs3':=@hs3 (by rw[hdl]);simp(disch:=omega)only[↓RD,RZ,eq_self,seval,hs3'];refine⟨l.length-(k+1),by omega,v',acc,k+1,xs,rfl,rfl,by omega,?_,hs5.trans hwp,ha,hg,by omega,?_⟩
    ·have el:(l.drop k).drop 1=l.drop (k+1):=by rw[ya9]
     have:(((l.drop k).drop (1:Int).toNat).take (((l.length-k:Nat):Int).toNat-(1:Int).toNat))=l.drop (k+1):=by
      rw[<-el];exact yaj (by rw[yas,yas];omega)
     rw[this]at hs4;exact hs4
    ·rw[hpe,hp1,ya9]
   ·rw[if_neg (by omega)]at hp1;by_cases hend:one=true/\(l.drop k).getD 0 0/16=15
    ·rw[if_pos hend]at hp1;have hpr:prof=48862:=by rw[hend.1]at hone;exact of_decide_eq_true hone
     simp(disch:=omega)only[↓RD,RZ,eq_self,seval,hp0,e1,hend.2];rw[hpe,hp1];exact⟨hg,acc,rfl,by simpa using ha.exs,by simp;omega⟩
    ·rw[if_neg hend]at hp1;have hcase:(prof=48862/\(l.drop k).getD 0 0/16≠15)\/prof≠48862:=by
      by_cases hpr:prof=48862
      ·refine .inl ⟨hpr,λe=>hend ⟨?_,e⟩⟩;rw[<-hone];exact decide_eq_true hpr
      ·exact .inr hpr
     rcases hcase with⟨hpr,h15⟩|hpr<;>(
      simp(disch:=omega)only[↓RD,RZ,eq_self,seval,hp0,e1];refine zad (zvK hw h8k (by omega) (by omega) prof hp) ?_;rintro r H2 ⟨hg2,hr⟩;rw[hone]at hr;by_cases hbad:ebad one (l.drop k)
      ·rw[if_pos hbad]at hr hp1;subst hr;simp(disch:=omega)only[↓RD,RZ,eq_self,seval];rw[hpe,hp1];exact⟨(hg.trans hg2).trans ((Grow.new _ _).set (by omega) _),by trivial⟩
      ·rw[if_neg hbad]at hr hp1;obtain⟨bv,rfl,hbv⟩:=hr;have hel:=elen_pos one (l.drop k);have helr:elen one (l.drop k)<=l.length-k:=by
        have:¬(l.drop k).length<zfe one+enum one (l.drop k):=λe=>hbad (.inr e);unfold elen;omega
       simp(disch:=first|omega|(simp only[RY]<;>omega)|decide)only[↓RD,RZ,eq_self,seval,hbv.cells1,hbv.okc];generalize hH3:(Heap.set _ _ _)=H3;have g23:Grow H2 H3:=by rw[<-hH3];exact(Grow.new _ _).set (by omega) _
       have n3:H3.next=H2.next+1:=by rw[<-hH3];rfl
       have hn1:=hg.next;have hn2:=hg2.next;have g13:=hg2.trans g23;have hbv3:=hbv.ext g23;refine okb_appx (lo:=H.next) (bytes:=32) (ha.keep ((g13.trans (Grow.new _ _)).keep _)) (by rw[zae];omega) (zn0 (by omega) rfl) ((hbv3.newn _).low (by omega)) (λid hid e=>?_) (by omega) (by omega) λx' H4 ha4 hs4=>?_
       ·obtain⟨ws,_,hw2,_⟩:=ha;have:=(hw2.lc.own id e).2;have:=(hbv.own id hid).1;omega
       ·have hacc:∀id,acc.pid=some id->H.next<=id:=λid e=>by
         obtain⟨ws,_,hw2,_⟩:=ha;exact(hw2.lc.own id e).1
        have n4:=hs4.next;rw[zae]at n4;have g4:Grow H H4:=⟨by omega,λi hi=>by
         rw[hs4.same i (by rw[zae];omega) (λe=>by have:=hacc i (by simpa [zbP]using e);omega),zas _ _ (by omega),g13.same i (by omega),hg.same i hi]⟩
        have hw4:By lo H4 w (l.drop k):=((hw.ext g13).newn _).step hs4 λid e e2=>by
         have:=hacc id (by simpa [zbP]using e2);have:=(h.own id (hwp ▸ e)).2;omega
        obtain⟨v',-,-,hs3,hs5,hs6⟩:=by_slice hw4 (x:=(elen one (l.drop k):Nat)) (y:=(l.length-k:Nat)) (by omega) (by omega) (by omega);have hs3':=@hs3 (by rw[hdl]);simp(disch:=omega)only[↓RD,RZ,eq_self,seval,hs3'];refine⟨l.length-(k+elen one (l.drop k)),by omega,v',x',k+elen one (l.drop k),xs++[zoz one (l.drop k)],rfl,rfl,by omega,?_,hs6.trans hwp,ha4,g4,by simp;omega,?_⟩
        ·have:(((l.drop k).drop ((elen one (l.drop k):Nat):Int).toNat).take (((l.length-k:Nat):Int).toNat-((elen one (l.drop k):Nat):Int).toNat))=l.drop (k+elen one (l.drop k)):=by
          rw[yan,yan,ya9];exact yaj (by rw[yas];omega)
         rw[this]at hs5;exact hs5
        ·rw[hpe,hp1,ya9,yc0];congr 1;funext z;simp)
end Go.Ax.R7
/- Rtp3 -/
namespace Go.Ax.R7
open Go.Ax
def by32(n:Nat):V:=.int .u32 n
structure Pkt where
 mark:Bool
 typ:Int
 seq:Nat
 ts:Nat
 ssrc:Nat
 csrc:List Nat
 prof:Int
 exts:List X
 pad:Int
 pay:List Nat
def pcells(p:Pkt)(cv xv pv:V):List V:=[.bool p.mark,.int .i64 p.typ,.int .u16 p.seq,.int .u32 p.ts,.int .u32 p.ssrc,cv,.int .i64 p.prof,xv,.int .i64 p.pad,pv]
structure PkR (lo:Nat) (H:Heap) (v:V) (p:Pkt):Prop where
 ex:∃cv xv pv,v = .agg (pcells p cv xv pv)/\Lc 1 lo H cv (p.csrc.map by32) p.csrc.length/\Exs lo H xv p.exts/\By lo H pv p.pay
def PkR.keep{lo:Nat}{H H':Heap}{v:V}{p:Pkt}(h:PkR lo H v p)(k:Keep lo H H'):PkR lo H' v p:=by
 obtain⟨cv,xv,pv,h1,h2,h3,h4⟩:=h;exact⟨cv,xv,pv,h1,h2.keep k,h3.keep k,h4.keep k⟩
def PkR.ext{lo:Nat}{H H':Heap}{v:V}{p:Pkt}(h:PkR lo H v p)(k:Grow H H'):PkR lo H' v p:=h.keep (k.keep lo)
def piece(b:List Nat)(i n:Nat):List Nat:=(b.drop i).take n
def zor(b:List Nat):Pkt:=⟨decide (b.getD 1 0/128%2=1),(b.getD 1 0%128:Nat),be (piece b 2 2),be (piece b 4 4),be (piece b 8 4),[],0,[],0,[]⟩
def csn(b:List Nat):Nat:=b.getD 0 0%16
def zg1(b:List Nat):List Nat:=(List.range (csn b)).map λi=>be (piece b (12+4*i) 4)
def pext(r:List Nat):Except Int (Int×List X×Nat):=
 if r.length<4 then .error 3
 else if r.length<4+4*be (piece r 2 2) then .error 3
 else if be (piece r 0 2)≠48862/\be (piece r 0 2)≠4096 then .error 2
 else match zfV (decide (((be (piece r 0 2):Nat):Int)=48862)) (piece r 4 (4*be (piece r 2 2))) with
  | none=>.error 2
  | some xs=>.ok ((be (piece r 0 2):Nat),xs,4+4*be (piece r 2 2))
def zkj(b:List Nat):Except Int (Int×List X×Nat):=if b.getD 0 0/16%2=1 then pext (b.drop (12+4*csn b)) else .ok (0,[],0)
def parse(b:List Nat):Except Int Pkt:=
 if 1200<b.length then .error 4
 else if b.length<12 then .error 3
 else if b.getD 0 0/64≠2 then .error 2
 else if b.length<12+4*csn b then .error 3
 else match zkj b with
  | .error e=>.error e
  | .ok (prof,xs,n)=>
   let at':=12+4*csn b+n
   if b.getD 0 0/32%2=1 then
    let pad:=b.getD (b.length-1) 0
    if pad=0\/b.length-at'<pad then .error 2
    else .ok { zor b with csrc:=zg1 b,prof:=prof,exts:=xs,pad:=(pad:Nat),pay:=piece b at' (b.length-at'-pad) }
   else .ok { zor b with csrc:=zg1 b,prof:=prof,exts:=xs,pay:=piece b at' (b.length-at') }
def zfn{b:List Nat}(h:Ok8 b)(i n:Nat):Ok8 (piece b i n):=(h.drop i).take n
def zdN{b:List Nat}{i n:Nat}(h:i+n<=b.length):(piece b i n).length=n:=by unfold piece;rw[yaq,yas];omega
def zfT{b:List Nat}(h:Ok8 b)(i n:Nat):be (piece b i n)<256 ^ n:=be_take_lt (h.drop i) (yag n)
def zhK{lo:Nat}{H:Heap}{v:V}{l:List Nat}(h:By lo H v l){x y:Int}(h0:0<=x)(h1:x<=y)(h2:y<=l.length) :
  ∃v',(∀{k k':IntKind},zat .sl 1 v (some (.int k x)) (some (.int k' y)) none=some v')/\(x=0->∀{k':IntKind},zat .sl 1 v none (some (.int k' y)) none=some v')/\(y=l.length->∀{k:IntKind},zat .sl 1 v (some (.int k x)) none none=some v') /\
   By lo H v' (piece l x.toNat (y.toNat-x.toNat))/\v'.pid=v.pid:=by_slice h h0 h1 h2
def ExtQ(H:Heap)(k:Nat)(p:Pkt)(cv pv:V) (o:Except Int (Int×List X×Nat)) (res:V) (H':Heap):Prop:=
 At1 k H H'/\match o with
  | .error e=>res = .tup [.int .i64 0,.int .i64 e]
  | .ok (prof,xs,n)=>res = .tup [.int .i64 (n:Nat),.int .i64 0]/\∃xv',H'.get k=some ⟨zaq,pcells { p with prof:=prof } cv xv' pv,none⟩/\Exs H.next H' xv' xs
def zrP{lo:Nat}{H:Heap}{v:V}{r:List Nat}(h:By lo H v r)(h8:Ok8 r)(hl:r.length<=1048576){k:Nat}{p:Pkt}{cv xv pv:V}(hk:k<H.next) (hb:H.get k=some ⟨zaq,pcells p cv xv pv,none⟩) (hv:v.pid≠some k) :
  Ok (sem T zdr [.ptr k 0,v]) H (ExtQ H k p cv pv (pext r)):=by
 refine zl9 ?_;unfold ziN uL uT uNFM uNF uE uB uG uH uA uR uc;unfold pext;simp(disch:=omega)only[↓RD,RZ,eq_self,seval,h.vlen];refine zcm (λh4=>?_) λh4=>?_
 ·simp(disch:=omega)only[↓RD,RZ,eq_self,seval];rw[if_pos (by omega)];exact⟨At1.refl _ _,rfl⟩
 ·rw[if_neg (by omega)];obtain⟨v1,hs1,-,-,hb1,hp1⟩:=zhK h (x:=2) (y:=4) (by omega) (by omega) (by omega);have hb1':By lo H v1 (piece r 2 2):=hb1;have hw:=zfT h8 2 2;have hpr:=zfT h8 0 2;simp(disch:=omega)only[↓RD,RZ,eq_self,seval,hs1];refine zad (zo4 hb1' (zfn h8 _ _) (by rw[zdN (by omega)];omega)) ?_;rintro _ H ⟨rfl,rfl⟩;have ec:(4:Int)+4*(be (piece r 2 2):Nat)=((4+4*be (piece r 2 2):Nat):Int):=by omega
  simp(disch:=omega)only[↓RD,RZ,eq_self,seval,h.vlen,ec];refine zcm (λh5=>?_) λh5=>?_
  ·simp(disch:=omega)only[↓RD,RZ,eq_self,seval];rw[if_pos (by omega)];exact⟨At1.refl _ _,rfl⟩
  ·rw[if_neg (by omega)];obtain⟨v2,-,hs2,-,hb2,hp2⟩:=zhK h (x:=0) (y:=2) (by omega) (by omega) (by omega);have hb2':By lo H v2 (piece r 0 2):=hb2;have hs2':=@hs2 rfl;simp(disch:=omega)only[↓RD,RZ,eq_self,seval,hs2'];refine zad (zo4 hb2' (zfn h8 _ _) (by rw[zdN (by omega)];omega)) ?_;rintro _ H ⟨rfl,rfl⟩;unfold pcells at hb;generalize hprof:be (piece r 0 2)=prof at *;simp(disch:=omega)only[↓RD,RZ,eq_self,seval,hb];generalize hH1:Heap.set H k _=H1;have g1:H1.get k=some ⟨zaq,pcells { p with prof:=(prof:Nat) } cv xv pv,none⟩:=by rw[<-hH1,zai];rfl
   have s1:At1 k H H1:=by rw[<-hH1];exact At1.set _ _ _
   have n1:H1.next=H.next:=by rw[<-hH1,zam]
   have g1':=g1;unfold pcells at g1';have h1:By lo H1 v r:=h.at1 s1 hv;obtain⟨v3,hs3,-,-,hb3,hp3⟩:=zhK h1 (x:=4) (y:=(4+4*be (piece r 2 2):Nat)) (by omega) (by omega) (by omega);have e3:((4+4*be (piece r 2 2):Nat):Int).toNat-(4:Int).toNat=4*be (piece r 2 2):=by omega
   rw[e3]at hb3;have hb3':By lo H1 v3 (piece r 4 (4*be (piece r 2 2))):=hb3;have h83:=zfn h8 4 (4*be (piece r 2 2));have hl3:(piece r 4 (4*be (piece r 2 2))).length<=1048576:=by rw[zdN (by omega)];omega
   have main:(prof=48862\/prof=4096)->Ok ((sem T zfu [.int .i64 (prof:Nat),v3]).bind λt49=>(M.lift (ext 0 t49)).bind λt50=>(M.lift (ext 1 t49)).bind λt51=>(M.lift (un .not t51)).bind λt53=>
     M.ite t53 (M.pure (Res.ret [.int .i64 0,.int .i64 2])) ((M.lift (nilck (.ptr k 0))).bind λt56=>(M.lift (faddr 7 t56)).bind λt57=>(mstore 1 t57 t50).bind λ_=>M.pure (.ret [.int .i64 (4+4*be (piece r 2 2):Nat),.int .i64 0]))) H1
     λr' H'=>∃L,r'=Res.ret L/\ExtQ H k p cv pv (match zfV (decide (((prof:Nat):Int)=48862)) (piece r 4 (4*be (piece r 2 2))) with|none=>Except.error 2|some xs=>Except.ok (((prof:Nat):Int),xs,4+4*be (piece r 2 2))) (zdE L) H':=by
    intro hor;refine zad (exts_ok hb3' h83 hl3 (prof:Nat) (by omega)) ?_;rintro res H2 ⟨hg2,hr⟩;cases hx:zfV (decide (((prof:Nat):Int)=48862)) (piece r 4 (4*be (piece r 2 2))) with
    | none=>
     rw[hx]at hr;dsimp only at hr;subst hr;simp(disch:=omega)only[↓RD,RZ,eq_self,seval];exact⟨s1.trans (hg2.at1 k),rfl⟩
    | some xs=>
     rw[hx]at hr;dsimp only at hr;obtain⟨xv',rfl,hxs,hxl⟩:=hr;have g2:H2.get k=some ⟨zaq,[V.bool p.mark,V.int IntKind.i64 p.typ,V.int IntKind.u16 ↑p.seq,V.int IntKind.u32 ↑p.ts,V.int IntKind.u32 ↑p.ssrc,cv,V.int IntKind.i64 ↑prof,xv,V.int IntKind.i64 p.pad,pv],none⟩:=by rw[hg2.same k (by omega)];exact g1'
     simp(disch:=omega)only[↓RD,RZ,eq_self,seval,g2,hxs.cells1,hxs.okc];refine⟨(s1.trans (hg2.at1 k)).trans (At1.set _ _ _),rfl,xv',zai _ _ _,?_⟩;rw[n1]at hxs;exact hxs.keep ⟨yag _,λi h1 h2=>zaj _ _ (by omega)⟩
   by_cases hp1:prof=48862
   ·rw[if_neg (by omega)];subst hp1;simp(disch:=omega)only[↓RD,RZ,eq_self,seval,g1',hs3];exact main (.inl rfl)
   ·by_cases hp2:prof=4096
    ·rw[if_neg (by omega)];subst hp2;simp(disch:=omega)only[↓RD,RZ,eq_self,seval,g1',hs3];exact main (.inr rfl)
    ·rw[if_pos ⟨hp1,hp2⟩];simp(disch:=omega)only[↓RD,RZ,eq_self,seval,g1'];exact⟨s1,rfl⟩
def zyp{lo:Nat}{H:Heap}{v:V}{b:List Nat}(h:By lo H v b)(h8:Ok8 b)(hl:b.length<=1200){k m:Nat}{p:Pkt}{xv pv:V}(t2:V)(hv:∀id,v.pid=some id->id<k)(hk:k<m)(hm:m<=H.next) (hb:H.get k=some ⟨zaq,pcells p .nils xv pv,none⟩) (hn:12+4*csn b<=b.length) {Q:Res->Heap->Prop}
  (kk:∀H' cv,H'.get k=some ⟨zaq,pcells p cv xv pv,none⟩->Lc 1 m H' cv ((zg1 b).map by32) (zg1 b).length->(∀i,i<m->i≠k->H'.get i=H.get i)->H.next<=H'.next->Q (.ex 1 []) H') :
  Ok (M.iter (zfc (sem T) (.int .i64 (12+4*csn b:Nat)) v (.ptr k 0) t2) [.int .i64 12]) H Q:=by
 have hcl:(zg1 b).length=csn b:=by simp[zg1]
 refine zaS (λj L H'=>∃cv,L=[.int .i64 (12+4*j:Nat)]/\H'.get k=some ⟨zaq,pcells p cv xv pv,none⟩/\App zmD 1 m H' cv (((zg1 b).take j).map by32) j/\(∀i,i<m->i≠k->H'.get i=H.get i)/\H.next<=H'.next) (csn b) ?_ ?_ ?_
 ·exact⟨.nils,rfl,hb,App.nil,λ_ _ _=>rfl,yag _⟩
 ·rintro j L H1 hj ⟨cv,rfl,g1,ha,gs,gn⟩;have h1:By lo H1 v b:=⟨by rw[zc2 λi hi=>gs i (by have:=hv i hi;omega) (by have:=hv i hi;omega)];exact h.rc,λi hi=>⟨(h.own i hi).1,yai (h.own i hi).2 gn⟩,h.cap⟩;obtain⟨v1,hs1,-,-,hb1,-⟩:=zhK h1 (x:=(12+4*j:Nat)) (y:=(16+4*j:Nat)) (by omega) (by omega) (by omega);have e1:((16+4*j:Nat):Int).toNat-((12+4*j:Nat):Int).toNat=4:=by omega
  rw[e1,yan]at hb1;have e2:((12+4*j:Nat):Int)+4=((16+4*j:Nat):Int):=by omega
  have g1':=g1;unfold pcells at g1';unfold zfc uL uM uT uF uB uU uA uZ uK uc ug;simp(disch:=omega)only[↓RD,RZ,eq_self,seval,g1',e2,hs1];refine zad (zo4 hb1 (zfn h8 _ _) (by rw[zdN (by omega)];omega)) ?_;rintro _ H1 ⟨rfl,rfl⟩;simp(disch:=omega)only[↓RD,RZ,eq_self,seval];refine zig (lo:=m) (bytes:=4) (m:=1) (q:=[by32 (be (piece b (12+4*j) 4))]) (App.keep ha ((Grow.new _ _).keep _)) (by rw[zae];omega) (zcF rfl) rfl (by omega) (by omega) λcv' H2 ha2 hs2=>?_;have hcv:∀id,cv.pid=some id->m<=id:=λid hi=>(ha.lc.own id hi).1;have low:∀i,i<m->H2.get i=H1.get i:=λi hi=>by
   rw[hs2.same i (by rw[zae];omega) (λe=>by have:=hcv i (by simpa [zbP]using e);omega),zas _ _ (by omega)]
  have g2:=g1';rw[<-low k (by omega)]at g2;have n2:=hs2.next;rw[zae]at n2;simp(disch:=omega)only[↓RD,RZ,eq_self,seval,g2,ha2.lc.cells1,ha2.lc.okc];refine⟨cv',by first|rfl|(congr 2;omega),by first|rfl|exact zai _ _ _,?_,λi hi hik=>by rw[zaj _ _ hik,low i hi,gs i hi hik],by first|omega|(rw[zam];omega)⟩;have e3:((zg1 b).take (j+1)).map by32=((zg1 b).take j).map by32++[by32 (be (piece b (12+4*j) 4))]:=by
   have e4:(zg1 b).getD j 0=be (piece b (12+4*j) 4):=by
    rw[yak,yae (by omega)];simp[zg1]
   rw[take_snoc (by omega),yaC,e4];rfl
  rw[e3];exact App.keep ha2 (Keep.set _ (by omega) _)
 ·rintro L H1 ⟨cv,rfl,g1,ha,gs,gn⟩;unfold zfc uL uM uT uF uB uU uA uZ uK uc ug;simp(disch:=omega)only[↓RD,RZ,eq_self,seval];have:=ha.lc;rw[<-hcl,ya2]at this;exact kk H1 cv g1 this gs gn
def zkb:List V:=[.bool false,.int .i64 0,.int .u16 0,.int .u32 0,.int .u32 0,.nils,.int .i64 0,.nils,.int .i64 0,.nils]
def zuG(H:Heap)(o:Except Int Pkt)(res:V)(H':Heap):Prop:=
 Grow H H'/\match o with
  | .error e=>res = .tup [.agg zkb,.int .i64 e]
  | .ok p=>∃z,res = .tup [z,.int .i64 0]/\PkR H.next H' z p
def errQ{H H':Heap}{e:Int}{b:Option Blk}(h:Grow H H'):zuG H (.error e) (.tup [.agg zkb,.int .i64 e]) (H'.set H.next b):=⟨h.set (yag _) _,rfl⟩
def bitne{x:Nat}(m:Nat)(hm:0<m):(!(((x%2*m:Nat):Int)==0))=decide (x%2=1):=by
 rcases Nat.mod_two_eq_zero_or_one x with h|h
 ·simp[h]
 ·simp[h];omega
def PE(H:Heap)(lo:Nat)(v:V)(b:List Nat)(cv:V)(r:Res)(H':Heap):Prop:=
 match zkj b with
 | .error e=>∃L,r = .ret L/\zuG H (.error e) (zdE L) H'
 | .ok (prof,xs,n)=>r = .nrm [.int .i64 (12+4*csn b+n:Nat)]/\∃xv,H'.get (H.next+1)=some ⟨zaq,pcells { zor b with prof:=prof } cv xv .nils,none⟩/\Exs (H.next+2) H' xv xs/\Lc 1 (H.next+2) H' cv ((zg1 b).map by32) (zg1 b).length /\
   H'.get H.next=some ⟨zaq,zkb,none⟩/\Grow H H'/\H.next+2<=H'.next/\12+4*csn b+n<=b.length
def PP(H:Heap)(b:List Nat)(cv xv:V)(at':Nat)(prof:Int)(xs:List X)(r:Res)(H':Heap):Prop:=
 if b.getD 0 0/32%2=1/\(b.getD (b.length-1) 0=0\/b.length-at'<b.getD (b.length-1) 0) then ∃L,r = .ret L/\zuG H (.error 2) (zdE L) H'
 else r = .nrm []/\H'.get (H.next+1)=some ⟨zaq,pcells { zor b with prof:=prof,pad:=((if b.getD 0 0/32%2=1 then b.getD (b.length-1) 0 else 0:Nat):Int) } cv xv .nils,none⟩/\Exs (H.next+2) H' xv xs/\Lc 1 (H.next+2) H' cv ((zg1 b).map by32) (zg1 b).length /\
   H'.get H.next=some ⟨zaq,zkb,none⟩/\Grow H H'/\H.next+2<=H'.next
def Parse_ok{lo:Nat}{H:Heap}{v:V}{b:List Nat}(h:By lo H v b)(h8:Ok8 b)(hl:b.length<=1048576):Ok (sem T zgc [v]) H (zuG H (parse b)):=by
 have hv:∀id,v.pid=some id->id<H.next:=λid hi=>(h.own id hi).2;have b0:=getD_lt h8 0;have b1:=getD_lt h8 1;refine zrp ?_;unfold znx uL uM uS uT uF uFM uE uB uI uIM uG uH uO uU uA uZ uR uK uc ub uq ug;unfold parse;simp(disch:=omega)only[↓RD,RZ,eq_self,seval,h.vlen];generalize hH1:Heap.new H _=H1;have n1:H1.next=H.next+1:=by rw[<-hH1];rfl
 have s1:Grow H H1:=by rw[<-hH1];exact Grow.new _ _
 have g1:H1.get H.next=some ⟨zaq,zkb,none⟩:=by rw[<-hH1];exact zaf _ _
 have h1:=h.ext s1;have g1':=g1;unfold zkb at g1';clear hH1;by_cases c1:1200<b.length
 ·rw[if_pos c1];simp(disch:=first|omega|(simp only[RY]<;>omega)|decide)only[↓RD,RZ,eq_self,seval,g1'];exact errQ s1
 ·rw[if_neg c1];by_cases c2:b.length<12
  ·rw[if_pos c2];simp(disch:=first|omega|(simp only[RY]<;>omega)|decide)only[↓RD,RZ,eq_self,seval,g1',h.vlen];exact errQ s1
  ·rw[if_neg c2];obtain⟨p0,hp0,hl0,hd0⟩:=zr6 h1 (i:=0) (by omega) (by omega);obtain⟨p1,hp1,hl1,hd1⟩:=zr6 h1 (i:=1) (by omega) (by omega);have ht0:(0:Int).toNat=0:=rfl;have ht1:(1:Int).toNat=1:=rfl;rw[ht0]at hl0;rw[ht1]at hl1;have e0:=hl0 H1 h1;have e1:=hl1 H1 h1;by_cases c3:b.getD 0 0/64≠2
   ·rw[if_pos c3];simp(disch:=first|omega|(simp only[RY]<;>omega)|decide)only[↓RD,RZ,eq_self,seval,g1',h.vlen,hp0,e0];exact errQ s1
   ·rw[if_neg c3];have c3':b.getD 0 0/64=2:=by omega
    obtain⟨v1,hs1,-,-,hb1,-⟩:=zhK h1 (x:=2) (y:=4) (by omega) (by omega) (by omega);obtain⟨v2,hs2,-,-,hb2,-⟩:=zhK h1 (x:=4) (y:=8) (by omega) (by omega) (by omega);obtain⟨v3,hs3,-,-,hb3,-⟩:=zhK h1 (x:=8) (y:=12) (by omega) (by omega) (by omega);have hb1':By lo H1 v1 (piece b 2 2):=hb1;have hb2':By lo H1 v2 (piece b 4 4):=hb2;have hb3':By lo H1 v3 (piece b 8 4):=hb3;have r1:=@zeQ _ _ _ _ (zo4 hb1' (zfn h8 _ _) (by rw[zdN (by omega)];omega));have r2:=@zeQ _ _ _ _ (zo4 hb2' (zfn h8 _ _) (by rw[zdN (by omega)];omega));have r3:=@zeQ _ _ _ _ (zo4 hb3' (zfn h8 _ _) (by rw[zdN (by omega)];omega));have w1:=zfT h8 2 2;have w2:=zfT h8 4 4;have w3:=zfT h8 8 4;have hm:=bitne (x:=b.getD 1 0/128) 128 (by decide);simp(disch:=omega)only[↓RD,RZ,eq_self,seval,h.vlen,hp0,e0,hp1,e1,c3',hs1,hs2,hs3,r1,r2,r3,hm,n1];generalize hH2:Heap.set _ (H.next+1) _=H2;have n2:H2.next=H.next+2:=by rw[<-hH2,zam,zae];omega
    have s2:Grow H H2:=by rw[<-hH2];exact(s1.trans (Grow.new _ _)).set (by omega) _
    have g2:H2.get H.next=some ⟨zaq,zkb,none⟩:=by rw[<-hH2,zaj _ _ (by omega),zas _ _ (by omega),g1]
    have q2:H2.get (H.next+1)=some ⟨zaq,pcells (zor b) .nils .nils .nils,none⟩:=by rw[<-hH2,zai];rfl
    clear hH2;have h2:=h.ext s2;have e0':=hl0 H2 h2;have g2':=g2;unfold zkb at g2';have ec:(12:Int)+4*((b.getD 0 0%16:Nat):Int)=((12+4*csn b:Nat):Int):=by unfold csn;omega
    have hcs:csn b<=15:=by unfold csn;omega
    by_cases c4:b.length<12+4*csn b
    ·rw[if_pos c4];simp(disch:=first|omega|(simp only[RY]<;>omega)|decide)only[↓RD,RZ,eq_self,seval,e0',ec,h2.vlen,g2',n1];exact errQ s2
    ·rw[if_neg c4];simp(disch:=omega)only[↓RD,RZ,eq_self,seval,e0',ec,h2.vlen,n1];refine zyp h2 h8 (by omega) (k:=H.next+1) (m:=H.next+2) _ (λid hi=>by have:=hv id hi;omega) (by omega) (by omega) q2 (by omega) λH3 cv q3 hc3 s3 n3=>?_;have s3':Grow H H3:=⟨by omega,λi hi=>by rw[s3 i (by omega) (by omega),s2.same i hi]⟩;have g3:H3.get H.next=some ⟨zaq,zkb,none⟩:=by rw[s3 _ (by omega) (by omega),g2]
     have h3:=h.ext s3';have e03:=hl0 H3 h3;have q3':=q3;unfold pcells at q3';have g3':=g3;unfold zkb at g3';have hm16:=bitne (x:=b.getD 0 0/16) 16 (by decide);have hm32:=bitne (x:=b.getD 0 0/32) 32 (by decide);simp(disch:=omega)only[↓RD,RZ,eq_self,seval,hp0,e03,hm16,n1]
     -- the extension
     refine zao (Q:=PE H lo v b cv) ?_ ?_
     ·by_cases cx:b.getD 0 0/16%2=1
      ·obtain⟨v4,-,-,hs4,hb4,hp4⟩:=by_slice h3 (x:=(12+4*csn b:Nat)) (y:=b.length) (by omega) (by omega) (by omega);have hs4':=@hs4 rfl;have hb4':By lo H3 v4 (b.drop (12+4*csn b)):=by
        have:((b.drop ((12+4*csn b:Nat):Int).toNat).take ((b.length:Int).toNat-((12+4*csn b:Nat):Int).toNat))=b.drop (12+4*csn b):=by
         rw[yan];exact yaj (by rw[yas];omega)
        rw[this]at hb4;exact hb4
       simp(disch:=omega)only[↓RD,RZ,eq_self,seval,cx,hs4',n1];refine zad (zrP hb4' (h8.drop _) (by rw[yas];omega) (k:=H.next+1) (by omega) q3 (λe=>by have:=hv _ (hp4 ▸ e);omega)) ?_;rintro res H4 ⟨t4,hr⟩;have s4:Grow H H4:=⟨by have:=t4.next;omega,λi hi=>by rw[t4.same i (by omega) (by omega),s3'.same i hi]⟩;have g4:H4.get H.next=some ⟨zaq,zkb,none⟩:=by rw[t4.same _ (by omega) (by omega),g3]
       have g4':=g4;unfold zkb at g4';have n4:=t4.next;cases hx:pext (b.drop (12+4*csn b)) with
       | error e=>
        rw[hx]at hr;dsimp only at hr;subst hr;have hee:e=2\/e=3:=by
         unfold pext at hx;split at hx
         ·cases hx;exact .inr rfl
         ·split at hx
          ·cases hx;exact .inr rfl
          ·split at hx
           ·cases hx;exact .inl rfl
           ·split at hx
            ·cases hx;exact .inl rfl
            ·cases hx
        rcases hee with rfl|rfl
        ·simp(disch:=first|omega|(simp only[RY]<;>omega)|decide)only[↓RD,RZ,eq_self,seval,g4'];unfold PE zkj;rw[if_pos cx,hx];exact⟨_,rfl,errQ s4⟩
        ·simp(disch:=first|omega|(simp only[RY]<;>omega)|decide)only[↓RD,RZ,eq_self,seval,g4'];unfold PE zkj;rw[if_pos cx,hx];exact⟨_,rfl,errQ s4⟩
       | ok o=>
        obtain⟨prof,xs,n⟩:=o;rw[hx]at hr;dsimp only at hr;obtain⟨rfl,xv,q4,hxs⟩:=hr;have hn:n<=b.length-(12+4*csn b):=by
         unfold pext at hx;rw[yas]at hx;split at hx
         ·cases hx
         ·split at hx
          ·cases hx
          ·split at hx
           ·cases hx
           ·split at hx
            ·cases hx
            ·cases hx;omega
        have ea:((12+4*csn b:Nat):Int)+(n:Int)=((12+4*csn b+n:Nat):Int):=rfl;simp(disch:=omega)only[↓RD,RZ,eq_self,seval,ea,n1];unfold PE zkj;rw[if_pos cx,hx];exact⟨rfl,xv,q4,hxs.low (by omega),hc3.at1 t4 (λe=>by have:=(hc3.own _ e).1;omega),g4,s4,by omega,by omega⟩
      ·simp(disch:=omega)only[↓RD,RZ,eq_self,seval,cx,n1];unfold PE zkj;rw[if_neg cx];exact⟨rfl,.nils,q3,Exs.nil,hc3,g3,s3',by omega,by omega⟩
     ·rintro r H4 hPE;unfold PE at hPE;cases hx:zkj b with
      | error e=>
       rw[hx]at hPE;obtain⟨L,rfl,hq⟩:=hPE;simp(disch:=omega)only[↓RD,RZ,eq_self,seval];exact hq
      | ok o=>
       obtain⟨prof,xs,n⟩:=o;rw[hx]at hPE;obtain⟨rfl,xv,q4,hxs,hc4,g4,s4,n4,hat⟩:=hPE;dsimp only;have h4:=h.ext s4;generalize hatd:12+4*csn b+n=at' at *;obtain⟨v5,-,-,hs5,hb5,hp5⟩:=by_slice h4 (x:=(at':Nat)) (y:=b.length) (by omega) (by omega) (by omega);have hs5':=@hs5 rfl;have e5:(b.length:Int).toNat-((at':Nat):Int).toNat=b.length-at':=by omega
       rw[e5,yan]at hb5;have hb5':By (lo) H4 v5 (piece b at' (b.length-at')):=hb5;have hl5:(piece b at' (b.length-at')).length=b.length-at':=zdN (by omega);have vl5:=hb5'.vlen;rw[hl5]at vl5;obtain⟨pl,hpl,hll,hdl⟩:=zr6 h4 (i:=(b.length-1:Nat)) (by omega) (by omega);rw[yan]at hll;have e04:=hl0 H4 h4;have el4:=hll H4 h4;have elen':(b.length:Int)-1=((b.length-1:Nat):Int):=by omega
       have bl:=getD_lt h8 (b.length-1);have q4':=q4;unfold pcells at q4';have g4':=g4;unfold zkb at g4';simp(disch:=omega)only[↓RD,RZ,eq_self,seval,hs5',hp0,e04,hm32,n1]
       -- the padding
       refine zao (Q:=PP H b cv xv at' prof xs) ?_ ?_
       ·by_cases cp:b.getD 0 0/32%2=1
        ·by_cases cz:b.getD (b.length-1) 0=0
         ·simp(disch:=first|omega|(simp only[RY]<;>omega)|decide)only[↓RD,RZ,eq_self,seval,cp,h4.vlen,elen',hpl,el4,q4',cz,g4',n1];unfold PP;rw[if_pos ⟨cp,.inl cz⟩];exact⟨_,rfl,errQ (s4.set (by omega) _)⟩
         ·by_cases cl:b.length-at'<b.getD (b.length-1) 0
          ·simp(disch:=first|omega|(simp only[RY]<;>omega)|decide)only[↓RD,RZ,eq_self,seval,cp,h4.vlen,elen',hpl,el4,q4',vl5,g4',n1];unfold PP;rw[if_pos ⟨cp,.inr cl⟩];exact⟨_,rfl,errQ (s4.set (by omega) _)⟩
          ·simp(disch:=omega)only[↓RD,RZ,eq_self,seval,cp,h4.vlen,elen',hpl,el4,q4',vl5,g4',n1];unfold PP;rw[if_neg (λe=>e.2.elim cz cl),if_pos cp];refine⟨rfl,zai _ _ _,hxs.keep (Keep.set _ (by omega) _),hc4.keep (Keep.set _ (by omega) _),by rw[zaj _ _ (by omega),g4],s4.set (by omega) _,n4⟩
        ·simp(disch:=omega)only[↓RD,RZ,eq_self,seval,cp,n1];unfold PP;rw[if_neg (λe=>cp e.1),if_neg cp];exact⟨rfl,q4,hxs,hc4,g4,s4,n4⟩
       ·rintro r H5 hPP;unfold PP at hPP;generalize hpad:(if b.getD 0 0/32%2=1 then b.getD (b.length-1) 0 else 0)=pad at *;by_cases ce:b.getD 0 0/32%2=1/\(b.getD (b.length-1) 0=0\/b.length-at'<b.getD (b.length-1) 0)
        ·rw[if_pos ce]at hPP;obtain⟨L,rfl,hq⟩:=hPP;rw[if_pos ce.1,if_pos ce.2];simp(disch:=omega)only[↓RD,RZ,eq_self,seval];exact hq
        ·rw[if_neg ce]at hPP;obtain⟨rfl,q5,hx5,hc5,g5,s5,n5⟩:=hPP;have hpl':pad<=b.length-at':=by
          rw[<-hpad];split
          ·rename_i cp;have:¬(b.getD (b.length-1) 0=0\/b.length-at'<b.getD (b.length-1) 0):=λe=>ce ⟨cp,e⟩;omega
          ·omega
         have q5':=q5;unfold pcells at q5';have hb5'':By lo H5 v5 (piece b at' (b.length-at')):=by
          have hs:∀i,v5.pid=some i->H5.get i=H4.get i:=λi hi=>by
           have:=hv i (hp5 ▸ hi);rw[s5.same i this,s4.same i this]
          refine⟨by rw[zc2 hs];exact hb5'.rc,λi hi=>⟨(hb5'.own i hi).1,?_⟩,hb5'.cap⟩;have:=hv i (hp5 ▸ hi);omega
         obtain⟨v6,-,hs6,-,hb6,-⟩:=by_slice hb5'' (x:=0) (y:=(b.length-at'-pad:Nat)) (by omega) (by omega) (by omega);have hs6':=@hs6 rfl;have e6:((b.length-at'-pad:Nat):Int).toNat-(0:Int).toNat=b.length-at'-pad:=by omega
         have e7:(0:Int).toNat=0:=rfl;rw[e6,e7,yaA]at hb6;have e8:(piece b at' (b.length-at')).take (b.length-at'-pad)=piece b at' (b.length-at'-pad):=by
          unfold piece;rw[ybK,ya7 (by omega)]
         rw[e8]at hb6;have e9:((b.length-at':Nat):Int)-(pad:Int)=((b.length-at'-pad:Nat):Int):=by omega
         simp(disch:=omega)only[↓RD,RZ,eq_self,seval,vl5,q5',e9,hs6',n1];refine zad (zuJ hb6 (by rw[zdN (by omega)];omega)) ?_;rintro pv H6 ⟨hb7,s7⟩;have q6:H6.get (H.next+1) = _:=(s7.same _ (by omega)).trans q5';have g6:H6.get H.next = _:=(s7.same _ (by omega)).trans g5;unfold zkb at g6;have n7:=s7.next;simp(disch:=first|omega|(simp only[RY]<;>omega)|decide)only[↓RD,RZ,eq_self,seval,q6,hb7.cells1,hb7.okc,g6,n1];have hfin:(if b.getD 0 0/32%2=1 then (if b.getD (b.length-1) 0=0\/b.length-at'<b.getD (b.length-1) 0 then (Except.error 2:Except Int Pkt) else .ok { zor b with csrc:=zg1 b,prof:=prof,exts:=xs,pad:=(b.getD (b.length-1) 0:Nat),pay:=piece b at' (b.length-at'-b.getD (b.length-1) 0) }) else .ok { zor b with csrc:=zg1 b,prof:=prof,exts:=xs,pay:=piece b at' (b.length-at') })
           = .ok { zor b with csrc:=zg1 b,prof:=prof,exts:=xs,pad:=(pad:Nat),pay:=piece b at' (b.length-at'-pad) }:=by
          rw[<-hpad];by_cases cp:b.getD 0 0/32%2=1
          ·rw[if_pos cp,if_pos cp,if_neg (λe=>ce ⟨cp,e⟩)]
          ·rw[if_neg cp,if_neg cp];rfl
         rw[hfin];refine⟨((s5.trans s7).set (by omega) _).set (by omega) _,_,rfl,cv,xv,pv,rfl,?_,?_,?_⟩
         ·exact(((hc5.ext s7).keep (Keep.set _ (by omega) _)).keep (Keep.set _ (by omega) _)).low (by omega)
         ·exact(((hx5.ext s7).keep (Keep.set _ (by omega) _)).keep (Keep.set _ (by omega) _)).low (by omega)
         ·exact(((hb7.low (lo':=H.next+2) (by omega)).keep (Keep.set _ (by omega) _)).keep (Keep.set _ (by omega) _)).low (by omega)
end Go.Ax.R7
/- Se4 -/
namespace Go.Ax.SU
open Go.Ax Go.Proofs
def zxR{H0 H:Heap}{r:V}{x:GR}(h:grv H0 H r x):∃cs e,r = .tup [.agg cs,.int .i64 e]/\cs.length=5/\(V.agg cs).okc=true/\(∀v∈cs,∀n,v≠.int .u8 n)/\∀H',(Keep H0.next H H')->grv H0 H' r x:=by
 cases x with
 | err e=>
  subst h;refine⟨_,_,rfl,rfl,rfl,λv hv n=>?_,λH' _=>rfl⟩;simp only[yao,yap,or_false]at hv;rcases hv with rfl|rfl|rfl|rfl|rfl<;>(intro h;cases h)
 | got e st sl c p=>
  obtain⟨v,rfl,hv⟩:=h;refine⟨_,_,rfl,rfl,by simp[V.okc,hv.okc],λw hw n=>?_,λH' k=>⟨v,rfl,hv.keep k⟩⟩;simp only[yao,yap,or_false]at hw;rcases hw with rfl|rfl|rfl|rfl|rfl
  ·intro h;cases h
  ·intro h;cases h
  ·intro h;cases h
  ·intro h;cases h
  ·intro h;have:=hv.rc;rw[h]at this;cases this
def zqF{lo S c a id f q n t:Nat}{sv rv snd:V}{W:Nat->V}{bo o:Bool}{H:Heap}{R:Rc}{pv:V}{b:List Nat}{p:R7.Pkt}(hc:H.Cl) (hg:H.get S=some ⟨zah,stX a id sv rv W snd (.ptr (c+3) 0) f q bo o,none⟩) (hR:RcM H c R) (hS:S<c) (hsz:szs R.id=some (n,t))
  (hb:By lo H pv b) (b8:Ok8 b) (bl:b.length<=1048576) (hp:R7.parse b = .ok p) (p8:Ok8 p.pay) (pl:p.pay.length<=1099511627776) :
  Ok (sem T zbl [.ptr S 0,pv]) H λr H'=>grv H H' r (zeY R n t [] p.pay).2/\RcM H' c (zeY R n t [] p.pay).1/\AtS [c+1,c+2] H H'/\H'.Cl:=by
 refine zao (zko hc (Q:=λr H'=>grv H H' r (zeY R n t [] p.pay).2/\RcM H' c (zeY R n t [] p.pay).1/\AtS [c+1,c+2] H H') ?_) λ_ _ h=>⟨h.1.1,h.1.2.1,h.1.2.2,h.2⟩;have hlt:=R.id;have ht:=hR.top;refine zli ?_;unfold zhP uL uS uT uFM uNFM uE uB uO uA uR uK uc uq;refine zaQ (zdO rfl ?_);rw[zaD];have s1:=Grow.new H ⟨zaN,[.int .i64 0,.int .i64 0,.int .i64 0,.int .u64 0,.nils],none⟩;have g1:(H.new ⟨zaN,[.int .i64 0,.int .i64 0,.int .i64 0,.int .u64 0,.nils],none⟩).get H.next = _:=zaf _ _;have n1:(H.new ⟨zaN,[.int .i64 0,.int .i64 0,.int .i64 0,.int .u64 0,.nils],none⟩).next=H.next+1:=zae _ _;generalize hx:H.next=x at *;generalize H.new _=H1 at *;refine zad (R7.Parse_ok (hb.ext s1) b8 bl) ?_;rintro res H2 ⟨s2,hP⟩;rw[hp]at hP;obtain⟨z,rfl,cv,xv,yv,rfl,l1,l2,l3⟩:=hP;have ok:(V.agg (R7.pcells p cv xv yv)).okc=true:=by simp[V.okc,R7.pcells,l1.okc,l2.okc,l3.okc]
 have n2:=s2.next;have g2:=(s2.same x (by omega)).trans g1;have hs2:=((s1.trans s2).same S (by omega)).trans hg;have hR2:=hR.grow (s1.trans s2);unfold R7.pcells at ok ⊢;unfold stX at hs2;simp(disch:=first|omega|(simp only[RY]<;>omega)|decide)only[↓RD,RZ,eq_self,Int.reduceToNat,Int.reduceAdd,Nat.reduceAdd,Nat.reduceSub,Nat.reduceMul,Nat.reduceLeDiff,ok,hs2];generalize hHH:Heap.set _ H2.next _=HH;have sH:Grow H2 HH:=by rw[<-hHH];exact(Grow.new H2 _).set (yag _) _
 have gp:HH.get H2.next=some ⟨zaq,R7.pcells p cv xv yv,none⟩:=by rw[<-hHH];exact zai _ _ _
 clear hHH;have n3:=sH.next;have hs3:=(sH.same S (by omega)).trans hs2;have g3:=(sH.same x (by omega)).trans g2;unfold R7.pcells at gp;refine zad (OpenR_ok (hR2.grow sH) hsz (Lc.nil:By 0 HH .nils []) Ok8.nil (l3.ext sH) p8 (by decide) pl (λi hi=>by cases hi) λi hi=>.inr ?_) ?_
 ·have:=(l3.own i hi).1;omega
 rintro r H4 ⟨hgr,hR4,a4⟩;obtain⟨cs,e,rfl,h5,hok,hu8,hgk⟩:=zxR hgr;have n4:=a4.next;have g4:=(a4.same x (by omega) (by simp;omega)).trans g3;have sp:splice [V.int .i64 0,.int .i64 0,.int .i64 0,.int .u64 0,.nils] 0 cs=cs:=by
  unfold splice;rw[ya4,yaU,yaS (by simp;omega),yaK]
 have ld:ldc (some 5) cs 0=some (.agg cs):=by
  simp only[ldc];rw[if_pos (by omega),yaA,yaj (by omega)]
 have ac:(V.agg cs).cells=cs:=zaD cs;have go:∃b,H4.get x=some b/\OddR b:=⟨_,g4,zxq (λv hv n=>by
  simp only[yao,yap,or_false]at hv;rcases hv with rfl|rfl|rfl|rfl|rfl<;>(intro h;cases h))⟩
 simp(disch:=first|omega|(simp only[RY]<;>omega)|decide)only[↓RD,RZ,eq_self,Int.reduceToNat,Int.reduceAdd,Nat.reduceAdd,Nat.reduceSub,Nat.reduceMul,Nat.reduceLeDiff,g4,hok,ac,h5,sp,ld];have a5:=AtS.set (k:=x) H4 (S:=[x]) (by simp) (some ⟨zaN,cs,none⟩);refine⟨?_,hR4.atS a5 (by simp;omega) (by simp only[yar,forall_eq];exact go),?_⟩
 ·have:∀H',Keep HH.next H4 H'->grv HH H' (.tup [.agg cs,.int .i64 e]) (zeY R n t [] p.pay).2:=hgk;have h6:=this (H4.set x (some ⟨zaN,cs,none⟩)) (Keep.set H4 (by omega) _);cases hq:(zeY R n t [] p.pay).2 with
  | err e'=>rw[hq]at h6;exact h6
  | got e' st sl c' p'=>
   rw[hq]at h6;obtain⟨v,e1,e2⟩:=h6;exact⟨v,e1,e2.low (by omega)⟩
 ·refine⟨by rw[zam];omega,λi hi hn=>?_⟩;rw[zaj _ _ (by omega),a4.same i (by omega) hn,sH.same i (by omega),s2.same i (by omega),s1.same i (by omega)]
end Go.Ax.SU
/- Rtp6 -/
namespace Go.Ax.R7
open Go.Ax
def w_at{lo:Nat}{H:Heap}{v:V}{l:List Nat} (h:Lc 1 lo H v (l.map by32) l.length) {i:Nat} (hi:i<l.length):∃p,(∀{k:IntKind},Ax.iaddr none 1 v (.int k i)=some p)/\LdR none H p (.int .u32 (l[i]:Nat)):=by
 obtain⟨p,hp,hl⟩:=h.at (i:=(i:Nat)) (by omega) (by omega);have e:((l.map by32).drop ((i:Int).toNat*1)).take 1=[by32 l[i]]:=by
  rw[ya5,yan,<-yb7,yaM hi];rfl
 rw[e]at hl;refine⟨p,hp,λf Q=>?_⟩;rw[hl.ld0 (by simp)];exact zpl
end Go.Ax.R7
/- Rtp8 -/
namespace Go.Ax.R7
open Go.Ax
end Go.Ax.R7
namespace Go.Ax
open R7
end Go.Ax
/- Rtp9 -/
namespace Go.Ax.R7
open Go.Ax
structure Sml (p:Pkt):Prop where
 a:p.csrc.length<=1048576
 b:p.exts.length<=1048576
 c:p.pay.length<=1048576
 d:∀x∈p.exts,x.2.length<=1048576
def idxV:Option Nat->V
 | some i=>.int .i64 (i:Nat)
 | none=>.int .i64 (-1)
def zsa{lo:Nat}{H:Heap}{v f:V}{xs:List X}(h:Exs lo H v xs)(P:X->Bool)(hn:xs.length<=1099511627776)
  (hf:∀H',Grow H H'->∀(x:X) (bv:V),By lo H' bv x.2->Ok (callv (sem T) f [.agg [.int .i64 x.1,bv]]) H' λr H''=>r = .bool (P x)/\Grow H' H'') :
  Ok (sem T za1 [v,f]) H λr H'=>r=idxV (xs.findIdx? P)/\Grow H H':=by
 refine zdw ?_;unfold zb7 uL uR uc;simp(disch:=omega)only[↓RD,RZ,h.vlen];refine zaS (λk L H'=>L=[.int .i64 (k:Nat)]/\Grow H H'/\∀j (hj:j<xs.length),j<k->P xs[j]=false) xs.length ?_ ?_ ?_
 ·exact⟨rfl,Grow.refl _,λj hj hk=>absurd hk (by omega)⟩
 ·rintro k L H1 hk ⟨rfl,s1,hP⟩;obtain⟨q,bv,i1,l1,w1⟩:=(h.ext s1).at hk;have l2:=l1.all;dsimp only[List.length_cons,List.length_nil]at l2;unfold zbi uS uB uI uR uK uc ug;simp(disch:=omega)only[↓RD,RZ,i1,l2];refine zad (hf H1 s1 _ bv w1) ?_;rintro _ H2 ⟨rfl,s2⟩;cases hp:P xs[k]with
  | true=>
   simp(disch:=omega)only[↓RD,RZ];refine⟨?_,s1.trans s2⟩;have:xs.findIdx? P=some k:=yc8.2 ⟨hk,hp,λj hj=>by rw[hP j (by omega) hj];decide⟩;rw[this];rfl
  | false=>
   simp(disch:=omega)only[↓RD,RZ];refine⟨by rfl,s1.trans s2,λj hj hjk=>?_⟩;rcases ybN j k with h|h
   ·exact hP j hj h
   ·have:j=k:=by omega
    subst this;exact hp
 ·rintro L H1 ⟨rfl,s1,hP⟩;unfold zbi uS uB uI uR uK uc ug;simp(disch:=omega)only[↓RD,RZ];refine⟨?_,s1⟩;have:xs.findIdx? P=none:=ydq.2 λx hx=>by
   obtain⟨j,hj,rfl⟩:=ycu hx;exact hP j hj hj
  rw[this];rfl
def fd(a:Int)(xs:List X):Option Nat:=xs.findIdx? λx=>x.1==a
def got(a:Int)(p:Pkt):Option (List Nat):=(p.exts.find? λx=>x.1==a).map (·.2)
def zsI{β:Type}{ty size id off:Nat}{x:V}{H:Heap}{f:V->M β}{Q:β->Heap->Prop}{cells cells':List V}{o:Option Nat} (hb:H.get id=some ⟨ty,cells,o⟩) (hc:x.cells.length=size/\off+size<=cells.length/\x.okc=true) (he:splice cells off x.cells=cells')
  (h:Ok (f .undef) (H.set id (some ⟨ty,cells',o⟩)) Q):@StK β (H.get id) size id off x H ⟨f⟩ ⟨Q⟩:=by
 rw[hb];exact⟨hc,by rw[he];exact h⟩
end Go.Ax.R7
/- Rtp12 -/
namespace Go.Ax.R7
open Go.Ax
end Go.Ax.R7
namespace Go.Ax
open R7
end Go.Ax
/- Rtp13 -/
namespace Go.Ax.R7
open Go.Ax
inductive Apf (ty e lo:Nat) (H:Heap):V->List V->Nat->Prop
 | app {v:V} {cells:List V} {n:Nat} (h:App ty e lo H v cells n):Apf ty e lo H v cells n
 | full {id n:Nat} {cells:List V} (h:H.get id=some ⟨ty,cells,none⟩) (hl:cells.length=n*e) (h0:lo<=id) (h1:id<H.next):Apf ty e lo H (.sl id 0 n (.fix n)) cells n
def Apf.lc{ty e lo n:Nat}{H:Heap}{v:V}{cells:List V}(h:Apf ty e lo H v cells n):Lc e lo H v cells n:=by
 cases h with
 | app h=>exact h.lc
 | full h hl h0 h1=>
  refine⟨?_,λid hi=>by simp only[V.pid,yaa]at hi;subst hi;exact⟨h0,h1⟩,yag _⟩;simp only[rcells,h,Option.bind_some];rw[if_pos (by omega),yaA,yaj (by omega)]
def Apf.keep{ty e lo n:Nat}{H H':Heap}{v:V}{cells:List V}(h:Apf ty e lo H v cells n)(k:Keep lo H H'):Apf ty e lo H' v cells n:=by
 cases h with
 | app h=>exact .app (App.keep h k)
 | full h hl h0 h1=>exact .full (by rw[k.same _ h0 h1,h]) hl h0 (yai h1 k.next)
structure Bel (lo:Nat) (H H':Heap):Prop where
 next:H.next<=H'.next
 same:∀i,i<lo->H'.get i=H.get i
def Bel.refl(lo:Nat)(H:Heap):Bel lo H H:=⟨yag _,λ_ _=>rfl⟩
def Bel.trans{lo:Nat}{H H1 H2:Heap}(h:Bel lo H H1)(k:Bel lo H1 H2):Bel lo H H2:=⟨yax h.next k.next,λi hi=>by rw[k.same i hi,h.same i hi]⟩
def _root_.Go.Ax.Grow.bel7{H H':Heap}(h:Grow H H'){lo:Nat}(hl:lo<=H.next):Bel lo H H':=⟨h.next,λi hi=>h.same i (by omega)⟩
def Bel.grow{H H':Heap}(h:Bel H.next H H'):Grow H H':=⟨h.next,λi hi=>h.same i hi⟩
def _root_.Go.Ax.Grow.bel7'{H0 H H':Heap}{lo:Nat}(h0:Grow H0 H)(hl:H0.next<=lo)(h:Bel lo H H'):Grow H0 H':=⟨yax h0.next h.next,λi hi=>by rw[h.same i (by omega),h0.same i hi]⟩
def okb_apf{β:Type}{ty e bytes lo n m:Nat}{H:Heap}{x y:V}{cells q:List V}{f:V->M β}{Q:β->Heap->Prop}(hx:Apf ty e lo H x cells n)(hlo:lo<=H.next) (hy:acells e H y=some (q,m)) (hq:q.length=m*e)
  (hb:(n+m)*bytes<=140737488355328) (hm:n+m<=140737488355328)
  (k:∀x' H',Apf ty e lo H' x' (cells++q) (n+m)->Bel lo H H'->Step H H' x.pid.toList x'.pid.toList->Ok (f x') H' Q):Ok ((mappend ty e bytes x y).bind f) H Q:=by
 cases hx with
 | app h=>
  refine zig h hlo hy hq hb hm λx' H' h1 hs=>k x' H' (.app h1) ⟨hs.next,λi hi=>hs.same i (by omega) λe=>?_⟩ hs;have:=(h.lc.own i (by simpa [zbP]using e)).1;omega
 | full h hl h0 h1=>
  rename_i id;have hml:n+m<=maxLen:=yax hm zg3;by_cases hz:m=0
  ·subst hz;have hq0:q=[]:=yay (by omega);subst hq0;refine zaQ ⟨.sl id 0 n (.fix n),H.set id (some ⟨ty,cells,none⟩),?_,k _ _ ?_ ⟨by rw[zam];exact yag _,λi hi=>zaj _ _ (by omega)⟩ (Step.set _ (by simp[V.pid]))⟩
   ·simp only[mappend,hy,Option.bind_some,mappendq,h];rw[if_pos ⟨by omega,trivial⟩];simp only[ybI,yag,if_true];rw[if_pos (by omega)];simp[splice]
   ·rw[yaK];exact .full (zai _ _ _) hl h0 h1
  ·refine zaQ ⟨.sl H.next 0 (n+m) (.opn e),H.new ⟨ty,cells++q,some e⟩,?_,?_⟩
   ·simp only[mappend,hy,Option.bind_some,mappendq,h];rw[if_pos ⟨by omega,trivial⟩,if_neg (by omega),if_pos ⟨hb,hml⟩,yaA,yaj (by omega)]
   ·refine k _ _ (.app (.opn (.inr ⟨H.next,rfl,zaf _ _,by simp[hl,hq,ybo]⟩) λi hi=>?_)) ⟨by rw[zae];omega,λi hi=>zas _ _ (by omega)⟩ ⟨by rw[zae];omega,λi hi _=>zas _ _ (by omega),λi hi=>.inr (by simp only[V.pid,ybz,yar]at hi;subst hi;exact⟨yag _,by rw[zae];omega⟩)⟩;simp only[V.pid,yaa]at hi;subst hi;exact⟨hlo,by rw[zae];omega⟩
def okb_apfz{β:Type}{ty bytes lo n m:Nat}{z:V}{H:Heap}{x:V}{cells:List V}{f:V->M β}{Q:β->Heap->Prop}(hx:Apf ty 1 lo H x cells n)(hlo:lo<=H.next)
  (hb:(n+m)*bytes<=140737488355328) (hm:n+m<=140737488355328)
  (k:∀x' H',Apf ty 1 lo H' x' (cells++List.replicate m z) (n+m)->Bel lo H H'->Ok (f x') H' Q):Ok ((mappendz ty bytes [z] x (.int .i64 (m:Nat))).bind f) H Q:=by
 have hw:IntKind.i64.wrap (m:Nat)=(m:Int):=by
  have h1:(m:Int)%18446744073709551616=m:=ycg (by omega) (by omega);simp only[IntKind.wrap,IntKind.signed,IntKind.bits];simp;omega
 have hm2:m*bytes<=140737488355328:=yax (ybf _ (by omega)) hb;have hm3:((m:Int)*(bytes:Int))<=281474976710656:=by
  have:((m*bytes:Nat):Int)<=140737488355328:=by omega
  rw[Int.natCast_mul]at this;omega
 have e:(mappendz ty bytes [z] x (.int .i64 (m:Nat)) H)=mappend ty 1 bytes x (.rs (List.replicate m z) m) H:=by
  simp only[mappendz,mappend,hw];rw[if_pos ⟨by omega,hm3⟩];simp[acells,rcells,zv4]
 have:=okb_apf (y:=.rs (List.replicate m z) m) (q:=List.replicate m z) (m:=m) hx hlo (by simp[acells,rcells]) (by simp) hb hm λx' H' h1 h2 _=>k x' H' h1 h2;unfold Ok M.bind at this ⊢;rw[e];exact this
def bn(k n:Nat):List Nat:=(List.range k).map λi=>n/256 ^ (k-1-i)%256
def bn_len(k n:Nat):(bn k n).length=k:=by simp[bn]
def bn_8(k n:Nat):Ok8 (bn k n):=by
 intro x hx;obtain⟨i,_,rfl⟩:=yaW.1 hx;omega
def bn_get(k n i:Nat)(h:i<k):(bn k n).getD i 0=n/256 ^ (k-1-i)%256:=by
 rw[yak,yae (by rw[bn_len];exact h)];simp[bn]
abbrev Ab(lo:Nat)(H:Heap)(v:V)(l:List Nat):Prop:=Apf zab 1 lo H v (l.map by8) l.length
def Ab.by{lo:Nat}{H:Heap}{v:V}{l:List Nat}(h:Ab lo H v l):By lo H v l:=h.lc
def okb_ab'{β:Type}{lo:Nat}{H:Heap}{x y:V}{l m:List Nat}{f:V->M β}{Q:β->Heap->Prop}(hx:Ab lo H x l)(hlo:lo<=H.next) (hy:acells 1 H y=some (m.map by8,m.length)) (hm:l.length+m.length<=1099511627776)
  (k:∀x' H',Ab lo H' x' (l++m)->Bel lo H H'->Step H H' x.pid.toList x'.pid.toList->Ok (f x') H' Q):Ok ((mappend zab 1 1 x y).bind f) H Q:=by
 refine okb_apf hx hlo hy (by simp) (by omega) (by omega) λx' H' h1 h2=>k x' H' ?_ h2;show Apf zab 1 lo H' x' ((l++m).map by8) (l++m).length;rw[yaC,yaf];exact h1
def okb_ab{β:Type}{lo:Nat}{H:Heap}{x y:V}{l m:List Nat}{f:V->M β}{Q:β->Heap->Prop}(hx:Ab lo H x l)(hlo:lo<=H.next) (hy:acells 1 H y=some (m.map by8,m.length)) (hm:l.length+m.length<=1099511627776)
  (k:∀x' H',Ab lo H' x' (l++m)->Bel lo H H'->Ok (f x') H' Q):Ok ((mappend zab 1 1 x y).bind f) H Q:=
 okb_ab' hx hlo hy hm λx' H' h1 h2 _=>k x' H' h1 h2
def zoQ{lo:Nat}{H:Heap}{v:V}{l:List Nat}(h:Ab lo H v l)(hlo:lo<=H.next)(hl:l.length<=2097152)(n k:Nat)(hn:n<4294967296)(hk:k<=4) :
  Ok (sem T zdc [v,.int .u32 n,.int .i64 k]) H λr H'=>Ab lo H' r (l++bn k n)/\Bel lo H H'/\Step H H' v.pid.toList r.pid.toList:=by
 refine zvd ?_;unfold zrN uB uR uc ug;simp(disch:=omega)only[↓RD,RZ];refine zaS (λm L H'=>∃w,L=[w,.int .i64 ((k:Int)-1-(m:Nat))]/\Ab lo H' w (l++(bn k n).take m)/\Bel lo H H'/\Step H H' v.pid.toList w.pid.toList) k ?_ ?_ ?_
 ·exact⟨v,by simp,by simpa using h,Bel.refl _ _,(Grow.refl H).step _⟩
 ·rintro m L H1 hm ⟨w,rfl,ha,hb,hst⟩;have e1:(k:Int)-1-(m:Nat)=((k-1-m:Nat):Int):=by omega
  have e2:(8:Int)*((k-1-m:Nat):Int)=((8*(k-1-m):Nat):Int):=by omega
  have e3:shr n (8*(k-1-m))=n/256 ^ (k-1-m):=by rw[zid,yaP,ydo]
  have hlo1:=hb.next;rw[e1];unfold zj1 uL uB uK uc ub ug;simp(disch:=omega)only[↓RD,RZ,e2,e3];refine okb_ab' (m:=[n/256 ^ (k-1-m)%256]) (ha.keep ((Grow.new _ _).keep _)) (by rw[zae];omega) (zcF rfl) (by simp;omega) λw' H2 h2 hb2 st2=>?_;simp(disch:=omega)only[↓RD,RZ];refine⟨w',by rw[show((k-1-m:Nat):Int)-1=(k:Int)-1-((m+1:Nat):Int) by omega],?_,hb.trans (((Grow.new _ _).bel7 (by omega)).trans hb2),hst.trans (((Grow.new _ _).step _).trans st2)⟩;rw[take_snoc (by rw[bn_len];exact hm),bn_get k n m hm,<-yaI];exact h2
 ·rintro L H1 ⟨w,rfl,ha,hb,hst⟩;have e1:(k:Int)-1-(k:Nat) = -1:=by omega
  rw[e1];unfold zj1 uL uB uK uc ub ug;simp(disch:=omega)only[↓RD,RZ];rw[yaj (by rw[bn_len];exact yag _)]at ha;exact⟨ha,hb,hst⟩
/-! What is good. -/
def goodX(prof:Int)(x:X):Bool:=
 if prof=48862 then decide (1<=x.1/\x.1<=14/\1<=x.2.length/\x.2.length<=16) else decide (1<=x.1/\x.1<=255/\x.2.length<=255)
def good(p:Pkt):Bool:=
 decide ((0<=p.typ/\p.typ<=127)/\p.csrc.length<=15/\(0<=p.pad/\p.pad<=255)) &&
  (if p.prof=0 then decide (p.exts.length=0) else decide (p.prof=48862\/p.prof=4096)&&p.exts.all (goodX p.prof))
def zvw{lo:Nat}{H:Heap}{bv:V}(x:X)(h:By lo H bv x.2)(prof:Int):Ok (sem T zeq [.int .i64 prof,.agg [.int .i64 x.1,bv]]) H λr H'=>r = .bool (goodX prof x)/\Grow H H':=by
 refine zog ?_;unfold zkO goodX uL uFM uB uG uH uO uR uc;by_cases hp:prof=48862
 ·rw[if_pos hp];have hv:=(h.newn ⟨zaU,[.int .i64 x.1,bv],none⟩).vlen;by_cases h1:1<=x.1
  ·by_cases h2:x.1<=14
   ·by_cases h3:1<=x.2.length
    ·by_cases h4:x.2.length<=16
     ·simp(disch:=omega)only[↓RD,RZ,h.cells1,h.okc,h.vlen];exact⟨by simp[*],Grow.new _ _⟩
     ·simp(disch:=omega)only[↓RD,RZ,h.cells1,h.okc,h.vlen];exact⟨by simp[*],Grow.new _ _⟩
    ·simp(disch:=omega)only[↓RD,RZ,h.cells1,h.okc,h.vlen];exact⟨by simp[*],Grow.new _ _⟩
   ·simp(disch:=omega)only[↓RD,RZ,h.cells1,h.okc,h.vlen];exact⟨by simp[*],Grow.new _ _⟩
  ·simp(disch:=omega)only[↓RD,RZ,h.cells1,h.okc,h.vlen];exact⟨by simp[*],Grow.new _ _⟩
 ·rw[if_neg hp];by_cases h1:1<=x.1
  ·by_cases h2:x.1<=255
   ·by_cases h4:x.2.length<=255
    ·simp(disch:=omega)only[↓RD,RZ,h.cells1,h.okc,h.vlen];exact⟨by simp[*],Grow.new _ _⟩
    ·simp(disch:=omega)only[↓RD,RZ,h.cells1,h.okc,h.vlen];exact⟨by simp[*],Grow.new _ _⟩
   ·simp(disch:=omega)only[↓RD,RZ,h.cells1,h.okc,h.vlen];exact⟨by simp[*],Grow.new _ _⟩
  ·simp(disch:=omega)only[↓RD,RZ,h.cells1,h.okc,h.vlen];exact⟨by simp[*],Grow.new _ _⟩
def zln{p:Pkt} (h:¬((0<=p.typ/\p.typ<=127)/\p.csrc.length<=15/\(0<=p.pad/\p.pad<=255))):good p=false:=by
 unfold good;rw[decide_eq_false h];rfl
def zuk{p:Pkt} (h:(0<=p.typ/\p.typ<=127)/\p.csrc.length<=15/\(0<=p.pad/\p.pad<=255)):good p=if p.prof=0 then decide (p.exts.length=0) else decide (p.prof=48862\/p.prof=4096)&&p.exts.all (goodX p.prof):=by
 unfold good;rw[decide_eq_true h];simp
def all_idx(P:X->Bool)(xs:List X):(match xs.findIdx? (λx=>!P x) with|some _=>false|none=>true)=xs.all P:=by
 cases h:xs.findIdx? (λx=>!P x) with
 | none=>
  have:=ydq.1 h;exact(yaz.2 λx hx=>by simpa using this x hx).symm
 | some i=>
  obtain⟨h1,h2,_⟩:=yc8.1 h;refine(Bool.eq_false_iff.2 λe=>?_).symm;have:=yaz.1 e _ (yaV h1);rw[this]at h2;cases h2
def Good_ok{lo:Nat}{H:Heap}{v:V}{p:Pkt}(h:PkR lo H v p)(hs:Sml p):Ok (sem T zhl [v]) H λr H'=>r = .bool (good p)/\Grow H H':=by
 obtain⟨cv,xv,pv,rfl,hc,hx,hp⟩:=h;have hb:=hs.b;refine zsK ?_;unfold zpa uL uFM uB uG uH uO uA uR uK uc;unfold pcells;simp(disch:=first|omega|(simp only[RY]<;>omega)|decide)only[↓RD,RZ,eq_self,seval,hc.cells1,hx.cells1,hp.cells1,hc.okc,hx.okc,hp.okc];generalize hH1:Heap.new H _=H1;have n1:H1.next=H.next+1:=by rw[<-hH1];rfl
 have s1:Grow H H1:=by rw[<-hH1];exact Grow.new _ _
 have g1:H1.get H.next=some ⟨zaq,pcells p cv xv pv,none⟩:=by rw[<-hH1];exact zaf _ _
 clear hH1;unfold pcells at g1;have ec:=hc.vlen;have ex:=hx.vlen;by_cases a1:p.typ<0
 ·simp(disch:=first|omega|(simp only[RY]<;>omega)|decide)only[↓RD,RZ,eq_self,seval,g1];exact⟨by rw[zln (by omega)],s1⟩
 by_cases a2:127<p.typ
 ·simp(disch:=first|omega|(simp only[RY]<;>omega)|decide)only[↓RD,RZ,eq_self,seval,g1];exact⟨by rw[zln (by omega)],s1⟩
 by_cases a3:15<p.csrc.length
 ·simp(disch:=first|omega|(simp only[RY]<;>omega)|decide)only[↓RD,RZ,eq_self,seval,g1,ec];exact⟨by rw[zln (by omega)],s1⟩
 by_cases a4:p.pad<0
 ·simp(disch:=first|omega|(simp only[RY]<;>omega)|decide)only[↓RD,RZ,eq_self,seval,g1,ec];exact⟨by rw[zln (by omega)],s1⟩
 by_cases a5:255<p.pad
 ·simp(disch:=first|omega|(simp only[RY]<;>omega)|decide)only[↓RD,RZ,eq_self,seval,g1,ec];exact⟨by rw[zln (by omega)],s1⟩
 rw[zuk (by omega)];by_cases hz:p.prof=0
 ·rw[if_pos hz];rw[hz]at g1;by_cases he:p.exts.length=0
  ·simp(disch:=first|omega|(simp only[RY]<;>omega)|decide)only[↓RD,RZ,eq_self,seval,g1,ec,ex,he];exact s1
  ·simp(disch:=first|omega|(simp only[RY]<;>omega)|decide)only[↓RD,RZ,eq_self,seval,g1,ec,ex,he];exact s1
 ·rw[if_neg hz];by_cases hpf:p.prof=48862\/p.prof=4096
  ·rw[decide_eq_true hpf,ycp,<-all_idx];have main:Ok ((sem T zaL [xv,.fn zde [.ptr H.next 0]]).bind λt48=>(M.lift (un .not t48)).bind λt49=>M.pure (Res.ret [t49])) H1
     (λr H'=>∃L,r=Res.ret L/\zdE L = .bool (match p.exts.findIdx? (λx=>!goodX p.prof x) with|some _=>false|none=>true)/\Grow H H'):=by
    have hcf:Ok (sem T zaL [xv,.fn zde [.ptr H.next 0]]) H1 (λ(r:V) H'=>r=V.bool (match p.exts.findIdx? (λx=>!goodX p.prof x) with|some _=>true|none=>false)/\Grow H H'):=by
     refine zdb ?_;unfold zbO uB uA uR uc;refine zad (zsa (hx.ext s1) (λx=>!goodX p.prof x) (by omega) λH3 s3 x bv hb=>?_) ?_
     ·have g3:H3.get H.next = _:=(s3.same _ (by omega)).trans g1;have n3:=s3.next;show Ok (sem T zde [.agg [.int .i64 x.1,bv],.ptr H.next 0]) H3 _;refine zpP ?_;unfold zlU uL uS uFM uO uA uR;simp(disch:=first|omega|(simp only[RY]<;>omega)|decide)only[↓RD,RZ,eq_self,seval,hb.cells1,hb.okc,g3];refine zad (zvw x (hb.newn _) p.prof) ?_;rintro _ H4 ⟨rfl,s4⟩;simp(disch:=first|omega|(simp only[RY]<;>omega)|decide)only[↓RD,RZ,eq_self,seval];exact(Grow.new _ _).trans s4
     ·rintro _ H3 ⟨rfl,s3⟩;cases hf:p.exts.findIdx? (λx=>!goodX p.prof x) with
      | none=>
       unfold idxV;simp(disch:=first|omega|(simp only[RY]<;>omega)|decide)only[↓RD,RZ,eq_self,seval];exact s1.trans s3
      | some i=>
       unfold idxV;simp(disch:=first|omega|(simp only[RY]<;>omega)|decide)only[↓RD,RZ,eq_self,seval];exact s1.trans s3
    refine zad hcf ?_
    ·rintro _ H3 ⟨rfl,s3⟩;cases hf:p.exts.findIdx? (λx=>!goodX p.prof x) with
     | none=>
      simp(disch:=first|omega|(simp only[RY]<;>omega)|decide)only[↓RD,RZ,eq_self,seval];exact s3
     | some i=>
      simp(disch:=first|omega|(simp only[RY]<;>omega)|decide)only[↓RD,RZ,eq_self,seval];exact s3
   rcases hpf with hpf|hpf
   ·rw[hpf]at g1;simp(disch:=first|omega|(simp only[RY]<;>omega)|decide)only[↓RD,RZ,eq_self,seval,g1,ec];refine zao main ?_;rintro r H' ⟨L,rfl,h1,h2⟩;exact⟨_,rfl,h1,h2⟩
   ·rw[hpf]at g1;simp(disch:=first|omega|(simp only[RY]<;>omega)|decide)only[↓RD,RZ,eq_self,seval,g1,ec];refine zao main ?_;rintro r H' ⟨L,rfl,h1,h2⟩;exact⟨_,rfl,h1,h2⟩
  ·rw[decide_eq_false hpf,ycG];have h1:p.prof≠48862:=λe=>hpf (.inl e);have h2:p.prof≠4096:=λe=>hpf (.inr e);simp(disch:=first|omega|(simp only[RY]<;>omega)|decide)only[↓RD,RZ,eq_self,seval,g1,ec];exact s1
end Go.Ax.R7
