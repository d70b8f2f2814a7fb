/-
  Texts of mine, put together by program (wip/slim.py), for law_worldKnown: part 3.
-/
import Derived.Test.YtjabaappgopdmaaGreatZw2
import Derived.MapKept
noncomputable section
set_option linter.unusedVariables false
set_option linter.unusedSimpArgs false
set_option linter.defProp false
set_option maxRecDepth 100000
/- Ax29 -/
namespace Go.Ax
section
variable {P:Program} {m:Map} {Z:Nat->Prop} {H H':Heap} {w:World}
def zjB{mk:MK}{z:V}{ok:Bool}{x k v:V} (h:mlookup mk z ok x k H=some (v,H')):H'=H:=by
 unfold mlookup at h;split at h
 ·simp only[yaa]at h;obtain⟨b,_,h⟩:=h;split at h
  ·simp only[yac,yae]at h;obtain⟨_,_,_,h⟩:=h;exact h.symm
  ·cases h
 ·cases h
def zjz{mk:MK}{x k v u:V} (h:mmapset mk x k v H=some (u,H')) :
  ∃id b cs,x = .mp id/\H.get id=some b/\kok mk k=true/\mset mk k v b.cells=some cs/\u = .undef/\H'=H.set id (some { b with cells:=cs }):=by
 unfold mmapset at h;split at h
 ·rename_i id;simp only[yaa]at h;obtain⟨b,hb,h⟩:=h;split at h
  ·rename_i hk;simp only[yac,yae]at h;obtain⟨cs,hcs,rfl,rfl⟩:=h;exact⟨id,b,cs,rfl,hb,hk,hcs,rfl,rfl⟩
  ·cases h
 ·cases h
def zjA{x v:V} (h:mmaplen x H=some (v,H')):∃id b,x = .mp id/\H.get id=some b/\v = .int .i64 ((b.cells.length/2:Nat):Int)/\H'=H:=by
 unfold mmaplen at h;split at h
 ·rename_i id;simp only[yac,yae]at h;obtain⟨b,hb,rfl,rfl⟩:=h;exact⟨id,b,rfl,hb,rfl,rfl⟩
 ·cases h
def zdI{p:Bool}{o:Nat}{x y u:V} (h:mmapdrop p o x y H=some (u,H')) :
  ∃id off n b0 i b cs,x = .ptr id off/\y = .int .i64 n/\H.get id=some b0/\b0.cells[off+o]?=some (.mp i)/\H.get i=some b/\mfil p n b.cells=some cs/\u = .undef/\H'=H.set i (some { b with cells:=cs }):=by
 unfold mmapdrop at h;split at h
 ·rename_i id off n;simp only[yaa]at h;obtain⟨b0,hb0,h⟩:=h;split at h
  ·rename_i i hi;simp only[yaa,yac,yae]at h;obtain⟨b,hb,cs,hcs,rfl,rfl⟩:=h;exact⟨id,off,n,b0,i,b,cs,rfl,rfl,hb0,hi,hb,hcs,rfl,rfl⟩
  ·cases h
 ·cases h
def Rep.inv_mp{id:Nat}{X:Value} (h:Rep m Z w (.mp id) X):∃l,(m id=some l/\l.mp=true)/\X = .map (some l.blk):=by
 cases h with
 | mp h=>exact⟨_,h,rfl⟩
/-! ### the search -/
inductive Finds (cmp:Value->Bool->Prop):List MapEntry->Nat->Option (Nat×Value)->Prop
 | nil (i:Nat):Finds cmp [] i none
 | hit (e:MapEntry) (es:List MapEntry) (i:Nat) (h:cmp e.key true):Finds cmp (e::es) i (some (i,e.val))
 | miss (e:MapEntry) (es:List MapEntry) (i:Nat) (r:Option (Nat×Value)) (h:cmp e.key false) (k:Finds cmp es (i+1) r):Finds cmp (e::es) i r
def Cmp(m:Map)(Z:Nat->Prop)(w:World)(mk:MK)(key:V)(K:Value)(cmp:Value->Bool->Prop):Prop:=
 ∀k' K' b,keq mk key k'=some b->Rep m Z w k' K'->cmp K' b/\(b=true->K'=K)
def zm1{mk:MK}{key:V}{K:Value}{cmp:Value->Bool->Prop}(hc:Cmp m Z w mk key K cmp):∀(cs:List V) (es:List MapEntry) (i:Nat) (r:Option V),Ents m Z w cs es->mget mk key cs=some r ->
  ∃r',Finds cmp es i r'/\((r=none/\r'=none)\/∃v j x,r=some v/\r'=some (j,x)/\Rep m Z w v x)
 | [],[],i,r,_,h=>by
  simp only[mget,yab]at h;exact⟨none,.nil i,.inl ⟨h.symm,rfl⟩⟩
 | [],_ :: _,_,_,h,_=>h.elim
 | [_],es,_,_,h,_=>by cases es<;>exact h.elim
 | _ :: _ :: _,[],_,_,h,_=>h.elim
 | k'::v'::r,e::es,i,q,⟨h1,h2,h3⟩,h=>by
  simp only[mget,yaa]at h;obtain⟨b,hb,h⟩:=h;obtain⟨hc1,_⟩:=hc _ _ _ hb h1;cases b with
  | true=>
   simp only[if_true,yab]at h;exact⟨_,.hit e es i hc1,.inr ⟨v',i,e.val,h.symm,rfl,h2⟩⟩
  | false=>
   simp only[yaK,if_false]at h;obtain⟨r',hr',hrest⟩:=zm1 hc r es (i+1) q h3 h;exact⟨r',.miss e es i r' hc1 hr',hrest⟩
def zmY{mk:MK}{key v:V}{K X:Value}{cmp:Value->Bool->Prop}(hc:Cmp m Z w mk key K cmp)(hK:Rep m Z w key K)(hX:Rep m Z w v X):∀(cs:List V) (es:List MapEntry) (i:Nat) (cs':List V),Ents m Z w cs es->mset mk key v cs=some cs' ->
  (Finds cmp es i none/\cs'=cs++[key,v])\/∃j x e0,Finds cmp es i (some (i+j,x))/\es[j]?=some e0/\e0.key=K/\(∃k',keq mk key k'=some true)/\Ents m Z w cs' (es.modify j λe=>{ e with key:=K,val:=X })
 | [],[],i,cs',_,h=>by
  simp only[mset,yab]at h;exact .inl ⟨.nil i,by simp[<-h]⟩
 | [],_ :: _,_,_,h,_=>h.elim
 | [_],es,_,_,h,_=>by cases es<;>exact h.elim
 | _ :: _ :: _,[],_,_,h,_=>h.elim
 | k'::v'::r,e::es,i,q,⟨h1,h2,h3⟩,h=>by
  simp only[mset,yaa]at h;obtain⟨b,hb,h⟩:=h;obtain⟨hc1,hc2⟩:=hc _ _ _ hb h1;cases b with
  | true=>
   simp only[if_true,yab]at h;subst h;exact .inr ⟨0,e.val,e,.hit e es i hc1,rfl,hc2 rfl,⟨k',hb⟩,hK,hX,h3⟩
  | false=>
   simp only[yaK,if_false,yac]at h;obtain⟨r',hr',rfl⟩:=h;rcases zmY hc hK hX r es (i+1) r' h3 hr' with⟨h4,rfl⟩|⟨j,x,e0,h4,h5,h6,h8,h7⟩
   ·exact .inl ⟨.miss e es i _ hc1 h4,rfl⟩
   ·refine .inr ⟨j+1,x,e0,.miss e es i _ hc1 ?_,by simpa using h5,h6,h8,?_⟩
    ·rw[show i+(j+1)=i+1+j from by omega];exact h4
    ·rw[ydg];exact⟨h1,h2,h7⟩
def zvj{d:TypeDesc}{K:Value}:∀{es:List MapEntry} {i:Nat} {r:Option (Nat×Value)},Finds (λK' b=>Instr.sameNow d K K'=some b) es i r->Instr.findNow d K es i=some r:=by
 intro es i r h
 induction h with
 | nil i=>rfl
 | hit e es i h=>simp[Instr.findNow,h]
 | miss e es i r h _ ih=>simp[Instr.findNow,h,ih]
def zpY{kt:TypeId}{K:Value}:∀{es:List MapEntry} {i:Nat} {r:Option (Nat×Value)},Finds (λK' b=>(Op.equal kt K K').run P w = .ok b w) es i r->(Instr.findAsking kt K es i).run P w = .ok r w:=by
 intro es i r h
 induction h with
 | nil i=>rfl
 | hit e es i h=>simp[Instr.findAsking,Sem.run_bind,h,Result.andThen_ok]
 | miss e es i r h _ ih=>simp[Instr.findAsking,Sem.run_bind,h,Result.andThen_ok,ih]
def zv8(P:Program)(w:World)(kt:TypeId)(mk:MK)(K:Value):Value->Bool->Prop:=
 match mk with
 | .int=>λK' b=>∀d,P.underlying kt=some d->Instr.sameNow d K K'=some b
 | .st _=>λK' b=>(Op.equal kt K K').run P w = .ok b w
def zqa{kt:TypeId}{mk:MK}{key:V}{K:Value}(hk:mkOf P kt=some mk)(hr:Rep m Z w key K):Cmp m Z w mk key K (zv8 P w kt mk K):=by
 intro k' K' b hb hr';unfold mkOf at hk;split at hk
 ·rename_i q hu;injection hk with hk
  subst hk;cases key<;>cases k'<;>simp only[keq,reduceCtorEq]at hb
  rename_i k a k2 a2;split at hb
  ·rename_i hkk;subst hkk;injection hb with hb
   subst hb;rw[hr.inv_int,hr'.inv_int];refine⟨λd hd=>?_,λh=>by rw[eq_of_beq h]⟩;rw[hu]at hd;injection hd with hd
   subst hd;simp[Instr.sameNow]
  ·cases hb
 ·rename_i fs hu;simp only[yac]at hk;obtain⟨ks,hks,rfl⟩:=hk;cases key<;>cases k'<;>simp only[keq,reduceCtorEq]at hb
  cases hr;cases hr';rename_i XS hX1 hX2 hX3 YS hY1 hY2 hY3;obtain⟨h1,h2⟩:=zr4 hks hX1 hY1 hX3 hY3 hb;exact⟨h1,λh=>by rw[h2 h]⟩
 ·cases hk
def zil{kt:TypeId}{mk:MK}{K:Value}{es:List MapEntry} {r:Option (Nat×Value)} (hk:mkOf P kt=some mk) (h:Finds (zv8 P w kt mk K) es 0 r):(Instr.findKey kt K es).run P w = .ok r w:=by
 unfold mkOf at hk;split at hk
 ·rename_i q hu;injection hk with hk
  subst hk;have h':Finds (λK' b=>Instr.sameNow (.int q) K K'=some b) es 0 r:=by
   generalize hi:0=i at h;clear hi
   induction h with
   | nil i=>exact .nil i
   | hit e es i h=>exact .hit e es i (h _ hu)
   | miss e es i r h _ ih=>exact .miss e es i r (h _ hu) ih
  simp only[Instr.findKey,Sem.run_bind,run_underlying hu,Result.andThen_ok,zvj h',Sem.run_pure]
 ·rename_i fs hu;simp only[yac]at hk;obtain⟨ks,hks,rfl⟩:=hk;cases es with
  | nil=>
   cases h;simp only[Instr.findKey,Sem.run_bind,run_underlying hu,Result.andThen_ok,Instr.findNow,Sem.run_pure]
  | cons e es=>
   have hn:Instr.findNow (.struct fs) K (e::es) 0=none:=by simp[Instr.findNow,Instr.sameNow]
   simp only[Instr.findKey,Sem.run_bind,run_underlying hu,Result.andThen_ok,hn];exact zpY h
 ·cases hk
def zrc {f:Field} {fs:List Field} {j:Nat} {ks:List FK} (h:zgN P j (f :: fs) = some ks) :
  f.offset = j /\ f.name ≠ "_" /\ ∃ d k ks',P.underlying f.type = some d /\ (d = .bool \/ ∃ k,d = .int k) /\ ks = k :: ks' /\ zgN P (j + 1) fs = some ks':=by
 simp only [zgN] at h;split at h
 ·rename_i hfo;refine ⟨hfo.1,hfo.2,?_⟩;split at h
  ·rename_i hu;simp only [yac] at h;obtain ⟨ks',hks,rfl⟩:=h;exact ⟨_,_,ks',hu,.inl rfl,rfl,hks⟩
  ·rename_i k hu;simp only [yac] at h;obtain ⟨ks',hks,rfl⟩:=h;exact ⟨_,_,ks',hu,.inr ⟨k,rfl⟩,rfl,hks⟩
  ·cases h
 ·cases h
def zeo{kt:TypeId}{mk:MK}{key:V}{K:Value}(hk:mkOf P kt=some mk)(ho:kok mk key=true)(hr:Rep m Z w key K)(em:Bool):(Instr.checkKey em 10000 kt K).run P w = .ok () w:=by
 unfold mkOf at hk;split at hk
 ·rename_i q hu;injection hk with hk
  subst hk;cases key<;>simp only[kok,yaK]at ho
  rw[hr.inv_int];unfold Instr.checkKey;simp only[Sem.run_bind,run_underlying hu,Result.andThen_ok];rfl
 ·rename_i fs hu;simp only[yac]at hk;obtain⟨ks,hks,rfl⟩:=hk;cases key<;>simp only[kok,yaK,beq_iff_eq]at ho
  cases hr;rename_i xs XS h1 h2 h3;obtain⟨fs',hu',_,_,hf⟩:=zhs hks;rw[hu]at hu';injection hu' with hu'
  injection hu' with hu'
  subst hu';unfold Instr.checkKey;simp only[Sem.run_bind,run_underlying hu,Result.andThen_ok];rw[<-Array.forIn_toList];have hsz:0+ks.length<=XS.size:=by omega
  generalize fs.toList=l at hf;generalize 0=j at hf hsz;clear hu hks ho
  induction l generalizing j ks with
  | nil=>simp
  | cons f l ih=>
   obtain⟨e1,e2,d,k,ks',hu,hd,rfl,hf'⟩:=zrc hf;simp only[yaw]at hsz;have hagg:(isAgg f.type).run P w = .ok false w:=by rcases hd with rfl|⟨k,rfl⟩<;>simp[isAgg,run_underlying hu]
   have hp:(part f.type XS f.offset).run P w = .ok (XS[j]'(by omega)) w:=by
    unfold part;simp only[Sem.run_bind,hagg,Result.andThen_ok,yaK,if_false,e1];rw[yar (by omega)];rfl
   have hck:∀x,(Instr.checkKey em 9999 f.type x).run P w = .ok () w:=λx=>by
    unfold Instr.checkKey;simp only[Sem.run_bind,run_underlying hu,Result.andThen_ok];rcases hd with rfl|⟨k,rfl⟩<;>rfl
   simp only[List.forIn_cons,Sem.run_bind,Sem.run_ite,if_pos e2,hp,hck,Result.andThen_ok,Sem.run_pure];exact ih ks' (j+1) hf' (by omega)
 ·cases hk
def zm3{t e:TypeId}{mk:MK} (h:mapOf P t=some (mk,e)):∃k,P.underlying t=some (.map k e)/\mkOf P k=some mk:=by
 unfold mapOf at h;split at h
 ·rename_i k e' hu;simp only[yac,yae]at h;obtain⟨mk',h1,rfl,rfl⟩:=h;exact⟨k,hu,h1⟩
 ·cases h
def ztv{t:TypeId}{z:V}(h:zvOf P t=some z):∃zv:Value,(∀w,(zeroValue t).run P w = .ok zv w)/\Rep m Z w z zv:=by
 simp only[zvOf,yaa]at h;obtain⟨zv,⟨i,hi,hz⟩,hc⟩:=h;exact⟨zv,λw=>by simp[zeroValue,typeInfo,hi,hz],zk6 hc⟩
def zuT{t:TypeId}{v:V} (h:mmkmap t H=some (v,H')) (r:RelH m Z H w) (hfr:Free m H H') :
  ∃m' x w',(Instr.makeMap t none).run P w = .ok x w'/\Rep m' Z w' v x/\RelH m' Z H' w'/\Ext m Z H w m' Z H' w':=by
 simp only[mmkmap,yab,yae]at h;obtain⟨rfl,rfl⟩:=h;have hf:=hfr _ (yaj _) (yaR _);have hw:∀k,k≠w.heap.size->(w.alloc (.map #[] 0)).heap[k]?=w.heap[k]?:=λk hk=>zhX _ hk;have hs:w.heap.size<=(w.alloc (.map #[] 0)).heap.size:=by simp
 refine⟨_,.map (some w.heap.size),w.alloc (.map #[] 0),?_,.mp (l:=⟨w.heap.size,0,0,true,0⟩) ⟨if_pos rfl,rfl⟩,
  zkR (id:=H.next) (l:=⟨w.heap.size,0,0,true,0⟩) (b:=⟨t,[],none⟩) r (λ_=>rfl) (ybH _) (yaR _) (.inl hf) hw hs (λh=>?_) (λi b' l' hb' hm' e=>?_) λm' _ _=>?_,
  zhu (.inl hf) (ybH _) (.inl ⟨yaj _,yaR _⟩) (λi b' h=>?_) hw hs rfl rfl rfl (.inl (yaj _))⟩
 ·simp only[Instr.makeMap];simp[Sem.run_bind,run_newObj_alloc,Result.andThen_ok]
 ·have:=r.zlt _ h;dsimp only at this;omega
 ·have:=r.lt hb' hm';dsimp only at e;omega
 ·refine .map rfl #[] 0 ⟨zfa _,λh=>?_,trivial,by simp,by simp⟩;have:=r.zlt _ h;dsimp only at this;omega
 ·simp only[Heap.new]at h;split at h
  ·rename_i e;exact .inl e
  ·exact .inr ⟨b',h⟩
def zsQ{t:TypeId}{q:MK×TypeId}{z x k v:V}{X K:Value}{ok:Bool}(hq:mapOf P t=some q)(hz:zvOf P q.2=some z) (h:mlookup q.1 z ok x k H=some (v,H')) (hx:Rep m Z w x X) (hk:Rep m Z w k K) (r:RelH m Z H w) :
  H'=H/\∃y,(Instr.lookup t X K ok).run P w = .ok y w/\Rep m Z w v y:=by
 obtain⟨mk,e⟩:=q;obtain⟨kt,hu,hmk⟩:=zm3 hq;obtain⟨zv,hzr,hzrep⟩:=ztv (m:=m) (Z:=Z) (w:=w) hz;refine⟨zjB h,?_⟩;unfold mlookup at h;split at h
 ·rename_i id;simp only[yaa]at h;obtain⟨b,hb,h⟩:=h;split at h
  ·rename_i hko;simp only[yac,yae]at h;obtain⟨g,hg,hv,_⟩:=h;obtain⟨l,hm,rfl⟩:=hx.inv_mp;obtain⟨es,clock,L⟩:=r.atM hb hm;obtain⟨r',hr',hrest⟩:=zm1 (zqa (P:=P) hmk hk) b.cells es.toList 0 g L.ents hg;have hf:=zil hmk hr';have run:∀(y:Value) (o:Bool),(match r' with|some (_,v)=>(v,true)|none=>(zv,false))=(y,o) ->
     (Instr.lookup t (.map (some l.blk)) K ok).run P w = .ok (if ok then .tuple #[y,.bool o] else y) w:=λy o hyo=>by
    unfold Instr.lookup;simp only[Sem.run_bind,run_underlying hu,Result.andThen_ok,MapKept.run_getObj_map L.heap,Sem.run_pure,zeo hmk hko hk,hf];cases r' with
    | none=>
     simp only[yae]at hyo;obtain⟨rfl,rfl⟩:=hyo;simp only[Sem.run_bind,hzr,Result.andThen_ok,Sem.run_pure]
    | some p=>
     obtain⟨j,x⟩:=p;simp only[yae]at hyo;obtain⟨rfl,rfl⟩:=hyo;simp only[Sem.run_bind,Sem.run_pure,Result.andThen_ok]
   have fin:∀(g1:V) (y:Value) (o:Bool),Rep m Z w g1 y->v=(if ok then .tup [g1,.bool o] else g1)->Rep m Z w v (if ok then .tuple #[y,.bool o] else y):=λg1 y o hg1 hv=>by
    subst hv;cases ok with
    | false=>exact hg1
    | true=>
     refine .tup (by simp) λj u x hj hx=>?_
     match j with
     | 0=>simp at hj hx;subst hj;subst hx;exact hg1
     | 1=>simp at hj hx;subst hj;subst hx;exact .bool o
     | j+2=>simp at hj
   rcases hrest with⟨rfl,rfl⟩|⟨u,j,y,rfl,rfl,hrep⟩
   ·exact⟨_,run zv false rfl,fin z zv false hzrep hv.symm⟩
   ·exact⟨_,run y true rfl,fin u y true hrep hv.symm⟩
  ·cases h
 ·cases h
def zg6(K X:Value):∀(l:List MapEntry) (j:Nat),(l.modify j λe=>{ e with key:=K,val:=X }).map (·.born)=l.map (·.born)
 | [],j=>by cases j<;>rfl
 | e::l,0=>rfl
 | e::l,j+1=>by rw[ydg,ya5,ya5,zg6 K X l j]
def zlK:∀{cs:List V} {es:List MapEntry} {k v:V} {e:MapEntry},Ents m Z w cs es->Rep m Z w k e.key->Rep m Z w v e.val->Ents m Z w (cs++[k,v]) (es++[e])
 | [],[],_,_,_,_,h1,h2=>⟨h1,h2,trivial⟩
 | _ :: _ :: _,_ :: _,_,_,_,⟨h1,h2,h3⟩,g1,g2=>⟨h1,h2,zlK h3 g1 g2⟩
 | [],_ :: _,_,_,_,h,_,_=>h.elim
 | [_],es,_,_,_,h,_,_=>by cases es<;>exact h.elim
 | _ :: _ :: _,[],_,_,_,h,_,_=>h.elim
def zr5:∀{cs:List V} {es:List MapEntry},Ents m Z w cs es->cs.length=2*es.length
 | [],[],_=>rfl
 | _ :: _ :: _,_ :: _,⟨_,_,h3⟩=>by simp only[yaw,zr5 h3];omega
 | [],_ :: _,h=>h.elim
 | [_],es,h=>by cases es<;>exact h.elim
 | _ :: _ :: _,[],h=>h.elim
def zuV{id:Nat}{b:Blk}{l:Loc}{cs:List V}{es es':Array MapEntry}{clock clock':Nat}(r:RelH m Z H w)(hb:H.get id=some b)(hm:m id=some l/\l.mp=true)(L:LiesM m Z w b l es clock)
  (he:Ents m Z w cs es'.toList) (hborn:∀n∈es'.toList.map (·.born),n<clock') (hrise:(es'.toList.map (·.born)).Pairwise (· < ·)) :
  RelH m Z (H.set id (some { b with cells:=cs })) { w with heap:=w.heap.setIfInBounds l.blk (.map es' clock') } /\
  Ext m Z H w m Z (H.set id (some { b with cells:=cs })) { w with heap:=w.heap.setIfInBounds l.blk (.map es' clock') }:=by
 obtain⟨g1,g2⟩:=MapKept.heap_set (o':=.map es' clock') L.heap;have hlt:id<H.next:=by
  rcases ybG id H.next with h|h
  ·exact h
  ·rw[r.dead id h]at hb;cases hb
 have hs:w.heap.size<=({ w with heap:=w.heap.setIfInBounds l.blk (.map es' clock') }:World).heap.size:=by simp
 refine⟨?_,?_⟩
 ·have:=zkR (id:=id) (l:=l) (b:={ b with cells:=cs }) (H':=H.set id (some { b with cells:=cs })) (w':={ w with heap:=w.heap.setIfInBounds l.blk (.map es' clock') }) r
   (λi=>rfl) (yaj _) hlt (.inr hm.1) g2 hs L.out (λi b' l' hb' hm' e=>r.inj i id b' b l' l hb' hb hm' hm.1 e)
   (λm' h1 h2=>.map hm.2 es' clock' ⟨g1,L.out,he.mono h1 (λ_ h=>h) h2,λe he=>hborn _ (List.mem_map_of_mem he),by simpa [ycg]using hrise⟩)
  rwa [zeh hm.1]at this
 ·have:=zhu (m:=m) (Z:=Z) (H:=H) (w:=w) (id:=id) (l:=l) (H':=H.set id (some { b with cells:=cs })) (w':={ w with heap:=w.heap.setIfInBounds l.blk (.map es' clock') }) (.inr hm.1) (yaj _) (.inr hm.1) (λi b' h=>by
   simp only[Heap.set]at h;split at h
   ·rename_i e;exact .inl e
   ·exact .inr ⟨b',h⟩) g2 hs rfl rfl rfl (.inr ⟨id,b,l,hb,hm.1,rfl⟩)
  rwa [zeh hm.1]at this
def sameBits_self:∀{xs:List V} {XS:List Value} {ks:List FK} (n:Nat),zaG ks xs xs=some true->xs.length=XS.length->(∀(j:Nat) (v:V) (x:Value),xs[j]?=some v->XS[j]?=some x->Rep m Z w v x) ->
  ((XS.zip XS).all λ(x,y)=>Instr.sameBits n x y)=true
 | [],[],_,_,_,_,_=>rfl
 | [],_ :: _,_,_,_,h,_=>by simp at h
 | _ :: _,[],_,_,_,h,_=>by simp at h
 | x::xs,X::XS,ks,n,h,hl,hr=>by
  have h0:=hr 0 x X rfl rfl;have hrest:=λks' h'=>sameBits_self (xs:=xs) (XS:=XS) (ks:=ks') n h' (by simpa using hl) λj v y hv hy=>hr (j+1) v y hv hy
  match ks,x with
  | .int::ks,.int k a=>
   simp only[zaG,if_true,yac,yal,beq_self_eq_true,true_and]at h;obtain⟨r,hr',rfl⟩:=h;rw[h0.inv_int];simp only[List.zip_cons_cons,yba,hrest ks hr',yaE];cases n<;>simp[Instr.sameBits]
  | .bool::ks,.bool a=>
   simp only[zaG,yac,yal,beq_self_eq_true,true_and]at h;obtain⟨r,hr',rfl⟩:=h;cases h0;simp only[List.zip_cons_cons,yba,hrest ks hr',yaE];cases n<;>simp[Instr.sameBits]
def zhw:∀{ks:List FK} {xs ys:List V} {b:Bool},zaG ks xs ys=some b->zaG ks xs xs=some true
 | [],[],[],_,_=>rfl
 | .int::ks,.int k a::xs,.int k' c::ys,b,h=>by
  simp only[zaG]at h ⊢;split at h
  ·simp only[yac]at h;obtain⟨r,hr,_⟩:=h;simp[zhw hr]
  ·cases h
 | .bool::ks,.bool a::xs,.bool c::ys,b,h=>by
  simp only[zaG,yac]at h ⊢;obtain⟨r,hr,_⟩:=h;exact⟨true,zhw hr,by simp⟩
def stays{mk:MK}{key k':V}{b:Bool}{K:Value}(h:keq mk key k'=some b)(hr:Rep m Z w key K):(Instr.keyThatStays K K).run P w = .ok K w:=by
 have hs:Instr.sameBits 10000 K K=true:=by
  cases mk with
  | int=>
   cases key<;>cases k'<;>simp only[keq,reduceCtorEq]at h
   rw[hr.inv_int];simp[Instr.sameBits]
  | st ks=>
   cases key<;>cases k'<;>simp only[keq,reduceCtorEq]at h
   cases hr;rename_i XS h1 h2 h3;have:=sameBits_self (m:=m) (Z:=Z) (w:=w) (XS:=XS.toList) 9999 (zhw h) (by simpa using h1.symm) λj v x hv hx=>h3 j v x hv (by simpa using hx);show Instr.sameBits (9999+1) (.agg XS) (.agg XS)=true;unfold Instr.sameBits;rw[this];simp
 unfold Instr.keyThatStays;rw[if_pos hs];rfl
def zm2{t:TypeId}{q:MK×TypeId}{x k u v:V}{X K U:Value}(hq:mapOf P t=some q) (h:mmapset q.1 x k u H=some (v,H')) (hx:Rep m Z w x X) (hk:Rep m Z w k K) (hu:Rep m Z w u U) (r:RelH m Z H w) :
  v = .undef/\∃w',(Instr.mapUpdate t X K U).run P w = .ok () w'/\RelH m Z H' w'/\Ext m Z H w m Z H' w':=by
 obtain⟨mk,e⟩:=q;obtain⟨kt,ht,hmk⟩:=zm3 hq;obtain⟨id,b,cs,rfl,hb,hko,hset,rfl,rfl⟩:=zjz h;refine⟨rfl,?_⟩;obtain⟨l,hm,rfl⟩:=hx.inv_mp;obtain⟨es,clock,L⟩:=r.atM hb hm;have hbn:∀n∈es.toList.map (·.born),n<clock:=λn hn=>by
  obtain⟨e,he,rfl⟩:=ybp.1 hn;exact L.born e he
 have hri:(es.toList.map (·.born)).Pairwise (· < ·):=by simpa [ycg]using L.rise
 rcases zmY (zqa (P:=P) hmk hk) hk hu b.cells es.toList 0 cs L.ents hset with⟨hf,rfl⟩|⟨j,y,e0,hf,he0,hek,⟨k',hkk⟩,hen⟩
 ·have hf:=zil hmk hf;obtain⟨h1,h2⟩:=zuV (es':=es.push { key:=K,val:=U,born:=clock }) (clock':=clock+1) r hb hm L (by simpa using zlK L.ents hk hu) (λn hn=>by
   simp only[ycP,yaP,ya5,ycd,yaZ,ya0]at hn;rcases hn with hn|hn
   ·have:=hbn n hn;omega
   ·omega) (by
   simp only[ycP,yaP,ya5,ycd];exact List.pairwise_append.2 ⟨hri,by simp,λa ha b hb=>by simp at hb;subst hb;exact hbn a ha⟩)
  refine⟨_,?_,h1,h2⟩;unfold Instr.mapUpdate;simp only[Sem.run_bind,run_underlying ht,Result.andThen_ok,MapKept.run_getObj_map L.heap,zeo hmk hko hk,hf,MapKept.run_setObj_map _ L.heap]
 ·have hf:=zil hmk hf;obtain⟨h1,h2⟩:=zuV (es':=es.modify j λe=>{ e with key:=K,val:=U }) (clock':=clock) r hb hm L (by rw[ycE];exact hen) (by rw[ycE,zg6];exact hbn) (by rw[ycE,zg6];exact hri);refine⟨_,?_,h1,h2⟩;have hej:es[j]?=some e0:=by simpa using he0
  unfold Instr.mapUpdate;simp only[Sem.run_bind,run_underlying ht,Result.andThen_ok,MapKept.run_getObj_map L.heap,zeo hmk hko hk,hf,hej,yas,yaB,hek,stays hkk hk,MapKept.run_setObj_map _ L.heap,ya6]
def zsO{t ty k e:TypeId}{x v:V}{X:Value} (ht:P.underlying t=some (.map k e)) (h:mmaplen x H=some (v,H')) (hx:Rep m Z w x X) (r:RelH m Z H w) :
  H'=H/\∃y,(Builtin.len_ #[t] ty #[X]).run P w = .ok y w/\Rep m Z w v y:=by
 obtain⟨id,b,rfl,hb,rfl,rfl⟩:=zjA h;obtain⟨l,hm,rfl⟩:=hx.inv_mp;obtain⟨es,clock,L⟩:=r.atM hb hm;refine⟨rfl,.int .i64 (es.size:Int),?_,?_⟩
 ·simp[Builtin.len_,run_underlying ht,MapKept.run_getObj_map L.heap,goInt]
 ·rw[zr5 L.ents,Nat.mul_div_cancel_left _ (by omega)];exact .int _ _
end
end Go.Ax
