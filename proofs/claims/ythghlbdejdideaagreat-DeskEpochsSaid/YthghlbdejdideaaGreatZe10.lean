/-
  Texts of mine, put together by program (wip/slim.py), for law_deskEpochs: part 10.
-/
import Derived.Test.YthghlbdejdideaaGreatZe9
noncomputable section
set_option linter.unusedVariables false
set_option linter.unusedSimpArgs false
set_option linter.defProp false
set_option maxRecDepth 100000
/- Rtp1 -/
namespace Go.Ax.R7
open Go.Ax
def be(l:List Nat):Nat:=l.foldl (λa b=>a*256+b) 0
theorem be_snoc(l:List Nat)(b:Nat):be (l++[b])=be l*256+b:=by simp[be]
theorem be_lt(l:List Nat)(h:∀x∈l,x<256):be l<256 ^ l.length:=by
 have key:∀(l:List Nat),(∀x∈l,x<256)→∀l':List Nat,l=l'.reverse→be l<256 ^ l.length:=by
  intro l hl l' e;subst e
  induction l' with
  | nil=>simp[be]
  | cons b l' ih =>
   rw[List.reverse_cons,be_snoc,List.length_append,List.length_singleton,Nat.pow_succ];have h1:=ih λx hx=>hl x (by rw[List.reverse_cons]; exact List.mem_append_left _ hx);have h2:=hl b (by simp);omega
 exact key l h l.reverse (by simp)
theorem or256(a b:Nat)(h:b<256):a*256 ||| b=a*256+b:=by
 have:=Nat.shiftLeft_add_eq_or_of_lt (i:=8) (b:=b) h a;rw[Nat.shiftLeft_eq]at this;exact this.symm
abbrev By(lo:Nat)(H:Heap)(v:V)(l:List Nat):Prop:=Lc 1 lo H v (l.map by8) l.length
def Ok8(l:List Nat):Prop:=∀x∈l,x<256
theorem Ok8.take{l:List Nat}(h:Ok8 l)(n:Nat):Ok8 (l.take n):=λx hx=>h x (List.mem_of_mem_take hx)
theorem Ok8.drop{l:List Nat}(h:Ok8 l)(n:Nat):Ok8 (l.drop n):=λx hx=>h x (List.mem_of_mem_drop hx)
theorem by_at{lo:Nat}{H:Heap}{v:V}{l:List Nat}(h:By lo H v l){i:Int}(h0:0≤i)(h1:i<l.length):∃p,(∀{k:IntKind},Ax.iaddr none 1 v (.int k i)=some p)∧LdR none H p (.int .u8 (l.getD i.toNat 0:Nat))∧p.pid=v.pid:=by
 obtain⟨p,hp,hl⟩:=h.at h0 h1;have hi:i.toNat<l.length:=by omega
 have e:((l.map by8).drop (i.toNat*1)).take 1=[by8 l[i.toNat]]:=by
  rw[Nat.mul_one,←List.map_drop,List.drop_eq_getElem_cons hi]; rfl
 rw[e]at hl;refine⟨p,hp,λf Q=>?_,hl.pid.1⟩;rw[hl.ld0 (by simp)];have hg:l.getD i.toNat 0=l[i.toNat]:=by rw[List.getD_eq_getElem?_getD,List.getElem?_eq_getElem hi]; rfl
 rw[hg]; exact zod
theorem zj0{lo:Nat}{H:Heap}{v:V}{l:List Nat}(h:By lo H v l){i:Int}(h0:0≤i)(h1:i<l.length):∃p,(∀{k:IntKind},Ax.iaddr none 1 v (.int k i)=some p)∧(∀H',By lo H' v l→LdR none H' p (.int .u8 (l.getD i.toNat 0:Nat)))∧p.pid=v.pid:=by
 obtain⟨p,hp,hl,hd⟩:=by_at h h0 h1;refine⟨p,hp,λH' h'=>?_,hd⟩;obtain⟨p',hp',hl',-⟩:=by_at h' h0 h1;have:p=p':=by
  have:=(hp (k:=.i64)).symm.trans (hp' (k:=.i64));simpa using this
 subst this;exact hl'
theorem by_slice{lo:Nat}{H:Heap}{v:V}{l:List Nat}(h:By lo H v l){x y:Int}(h0:0≤x)(h1:x≤y)(h2:y≤l.length) :
  ∃v',(∀{k k':IntKind},zaU .sl 1 v (some (.int k x)) (some (.int k' y)) none=some v')∧(x=0→∀{k':IntKind},zaU .sl 1 v none (some (.int k' y)) none=some v')∧(y=l.length→∀{k:IntKind},zaU .sl 1 v (some (.int k x)) none none=some v') ∧
   By lo H v' ((l.drop x.toNat).take (y.toNat-x.toNat))∧v'.pid=v.pid:=by
 obtain⟨v',a,b,c,d,e⟩:=h.slice h0 h1 h2;refine⟨v',a,b,c,?_,e⟩;have hl:((l.drop x.toNat).take (y.toNat-x.toNat)).length=y.toNat-x.toNat:=by rw[List.length_take,List.length_drop]; omega
 have:=d;rw[Nat.mul_one,Nat.mul_one,←List.map_drop,←List.map_take]at this;unfold By;rw[hl]; exact this
theorem getD_drop{l:List Nat}{i n:Nat}:(l.drop n).getD i 0=l.getD (n+i) 0:=by
 simp only[List.getD_eq_getElem?_getD,List.getElem?_drop]
theorem getD_lt{l:List Nat}(h:Ok8 l)(i:Nat):l.getD i 0<256:=by
 rw[List.getD_eq_getElem?_getD];cases e:l[i]? with
 | none=>simp
 | some x=>exact h x (List.mem_of_getElem? e)
theorem take_snoc{l:List Nat}{i:Nat}(h:i<l.length):l.take (i+1)=l.take i++[l.getD i 0]:=by
 rw[List.take_add_one,List.getElem?_eq_getElem h,List.getD_eq_getElem?_getD,List.getElem?_eq_getElem h]; rfl
theorem be_take_lt{l:List Nat}(h:Ok8 l){i n:Nat}(hi:i≤n):be (l.take i)<256 ^ n:=by
 have h1:=be_lt _ (h.take i);have h2:256 ^ (l.take i).length≤256 ^ n:=Nat.pow_le_pow_right (by decide) (by rw[List.length_take]; omega);omega
theorem znT{lo:Nat}{H:Heap}{v:V}{l:List Nat}(h:By lo H v l)(h8:Ok8 l)(hn:l.length≤4):Ok (sem T zdi [v]) H λr H'=>r = .int .u32 (be l:Nat)∧H'=H:=by
 refine zth ?_;unfold zqu uL uc ug;simp(maxSteps:=1000000) (disch:=first|omega|(simp only[RY]<;>omega)|decide)only[↓RD,RZ,eq_self,Int.reduceToNat,Int.reduceAdd,Int.reduceSub,Int.reduceMul,Nat.reduceAdd,Nat.reduceSub,Nat.reduceMul,Nat.reduceDiv,Nat.reduceMod,Nat.reduceBEq,Nat.reduceLeDiff,h.vlen];refine za3 (λk L H'=>L=[.int .u32 (be (l.take k):Nat),.int .i64 (k:Nat)]∧H'=H) l.length ?_ ?_ ?_
 ·exact⟨by simp[be],rfl⟩
 ·rintro k L H1 hk ⟨rfl,rfl⟩;obtain⟨p,hp,hld,-⟩:=by_at h (i:=(k:Nat)) (by omega) (by omega);have hb:=be_take_lt h8 (i:=k) (n:=3) (by omega);have hg:=getD_lt h8 k;have hm:be (l.take k)*256%4294967296=be (l.take k)*256:=Nat.mod_eq_of_lt (by omega);unfold ziZ uL uB uIM uc uq ug;simp(maxSteps:=1000000) (disch:=first|omega|(simp only[RY]<;>omega)|decide)only[↓RD,RZ,eq_self,Int.reduceToNat,Int.reduceAdd,Int.reduceSub,Int.reduceMul,Nat.reduceAdd,Nat.reduceSub,Nat.reduceMul,Nat.reduceDiv,Nat.reduceMod,Nat.reduceBEq,Nat.reduceLeDiff,hp,hld,hm,or256 _ _ hg];rw[take_snoc hk,be_snoc]; rfl
 ·rintro L H1 ⟨rfl,rfl⟩;unfold ziZ uL uB uIM uc uq ug;simp(maxSteps:=1000000) (disch:=first|omega|(simp only[RY]<;>omega)|decide)only[↓RD,RZ,eq_self,Int.reduceToNat,Int.reduceAdd,Int.reduceSub,Int.reduceMul,Nat.reduceAdd,Nat.reduceSub,Nat.reduceMul,Nat.reduceDiv,Nat.reduceMod,Nat.reduceBEq,Nat.reduceLeDiff];rw[List.take_length]
theorem N_ok{lo:Nat}{H:Heap}{v:V}{l:List Nat}(h:By lo H v l)(h8:Ok8 l)(hl:l.length≤1099511627776)(at' n:Nat)(ha:at'+n≤l.length)(hn:n≤8):Ok (sem T zaA [v,.int .i64 at',.int .i64 n]) H λr H'=>r = .int .u64 (be ((l.drop at').take n):Nat)∧H'=H:=by
 refine zjh ?_;unfold zgD uc uq ug;simp(disch:=first|omega|(simp only[RY]<;>omega)|decide)only[↓RD,RZ,eq_self,Nat.reduceAdd,Int.reduceAdd,Int.reduceToNat,Nat.reduceMul];refine za3 (λk L H'=>L=[.int .u64 (be ((l.drop at').take k):Nat),.int .i64 (k:Nat)]∧H'=H) n ?_ ?_ ?_
 ·exact⟨by simp[be],rfl⟩
 ·rintro k L H1 hk ⟨rfl,rfl⟩;obtain⟨p,hp,hld,-⟩:=by_at h (i:=(at'+k:Nat)) (by omega) (by omega);have hb:=be_take_lt (h8.drop at') (i:=k) (n:=7) (by omega);have hg:=getD_lt h8 (at'+k);have hm:be ((l.drop at').take k)*256%18446744073709551616=be ((l.drop at').take k)*256:=Nat.mod_eq_of_lt (by omega);have ec:(at':Int)+(k:Int)=((at'+k:Nat):Int):=rfl;unfold zdI uL uB uIM uc uq ug;simp(disch:=first|omega|(simp only[RY]<;>omega)|decide)only[↓RD,RZ,eq_self,Nat.reduceAdd,Int.reduceAdd,Int.reduceToNat,Nat.reduceMul,hp,hld,hm,or256 _ _ hg,ec];rw[take_snoc (by rw[List.length_drop]; omega),be_snoc,getD_drop]; rfl
 ·rintro L H1 ⟨rfl,rfl⟩;unfold zdI uL uB uIM uc uq ug;simp(disch:=first|omega|(simp only[RY]<;>omega)|decide)only[↓RD,RZ,eq_self,Nat.reduceAdd,Int.reduceAdd,Int.reduceToNat,Nat.reduceMul]
theorem okb_copy{β:Type}{ty e bytes m:Nat}{H:Heap}{y:V}{q:List V}{f:V→M β}{Q:β→Heap→Prop} (hy:acells e H y=some (q,m)) (hp:∀id,y.pid=some id→id<H.next) (hq:q.length=m*e)
  (hb:m*bytes≤140737488355328) (hm:m≤140737488355328)
  (k:∀x' H',App ty e H.next H' x' q m→Grow H H'→Ok (f x') H' Q):Ok ((mappend ty e bytes (.sl H.next 0 0 (.fix 0)) y).bind f) (H.new ⟨ty,[],none⟩) Q:=by
 have ha:App ty e H.next (H.new ⟨ty,[],none⟩) (.sl H.next 0 0 (.fix 0)) [] 0:=.lit (zac _ _) (Nat.le_refl _) (by rw[zaf]; omega);refine zgc ha (by rw[zaf]; omega) (by rw[zm8 λi hi=>zaE _ _ (by have:=hp i hi; omega)]; exact hy) hq (by simpa using hb) (by omega) λx' H' h hs=>?_;refine k x' H' (by simpa using h) ⟨by have:=hs.next; rw[zaf]at this; omega,λi hi=>?_⟩;rw[hs.same i (by rw[zaf]; omega) (by simp[V.pid]; omega),zaE _ _ (by omega)]
theorem zps{lo:Nat}{H:Heap}{v:V}{l:List Nat}(h:By lo H v l)(hl:l.length≤1099511627776):Ok (sem T zbF [v]) H λr H'=>By H.next H' r l∧Grow H H':=by
 refine ziB ?_;unfold zhc uL ub;rcases h.cases with⟨rfl,hc,hn⟩|⟨id,off,cap,b,rfl,_⟩|⟨cs,rfl,_⟩
 ·simp(disch:=omega)only[↓RD,RZ];have:l=[]:=List.eq_nil_of_length_eq_zero hn;subst this;exact⟨Lc.nil,Grow.refl _⟩
 ·simp(disch:=omega)only[↓RD,RZ];refine okb_copy h.ac (λi hi=>(h.own i hi).2) (by simp) (by omega) (by omega) λx' H' ha hg=>?_;simp(disch:=omega)only[↓RD,RZ];exact⟨ha.lc,hg⟩
 ·simp(disch:=omega)only[↓RD,RZ];refine okb_copy h.ac (λi hi=>(h.own i hi).2) (by simp) (by omega) (by omega) λx' H' ha hg=>?_;simp(disch:=omega)only[↓RD,RZ];exact⟨ha.lc,hg⟩
end Go.Ax.R7
/- Rtp2 -/
namespace Go.Ax
theorem Lc.step{e lo n:Nat}{H H':Heap}{F F':List Nat}{v:V}{cells:List V}(h:Lc e lo H v cells n)(s:Step H H' F F')(hd:∀id,v.pid=some id→id∉F):Lc e lo H' v cells n :=
 ⟨by rw[zbL λi hi=>s.same i (h.own i hi).2 (hd i hi)]; exact h.rc,λi hi=>⟨(h.own i hi).1,Nat.lt_of_lt_of_le (h.own i hi).2 s.next⟩,h.cap⟩
theorem Lc.setn{e lo n:Nat}{H:Heap}{v:V}{cells:List V}(h:Lc e lo H v cells n){w:Nat}(hd:v.pid≠some w)(b:Option Blk):Lc e lo (H.set w b) v cells n :=
 ⟨by rw[zbL λi hi=>zap _ _ (λe=>hd (by rw[hi,e]))]; exact h.rc,h.own,h.cap⟩
theorem Lc.newn{e lo n:Nat}{H:Heap}{v:V}{cells:List V}(h:Lc e lo H v cells n)(b:Blk):Lc e lo (H.new b) v cells n:=h.ext (Grow.new H b)
end Go.Ax
namespace Go.Ax.R7
open Go.Ax
abbrev X:Type:=Int×List Nat
def xc(w:X×V):List V:=[.int .i64 w.1.1,w.2]
structure Exs (lo:Nat) (H:Heap) (v:V) (xs:List X):Prop where
 ex:∃ws:List (X×V),ws.map (·.1)=xs∧Lc 2 lo H v (ws.map xc).flatten ws.length∧∀w∈ws,By lo H w.2 w.1.2
theorem Exs.nil{lo:Nat}{H:Heap}:Exs lo H .nils []:=⟨[],rfl,Lc.nil,λw h=>by cases h⟩
theorem Exs.keep{lo:Nat}{H H':Heap}{v:V}{xs:List X}(h:Exs lo H v xs)(k:Keep lo H H'):Exs lo H' v xs:=by
 obtain⟨ws,h1,h2,h3⟩:=h;exact⟨ws,h1,h2.keep k,λw hw=>(h3 w hw).keep k⟩
theorem Exs.ext{lo:Nat}{H H':Heap}{v:V}{xs:List X}(h:Exs lo H v xs)(k:Grow H H'):Exs lo H' v xs:=h.keep (k.keep lo)
theorem Exs.low{lo lo':Nat}{H:Heap}{v:V}{xs:List X}(h:Exs lo H v xs)(hl:lo'≤lo):Exs lo' H v xs:=by
 obtain⟨ws,h1,h2,h3⟩:=h;exact⟨ws,h1,h2.low hl,λw hw=>(h3 w hw).low hl⟩
theorem Exs.vlen{lo:Nat}{H:Heap}{v:V}{xs:List X}(h:Exs lo H v xs):Ax.vlen v=some (.int .i64 (xs.length:Nat)):=by
 obtain⟨ws,rfl,h2,h3⟩:=h;rw[h2.vlen,List.length_map]
theorem Exs.cells1{lo:Nat}{H:Heap}{v:V}{xs:List X}(h:Exs lo H v xs):v.cells=[v]:=by
 obtain⟨ws,rfl,h2,h3⟩:=h;exact h2.cells1
theorem Exs.okc{lo:Nat}{H:Heap}{v:V}{xs:List X}(h:Exs lo H v xs):v.okc=true:=by
 obtain⟨ws,rfl,h2,h3⟩:=h;exact h2.okc
theorem znX{α:Type}{k:Nat} (es:List (List α)) (h:∀x∈es,x.length=k) (i:Nat) (hi:i<es.length):(es.flatten.drop (i*k)).take k=es[i]:=(flat_at es h i es[i] (List.getElem?_eq_getElem hi)).1
theorem xc_len (ws:List (X×V)):∀x∈ws.map xc,x.length=2:=λx hx=>by
 obtain⟨w,_,rfl⟩:=List.mem_map.1 hx;rfl
theorem Exs.at{lo:Nat}{H:Heap}{v:V}{xs:List X}(h:Exs lo H v xs){i:Nat}(hi:i<xs.length):∃p bv,(∀{k:IntKind},Ax.iaddr none 2 v (.int k i)=some p)∧Pl H p [.int .i64 xs[i].1,bv] v.pid∧By lo H bv xs[i].2:=by
 obtain⟨ws,rfl,h2,h3⟩:=h;rw[List.length_map]at hi;obtain⟨p,hp,hl⟩:=h2.at (i:=(i:Nat)) (by omega) (by omega);have e:((ws.map xc).flatten.drop (i*2)).take 2=[.int .i64 ws[i].1.1,ws[i].2]:=by
  rw[znX _ (xc_len ws) i (by rw[List.length_map]; exact hi),List.getElem_map]; rfl
 rw[Int.toNat_natCast,e]at hl;refine⟨p,ws[i].2,hp,?_,?_⟩
 ·simpa using hl
 ·simpa using h3 _ (List.getElem_mem hi)
structure AppX (ty lo:Nat) (H:Heap) (v:V) (xs:List X):Prop where
 ex:∃ws:List (X×V),ws.map (·.1)=xs∧App ty 2 lo H v (ws.map xc).flatten ws.length∧∀w∈ws,By lo H w.2 w.1.2∧∀id,w.2.pid=some id→v.pid≠some id
theorem AppX.exs{ty lo:Nat}{H:Heap}{v:V}{xs:List X}(h:AppX ty lo H v xs):Exs lo H v xs:=by
 obtain⟨ws,h1,h2,h3⟩:=h;exact⟨ws,h1,h2.lc,λw hw=>(h3 w hw).1⟩
theorem AppX.nil{ty lo:Nat}{H:Heap}:AppX ty lo H .nils []:=⟨[],rfl,App.nil,λw h=>by cases h⟩
theorem App.keep{ty e lo n:Nat}{H H':Heap}{v:V}{cells:List V}(h:App ty e lo H v cells n)(k:Keep lo H H'):App ty e lo H' v cells n:=by
 cases h with
 | opn h ho=>exact .opn (h.to λi hi=>k.same i (ho i hi).1 (ho i hi).2) λi hi=>⟨(ho i hi).1,Nat.lt_of_lt_of_le (ho i hi).2 k.next⟩
 | lit h h0 h1=>exact .lit (by rw[k.same _ h0 h1,h]) h0 (Nat.lt_of_lt_of_le h1 k.next)
theorem AppX.keep{ty lo:Nat}{H H':Heap}{v:V}{xs:List X}(h:AppX ty lo H v xs)(k:Keep lo H H'):AppX ty lo H' v xs:=by
 obtain⟨ws,h1,h2,h3⟩:=h;exact⟨ws,h1,App.keep h2 k,λw hw=>⟨(h3 w hw).1.keep k,(h3 w hw).2⟩⟩
theorem zsc{β:Type}{ty bytes lo:Nat}{H:Heap}{x y bv:V}{xs:List X}{a:Int}{b:List Nat}{f:V→M β}{Q:β→Heap→Prop}(hx:AppX ty lo H x xs)(hlo:lo≤H.next) (hy:acells 2 H y=some ([.int .i64 a,bv],1)) (hbv:By lo H bv b) (hd:∀id,bv.pid=some id→x.pid≠some id)
  (hb:(xs.length+1)*bytes≤140737488355328) (hm:xs.length+1≤140737488355328)
  (k:∀x' H',AppX ty lo H' x' (xs++[(a,b)])→Step H H' x.pid.toList x'.pid.toList→Ok (f x') H' Q):Ok ((mappend ty 2 bytes x y).bind f) H Q:=by
 obtain⟨ws,rfl,h2,h3⟩:=hx;rw[List.length_map]at hb hm;refine zgc h2 hlo hy rfl hb hm λx' H' h s=>k x' H' ⟨ws++[((a,b),bv)],by simp,?_,?_⟩ s
 ·simpa [xc]using h
 ·have hpid:∀id,x'.pid=some id→x.pid=some id∨H.next≤id:=λid hi=>by
   rcases s.own id (by simp[hi]) with h|h
   ·exact .inl (by simpa [zb7]using h)
   ·exact .inr h.1
  have key:∀(u:V) (l:List Nat),By lo H u l→(∀id,u.pid=some id→x.pid≠some id)→By lo H' u l∧∀id,u.pid=some id→x'.pid≠some id:=by
   intro u l hu hn;refine⟨hu.step s λid hi hF=>hn id hi (by simpa [zb7]using hF),λid hi he=>?_⟩;rcases hpid id he with h|h
   ·exact hn id hi h
   ·have:=(hu.own id hi).2; omega
  intro w hw;rcases List.mem_append.1 hw with hw|hw
  ·exact key _ _ (h3 w hw).1 (h3 w hw).2
  ·simp only[List.mem_singleton]at hw;subst hw;exact key _ _ hbv hd
/-! One element. -/
def eid(one:Bool)(l:List Nat):Nat:=if one then l.getD 0 0/16 else l.getD 0 0
def zdN(one:Bool):Nat:=if one then 1 else 2
def enum(one:Bool)(l:List Nat):Nat:=if one then l.getD 0 0%16+1 else l.getD 1 0
def ebad(one:Bool)(l:List Nat):Prop:=eid one l=0∨l.length<zdN one+enum one l
def zqy(one:Bool)(l:List Nat):X:=((eid one l:Nat),(l.drop (zdN one)).take (enum one l))
def elen(one:Bool)(l:List Nat):Nat:=zdN one+enum one l
instance (one:Bool) (l:List Nat):Decidable (ebad one l):=by unfold ebad; infer_instance
theorem ztN {lo : Nat} {H : Heap} {v : V} {l : List Nat} (h : By lo H v l) (h8 : Ok8 l) (hl : l.length ≤ 1048576) (h0 : 0 < l.length) (prof : Int) (hp : -9223372036854775808 ≤ prof ∧ prof ≤ 9223372036854775807) :
    Ok (sem T zeA [.int .i64 prof, v]) H fun r H' => Grow H H' ∧
      (if ebad (decide (prof = 48862)) l then r = .tup [.agg [.int .i64 0, .nils], .int .i64 0, .bool false]
       else ∃ bv, r = .tup [.agg [.int .i64 (zqy (decide (prof = 48862)) l).1, bv], .int .i64 (elen (decide (prof = 48862)) l : Nat), .bool true] ∧ By H.next H' bv (zqy (decide (prof = 48862)) l).2) := by
  obtain ⟨p0, hp0, hl0, -⟩ := zj0 h (i := 0) (by omega) (by omega)
  have hb0 := getD_lt h8 0
  have hb1 := getD_lt h8 1
  have hv : ∀ id, v.pid = some id → id < H.next := fun id hi => (h.own id hi).2
  refine zne ?_
  unfold zjM uL uS uT uF uFM uB uIM uG uH uO uc ub uq ug
  have e1 := hl0 (H.new ⟨zbJ, [.int .i64 0, .nils], none⟩) (h.newn _)
  simp (disch := first | omega | (simp only [RY] <;> omega) | decide) only [↓RD, RZ, eq_self, seval, hp0, e1]
  generalize hH1 : (Heap.new (Heap.new _ _) _).set _ _ = H1
  have hn1 : H1.next = H.next + 2 := by rw [← hH1]; rfl
  have hg1 : Grow H H1 := by rw [← hH1]; exact ((Grow.new H _).trans (Grow.new _ _)).set (by omega) _
  have hd4 : H1.get H.next = some ⟨zbJ, [.int .i64 0, .nils], none⟩ := by rw [← hH1, zap _ _ (by omega), zaE _ _ (by rw [zaf]; omega), zac]
  have hd7 : H1.get (H.next + 1) = some ⟨zbJ, [.int .i64 (l.getD 0 0 : Nat), .nils], none⟩ := by rw [← hH1, zan]
  have h1 : By lo H1 v l := h.ext hg1
  clear hH1
  -- both shapes of a head
  refine zaw (Q := fun r H' => r = Res.nrm [.int .i64 (zdN (decide (prof = 48862)) : Nat), .int .i64 (enum (decide (prof = 48862)) l : Nat)] ∧ By lo H' v l ∧ Grow H H' ∧ H'.next = H1.next ∧ H'.get H.next = H1.get H.next ∧ H'.get (H.next + 1) = some ⟨zbJ, [.int .i64 (eid (decide (prof = 48862)) l : Nat), .nils], none⟩) ?_ ?_
  · have e2 := hl0 H1 h1
    refine zoP (fun hpr => ?_) fun hpr => ?_
    · have e3 := hl0 (H1.set (H.next + 1) (some ⟨zbJ, [.int .i64 (l.getD 0 0 / 16 : Nat), .nils], none⟩)) (h1.setn (fun e => by have := hv _ e; omega) _)
      simp (disch := omega) only [↓RD, RZ, eq_self, seval, hp0, e2, hd7, e3]
      have hen : enum (decide (prof = 48862)) l = l.getD 0 0 % 16 + 1 := by rw [decide_eq_true hpr]; rfl
      have hef : zdN (decide (prof = 48862)) = 1 := by rw [decide_eq_true hpr]; rfl
      have hei : eid (decide (prof = 48862)) l = l.getD 0 0 / 16 := by rw [decide_eq_true hpr]; rfl
      rw [hen, hef, hei]
      exact ⟨rfl, h1.setn (fun e => by have := hv _ e; omega) _, hg1.set (by omega) _, by trivial⟩
    · have hei : eid (decide (prof = 48862)) l = l.getD 0 0 := by rw [decide_eq_false hpr]; rfl
      have hef : zdN (decide (prof = 48862)) = 2 := by rw [decide_eq_false hpr]; rfl
      have hen : enum (decide (prof = 48862)) l = l.getD 1 0 := by rw [decide_eq_false hpr]; rfl
      rw [hen, hef, hei]
      simp (maxSteps := 1000000) (disch := first | omega | (simp only [RY] <;> omega) | decide) only [↓RD, RZ, eq_self, Int.reduceToNat, Int.reduceAdd, Int.reduceSub, Int.reduceMul, Nat.reduceAdd, Nat.reduceSub, Nat.reduceMul, Nat.reduceDiv, Nat.reduceMod, Nat.reduceBEq, Nat.reduceLeDiff, h1.vlen]
      by_cases hl1 : 1 < l.length
      · obtain ⟨p1, hp1, hl1', -⟩ := by_at h1 (i := 1) (by omega) (by omega)
        simp (maxSteps := 1000000) (disch := first | omega | (simp only [RY] <;> omega) | decide) only [↓RD, RZ, eq_self, Int.reduceToNat, Int.reduceAdd, Int.reduceSub, Int.reduceMul, Nat.reduceAdd, Nat.reduceSub, Nat.reduceMul, Nat.reduceDiv, Nat.reduceMod, Nat.reduceBEq, Nat.reduceLeDiff, hp1, hl1']
        exact ⟨rfl, h1, hg1, hd7⟩
      · have hz : l.getD 1 0 = 0 := by rw [List.getD_eq_getElem?_getD, List.getElem?_eq_none (by omega)]; rfl
        simp (maxSteps := 1000000) (disch := first | omega | (simp only [RY] <;> omega) | decide) only [↓RD, RZ, eq_self, Int.reduceToNat, Int.reduceAdd, Int.reduceSub, Int.reduceMul, Nat.reduceAdd, Nat.reduceSub, Nat.reduceMul, Nat.reduceDiv, Nat.reduceMod, Nat.reduceBEq, Nat.reduceLeDiff, hz]
        exact ⟨rfl, h1, hg1, hd7⟩
  · rintro _ H2 ⟨rfl, h2, hg2, hn2, hd4', hd7'⟩
    rw [hd4] at hd4'
    simp (disch := omega) only [↓RD, RZ, eq_self, seval, hd4', hd7', h2.vlen]
    have hef : zdN (decide (prof = 48862)) ≤ 2 := by unfold zdN; split <;> omega
    have hen : enum (decide (prof = 48862)) l ≤ 255 := by unfold enum; split <;> omega
    have hei : eid (decide (prof = 48862)) l ≤ 255 := by unfold eid; split <;> omega
    unfold zqy elen
    generalize hone : decide (prof = 48862) = one at *
    by_cases hz : eid one l = 0
    · have hbad : ebad one l := .inl hz
      rw [hz] at hd7'
      simp (disch := first | omega | (simp only [RY] <;> omega) | decide) only [↓RD, RZ, eq_self, seval, hz, hd4', hd7']
      rw [if_pos hbad]
      exact ⟨hg2.set (by omega) _, by trivial⟩
    · by_cases hs : l.length < zdN one + enum one l
      · have hbad : ebad one l := .inr hs
        simp (disch := first | omega | (simp only [RY] <;> omega) | decide) only [↓RD, RZ, eq_self, seval, hd4', hd7', h2.vlen]
        rw [if_pos hbad]
        exact ⟨hg2.set (by omega) _, by trivial⟩
      · have hbad : ¬ ebad one l := fun h => h.elim hz hs
        obtain ⟨v', hs1, -, -, hs4, hs5⟩ := by_slice h2 (x := (zdN one : Nat)) (y := (zdN one + enum one l : Nat)) (by omega) (by omega) (by omega)
        have ec : (zdN one : Int) + (enum one l : Int) = ((zdN one + enum one l : Nat) : Int) := rfl
        have el : ((zdN one + enum one l : Nat) : Int).toNat - ((zdN one : Nat) : Int).toNat = enum one l := by omega
        rw [el, Int.toNat_natCast] at hs4
        simp (disch := omega) only [↓RD, RZ, eq_self, seval, h2.vlen, ec, hs1]
        refine zad (zps hs4 (by rw [List.length_take, List.length_drop]; omega)) ?_
        rintro bv H3 ⟨hb3, hg3⟩
        have hd4'' : H3.get H.next = some ⟨zbJ, [.int .i64 0, .nils], none⟩ := by rw [hg3.same _ (by omega), hd4']
        have hd7'' : H3.get (H.next + 1) = some ⟨zbJ, [.int .i64 (eid one l : Nat), .nils], none⟩ := by rw [hg3.same _ (by omega), hd7']
        simp (disch := first | omega | (simp only [RY] <;> omega) | decide) only [↓RD, RZ, eq_self, seval, hd4'', hd7'', hb3.cells1, hb3.okc]
        rw [if_neg hbad]
        have hne : ∀ w, w ≤ H.next + 1 → bv.pid ≠ some w := fun w hw e => by have := (hb3.own w e).1; omega
        exact ⟨((hg2.trans hg3).set (by omega) _).set (by omega) _, bv, rfl, ((hb3.low (by omega)).setn (hne _ (by omega)) _).setn (hne _ (by omega)) _⟩
/-! All elements. -/
def zeS(one:Bool)(l:List Nat):Option (List X) :=
 if h:l.length=0 then some []
 else if l.getD 0 0=0 then zeS one (l.drop 1)
 else if one=true∧l.getD 0 0/16=15 then some []
 else if ebad one l then none
 else (zeS one (l.drop (elen one l))).map (zqy one l :: ·)
termination_by l.length
decreasing_by
 all_goals simp only[List.length_drop]
 ·omega
 ·unfold elen zdN; split<;>omega
theorem zsu(one:Bool)(l:List Nat):0<elen one l:=by unfold elen zdN; split<;>omega
theorem exts_ok{lo:Nat}{H:Heap}{v:V}{l:List Nat}(h:By lo H v l)(h8:Ok8 l)(hl:l.length≤1048576)(prof:Int)(hp:-9223372036854775808≤prof∧prof≤9223372036854775807) :
  Ok (sem T zfz [.int .i64 prof,v]) H λr H'=>Grow H H'∧match zeS (decide (prof=48862)) l with
   | none=>r = .tup [.nils,.bool false]
   | some xs=>∃xv,r = .tup [xv,.bool true]∧Exs H.next H' xv xs∧xs.length≤l.length:=by
 refine zq9 ?_;unfold zn0 ug;simp(disch:=omega)only[↓RD,RZ,eq_self,seval];generalize hone:decide (prof=48862)=one;refine zoz (λL H' m=>∃w acc k xs,L=[w,acc]∧m=l.length-k∧k≤l.length∧By lo H' w (l.drop k)∧w.pid=v.pid∧AppX zbJ H.next H' acc xs∧Grow H H'∧xs.length≤k∧zeS one l=(zeS one (l.drop k)).map (xs ++ ·)) l.length ?_ ?_
 ·exact⟨v,.nils,0,[],rfl,by simp,by omega,by simpa using h,rfl,AppX.nil,Grow.refl _,by simp,by simp⟩
 ·rintro L H1 m ⟨w,acc,k,xs,rfl,rfl,hk,hw,hwp,ha,hg,hx,hpe⟩;have hdl:(l.drop k).length=l.length-k:=by rw[List.length_drop]
  unfold zkZ uL uM uS uT uE uB uG uH uO uc ub uq ug;simp(disch:=omega)only[↓RD,RZ,eq_self,seval,hw.vlen,hdl];by_cases h0:l.length-k=0
  ·have hp0:zeS one (l.drop k)=some []:=by rw[zeS,dif_pos (by omega)]
   rw[hp0]at hpe;simp(disch:=omega)only[↓RD,RZ,eq_self,seval,hw.vlen,hdl];refine⟨hg,?_⟩;rw[hpe];exact⟨acc,rfl,by simpa using ha.exs,by simpa using (by omega:xs.length≤l.length)⟩
  ·have hpos:0<l.length-k:=by omega
   obtain⟨p0,hp0,hl0,-⟩:=zj0 hw (i:=0) (by omega) (by omega);have e1:=hl0 H1 hw;have h8k:=h8.drop k;have hb0:=getD_lt h8k 0;have ht0:(0:Int).toNat=0:=rfl;rw[ht0]at e1;have hp1:zeS one (l.drop k)=if (l.drop k).getD 0 0=0 then zeS one ((l.drop k).drop 1) else if one=true∧(l.drop k).getD 0 0/16=15 then some [] else if ebad one (l.drop k) then none else (zeS one ((l.drop k).drop (elen one (l.drop k)))).map (zqy one (l.drop k) :: ·):=by
    rw[zeS,dif_neg (by omega)]
   simp(disch:=omega)only[↓RD,RZ,eq_self,seval,hp0,e1];refine zoP (λhz=>?_) λhz=>?_
   ·obtain⟨v',-,-,hs3,hs4,hs5⟩:=by_slice hw (x:=1) (y:=(l.length-k:Nat)) (by omega) (by omega) (by omega);rw[if_pos (by omega)]at hp1;have hs3':=@hs3 (by rw[hdl]);simp(disch:=omega)only[↓RD,RZ,eq_self,seval,hs3'];refine⟨l.length-(k+1),by omega,v',acc,k+1,xs,rfl,rfl,by omega,?_,hs5.trans hwp,ha,hg,by omega,?_⟩
    ·have el:(l.drop k).drop 1=l.drop (k+1):=by rw[List.drop_drop]
     have:(((l.drop k).drop (1:Int).toNat).take (((l.length-k:Nat):Int).toNat-(1:Int).toNat))=l.drop (k+1):=by
      rw[←el]; exact List.take_of_length_le (by rw[List.length_drop,List.length_drop]; omega)
     rw[this]at hs4; exact hs4
    ·rw[hpe,hp1,List.drop_drop]
   ·rw[if_neg (by omega)]at hp1;by_cases hend:one=true∧(l.drop k).getD 0 0/16=15
    ·rw[if_pos hend]at hp1;have hpr:prof=48862:=by rw[hend.1]at hone; exact of_decide_eq_true hone
     simp(disch:=omega)only[↓RD,RZ,eq_self,seval,hp0,e1,hend.2];rw[hpe,hp1];exact⟨hg,acc,rfl,by simpa using ha.exs,by simp; omega⟩
    ·rw[if_neg hend]at hp1;have hcase:(prof=48862∧(l.drop k).getD 0 0/16≠15)∨prof≠48862:=by
      by_cases hpr:prof=48862
      ·refine .inl ⟨hpr,λe=>hend ⟨?_,e⟩⟩;rw[←hone]; exact decide_eq_true hpr
      ·exact .inr hpr
     rcases hcase with⟨hpr,h15⟩|hpr<;>(
      simp(disch:=omega)only[↓RD,RZ,eq_self,seval,hp0,e1];refine zad (ztN hw h8k (by omega) (by omega) prof hp) ?_;rintro r H2 ⟨hg2,hr⟩;rw[hone]at hr;by_cases hbad:ebad one (l.drop k)
      ·rw[if_pos hbad]at hr hp1;subst hr;simp(disch:=omega)only[↓RD,RZ,eq_self,seval];rw[hpe,hp1];exact⟨(hg.trans hg2).trans ((Grow.new _ _).set (by omega) _),by trivial⟩
      ·rw[if_neg hbad]at hr hp1;obtain⟨bv,rfl,hbv⟩:=hr;have hel:=zsu one (l.drop k);have helr:elen one (l.drop k)≤l.length-k:=by
        have:¬(l.drop k).length<zdN one+enum one (l.drop k):=λe=>hbad (.inr e);unfold elen; omega
       simp(disch:=first|omega|(simp only[RY]<;>omega)|decide)only[↓RD,RZ,eq_self,seval,hbv.cells1,hbv.okc];generalize hH3:(Heap.set _ _ _)=H3;have g23:Grow H2 H3:=by rw[←hH3]; exact(Grow.new _ _).set (by omega) _
       have n3:H3.next=H2.next+1:=by rw[←hH3]; rfl
       have hn1:=hg.next;have hn2:=hg2.next;have g13:=hg2.trans g23;have hbv3:=hbv.ext g23;refine zsc (lo:=H.next) (bytes:=32) (ha.keep ((g13.trans (Grow.new _ _)).keep _)) (by rw[zaf]; omega) (zfM (by omega) rfl) ((hbv3.newn _).low (by omega)) (λid hid e=>?_) (by omega) (by omega) λx' H4 ha4 hs4=>?_
       ·obtain⟨ws,_,hw2,_⟩:=ha;have:=(hw2.lc.own id e).2;have:=(hbv.own id hid).1;omega
       ·have hacc:∀id,acc.pid=some id→H.next≤id:=λid e=>by
         obtain⟨ws,_,hw2,_⟩:=ha;exact(hw2.lc.own id e).1
        have n4:=hs4.next;rw[zaf]at n4;have g4:Grow H H4:=⟨by omega,λi hi=>by
         rw[hs4.same i (by rw[zaf]; omega) (λe=>by have:=hacc i (by simpa [zb7]using e); omega),zaE _ _ (by omega),g13.same i (by omega),hg.same i hi]⟩
        have hw4:By lo H4 w (l.drop k):=((hw.ext g13).newn _).step hs4 λid e e2=>by
         have:=hacc id (by simpa [zb7]using e2);have:=(h.own id (hwp ▸ e)).2;omega
        obtain⟨v',-,-,hs3,hs5,hs6⟩:=by_slice hw4 (x:=(elen one (l.drop k):Nat)) (y:=(l.length-k:Nat)) (by omega) (by omega) (by omega);have hs3':=@hs3 (by rw[hdl]);simp(disch:=omega)only[↓RD,RZ,eq_self,seval,hs3'];refine⟨l.length-(k+elen one (l.drop k)),by omega,v',x',k+elen one (l.drop k),xs++[zqy one (l.drop k)],rfl,rfl,by omega,?_,hs6.trans hwp,ha4,g4,by simp; omega,?_⟩
        ·have:(((l.drop k).drop ((elen one (l.drop k):Nat):Int).toNat).take (((l.length-k:Nat):Int).toNat-((elen one (l.drop k):Nat):Int).toNat))=l.drop (k+elen one (l.drop k)):=by
          rw[Int.toNat_natCast,Int.toNat_natCast,List.drop_drop]; exact List.take_of_length_le (by rw[List.length_drop]; omega)
         rw[this]at hs5; exact hs5
        ·rw[hpe,hp1,List.drop_drop,Option.map_map];congr 1;funext z; simp)
end Go.Ax.R7
/- Rtp3 -/
namespace Go.Ax.R7
open Go.Ax
def Hd(one:Bool)(l:List Nat)(k:Nat)(r:Res):Prop :=
 (eid one l≠0∧r = .nrm [.int .i64 (eid one l:Nat),.int .i64 (enum one l:Nat),.int .i64 ((k+zdN one:Nat):Int)])∨(eid one l=0∧r = .ret [.nils,.bool false])
theorem zry{lo:Nat}{H:Heap}{v:V}{l:List Nat}(h:By lo H v l)(h8:Ok8 l)(hl:l.length≤1048576)(prof:Int)(hp:-9223372036854775808≤prof∧prof≤9223372036854775807) :
  Ok (sem T zbb [v,.int .i64 prof]) H λr H'=>Grow H H'∧match zeS (decide (prof=48862)) l with
   | none=>r = .tup [.nils,.bool false]
   | some xs=>∃xv,r = .tup [xv,.bool true]∧Exs H.next H' xv xs∧xs.length≤l.length:=by
 refine zgh ?_;unfold zdX uc ug;simp(disch:=first|omega|(simp only[RY]<;>omega)|decide)only[↓RD,RZ,eq_self,Int.reduceToNat,Int.reduceAdd,Nat.reduceAdd,Nat.reduceSub,Nat.reduceMul,Nat.reduceLeDiff];generalize hone:decide (prof=48862)=one;refine zoz (λL H' m=>∃acc k xs,L=[acc,.int .i64 (k:Nat)]∧m=l.length-k∧k≤l.length∧AppX zbu H.next H' acc xs∧Grow H H'∧xs.length≤k∧zeS one l=(zeS one (l.drop k)).map (xs ++ ·)) l.length ?_ ?_
 ·exact⟨.nils,0,[],rfl,by simp,by omega,AppX.nil,Grow.refl _,by simp,by simp⟩
 ·rintro L H1 m ⟨acc,k,xs,rfl,rfl,hk,ha,hg,hx,hpe⟩;have hdl:(l.drop k).length=l.length-k:=by rw[List.length_drop]
  unfold zdr uL uB uIM uG uH uc ub uq ug;simp(disch:=first|omega|(simp only[RY]<;>omega)|decide)only[↓RD,RZ,eq_self,Int.reduceToNat,Int.reduceAdd,Nat.reduceAdd,Nat.reduceSub,Nat.reduceMul,Nat.reduceLeDiff,h.vlen];by_cases h0:l.length-k=0
  ·have hp0:zeS one (l.drop k)=some []:=by rw[zeS,dif_pos (by omega)]
   rw[hp0]at hpe;simp(disch:=first|omega|(simp only[RY]<;>omega)|decide)only[↓RD,RZ,eq_self,Int.reduceToNat,Int.reduceAdd,Nat.reduceAdd,Nat.reduceSub,Nat.reduceMul,Nat.reduceLeDiff];refine⟨hg,?_⟩;rw[hpe];exact⟨acc,rfl,by simpa using ha.exs,by simpa using (by omega:xs.length≤l.length)⟩
  ·have hpos:0<l.length-k:=by omega
   have h1:=h.ext hg;obtain⟨p0,hp0,hl0,-⟩:=zj0 h1 (i:=(k:Nat)) (by omega) (by omega);have e1:=hl0 H1 h1;have h8k:=h8.drop k;have hb0:=getD_lt h8k 0;have hb1:=getD_lt h8k 1;rw[getD_drop]at hb0 hb1;rw[Nat.add_zero]at hb0;have ek:(k:Int)+1=((k+1:Nat):Int):=rfl;rw[Int.toNat_natCast]at e1;have hp1:zeS one (l.drop k)=if (l.drop k).getD 0 0=0 then zeS one ((l.drop k).drop 1) else if one=true∧(l.drop k).getD 0 0/16=15 then some [] else if ebad one (l.drop k) then none else (zeS one ((l.drop k).drop (elen one (l.drop k)))).map (zqy one (l.drop k) :: ·):=by
    rw[zeS,dif_neg (by omega)]
   have hk0:(l.drop k).getD 0 0=l.getD k 0:=by rw[getD_drop]; rfl
   have hk1:(l.drop k).getD 1 0=l.getD (k+1) 0:=by rw[getD_drop]
   rw[hk0]at hp1;simp(disch:=first|omega|(simp only[RY]<;>omega)|decide)only[↓RD,RZ,eq_self,Int.reduceToNat,Int.reduceAdd,Nat.reduceAdd,Nat.reduceSub,Nat.reduceMul,Nat.reduceLeDiff,hp0,e1];refine zoP (λhz=>?_) λhz=>?_
   ·rw[if_pos (by omega)]at hp1;simp(disch:=first|omega|(simp only[RY]<;>omega)|decide)only[↓RD,RZ,eq_self,Int.reduceToNat,Int.reduceAdd,Nat.reduceAdd,Nat.reduceSub,Nat.reduceMul,Nat.reduceLeDiff];refine⟨l.length-(k+1),by omega,acc,k+1,xs,rfl,rfl,by omega,ha,hg,by omega,?_⟩;rw[hpe,hp1,List.drop_drop]
   ·rw[if_neg (by omega)]at hp1;by_cases hend:one=true∧l.getD k 0/16=15
    ·rw[if_pos hend]at hp1;have hpr:prof=48862:=by rw[hend.1]at hone; exact of_decide_eq_true hone
     simp(disch:=first|omega|(simp only[RY]<;>omega)|decide)only[↓RD,RZ,eq_self,Int.reduceToNat,Int.reduceAdd,Nat.reduceAdd,Nat.reduceSub,Nat.reduceMul,Nat.reduceLeDiff,hp0,e1,hend.2];refine⟨hg,?_⟩;rw[hpe,hp1];exact⟨acc,rfl,by simpa using ha.exs,by simp; omega⟩
    ·rw[if_neg hend]at hp1;simp(disch:=first|omega|(simp only[RY]<;>omega)|decide)only[↓RD,RZ,eq_self,Int.reduceToNat,Int.reduceAdd,Nat.reduceAdd,Nat.reduceSub,Nat.reduceMul,Nat.reduceLeDiff,hp0,e1]
     -- a head of either shape
     refine zaw (Q:=λr H'=>Hd one (l.drop k) k r∧H'=H1) ?_ ?_
     ·refine zoP (λhpr=>?_) λhpr=>?_
      ·have ho:one=true:=by rw[←hone]; exact decide_eq_true hpr
       subst ho;have h15:l.getD k 0/16≠15:=λe=>hend ⟨rfl,e⟩;have hei:eid true (l.drop k)=l.getD k 0/16:=by unfold eid; rw[if_pos rfl,hk0]
       have hen:enum true (l.drop k)=l.getD k 0%16+1:=by unfold enum; rw[if_pos rfl,hk0]
       by_cases hid:l.getD k 0/16=0
       ·simp(disch:=first|omega|(simp only[RY]<;>omega)|decide)only[↓RD,RZ,eq_self,Int.reduceToNat,Int.reduceAdd,Nat.reduceAdd,Nat.reduceSub,Nat.reduceMul,Nat.reduceLeDiff,hp0,e1,hid];refine .inr ⟨?_,rfl⟩;rw[hei]; exact hid
       ·simp(disch:=first|omega|(simp only[RY]<;>omega)|decide)only[↓RD,RZ,eq_self,Int.reduceToNat,Int.reduceAdd,Nat.reduceAdd,Nat.reduceSub,Nat.reduceMul,Nat.reduceLeDiff,hp0,e1];refine .inl ⟨?_,?_⟩
        ·rw[hei]; exact hid
        ·rw[hei,hen]; rfl
      ·have ho:one=false:=by rw[←hone]; exact decide_eq_false hpr
       subst ho;have hei:eid false (l.drop k)=l.getD k 0:=by unfold eid; rw[if_neg (by simp),hk0]
       have hen:enum false (l.drop k)=l.getD (k+1) 0:=by unfold enum; rw[if_neg (by simp),hk1]
       simp(disch:=first|omega|(simp only[RY]<;>omega)|decide)only[↓RD,RZ,eq_self,Int.reduceToNat,Int.reduceAdd,Nat.reduceAdd,Nat.reduceSub,Nat.reduceMul,Nat.reduceLeDiff,h1.vlen];by_cases hk2:k+1<l.length
       ·obtain⟨p1,hp1',hl1,-⟩:=by_at h1 (i:=(k+1:Nat)) (by omega) (by omega);simp(disch:=first|omega|(simp only[RY]<;>omega)|decide)only[↓RD,RZ,eq_self,Int.reduceToNat,Int.reduceAdd,Nat.reduceAdd,Nat.reduceSub,Nat.reduceMul,Nat.reduceLeDiff,ek,hp1',hl1];refine .inl ⟨?_,?_⟩
        ·rw[hei]; omega
        ·rw[hei,hen]; rfl
       ·have hz1:l.getD (k+1) 0=0:=by rw[List.getD_eq_getElem?_getD,List.getElem?_eq_none (by omega)]; rfl
        simp(disch:=first|omega|(simp only[RY]<;>omega)|decide)only[↓RD,RZ,eq_self,Int.reduceToNat,Int.reduceAdd,Nat.reduceAdd,Nat.reduceSub,Nat.reduceMul,Nat.reduceLeDiff];refine .inl ⟨?_,?_⟩
        ·rw[hei]; omega
        ·rw[hei,hen,hz1]; rfl
     ·rintro _ H2 ⟨⟨hid,rfl⟩|⟨hid,rfl⟩,rfl⟩
      ·have hef:zdN one≤2:=by unfold zdN; split<;>omega
       have hen:enum one (l.drop k)≤255:=by unfold enum; rw[hk0,hk1]; split<;>omega
       have hei:eid one (l.drop k)≤255:=by unfold eid; rw[hk0]; split<;>omega
       by_cases hs:(l.drop k).length<zdN one+enum one (l.drop k)
       ·have hbad:ebad one (l.drop k):=.inr hs;rw[if_pos hbad]at hp1;by_cases hs2:l.length<k+zdN one
        ·simp(disch:=first|omega|(simp only[RY]<;>omega)|decide)only[↓RD,RZ,eq_self,Int.reduceToNat,Int.reduceAdd,Nat.reduceAdd,Nat.reduceSub,Nat.reduceMul,Nat.reduceLeDiff,h1.vlen];rw[hpe,hp1];exact⟨hg,by trivial⟩
        ·simp(disch:=first|omega|(simp only[RY]<;>omega)|decide)only[↓RD,RZ,eq_self,Int.reduceToNat,Int.reduceAdd,Nat.reduceAdd,Nat.reduceSub,Nat.reduceMul,Nat.reduceLeDiff,h1.vlen];rw[hpe,hp1];exact⟨hg,by trivial⟩
       ·have hbad:¬ebad one (l.drop k):=λh=>h.elim hid hs;rw[if_neg hbad]at hp1;obtain⟨v',hs1,-,-,hs4,hs5⟩:=by_slice h1 (x:=(k+zdN one:Nat)) (y:=(k+zdN one+enum one (l.drop k):Nat)) (by omega) (by omega) (by omega);have ec:((k+zdN one:Nat):Int)+(enum one (l.drop k):Int)=((k+zdN one+enum one (l.drop k):Nat):Int):=rfl;have el:((k+zdN one+enum one (l.drop k):Nat):Int).toNat-((k+zdN one:Nat):Int).toNat=enum one (l.drop k):=by omega
        rw[el,Int.toNat_natCast,←List.drop_drop]at hs4;simp(disch:=first|omega|(simp only[RY]<;>omega)|decide)only[↓RD,RZ,eq_self,Int.reduceToNat,Int.reduceAdd,Nat.reduceAdd,Nat.reduceSub,Nat.reduceMul,Nat.reduceLeDiff,h1.vlen,ec,hs1];refine okb_copy hs4.ac (λi hi=>(hs4.own i hi).2) (by simp) (by rw[List.length_take,List.length_drop,List.length_drop]; omega) (by rw[List.length_take,List.length_drop,List.length_drop]; omega) λbv H3 hb3 hg3=>?_;have hbv:=hb3.lc;have hn1:=hg.next;have n3:=hg3.next;simp(disch:=first|omega|(simp only[RY]<;>omega)|decide)only[↓RD,RZ,eq_self,Int.reduceToNat,Int.reduceAdd,Nat.reduceAdd,Nat.reduceSub,Nat.reduceMul,Nat.reduceLeDiff,hbv.cells1,hbv.okc,ec];refine zsc (lo:=H.next) (bytes:=32) (a:=(eid one (l.drop k):Nat)) (b:=((l.drop k).drop (zdN one)).take (enum one (l.drop k))) (ha.keep ((hg3.trans (Grow.new _ _)).keep _)) (by rw[zaf]; omega) (zfM rfl rfl) ((hbv.newn _).low (by omega)) (λid hid e=>?_) (by omega) (by omega) λx' H4 ha4 hs4=>?_
        ·obtain⟨ws,_,hw2,_⟩:=ha;have:=(hw2.lc.own id e).2;have:=(hbv.own id hid).1;omega
        ·have hacc:∀id,acc.pid=some id→H.next≤id:=λid e=>by
          obtain⟨ws,_,hw2,_⟩:=ha;exact(hw2.lc.own id e).1
         have n4:=hs4.next;rw[zaf]at n4;have g4:Grow H H4:=⟨by omega,λi hi=>by
          rw[hs4.same i (by rw[zaf]; omega) (λe=>by have:=hacc i (by simpa [zb7]using e); omega),zaE _ _ (by omega),hg3.same i (by omega),hg.same i hi]⟩
         have hel:=zsu one (l.drop k);have hele:elen one (l.drop k)=zdN one+enum one (l.drop k):=rfl;simp(disch:=first|omega|(simp only[RY]<;>omega)|decide)only[↓RD,RZ,eq_self,Int.reduceToNat,Int.reduceAdd,Nat.reduceAdd,Nat.reduceSub,Nat.reduceMul,Nat.reduceLeDiff,ec];refine⟨l.length-(k+elen one (l.drop k)),by omega,x',k+elen one (l.drop k),xs++[zqy one (l.drop k)],?_,rfl,by omega,ha4,g4,by simp; omega,?_⟩
         ·rw[hele]; simp only[Nat.add_assoc]
         ·rw[hpe,hp1,List.drop_drop,Option.map_map];congr 1;funext z; simp
      ·have hbad:ebad one (l.drop k):=.inl hid;rw[if_pos hbad]at hp1;simp(disch:=first|omega|(simp only[RY]<;>omega)|decide)only[↓RD,RZ,eq_self,Int.reduceToNat,Int.reduceAdd,Nat.reduceAdd,Nat.reduceSub,Nat.reduceMul,Nat.reduceLeDiff];rw[hpe,hp1];exact⟨hg,by trivial⟩
end Go.Ax.R7
/- Rtp4 -/
namespace Go.Ax.R7
open Go.Ax
def by32(n:Nat):V:=.int .u32 n
structure Pkt where
 mark:Bool
 typ:Int
 seq:Nat
 ts:Nat
 ssrc:Nat
 csrc:List Nat
 prof:Int
 exts:List X
 pad:Int
 pay:List Nat
def pcells(p:Pkt)(cv xv pv:V):List V:=[.bool p.mark,.int .i64 p.typ,.int .u16 p.seq,.int .u32 p.ts,.int .u32 p.ssrc,cv,.int .i64 p.prof,xv,.int .i64 p.pad,pv]
structure PkR (lo:Nat) (H:Heap) (v:V) (p:Pkt):Prop where
 ex:∃cv xv pv,v = .agg (pcells p cv xv pv)∧Lc 1 lo H cv (p.csrc.map by32) p.csrc.length∧Exs lo H xv p.exts∧By lo H pv p.pay
theorem PkR.keep{lo:Nat}{H H':Heap}{v:V}{p:Pkt}(h:PkR lo H v p)(k:Keep lo H H'):PkR lo H' v p:=by
 obtain⟨cv,xv,pv,h1,h2,h3,h4⟩:=h;exact⟨cv,xv,pv,h1,h2.keep k,h3.keep k,h4.keep k⟩
theorem PkR.ext{lo:Nat}{H H':Heap}{v:V}{p:Pkt}(h:PkR lo H v p)(k:Grow H H'):PkR lo H' v p:=h.keep (k.keep lo)
def piece(b:List Nat)(i n:Nat):List Nat:=(b.drop i).take n
def ziw(b:List Nat):Pkt:=⟨decide (b.getD 1 0/128%2=1),(b.getD 1 0%128:Nat),be (piece b 2 2),be (piece b 4 4),be (piece b 8 4),[],0,[],0,[]⟩
def csn(b:List Nat):Nat:=b.getD 0 0%16
def zcP(b:List Nat):List Nat:=(List.range (csn b)).map λi=>be (piece b (12+4*i) 4)
def pext(r:List Nat):Except Int (Int×List X×Nat) :=
 if r.length<4 then .error 3
 else if r.length<4+4*be (piece r 2 2) then .error 3
 else if be (piece r 0 2)≠48862∧be (piece r 0 2)≠4096 then .error 2
 else match zeS (decide (((be (piece r 0 2):Nat):Int)=48862)) (piece r 4 (4*be (piece r 2 2))) with
  | none=>.error 2
  | some xs=>.ok ((be (piece r 0 2):Nat),xs,4+4*be (piece r 2 2))
def zhL(b:List Nat):Except Int (Int×List X×Nat):=if b.getD 0 0/16%2=1 then pext (b.drop (12+4*csn b)) else .ok (0,[],0)
def parse(b:List Nat):Except Int Pkt :=
 if 1200<b.length then .error 4
 else if b.length<12 then .error 3
 else if b.getD 0 0/64≠2 then .error 2
 else if b.length<12+4*csn b then .error 3
 else match zhL b with
  | .error e=>.error e
  | .ok (prof,xs,n) =>
   let at':=12+4*csn b+n
   if b.getD 0 0/32%2=1 then
    let pad:=b.getD (b.length-1) 0
    if pad=0∨b.length-at'<pad then .error 2
    else .ok { ziw b with csrc:=zcP b,prof:=prof,exts:=xs,pad:=(pad:Nat),pay:=piece b at' (b.length-at'-pad) }
   else .ok { ziw b with csrc:=zcP b,prof:=prof,exts:=xs,pay:=piece b at' (b.length-at') }
theorem zeH{b:List Nat}(h:Ok8 b)(i n:Nat):Ok8 (piece b i n):=(h.drop i).take n
theorem zc5{b:List Nat}{i n:Nat}(h:i+n≤b.length):(piece b i n).length=n:=by unfold piece; rw[List.length_take,List.length_drop]; omega
theorem zbY{b:List Nat}(h:Ok8 b)(i n:Nat):be (piece b i n)<256 ^ n:=be_take_lt (h.drop i) (Nat.le_refl n)
theorem zfl{lo:Nat}{H:Heap}{v:V}{l:List Nat}(h:By lo H v l){x y:Int}(h0:0≤x)(h1:x≤y)(h2:y≤l.length) :
  ∃v',(∀{k k':IntKind},zaU .sl 1 v (some (.int k x)) (some (.int k' y)) none=some v')∧(x=0→∀{k':IntKind},zaU .sl 1 v none (some (.int k' y)) none=some v')∧(y=l.length→∀{k:IntKind},zaU .sl 1 v (some (.int k x)) none none=some v') ∧
   By lo H v' (piece l x.toNat (y.toNat-x.toNat))∧v'.pid=v.pid:=by_slice h h0 h1 h2
def ExtQ(H:Heap)(k:Nat)(p:Pkt)(cv pv:V) (o:Except Int (Int×List X×Nat)) (res:V) (H':Heap):Prop :=
 At1 k H H'∧match o with
  | .error e=>res = .tup [.int .i64 0,.int .i64 e]
  | .ok (prof,xs,n)=>res = .tup [.int .i64 (n:Nat),.int .i64 0]∧∃xv',H'.get k=some ⟨zaC,pcells { p with prof:=prof } cv xv' pv,none⟩∧Exs H.next H' xv' xs
theorem zqx{lo:Nat}{H:Heap}{v:V}{r:List Nat}(h:By lo H v r)(h8:Ok8 r)(hl:r.length≤1048576){k:Nat}{p:Pkt}{cv xv pv:V}(hk:k<H.next) (hb:H.get k=some ⟨zaC,pcells p cv xv pv,none⟩) (hv:v.pid≠some k) :
  Ok (sem T zdD [.ptr k 0,v]) H (ExtQ H k p cv pv (pext r)):=by
 refine zlg ?_;unfold zh7 uL uT uNFM uNF uE uB uG uH uc;unfold pext;simp(disch:=omega)only[↓RD,RZ,eq_self,seval,h.vlen];refine zke (λh4=>?_) λh4=>?_
 ·simp(disch:=omega)only[↓RD,RZ,eq_self,seval];rw[if_pos (by omega)];exact⟨At1.refl _ _,rfl⟩
 ·rw[if_neg (by omega)];obtain⟨v1,hs1,-,-,hb1,hp1⟩:=zfl h (x:=2) (y:=4) (by omega) (by omega) (by omega);have hb1':By lo H v1 (piece r 2 2):=hb1;have hw:=zbY h8 2 2;have hpr:=zbY h8 0 2;simp(disch:=omega)only[↓RD,RZ,eq_self,seval,hs1];refine zad (znT hb1' (zeH h8 _ _) (by rw[zc5 (by omega)]; omega)) ?_;rintro _ H ⟨rfl,rfl⟩;have ec:(4:Int)+4*(be (piece r 2 2):Nat)=((4+4*be (piece r 2 2):Nat):Int):=by omega
  simp(disch:=omega)only[↓RD,RZ,eq_self,seval,h.vlen,ec];refine zke (λh5=>?_) λh5=>?_
  ·simp(disch:=omega)only[↓RD,RZ,eq_self,seval];rw[if_pos (by omega)];exact⟨At1.refl _ _,rfl⟩
  ·rw[if_neg (by omega)];obtain⟨v2,-,hs2,-,hb2,hp2⟩:=zfl h (x:=0) (y:=2) (by omega) (by omega) (by omega);have hb2':By lo H v2 (piece r 0 2):=hb2;have hs2':=@hs2 rfl;simp(disch:=omega)only[↓RD,RZ,eq_self,seval,hs2'];refine zad (znT hb2' (zeH h8 _ _) (by rw[zc5 (by omega)]; omega)) ?_;rintro _ H ⟨rfl,rfl⟩;unfold pcells at hb;generalize hprof:be (piece r 0 2)=prof at *;simp(disch:=omega)only[↓RD,RZ,eq_self,seval,hb];generalize hH1:Heap.set H k _=H1;have g1:H1.get k=some ⟨zaC,pcells { p with prof:=(prof:Nat) } cv xv pv,none⟩:=by rw[←hH1,zan]; rfl
   have s1:At1 k H H1:=by rw[←hH1]; exact At1.set _ _ _
   have n1:H1.next=H.next:=by rw[←hH1,zbg]
   have g1':=g1;unfold pcells at g1';have h1:By lo H1 v r:=h.at1 s1 hv;obtain⟨v3,hs3,-,-,hb3,hp3⟩:=zfl h1 (x:=4) (y:=(4+4*be (piece r 2 2):Nat)) (by omega) (by omega) (by omega);have e3:((4+4*be (piece r 2 2):Nat):Int).toNat-(4:Int).toNat=4*be (piece r 2 2):=by omega
   rw[e3]at hb3;have hb3':By lo H1 v3 (piece r 4 (4*be (piece r 2 2))):=hb3;have h83:=zeH h8 4 (4*be (piece r 2 2));have hl3:(piece r 4 (4*be (piece r 2 2))).length≤1048576:=by rw[zc5 (by omega)]; omega
   have main:(prof=48862∨prof=4096)→Ok ((sem T zfz [.int .i64 (prof:Nat),v3]).bind λt49=>(M.lift (ext 0 t49)).bind λt50=>(M.lift (ext 1 t49)).bind λt51=>(M.lift (un .not t51)).bind λt53 =>
     M.ite t53 (M.pure (Res.ret [.int .i64 0,.int .i64 2])) ((M.lift (nilck (.ptr k 0))).bind λt56=>(M.lift (faddr 7 t56)).bind λt57=>(mstore 1 t57 t50).bind λ_=>M.pure (.ret [.int .i64 (4+4*be (piece r 2 2):Nat),.int .i64 0]))) H1
     λr' H'=>∃L,r'=Res.ret L∧ExtQ H k p cv pv (match zeS (decide (((prof:Nat):Int)=48862)) (piece r 4 (4*be (piece r 2 2))) with|none=>Except.error 2|some xs=>Except.ok (((prof:Nat):Int),xs,4+4*be (piece r 2 2))) (zc4 L) H':=by
    intro hor;refine zad (exts_ok hb3' h83 hl3 (prof:Nat) (by omega)) ?_;rintro res H2 ⟨hg2,hr⟩;cases hx:zeS (decide (((prof:Nat):Int)=48862)) (piece r 4 (4*be (piece r 2 2))) with
    | none =>
     rw[hx]at hr;dsimp only at hr;subst hr;simp(disch:=omega)only[↓RD,RZ,eq_self,seval];exact⟨s1.trans (hg2.at1 k),rfl⟩
    | some xs =>
     rw[hx]at hr;dsimp only at hr;obtain⟨xv',rfl,hxs,hxl⟩:=hr;have g2:H2.get k=some ⟨zaC,[V.bool p.mark,V.int IntKind.i64 p.typ,V.int IntKind.u16 ↑p.seq,V.int IntKind.u32 ↑p.ts,V.int IntKind.u32 ↑p.ssrc,cv,V.int IntKind.i64 ↑prof,xv,V.int IntKind.i64 p.pad,pv],none⟩:=by rw[hg2.same k (by omega)]; exact g1'
     simp(disch:=omega)only[↓RD,RZ,eq_self,seval,g2,hxs.cells1,hxs.okc];refine⟨(s1.trans (hg2.at1 k)).trans (At1.set _ _ _),rfl,xv',zan _ _ _,?_⟩;rw[n1]at hxs;exact hxs.keep ⟨Nat.le_refl _,λi h1 h2=>zap _ _ (by omega)⟩
   by_cases hp1:prof=48862
   ·rw[if_neg (by omega)];subst hp1;simp(disch:=omega)only[↓RD,RZ,eq_self,seval,g1',hs3];exact main (.inl rfl)
   ·by_cases hp2:prof=4096
    ·rw[if_neg (by omega)];subst hp2;simp(disch:=omega)only[↓RD,RZ,eq_self,seval,g1',hs3];exact main (.inr rfl)
    ·rw[if_pos ⟨hp1,hp2⟩];simp(disch:=omega)only[↓RD,RZ,eq_self,seval,g1'];exact⟨s1,rfl⟩
theorem zwi{lo:Nat}{H:Heap}{v:V}{b:List Nat}(h:By lo H v b)(h8:Ok8 b)(hl:b.length≤1200){k m:Nat}{p:Pkt}{xv pv:V}(t2:V)(hv:∀id,v.pid=some id→id<k)(hk:k<m)(hm:m≤H.next) (hb:H.get k=some ⟨zaC,pcells p .nils xv pv,none⟩) (hn:12+4*csn b≤b.length) {Q:Res→Heap→Prop}
  (kk:∀H' cv,H'.get k=some ⟨zaC,pcells p cv xv pv,none⟩→Lc 1 m H' cv ((zcP b).map by32) (zcP b).length→(∀i,i<m→i≠k→H'.get i=H.get i)→H.next≤H'.next→Q (.ex 1 []) H') :
  Ok (M.iter (zfk (sem T) (.int .i64 (12+4*csn b:Nat)) v (.ptr k 0) t2) [.int .i64 12]) H Q:=by
 have hcl:(zcP b).length=csn b:=by simp[zcP]
 refine za3 (λj L H'=>∃cv,L=[.int .i64 (12+4*j:Nat)]∧H'.get k=some ⟨zaC,pcells p cv xv pv,none⟩∧App zeD 1 m H' cv (((zcP b).take j).map by32) j∧(∀i,i<m→i≠k→H'.get i=H.get i)∧H.next≤H'.next) (csn b) ?_ ?_ ?_
 ·exact⟨.nils,rfl,hb,App.nil,λ_ _ _=>rfl,Nat.le_refl _⟩
 ·rintro j L H1 hj ⟨cv,rfl,g1,ha,gs,gn⟩;have h1:By lo H1 v b:=⟨by rw[zbL λi hi=>gs i (by have:=hv i hi; omega) (by have:=hv i hi; omega)]; exact h.rc,λi hi=>⟨(h.own i hi).1,Nat.lt_of_lt_of_le (h.own i hi).2 gn⟩,h.cap⟩;obtain⟨v1,hs1,-,-,hb1,-⟩:=zfl h1 (x:=(12+4*j:Nat)) (y:=(16+4*j:Nat)) (by omega) (by omega) (by omega);have e1:((16+4*j:Nat):Int).toNat-((12+4*j:Nat):Int).toNat=4:=by omega
  rw[e1,Int.toNat_natCast]at hb1;have e2:((12+4*j:Nat):Int)+4=((16+4*j:Nat):Int):=by omega
  have g1':=g1;unfold pcells at g1';unfold zfk uL uM uT uF uB uU uc ug;simp(disch:=omega)only[↓RD,RZ,eq_self,seval,g1',e2,hs1];refine zad (znT hb1 (zeH h8 _ _) (by rw[zc5 (by omega)]; omega)) ?_;rintro _ H1 ⟨rfl,rfl⟩;simp(disch:=omega)only[↓RD,RZ,eq_self,seval];refine zgc (lo:=m) (bytes:=4) (m:=1) (q:=[by32 (be (piece b (12+4*j) 4))]) (App.keep ha ((Grow.new _ _).keep _)) (by rw[zaf]; omega) (zbS rfl) rfl (by omega) (by omega) λcv' H2 ha2 hs2=>?_;have hcv:∀id,cv.pid=some id→m≤id:=λid hi=>(ha.lc.own id hi).1;have low:∀i,i<m→H2.get i=H1.get i:=λi hi=>by
   rw[hs2.same i (by rw[zaf]; omega) (λe=>by have:=hcv i (by simpa [zb7]using e); omega),zaE _ _ (by omega)]
  have g2:=g1';rw[←low k (by omega)]at g2;have n2:=hs2.next;rw[zaf]at n2;simp(disch:=omega)only[↓RD,RZ,eq_self,seval,g2,ha2.lc.cells1,ha2.lc.okc];refine⟨cv',by first|rfl|(congr 2; omega),by first|rfl|exact zan _ _ _,?_,λi hi hik=>by rw[zap _ _ hik,low i hi,gs i hi hik],by first|omega|(rw[zbg]; omega)⟩;have e3:((zcP b).take (j+1)).map by32=((zcP b).take j).map by32++[by32 (be (piece b (12+4*j) 4))]:=by
   have e4:(zcP b).getD j 0=be (piece b (12+4*j) 4):=by
    rw[List.getD_eq_getElem?_getD,List.getElem?_eq_getElem (by omega)]; simp[zcP]
   rw[take_snoc (by omega),List.map_append,e4]; rfl
  rw[e3];exact App.keep ha2 (Keep.set _ (by omega) _)
 ·rintro L H1 ⟨cv,rfl,g1,ha,gs,gn⟩;unfold zfk uL uM uT uF uB uU uc ug;simp(disch:=omega)only[↓RD,RZ,eq_self,seval];have:=ha.lc;rw[←hcl,List.take_length]at this;exact kk H1 cv g1 this gs gn
end Go.Ax.R7
/- Rtp5 -/
namespace Go.Ax.R7
open Go.Ax
def zd3:List V:=[.bool false,.int .i64 0,.int .u16 0,.int .u32 0,.int .u32 0,.nils,.int .i64 0,.nils,.int .i64 0,.nils]
def zld(H:Heap)(o:Except Int Pkt)(res:V)(H':Heap):Prop :=
 Grow H H'∧match o with
  | .error e=>res = .tup [.agg zd3,.int .i64 e]
  | .ok p=>∃z,res = .tup [z,.int .i64 0]∧PkR H.next H' z p
theorem errQ{H H':Heap}{e:Int}{b:Option Blk}(h:Grow H H'):zld H (.error e) (.tup [.agg zd3,.int .i64 e]) (H'.set H.next b):=⟨h.set (Nat.le_refl _) _,rfl⟩
theorem bitne{x:Nat}(m:Nat)(hm:0<m):(!(((x%2*m:Nat):Int)==0))=decide (x%2=1):=by
 rcases Nat.mod_two_eq_zero_or_one x with h|h
 ·simp[h]
 ·simp[h]; omega
def PE(H:Heap)(lo:Nat)(v:V)(b:List Nat)(cv:V)(r:Res)(H':Heap):Prop :=
 match zhL b with
 | .error e=>∃L,r = .ret L∧zld H (.error e) (zc4 L) H'
 | .ok (prof,xs,n)=>r = .nrm [.int .i64 (12+4*csn b+n:Nat)]∧∃xv,H'.get (H.next+1)=some ⟨zaC,pcells { ziw b with prof:=prof } cv xv .nils,none⟩∧Exs (H.next+2) H' xv xs∧Lc 1 (H.next+2) H' cv ((zcP b).map by32) (zcP b).length ∧
   H'.get H.next=some ⟨zaC,zd3,none⟩∧Grow H H'∧H.next+2≤H'.next∧12+4*csn b+n≤b.length
def PP(H:Heap)(b:List Nat)(cv xv:V)(at':Nat)(prof:Int)(xs:List X)(r:Res)(H':Heap):Prop :=
 if b.getD 0 0/32%2=1∧(b.getD (b.length-1) 0=0∨b.length-at'<b.getD (b.length-1) 0) then ∃L,r = .ret L∧zld H (.error 2) (zc4 L) H'
 else r = .nrm []∧H'.get (H.next+1)=some ⟨zaC,pcells { ziw b with prof:=prof,pad:=((if b.getD 0 0/32%2=1 then b.getD (b.length-1) 0 else 0:Nat):Int) } cv xv .nils,none⟩∧Exs (H.next+2) H' xv xs∧Lc 1 (H.next+2) H' cv ((zcP b).map by32) (zcP b).length ∧
   H'.get H.next=some ⟨zaC,zd3,none⟩∧Grow H H'∧H.next+2≤H'.next
theorem Parse_ok{lo:Nat}{H:Heap}{v:V}{b:List Nat}(h:By lo H v b)(h8:Ok8 b)(hl:b.length≤1048576):Ok (sem T zfZ [v]) H (zld H (parse b)):=by
 have hv:∀id,v.pid=some id→id<H.next:=λid hi=>(h.own id hi).2;have b0:=getD_lt h8 0;have b1:=getD_lt h8 1;refine zpX ?_;unfold zmH uL uM uS uT uF uFM uE uB uI uIM uG uH uO uU uc ub uq ug;unfold parse;simp(disch:=omega)only[↓RD,RZ,eq_self,seval,h.vlen];generalize hH1:Heap.new H _=H1;have n1:H1.next=H.next+1:=by rw[←hH1]; rfl
 have s1:Grow H H1:=by rw[←hH1]; exact Grow.new _ _
 have g1:H1.get H.next=some ⟨zaC,zd3,none⟩:=by rw[←hH1]; exact zac _ _
 have h1:=h.ext s1;have g1':=g1;unfold zd3 at g1';clear hH1;by_cases c1:1200<b.length
 ·rw[if_pos c1];simp(disch:=first|omega|(simp only[RY]<;>omega)|decide)only[↓RD,RZ,eq_self,seval,g1'];exact errQ s1
 ·rw[if_neg c1];by_cases c2:b.length<12
  ·rw[if_pos c2];simp(disch:=first|omega|(simp only[RY]<;>omega)|decide)only[↓RD,RZ,eq_self,seval,g1',h.vlen];exact errQ s1
  ·rw[if_neg c2];obtain⟨p0,hp0,hl0,hd0⟩:=zj0 h1 (i:=0) (by omega) (by omega);obtain⟨p1,hp1,hl1,hd1⟩:=zj0 h1 (i:=1) (by omega) (by omega);have ht0:(0:Int).toNat=0:=rfl;have ht1:(1:Int).toNat=1:=rfl;rw[ht0]at hl0;rw[ht1]at hl1;have e0:=hl0 H1 h1;have e1:=hl1 H1 h1;by_cases c3:b.getD 0 0/64≠2
   ·rw[if_pos c3];simp(disch:=first|omega|(simp only[RY]<;>omega)|decide)only[↓RD,RZ,eq_self,seval,g1',h.vlen,hp0,e0];exact errQ s1
   ·rw[if_neg c3];have c3':b.getD 0 0/64=2:=by omega
    obtain⟨v1,hs1,-,-,hb1,-⟩:=zfl h1 (x:=2) (y:=4) (by omega) (by omega) (by omega);obtain⟨v2,hs2,-,-,hb2,-⟩:=zfl h1 (x:=4) (y:=8) (by omega) (by omega) (by omega);obtain⟨v3,hs3,-,-,hb3,-⟩:=zfl h1 (x:=8) (y:=12) (by omega) (by omega) (by omega);have hb1':By lo H1 v1 (piece b 2 2):=hb1;have hb2':By lo H1 v2 (piece b 4 4):=hb2;have hb3':By lo H1 v3 (piece b 8 4):=hb3;have r1:=@zaQ _ _ _ _ (znT hb1' (zeH h8 _ _) (by rw[zc5 (by omega)]; omega));have r2:=@zaQ _ _ _ _ (znT hb2' (zeH h8 _ _) (by rw[zc5 (by omega)]; omega));have r3:=@zaQ _ _ _ _ (znT hb3' (zeH h8 _ _) (by rw[zc5 (by omega)]; omega));have w1:=zbY h8 2 2;have w2:=zbY h8 4 4;have w3:=zbY h8 8 4;have hm:=bitne (x:=b.getD 1 0/128) 128 (by decide);simp(disch:=omega)only[↓RD,RZ,eq_self,seval,h.vlen,hp0,e0,hp1,e1,c3',hs1,hs2,hs3,r1,r2,r3,hm,n1];generalize hH2:Heap.set _ (H.next+1) _=H2;have n2:H2.next=H.next+2:=by rw[←hH2,zbg,zaf]; omega
    have s2:Grow H H2:=by rw[←hH2]; exact(s1.trans (Grow.new _ _)).set (by omega) _
    have g2:H2.get H.next=some ⟨zaC,zd3,none⟩:=by rw[←hH2,zap _ _ (by omega),zaE _ _ (by omega),g1]
    have q2:H2.get (H.next+1)=some ⟨zaC,pcells (ziw b) .nils .nils .nils,none⟩:=by rw[←hH2,zan]; rfl
    clear hH2;have h2:=h.ext s2;have e0':=hl0 H2 h2;have g2':=g2;unfold zd3 at g2';have ec:(12:Int)+4*((b.getD 0 0%16:Nat):Int)=((12+4*csn b:Nat):Int):=by unfold csn; omega
    have hcs:csn b≤15:=by unfold csn; omega
    by_cases c4:b.length<12+4*csn b
    ·rw[if_pos c4];simp(disch:=first|omega|(simp only[RY]<;>omega)|decide)only[↓RD,RZ,eq_self,seval,e0',ec,h2.vlen,g2',n1];exact errQ s2
    ·rw[if_neg c4];simp(disch:=omega)only[↓RD,RZ,eq_self,seval,e0',ec,h2.vlen,n1];refine zwi h2 h8 (by omega) (k:=H.next+1) (m:=H.next+2) _ (λid hi=>by have:=hv id hi; omega) (by omega) (by omega) q2 (by omega) λH3 cv q3 hc3 s3 n3=>?_;have s3':Grow H H3:=⟨by omega,λi hi=>by rw[s3 i (by omega) (by omega),s2.same i hi]⟩;have g3:H3.get H.next=some ⟨zaC,zd3,none⟩:=by rw[s3 _ (by omega) (by omega),g2]
     have h3:=h.ext s3';have e03:=hl0 H3 h3;have q3':=q3;unfold pcells at q3';have g3':=g3;unfold zd3 at g3';have hm16:=bitne (x:=b.getD 0 0/16) 16 (by decide);have hm32:=bitne (x:=b.getD 0 0/32) 32 (by decide);simp(disch:=omega)only[↓RD,RZ,eq_self,seval,hp0,e03,hm16,n1]
     -- the extension
     refine zaw (Q:=PE H lo v b cv) ?_ ?_
     ·by_cases cx:b.getD 0 0/16%2=1
      ·obtain⟨v4,-,-,hs4,hb4,hp4⟩:=by_slice h3 (x:=(12+4*csn b:Nat)) (y:=b.length) (by omega) (by omega) (by omega);have hs4':=@hs4 rfl;have hb4':By lo H3 v4 (b.drop (12+4*csn b)):=by
        have:((b.drop ((12+4*csn b:Nat):Int).toNat).take ((b.length:Int).toNat-((12+4*csn b:Nat):Int).toNat))=b.drop (12+4*csn b):=by
         rw[Int.toNat_natCast]; exact List.take_of_length_le (by rw[List.length_drop]; omega)
        rw[this]at hb4; exact hb4
       simp(disch:=omega)only[↓RD,RZ,eq_self,seval,cx,hs4',n1];refine zad (zqx hb4' (h8.drop _) (by rw[List.length_drop]; omega) (k:=H.next+1) (by omega) q3 (λe=>by have:=hv _ (hp4 ▸ e); omega)) ?_;rintro res H4 ⟨t4,hr⟩;have s4:Grow H H4:=⟨by have:=t4.next; omega,λi hi=>by rw[t4.same i (by omega) (by omega),s3'.same i hi]⟩;have g4:H4.get H.next=some ⟨zaC,zd3,none⟩:=by rw[t4.same _ (by omega) (by omega),g3]
       have g4':=g4;unfold zd3 at g4';have n4:=t4.next;cases hx:pext (b.drop (12+4*csn b)) with
       | error e =>
        rw[hx]at hr;dsimp only at hr;subst hr;have hee:e=2∨e=3:=by
         unfold pext at hx;split at hx
         ·cases hx; exact .inr rfl
         ·split at hx
          ·cases hx; exact .inr rfl
          ·split at hx
           ·cases hx; exact .inl rfl
           ·split at hx
            ·cases hx; exact .inl rfl
            ·cases hx
        rcases hee with rfl|rfl
        ·simp(disch:=first|omega|(simp only[RY]<;>omega)|decide)only[↓RD,RZ,eq_self,seval,g4'];unfold PE zhL;rw[if_pos cx,hx];exact⟨_,rfl,errQ s4⟩
        ·simp(disch:=first|omega|(simp only[RY]<;>omega)|decide)only[↓RD,RZ,eq_self,seval,g4'];unfold PE zhL;rw[if_pos cx,hx];exact⟨_,rfl,errQ s4⟩
       | ok o =>
        obtain⟨prof,xs,n⟩:=o;rw[hx]at hr;dsimp only at hr;obtain⟨rfl,xv,q4,hxs⟩:=hr;have hn:n≤b.length-(12+4*csn b):=by
         unfold pext at hx;rw[List.length_drop]at hx;split at hx
         ·cases hx
         ·split at hx
          ·cases hx
          ·split at hx
           ·cases hx
           ·split at hx
            ·cases hx
            ·cases hx; omega
        have ea:((12+4*csn b:Nat):Int)+(n:Int)=((12+4*csn b+n:Nat):Int):=rfl;simp(disch:=omega)only[↓RD,RZ,eq_self,seval,ea,n1];unfold PE zhL;rw[if_pos cx,hx];exact⟨rfl,xv,q4,hxs.low (by omega),hc3.at1 t4 (λe=>by have:=(hc3.own _ e).1; omega),g4,s4,by omega,by omega⟩
      ·simp(disch:=omega)only[↓RD,RZ,eq_self,seval,cx,n1];unfold PE zhL;rw[if_neg cx];exact⟨rfl,.nils,q3,Exs.nil,hc3,g3,s3',by omega,by omega⟩
     ·rintro r H4 hPE;unfold PE at hPE;cases hx:zhL b with
      | error e =>
       rw[hx]at hPE;obtain⟨L,rfl,hq⟩:=hPE;simp(disch:=omega)only[↓RD,RZ,eq_self,seval];exact hq
      | ok o =>
       obtain⟨prof,xs,n⟩:=o;rw[hx]at hPE;obtain⟨rfl,xv,q4,hxs,hc4,g4,s4,n4,hat⟩:=hPE;dsimp only;have h4:=h.ext s4;generalize hatd:12+4*csn b+n=at' at *;obtain⟨v5,-,-,hs5,hb5,hp5⟩:=by_slice h4 (x:=(at':Nat)) (y:=b.length) (by omega) (by omega) (by omega);have hs5':=@hs5 rfl;have e5:(b.length:Int).toNat-((at':Nat):Int).toNat=b.length-at':=by omega
       rw[e5,Int.toNat_natCast]at hb5;have hb5':By (lo) H4 v5 (piece b at' (b.length-at')):=hb5;have hl5:(piece b at' (b.length-at')).length=b.length-at':=zc5 (by omega);have vl5:=hb5'.vlen;rw[hl5]at vl5;obtain⟨pl,hpl,hll,hdl⟩:=zj0 h4 (i:=(b.length-1:Nat)) (by omega) (by omega);rw[Int.toNat_natCast]at hll;have e04:=hl0 H4 h4;have el4:=hll H4 h4;have elen':(b.length:Int)-1=((b.length-1:Nat):Int):=by omega
       have bl:=getD_lt h8 (b.length-1);have q4':=q4;unfold pcells at q4';have g4':=g4;unfold zd3 at g4';simp(disch:=omega)only[↓RD,RZ,eq_self,seval,hs5',hp0,e04,hm32,n1]
       -- the padding
       refine zaw (Q:=PP H b cv xv at' prof xs) ?_ ?_
       ·by_cases cp:b.getD 0 0/32%2=1
        ·by_cases cz:b.getD (b.length-1) 0=0
         ·simp(disch:=first|omega|(simp only[RY]<;>omega)|decide)only[↓RD,RZ,eq_self,seval,cp,h4.vlen,elen',hpl,el4,q4',cz,g4',n1];unfold PP;rw[if_pos ⟨cp,.inl cz⟩];exact⟨_,rfl,errQ (s4.set (by omega) _)⟩
         ·by_cases cl:b.length-at'<b.getD (b.length-1) 0
          ·simp(disch:=first|omega|(simp only[RY]<;>omega)|decide)only[↓RD,RZ,eq_self,seval,cp,h4.vlen,elen',hpl,el4,q4',vl5,g4',n1];unfold PP;rw[if_pos ⟨cp,.inr cl⟩];exact⟨_,rfl,errQ (s4.set (by omega) _)⟩
          ·simp(disch:=omega)only[↓RD,RZ,eq_self,seval,cp,h4.vlen,elen',hpl,el4,q4',vl5,g4',n1];unfold PP;rw[if_neg (λe=>e.2.elim cz cl),if_pos cp];refine⟨rfl,zan _ _ _,hxs.keep (Keep.set _ (by omega) _),hc4.keep (Keep.set _ (by omega) _),by rw[zap _ _ (by omega),g4],s4.set (by omega) _,n4⟩
        ·simp(disch:=omega)only[↓RD,RZ,eq_self,seval,cp,n1];unfold PP;rw[if_neg (λe=>cp e.1),if_neg cp];exact⟨rfl,q4,hxs,hc4,g4,s4,n4⟩
       ·rintro r H5 hPP;unfold PP at hPP;generalize hpad:(if b.getD 0 0/32%2=1 then b.getD (b.length-1) 0 else 0)=pad at *;by_cases ce:b.getD 0 0/32%2=1∧(b.getD (b.length-1) 0=0∨b.length-at'<b.getD (b.length-1) 0)
        ·rw[if_pos ce]at hPP;obtain⟨L,rfl,hq⟩:=hPP;rw[if_pos ce.1,if_pos ce.2];simp(disch:=omega)only[↓RD,RZ,eq_self,seval];exact hq
        ·rw[if_neg ce]at hPP;obtain⟨rfl,q5,hx5,hc5,g5,s5,n5⟩:=hPP;have hpl':pad≤b.length-at':=by
          rw[←hpad]; split
          ·rename_i cp;have:¬(b.getD (b.length-1) 0=0∨b.length-at'<b.getD (b.length-1) 0):=λe=>ce ⟨cp,e⟩;omega
          ·omega
         have q5':=q5;unfold pcells at q5';have hb5'':By lo H5 v5 (piece b at' (b.length-at')):=by
          have hs:∀i,v5.pid=some i→H5.get i=H4.get i:=λi hi=>by
           have:=hv i (hp5 ▸ hi);rw[s5.same i this,s4.same i this]
          refine⟨by rw[zbL hs]; exact hb5'.rc,λi hi=>⟨(hb5'.own i hi).1,?_⟩,hb5'.cap⟩;have:=hv i (hp5 ▸ hi); omega
         obtain⟨v6,-,hs6,-,hb6,-⟩:=by_slice hb5'' (x:=0) (y:=(b.length-at'-pad:Nat)) (by omega) (by omega) (by omega);have hs6':=@hs6 rfl;have e6:((b.length-at'-pad:Nat):Int).toNat-(0:Int).toNat=b.length-at'-pad:=by omega
         have e7:(0:Int).toNat=0:=rfl;rw[e6,e7,List.drop_zero]at hb6;have e8:(piece b at' (b.length-at')).take (b.length-at'-pad)=piece b at' (b.length-at'-pad):=by
          unfold piece; rw[List.take_take,Nat.min_eq_left (by omega)]
         rw[e8]at hb6;have e9:((b.length-at':Nat):Int)-(pad:Int)=((b.length-at'-pad:Nat):Int):=by omega
         simp(disch:=omega)only[↓RD,RZ,eq_self,seval,vl5,q5',e9,hs6',n1];refine zad (zps hb6 (by rw[zc5 (by omega)]; omega)) ?_;rintro pv H6 ⟨hb7,s7⟩;have q6:H6.get (H.next+1) = _:=(s7.same _ (by omega)).trans q5';have g6:H6.get H.next = _:=(s7.same _ (by omega)).trans g5;unfold zd3 at g6;have n7:=s7.next;simp(disch:=first|omega|(simp only[RY]<;>omega)|decide)only[↓RD,RZ,eq_self,seval,q6,hb7.cells1,hb7.okc,g6,n1];have hfin:(if b.getD 0 0/32%2=1 then (if b.getD (b.length-1) 0=0∨b.length-at'<b.getD (b.length-1) 0 then (Except.error 2:Except Int Pkt) else .ok { ziw b with csrc:=zcP b,prof:=prof,exts:=xs,pad:=(b.getD (b.length-1) 0:Nat),pay:=piece b at' (b.length-at'-b.getD (b.length-1) 0) }) else .ok { ziw b with csrc:=zcP b,prof:=prof,exts:=xs,pay:=piece b at' (b.length-at') })
           = .ok { ziw b with csrc:=zcP b,prof:=prof,exts:=xs,pad:=(pad:Nat),pay:=piece b at' (b.length-at'-pad) }:=by
          rw[←hpad];by_cases cp:b.getD 0 0/32%2=1
          ·rw[if_pos cp,if_pos cp,if_neg (λe=>ce ⟨cp,e⟩)]
          ·rw[if_neg cp,if_neg cp]; rfl
         rw[hfin];refine⟨((s5.trans s7).set (by omega) _).set (by omega) _,_,rfl,cv,xv,pv,rfl,?_,?_,?_⟩
         ·exact(((hc5.ext s7).keep (Keep.set _ (by omega) _)).keep (Keep.set _ (by omega) _)).low (by omega)
         ·exact(((hx5.ext s7).keep (Keep.set _ (by omega) _)).keep (Keep.set _ (by omega) _)).low (by omega)
         ·exact(((hb7.low (lo':=H.next+2) (by omega)).keep (Keep.set _ (by omega) _)).keep (Keep.set _ (by omega) _)).low (by omega)
end Go.Ax.R7
/- Rtp6 -/
namespace Go.Ax.R7
open Go.Ax
theorem ztP{lo:Nat}{H:Heap}{v:V}{b:List Nat}(h:By lo H v b)(h8:Ok8 b)(hl:b.length≤1200){k m:Nat}{p:Pkt}{xv pv:V}(t2 t3:V)(hv:∀id,v.pid=some id→id<k)(hk:k<m)(hm:m≤H.next) (hb:H.get k=some ⟨zai,pcells p .nils xv pv,none⟩) (hn:12+4*csn b≤b.length) {Q:Res→Heap→Prop}
  (kk:∀H' cv,H'.get k=some ⟨zai,pcells p cv xv pv,none⟩→Lc 1 m H' cv ((zcP b).map by32) (zcP b).length→(∀i,i<m→i≠k→H'.get i=H.get i)→H.next≤H'.next→Q (.ex 0 []) H') :
  Ok (M.iter (zbP (sem T) (.int .i64 (csn b:Nat)) v (.ptr k 0) t2 t3) [.int .i64 0]) H Q:=by
 have hcl:(zcP b).length=csn b:=by simp[zcP]
 refine za3 (λj L H'=>∃cv,L=[.int .i64 (j:Nat)]∧H'.get k=some ⟨zai,pcells p cv xv pv,none⟩∧App zeD 1 m H' cv (((zcP b).take j).map by32) j∧(∀i,i<m→i≠k→H'.get i=H.get i)∧H.next≤H'.next) (csn b) ?_ ?_ ?_
 ·exact⟨.nils,rfl,hb,App.nil,λ_ _ _=>rfl,Nat.le_refl _⟩
 ·rintro j L H1 hj ⟨cv,rfl,g1,ha,gs,gn⟩;have h1:By lo H1 v b:=⟨by rw[zbL λi hi=>gs i (by have:=hv i hi; omega) (by have:=hv i hi; omega)]; exact h.rc,λi hi=>⟨(h.own i hi).1,Nat.lt_of_lt_of_le (h.own i hi).2 gn⟩,h.cap⟩;have e2:(12:Int)+4*(j:Nat)=((12+4*j:Nat):Int):=by omega
  have g1':=g1;unfold pcells at g1';have r1:=@zaQ _ _ _ _ (show Ok (sem T zaA [v,.int .i64 ((12+4*j:Nat):Int),.int .i64 4]) H1 (λr H'=>r = .int .u64 (be (piece b (12+4*j) 4):Nat)∧H'=H1) from N_ok h1 h8 (by omega) (12+4*j) 4 (by omega) (by omega));have hw:=zbY h8 (12+4*j) 4;have hm:be (piece b (12+4*j) 4)%4294967296=be (piece b (12+4*j) 4):=Nat.mod_eq_of_lt (by omega);unfold zbP uL uM uT uF uB uU uc ug;simp(disch:=first|omega|(simp only[RY]<;>omega)|decide)only[↓RD,RZ,eq_self,Int.reduceToNat,Int.reduceAdd,Nat.reduceAdd,Nat.reduceSub,Nat.reduceMul,Nat.reduceLeDiff,g1',e2,r1,hm];refine zgc (lo:=m) (bytes:=4) (m:=1) (q:=[by32 (be (piece b (12+4*j) 4))]) (App.keep ha ((Grow.new _ _).keep _)) (by rw[zaf]; omega) (zbS rfl) rfl (by omega) (by omega) λcv' H2 ha2 hs2=>?_;have hcv:∀id,cv.pid=some id→m≤id:=λid hi=>(ha.lc.own id hi).1;have low:∀i,i<m→H2.get i=H1.get i:=λi hi=>by
   rw[hs2.same i (by rw[zaf]; omega) (λe=>by have:=hcv i (by simpa [zb7]using e); omega),zaE _ _ (by omega)]
  have g2:=g1';rw[←low k (by omega)]at g2;have n2:=hs2.next;rw[zaf]at n2;simp(disch:=first|omega|(simp only[RY]<;>omega)|decide)only[↓RD,RZ,eq_self,Int.reduceToNat,Int.reduceAdd,Nat.reduceAdd,Nat.reduceSub,Nat.reduceMul,Nat.reduceLeDiff,g2,ha2.lc.cells1,ha2.lc.okc];refine⟨cv',by first|rfl|(congr 2; omega),by first|rfl|exact zan _ _ _,?_,λi hi hik=>by rw[zap _ _ hik,low i hi,gs i hi hik],by first|omega|(rw[zbg]; omega)⟩;have e3:((zcP b).take (j+1)).map by32=((zcP b).take j).map by32++[by32 (be (piece b (12+4*j) 4))]:=by
   have e4:(zcP b).getD j 0=be (piece b (12+4*j) 4):=by
    rw[List.getD_eq_getElem?_getD,List.getElem?_eq_getElem (by omega)]; simp[zcP]
   rw[take_snoc (by omega),List.map_append,e4]; rfl
  rw[e3];exact App.keep ha2 (Keep.set _ (by omega) _)
 ·rintro L H1 ⟨cv,rfl,g1,ha,gs,gn⟩;unfold zbP uL uM uT uF uB uU uc ug;simp(disch:=first|omega|(simp only[RY]<;>omega)|decide)only[↓RD,RZ,eq_self,Int.reduceToNat,Int.reduceAdd,Nat.reduceAdd,Nat.reduceSub,Nat.reduceMul,Nat.reduceLeDiff];have:=ha.lc;rw[←hcl,List.take_length]at this;exact kk H1 cv g1 this gs gn
theorem bit1(x:Nat):((((x%2:Nat):Int)==1))=decide (x%2=1):=by
 rcases Nat.mod_two_eq_zero_or_one x with h|h<;>simp[h]
def PE2(H:Heap)(b:List Nat)(cv:V)(r:Res)(H':Heap):Prop :=
 match zhL b with
 | .error e=>∃L,r = .ret L∧zld H (.error e) (zc4 L) H'
 | .ok (prof,xs,n)=>r = .nrm [.int .i64 (12+4*csn b+n:Nat)]∧∃xv,H'.get (H.next+1)=some ⟨zai,pcells { ziw b with prof:=prof } cv xv .nils,none⟩∧Exs (H.next+2) H' xv xs∧Lc 1 (H.next+2) H' cv ((zcP b).map by32) (zcP b).length ∧
   H'.get H.next=some ⟨zai,zd3,none⟩∧Grow H H'∧H.next+2≤H'.next∧12+4*csn b+n≤b.length
def PP2(H:Heap)(b:List Nat)(cv xv:V)(at':Nat)(prof:Int)(xs:List X)(r:Res)(H':Heap):Prop :=
 if b.getD 0 0/32%2=1∧(b.getD (b.length-1) 0=0∨b.length-at'<b.getD (b.length-1) 0) then ∃L,r = .ret L∧zld H (.error 2) (zc4 L) H'
 else r = .nrm [.int .i64 ((b.length-(if b.getD 0 0/32%2=1 then b.getD (b.length-1) 0 else 0):Nat):Int)]∧H'.get (H.next+1)=some ⟨zai,pcells { ziw b with prof:=prof,pad:=((if b.getD 0 0/32%2=1 then b.getD (b.length-1) 0 else 0:Nat):Int) } cv xv .nils,none⟩∧Exs (H.next+2) H' xv xs∧Lc 1 (H.next+2) H' cv ((zcP b).map by32) (zcP b).length ∧
   H'.get H.next=some ⟨zai,zd3,none⟩∧Grow H H'∧H.next+2≤H'.next
theorem zka(b:List Nat)(i j n:Nat):piece (b.drop i) j n=piece b (i+j) n:=by
 unfold piece; rw[List.drop_drop]
theorem Parse2_ok{lo:Nat}{H:Heap}{v:V}{b:List Nat}(h:By lo H v b)(h8:Ok8 b)(hl:b.length≤1048576):Ok (sem T zb0 [v]) H (zld H (parse b)):=by
 have hv:∀id,v.pid=some id→id<H.next:=λid hi=>(h.own id hi).2;have b0:=getD_lt h8 0;have b1:=getD_lt h8 1;refine zhx ?_;unfold zeP uL uM uS uT uF uFM uE uB uI uIM uG uH uO uU uc ub uq ug;unfold parse;simp(disch:=first|omega|(simp only[RY]<;>omega)|decide)only[↓RD,RZ,eq_self,Int.reduceToNat,Int.reduceAdd,Nat.reduceAdd,Nat.reduceSub,Nat.reduceMul,Nat.reduceLeDiff,h.vlen];generalize hH1:Heap.new H _=H1;have n1:H1.next=H.next+1:=by rw[←hH1]; rfl
 have s1:Grow H H1:=by rw[←hH1]; exact Grow.new _ _
 have g1:H1.get H.next=some ⟨zai,zd3,none⟩:=by rw[←hH1]; exact zac _ _
 have h1:=h.ext s1;have g1':=g1;unfold zd3 at g1';clear hH1;by_cases c1:1200<b.length
 ·rw[if_pos c1];simp(disch:=first|omega|(simp only[RY]<;>omega)|decide)only[↓RD,RZ,eq_self,Int.reduceToNat,Int.reduceAdd,Nat.reduceAdd,Nat.reduceSub,Nat.reduceMul,Nat.reduceLeDiff,g1'];exact errQ s1
 ·rw[if_neg c1];by_cases c2:b.length<12
  ·rw[if_pos c2];simp(disch:=first|omega|(simp only[RY]<;>omega)|decide)only[↓RD,RZ,eq_self,Int.reduceToNat,Int.reduceAdd,Nat.reduceAdd,Nat.reduceSub,Nat.reduceMul,Nat.reduceLeDiff,g1',h.vlen];exact errQ s1
  ·rw[if_neg c2];obtain⟨p0,hp0,hl0,hd0⟩:=zj0 h1 (i:=0) (by omega) (by omega);obtain⟨p1,hp1,hl1,hd1⟩:=zj0 h1 (i:=1) (by omega) (by omega);have ht0:(0:Int).toNat=0:=rfl;have ht1:(1:Int).toNat=1:=rfl;rw[ht0]at hl0;rw[ht1]at hl1;have e0:=hl0 H1 h1;have e1:=hl1 H1 h1;by_cases c3:b.getD 0 0/64≠2
   ·rw[if_pos c3];simp(disch:=first|omega|(simp only[RY]<;>omega)|decide)only[↓RD,RZ,eq_self,Int.reduceToNat,Int.reduceAdd,Nat.reduceAdd,Nat.reduceSub,Nat.reduceMul,Nat.reduceLeDiff,g1',h.vlen,hp0,e0];exact errQ s1
   ·rw[if_neg c3];have c3':b.getD 0 0/64=2:=by omega
    have r1:=@zaQ _ _ _ _ (show Ok (sem T zaA [v,.int .i64 2,.int .i64 2]) H1 (λr H'=>r = .int .u64 (be (piece b 2 2):Nat)∧H'=H1) from N_ok h1 h8 (by omega) 2 2 (by omega) (by omega));have r2:=@zaQ _ _ _ _ (show Ok (sem T zaA [v,.int .i64 4,.int .i64 4]) H1 (λr H'=>r = .int .u64 (be (piece b 4 4):Nat)∧H'=H1) from N_ok h1 h8 (by omega) 4 4 (by omega) (by omega));have r3:=@zaQ _ _ _ _ (show Ok (sem T zaA [v,.int .i64 8,.int .i64 4]) H1 (λr H'=>r = .int .u64 (be (piece b 8 4):Nat)∧H'=H1) from N_ok h1 h8 (by omega) 8 4 (by omega) (by omega));have w1:=zbY h8 2 2;have w2:=zbY h8 4 4;have w3:=zbY h8 8 4;have m1:be (piece b 2 2)%65536=be (piece b 2 2):=Nat.mod_eq_of_lt (by omega);have m2:be (piece b 4 4)%4294967296=be (piece b 4 4):=Nat.mod_eq_of_lt (by omega);have m3:be (piece b 8 4)%4294967296=be (piece b 8 4):=Nat.mod_eq_of_lt (by omega);have hm:decide (127<((b.getD 1 0:Nat):Int))=decide (b.getD 1 0/128%2=1):=by
     apply decide_eq_decide.2; omega
    simp(disch:=first|omega|(simp only[RY]<;>omega)|decide)only[↓RD,RZ,eq_self,Int.reduceToNat,Int.reduceAdd,Nat.reduceAdd,Nat.reduceSub,Nat.reduceMul,Nat.reduceLeDiff,h.vlen,hp0,e0,hp1,e1,c3',r1,r2,r3,m1,m2,m3,hm,n1];generalize hH2:Heap.set _ (H.next+1) _=H2;have n2:H2.next=H.next+2:=by rw[←hH2,zbg,zaf]; omega
    have s2:Grow H H2:=by rw[←hH2]; exact(s1.trans (Grow.new _ _)).set (by omega) _
    have g2:H2.get H.next=some ⟨zai,zd3,none⟩:=by rw[←hH2,zap _ _ (by omega),zaE _ _ (by omega),g1]
    have q2:H2.get (H.next+1)=some ⟨zai,pcells (ziw b) .nils .nils .nils,none⟩:=by rw[←hH2,zan]; rfl
    clear hH2;have h2:=h.ext s2;have e0':=hl0 H2 h2;have g2':=g2;unfold zd3 at g2';have ec:(12:Int)+4*((b.getD 0 0%16:Nat):Int)=((12+4*csn b:Nat):Int):=by unfold csn; omega
    have hcs:csn b≤15:=by unfold csn; omega
    by_cases c4:b.length<12+4*csn b
    ·rw[if_pos c4];simp(disch:=first|omega|(simp only[RY]<;>omega)|decide)only[↓RD,RZ,eq_self,Int.reduceToNat,Int.reduceAdd,Nat.reduceAdd,Nat.reduceSub,Nat.reduceMul,Nat.reduceLeDiff,e0',ec,h2.vlen,g2',n1];exact errQ s2
    ·rw[if_neg c4];simp(disch:=first|omega|(simp only[RY]<;>omega)|decide)only[↓RD,RZ,eq_self,Int.reduceToNat,Int.reduceAdd,Nat.reduceAdd,Nat.reduceSub,Nat.reduceMul,Nat.reduceLeDiff,e0',ec,h2.vlen,n1];refine ztP h2 h8 (by omega) (k:=H.next+1) (m:=H.next+2) _ _ (λid hi=>by have:=hv id hi; omega) (by omega) (by omega) q2 (by omega) λH3 cv q3 hc3 s3 n3=>?_;have s3':Grow H H3:=⟨by omega,λi hi=>by rw[s3 i (by omega) (by omega),s2.same i hi]⟩;have g3:H3.get H.next=some ⟨zai,zd3,none⟩:=by rw[s3 _ (by omega) (by omega),g2]
     have h3:=h.ext s3';have e03:=hl0 H3 h3;have q3':=q3;unfold pcells at q3';have g3':=g3;unfold zd3 at g3';have hm16:=bit1 (b.getD 0 0/16);have hm32:=bit1 (b.getD 0 0/32);simp(disch:=first|omega|(simp only[RY]<;>omega)|decide)only[↓RD,RZ,eq_self,Int.reduceToNat,Int.reduceAdd,Nat.reduceAdd,Nat.reduceSub,Nat.reduceMul,Nat.reduceLeDiff,hp0,e03,hm16,n1]
     -- the extension
     refine zaw (Q:=PE2 H b cv) ?_ ?_
     ·by_cases cx:b.getD 0 0/16%2=1
      ·unfold PE2 zhL;rw[if_pos cx];unfold pext;rw[List.length_drop,zka,zka,zka,Nat.add_zero];have ea4:((12+4*csn b:Nat):Int)+4=((12+4*csn b+4:Nat):Int):=rfl;have ea2:((12+4*csn b:Nat):Int)+2=((12+4*csn b+2:Nat):Int):=rfl;generalize hat0:12+4*csn b=a0 at *;by_cases d1:b.length-a0<4
       ·rw[if_pos d1];simp(disch:=first|omega|(simp only[RY]<;>omega)|decide)only[↓RD,RZ,eq_self,Int.reduceToNat,Int.reduceAdd,Nat.reduceAdd,Nat.reduceSub,Nat.reduceMul,Nat.reduceLeDiff,cx,n1,ea4,h3.vlen,g3'];exact errQ s3'
       ·rw[if_neg d1];have r4:=@zaQ _ _ _ _ (show Ok (sem T zaA [v,.int .i64 ((a0:Nat):Int),.int .i64 2]) H3 (λr H'=>r = .int .u64 (be (piece b a0 2):Nat)∧H'=H3) from N_ok h3 h8 (by omega) a0 2 (by omega) (by omega));have w4:=zbY h8 a0 2;have w5:=zbY h8 (a0+2) 2;generalize hprof:be (piece b a0 2)=prof at *;generalize hnw:be (piece b (a0+2) 2)=nw at *;simp(disch:=first|omega|(simp only[RY]<;>omega)|decide)only[↓RD,RZ,eq_self,Int.reduceToNat,Int.reduceAdd,Nat.reduceAdd,Nat.reduceSub,Nat.reduceMul,Nat.reduceLeDiff,cx,n1,ea4,ea2,h3.vlen,r4,q3'];generalize hH4:Heap.set H3 (H.next+1) _=H4;have n4:H4.next=H3.next:=by rw[←hH4,zbg]
        have s4:Grow H H4:=by rw[←hH4]; exact s3'.set (by omega) _
        have g4:H4.get H.next=some ⟨zai,zd3,none⟩:=by rw[←hH4,zap _ _ (by omega),g3]
        have q4:H4.get (H.next+1)=some ⟨zai,pcells { ziw b with prof:=(prof:Nat) } cv .nils .nils,none⟩:=by rw[←hH4,zan]; rfl
        have hc4:Lc 1 (H.next+2) H4 cv ((zcP b).map by32) (zcP b).length:=by rw[←hH4]; exact hc3.keep (Keep.set _ (by omega) _)
        clear hH4;have h4:=h.ext s4;have g4':=g4;unfold zd3 at g4';have q4':=q4;unfold pcells at q4';have r5:=@zaQ _ _ _ _ (show Ok (sem T zaA [v,.int .i64 ((a0+2:Nat):Int),.int .i64 2]) H4 (λr H'=>r = .int .u64 (be (piece b (a0+2) 2):Nat)∧H'=H4) from N_ok h4 h8 (by omega) (a0+2) 2 (by omega) (by omega));rw[hnw]at r5;have ea5:((a0+4:Nat):Int)+4*(nw:Nat)=((a0+(4+4*nw):Nat):Int):=by omega
        by_cases d2:b.length-a0<4+4*nw
        ·rw[if_pos d2];simp(disch:=first|omega|(simp only[RY]<;>omega)|decide)only[↓RD,RZ,eq_self,Int.reduceToNat,Int.reduceAdd,Nat.reduceAdd,Nat.reduceSub,Nat.reduceMul,Nat.reduceLeDiff,r5,ea5,h4.vlen,g4'];exact errQ s4
        ·rw[if_neg d2];by_cases d3:prof≠48862∧prof≠4096
         ·rw[if_pos d3];simp(disch:=first|omega|(simp only[RY]<;>omega)|decide)only[↓RD,RZ,eq_self,Int.reduceToNat,Int.reduceAdd,Nat.reduceAdd,Nat.reduceSub,Nat.reduceMul,Nat.reduceLeDiff,r5,ea5,h4.vlen,g4',q4',d3.1,d3.2];exact errQ s4
         ·rw[if_neg d3];obtain⟨v3,hs3,-,-,hb3,hp3⟩:=zfl h4 (x:=(a0+4:Nat)) (y:=(a0+(4+4*nw):Nat)) (by omega) (by omega) (by omega);have e3:((a0+(4+4*nw):Nat):Int).toNat-((a0+4:Nat):Int).toNat=4*nw:=by omega
          rw[e3,Int.toNat_natCast]at hb3;have hb3':By lo H4 v3 (piece b (a0+4) (4*nw)):=by
           have:=hb3; exact this
          have h83:=zeH h8 (a0+4) (4*nw);have hl3:(piece b (a0+4) (4*nw)).length≤1048576:=by rw[zc5 (by omega)]; omega
          have main:(prof=48862∨prof=4096)→Ok ((sem T zbb [v3,.int .i64 (prof:Nat)]).bind λt125=>(M.lift (ext 0 t125)).bind λt126=>(M.lift (ext 1 t125)).bind λt127=>(M.lift (un .not t127)).bind λt129 =>
            M.ite t129 ((M.lift (build zd3 [])).bind λt130=>(mstore 10 (.ptr H.next 0) t130).bind λ_=>(mload (some 10) (.ptr H.next 0)).bind λr0=>M.pure (Res.ret [r0,.int .i64 2]))
             ((M.lift (faddr 7 (.ptr (H.next+1) 0))).bind λt132=>(mstore 1 t132 t126).bind λ_=>(M.lift (bin .mul (.int .i64 4) (.int .i64 (nw:Nat)))).bind λt135=>(M.lift (bin .add (.int .i64 ((a0+4:Nat):Int)) t135)).bind λt136=>M.pure (Res.nrm [t136]))) H4
            (λ(r:Res) H'=>match (match zeS (decide (((prof:Nat):Int)=48862)) (piece b (a0+4) (4*nw)) with|none=>(Except.error 2:Except Int (Int×List X×Nat))|some xs=>Except.ok (((prof:Nat):Int),xs,4+4*nw)) with
             | .error e=>∃L,r=Res.ret L∧zld H (.error e) (zc4 L) H'
             | .ok (prof,xs,n)=>r=Res.nrm [.int .i64 (a0+n:Nat)]∧∃xv,H'.get (H.next+1)=some ⟨zai,pcells { ziw b with prof:=prof } cv xv .nils,none⟩∧Exs (H.next+2) H' xv xs∧Lc 1 (H.next+2) H' cv ((zcP b).map by32) (zcP b).length ∧
               H'.get H.next=some ⟨zai,zd3,none⟩∧Grow H H'∧H.next+2≤H'.next∧a0+n≤b.length):=by
           intro hor;refine zad (zry hb3' h83 hl3 (prof:Nat) (by omega)) ?_;rintro res H5 ⟨hg5,hr⟩;have s5:=s4.trans hg5;have g5:H5.get H.next = _:=(hg5.same _ (by omega)).trans g4';have q5:H5.get (H.next+1) = _:=(hg5.same _ (by omega)).trans q4';have n5:=hg5.next;cases hx:zeS (decide (((prof:Nat):Int)=48862)) (piece b (a0+4) (4*nw)) with
           | none =>
            rw[hx]at hr;dsimp only at hr;subst hr;unfold zd3;simp(disch:=first|omega|(simp only[RY]<;>omega)|decide)only[↓RD,RZ,eq_self,Int.reduceToNat,Int.reduceAdd,Nat.reduceAdd,Nat.reduceSub,Nat.reduceMul,Nat.reduceLeDiff,g5];exact errQ s5
           | some xs =>
            rw[hx]at hr;dsimp only at hr;obtain⟨xv',rfl,hxs,hxl⟩:=hr;simp(disch:=first|omega|(simp only[RY]<;>omega)|decide)only[↓RD,RZ,eq_self,Int.reduceToNat,Int.reduceAdd,Nat.reduceAdd,Nat.reduceSub,Nat.reduceMul,Nat.reduceLeDiff,q5,hxs.cells1,hxs.okc,ea5];exact⟨xv',rfl,(hxs.low (by omega)).keep (Keep.set _ (by omega) _),(hc4.ext hg5).keep (Keep.set _ (by omega) _),by rw[hg5.same _ (by omega),g4],s5.set (by omega) _,by omega,by omega⟩
          by_cases hp1:prof=48862
          ·subst hp1;simp(disch:=first|omega|(simp only[RY]<;>omega)|decide)only[↓RD,RZ,eq_self,Int.reduceToNat,Int.reduceAdd,Nat.reduceAdd,Nat.reduceSub,Nat.reduceMul,Nat.reduceLeDiff,r5,ea5,h4.vlen,q4',hs3];exact main (.inl rfl)
          ·have hp2:prof=4096:=by omega
           subst hp2;simp(disch:=first|omega|(simp only[RY]<;>omega)|decide)only[↓RD,RZ,eq_self,Int.reduceToNat,Int.reduceAdd,Nat.reduceAdd,Nat.reduceSub,Nat.reduceMul,Nat.reduceLeDiff,r5,ea5,h4.vlen,q4',hs3];exact main (.inr rfl)
      ·simp(disch:=first|omega|(simp only[RY]<;>omega)|decide)only[↓RD,RZ,eq_self,Int.reduceToNat,Int.reduceAdd,Nat.reduceAdd,Nat.reduceSub,Nat.reduceMul,Nat.reduceLeDiff,cx,n1];unfold PE2 zhL;rw[if_neg cx];exact⟨rfl,.nils,q3,Exs.nil,hc3,g3,s3',by omega,by omega⟩
     ·rintro r H4 hPE;unfold PE2 at hPE;cases hx:zhL b with
      | error e =>
       rw[hx]at hPE;obtain⟨L,rfl,hq⟩:=hPE;simp(disch:=first|omega|(simp only[RY]<;>omega)|decide)only[↓RD,RZ,eq_self,Int.reduceToNat,Int.reduceAdd,Nat.reduceAdd,Nat.reduceSub,Nat.reduceMul,Nat.reduceLeDiff];exact hq
      | ok o =>
       obtain⟨prof,xs,n⟩:=o;rw[hx]at hPE;obtain⟨rfl,xv,q4,hxs,hc4,g4,s4,n4,hat⟩:=hPE;dsimp only;have h4:=h.ext s4;generalize hatd:12+4*csn b+n=at' at *;obtain⟨pl,hpl,hll,hdl⟩:=zj0 h4 (i:=(b.length-1:Nat)) (by omega) (by omega);rw[Int.toNat_natCast]at hll;have e04:=hl0 H4 h4;have el4:=hll H4 h4;have elen':(b.length:Int)-1=((b.length-1:Nat):Int):=by omega
       have eat':(b.length:Int)-(at':Nat)=((b.length-at':Nat):Int):=by omega
       have bl:=getD_lt h8 (b.length-1);have q4':=q4;unfold pcells at q4';have g4':=g4;unfold zd3 at g4';simp(disch:=first|omega|(simp only[RY]<;>omega)|decide)only[↓RD,RZ,eq_self,Int.reduceToNat,Int.reduceAdd,Nat.reduceAdd,Nat.reduceSub,Nat.reduceMul,Nat.reduceLeDiff,hp0,e04,hm32,n1,h4.vlen]
       -- the padding
       refine zaw (Q:=PP2 H b cv xv at' prof xs) ?_ ?_
       ·by_cases cp:b.getD 0 0/32%2=1
        ·by_cases cz:b.getD (b.length-1) 0=0
         ·simp(disch:=first|omega|(simp only[RY]<;>omega)|decide)only[↓RD,RZ,eq_self,Int.reduceToNat,Int.reduceAdd,Nat.reduceAdd,Nat.reduceSub,Nat.reduceMul,Nat.reduceLeDiff,cp,h4.vlen,elen',eat',hpl,el4,q4',cz,g4',n1];unfold PP2;rw[if_pos ⟨cp,.inl cz⟩];exact⟨_,rfl,errQ (s4.set (by omega) _)⟩
         ·by_cases cl:b.length-at'<b.getD (b.length-1) 0
          ·simp(disch:=first|omega|(simp only[RY]<;>omega)|decide)only[↓RD,RZ,eq_self,Int.reduceToNat,Int.reduceAdd,Nat.reduceAdd,Nat.reduceSub,Nat.reduceMul,Nat.reduceLeDiff,cp,h4.vlen,elen',eat',hpl,el4,q4',g4',n1];unfold PP2;rw[if_pos ⟨cp,.inr cl⟩];exact⟨_,rfl,errQ (s4.set (by omega) _)⟩
          ·have ell:(b.length:Int)-((b.getD (b.length-1) 0:Nat):Int)=((b.length-b.getD (b.length-1) 0:Nat):Int):=by omega
           simp(disch:=first|omega|(simp only[RY]<;>omega)|decide)only[↓RD,RZ,eq_self,Int.reduceToNat,Int.reduceAdd,Nat.reduceAdd,Nat.reduceSub,Nat.reduceMul,Nat.reduceLeDiff,cp,h4.vlen,elen',eat',hpl,el4,q4',g4',n1,ell];unfold PP2;rw[if_neg (λe=>e.2.elim cz cl),if_pos cp];refine⟨rfl,zan _ _ _,hxs.keep (Keep.set _ (by omega) _),hc4.keep (Keep.set _ (by omega) _),by rw[zap _ _ (by omega),g4],s4.set (by omega) _,n4⟩
        ·simp(disch:=first|omega|(simp only[RY]<;>omega)|decide)only[↓RD,RZ,eq_self,Int.reduceToNat,Int.reduceAdd,Nat.reduceAdd,Nat.reduceSub,Nat.reduceMul,Nat.reduceLeDiff,cp,n1];unfold PP2;rw[if_neg (λe=>cp e.1),if_neg cp];exact⟨rfl,q4,hxs,hc4,g4,s4,n4⟩
       ·rintro r H5 hPP;unfold PP2 at hPP;generalize hpad:(if b.getD 0 0/32%2=1 then b.getD (b.length-1) 0 else 0)=pad at *;by_cases ce:b.getD 0 0/32%2=1∧(b.getD (b.length-1) 0=0∨b.length-at'<b.getD (b.length-1) 0)
        ·rw[if_pos ce]at hPP;obtain⟨L,rfl,hq⟩:=hPP;rw[if_pos ce.1,if_pos ce.2];simp(disch:=first|omega|(simp only[RY]<;>omega)|decide)only[↓RD,RZ,eq_self,Int.reduceToNat,Int.reduceAdd,Nat.reduceAdd,Nat.reduceSub,Nat.reduceMul,Nat.reduceLeDiff];exact hq
        ·rw[if_neg ce]at hPP;obtain⟨rfl,q5,hx5,hc5,g5,s5,n5⟩:=hPP;have hpl':pad≤b.length-at':=by
          rw[←hpad]; split
          ·rename_i cp;have:¬(b.getD (b.length-1) 0=0∨b.length-at'<b.getD (b.length-1) 0):=λe=>ce ⟨cp,e⟩;omega
          ·omega
         have q5':=q5;unfold pcells at q5';have h5:=h.ext s5;obtain⟨v6,hs6,-,-,hb6,hp6⟩:=zfl (h5.ext (Grow.new H5 ⟨zak,[],none⟩)) (x:=(at':Nat)) (y:=(b.length-pad:Nat)) (by omega) (by omega) (by omega);have e6:((b.length-pad:Nat):Int).toNat-((at':Nat):Int).toNat=b.length-at'-pad:=by omega
         rw[e6,Int.toNat_natCast]at hb6;have hp6':∀id,v6.pid=some id→id<H5.next:=λid hi=>(h5.own id (hp6 ▸ hi)).2;have l6:(piece b at' (b.length-at'-pad)).length=b.length-at'-pad:=zc5 (by omega);have hb6':acells 1 H5 v6=some ((piece b at' (b.length-at'-pad)).map by8,b.length-at'-pad):=by
          have:=hb6.ac;rw[zm8 λi hi=>zaE _ _ (by have:=hp6' i hi; omega),l6]at this;exact this
         simp(disch:=first|omega|(simp only[RY]<;>omega)|decide)only[↓RD,RZ,eq_self,Int.reduceToNat,Int.reduceAdd,Nat.reduceAdd,Nat.reduceSub,Nat.reduceMul,Nat.reduceLeDiff,hs6,n1];refine okb_copy hb6' hp6' (by rw[List.length_map,l6]; omega) (by omega) (by omega) λpv H6 ha7 s7=>?_;have hb7:By H5.next H6 pv (piece b at' (b.length-at'-pad)):=by
          show Lc 1 H5.next H6 pv ((piece b at' (b.length-at'-pad)).map by8) (piece b at' (b.length-at'-pad)).length;rw[l6]; exact ha7.lc
         have q6:H6.get (H.next+1) = _:=(s7.same _ (by omega)).trans q5';have g6:H6.get H.next = _:=(s7.same _ (by omega)).trans g5;unfold zd3 at g6;have n7:=s7.next;simp(disch:=first|omega|(simp only[RY]<;>omega)|decide)only[↓RD,RZ,eq_self,Int.reduceToNat,Int.reduceAdd,Nat.reduceAdd,Nat.reduceSub,Nat.reduceMul,Nat.reduceLeDiff,q6,hb7.cells1,hb7.okc,g6,n1];have hfin:(if b.getD 0 0/32%2=1 then (if b.getD (b.length-1) 0=0∨b.length-at'<b.getD (b.length-1) 0 then (Except.error 2:Except Int Pkt) else .ok { ziw b with csrc:=zcP b,prof:=prof,exts:=xs,pad:=(b.getD (b.length-1) 0:Nat),pay:=piece b at' (b.length-at'-b.getD (b.length-1) 0) }) else .ok { ziw b with csrc:=zcP b,prof:=prof,exts:=xs,pay:=piece b at' (b.length-at') })
           = .ok { ziw b with csrc:=zcP b,prof:=prof,exts:=xs,pad:=(pad:Nat),pay:=piece b at' (b.length-at'-pad) }:=by
          rw[←hpad];by_cases cp:b.getD 0 0/32%2=1
          ·rw[if_pos cp,if_pos cp,if_neg (λe=>ce ⟨cp,e⟩)]
          ·rw[if_neg cp,if_neg cp]; rfl
         rw[hfin];refine⟨((s5.trans s7).set (by omega) _).set (by omega) _,_,rfl,cv,xv,pv,rfl,?_,?_,?_⟩
         ·exact(((hc5.ext s7).keep (Keep.set _ (by omega) _)).keep (Keep.set _ (by omega) _)).low (by omega)
         ·exact(((hx5.ext s7).keep (Keep.set _ (by omega) _)).keep (Keep.set _ (by omega) _)).low (by omega)
         ·exact(((hb7.low (lo':=H.next+2) (by omega)).keep (Keep.set _ (by omega) _)).keep (Keep.set _ (by omega) _)).low (by omega)
end Go.Ax.R7
/- Rc9 -/
namespace Go.Ax.SU
open Go.Ax
abbrev tyRd:=zgQ
def rdC(k:Nat)(fr ab ntp ts pk oc:Int)(bl pv fv:V)(ex mt:Int)(sv:V)(ty ct:Int)(bd:V):List V :=
 [.int .i64 (k:Nat),.int .u32 fr,.int .u32 ab,.int .u64 ntp,.int .u32 ts,.int .u32 pk,.int .u32 oc,bl,pv,fv,.int .i64 ex,.int .u32 mt,sv,.int .i64 ty,.int .i64 ct,bd]
def Sg(v:V):Prop:=v.cells=[v]∧v.okc=true
theorem Sg.nil:Sg .nils:=⟨rfl,rfl⟩
def DrV(cells:List V)(k nf ns:Nat):Prop :=
 ∃fr ab ntp ts pk oc bl pv fv ex mt sv ty ct bd,cells=rdC k fr ab ntp ts pk oc bl pv fv ex mt sv ty ct bd∧Ax.vlen fv=some (.int .i64 (nf:Nat))∧Ax.vlen sv=some (.int .i64 (ns:Nat))∧Sg bl∧Sg pv∧Sg fv∧Sg sv∧Sg bd
theorem DrV.len{cells:List V}{k nf ns:Nat}(h:DrV cells k nf ns):cells.length=16:=by
 obtain⟨fr,ab,ntp,ts,pk,oc,bl,pv,fv,ex,mt,sv,ty,ct,bd,rfl,-⟩:=h;rfl
theorem DrV.okc{cells:List V}{k nf ns:Nat}(h:DrV cells k nf ns):(V.agg cells).okc=true:=by
 obtain⟨fr,ab,ntp,ts,pk,oc,bl,pv,fv,ex,mt,sv,ty,ct,bd,rfl,-,-,b1,b2,b3,b4,b5⟩:=h;simp[V.okc,rdC,b1.2,b2.2,b3.2,b4.2,b5.2]
structure DI (H0 H:Heap) (p:Nat) (cells:List V):Prop where
 at':AtS [p] H0 H
 g:H.get p=some ⟨tyRd,cells,none⟩
 hp:p<H0.next
theorem DI.st{H0 H:Heap}{p:Nat}{cells:List V}(h:DI H0 H p cells)(cells':List V):DI H0 (H.set p (some ⟨tyRd,cells',none⟩)) p cells' :=
 ⟨h.at'.trans (AtS.set (k:=p) _ (by simp) _),zan _ _ _,h.hp⟩
theorem DI.put{H0 H H1 H2:Heap}{p:Nat}{cells:List V}{v x:V}(h:DI H0 H p cells)(s1:Grow H H1)(s2:Step H1 H2 v.pid.toList x.pid.toList)(hv:∀i,v.pid=some i→H0.next≤i) :
  H2.get p=some ⟨tyRd,cells,none⟩∧∀cells',DI H0 (H2.set p (some ⟨tyRd,cells',none⟩)) p cells':=by
 have n0:=h.at'.next;have hp:=h.hp;have e:H2.get p=some ⟨tyRd,cells,none⟩:=by
  rw[s2.same p (by have:=s1.next; omega) (λe=>by have:=hv p (by simpa [zb7]using e); omega),s1.same p (by omega)];exact h.g
 exact⟨e,λcells'=>⟨((h.at'.trans (s1.atS _)).stp s2 hv).trans (AtS.set (k:=p) _ (by simp) _),zan _ _ _,hp⟩⟩
theorem wr{a:Int}(h:0≤a)(h1:a<9223372036854775808):IntKind.i64.wrap a=a:=wrap_i64 (by omega) (by omega)
end Go.Ax.SU
/- Rc10 -/
namespace Go.Ax.SU
open Go.Ax
def DrQ(H:Heap)(k nf ns:Nat)(ok:Bool)(r:V)(H':Heap):Prop:=Grow H H'∧∃cells k' nf' ns',r = .tup [.agg cells,.bool ok]∧DrV cells k' nf' ns'∧(ok=true→k'=k∧nf'=nf∧ns'=ns)
end Go.Ax.SU
/- Rc11 -/
namespace Go.Ax.SU
open Go.Ax
theorem DrQ.mono{H H0:Heap}{k nf ns:Nat}{ok:Bool}{r:V}{H':Heap}(h:DrQ H0 k nf ns ok r H')(s:Grow H H0):DrQ H k nf ns ok r H':=⟨s.trans h.1,h.2⟩
end Go.Ax.SU
/- Rc12 -/
namespace Go.Ax.SU
open Go.Ax
structure Drs (lo:Nat) (H:Heap) (v:V) (xs:List Rp):Prop where
 ex:∃css:List (List V),App tyRd 16 lo H v css.flatten xs.length∧css.length=xs.length∧∀j,j<xs.length→DrV (css.getD j []) (xs.getD j default).k (xs.getD j default).fi.length (xs.getD j default).ss.length
theorem Drs.nil{lo:Nat}{H:Heap}:Drs lo H .nils []:=⟨[],App.nil,rfl,λj hj=>absurd hj (by simp)⟩
end Go.Ax.SU
/- Rc13 -/
namespace Go.Ax.SU
open Go.Ax
def ZK(K:Kd):Prop:=K.ot=λk=>(dkJ K.d K.C 64)[k]?
theorem zvh{α:Type}{l:List α}{m n i j:Nat}(hl:l.length=m)(hi:i<n)(hj:j<m):((List.replicate n l).flatten)[i*m+j]?=l[j]?:=by
 induction n generalizing i with
 | zero=>omega
 | succ n ih =>
  rw[List.replicate_succ,List.flatten_cons];cases i with
  | zero=>rw[Nat.zero_mul,Nat.zero_add,List.getElem?_append_left (by omega)]
  | succ i =>
   rw[List.getElem?_append_right (by rw[hl,Nat.succ_mul]; omega),hl,Nat.succ_mul,show i*m+m+j-m=i*m+j by omega];exact ih (by omega)
theorem zis{d C i j:Nat}(hi:i<4)(hj:j<367):(dkJ d C 64)[i*367+j]?=zle[j]?:=by
 unfold dkJ;rw[List.getElem?_append_left (by rw[zhU]; omega),zvh zi9 hi hj]
theorem zsa{i m k:Nat}(hi:i<4)(h:39≤m)(hm:m<367)(e:k=i*367+m):otr k:=by
 subst e;refine .inl ⟨?_,by omega⟩;rw[Nat.mul_comm,Nat.mul_add_mod,Nat.mod_eq_of_lt hm];exact h
theorem zj2:zSt.length=33:=rfl
theorem zrQ:((List.replicate 8 zSt).flatten).length=264:=by rw[List.length_flatten]; simp[zj2]
theorem znA{j:Nat}(hj:j<64):zle[303+j]?=some .nilp:=by
 unfold zle;rw[zdR (i:=303) (by rw[List.length_append,zrQ]; rfl),List.getElem?_replicate,if_pos hj]
theorem zlx{s j:Nat}(hs:s<8)(hj:j<33):zle[39+s*33+j]?=zSt[j]?:=by
 unfold zle;rw[List.getElem?_append_left (by rw[List.length_append,zrQ,show zRm.length=39 from rfl]; omega),show 39+s*33+j=39+(s*33+j) by omega,zdR (i:=39) rfl,zvh zj2 hs hj]
theorem DA.sts{K:Kd}{H:Heap}{L:Nat→V}{D:List V}{rm:Nat→Rm} {q:Nat→List (V×Ot)} {ns:List Nat} {nw:Int} (h:DA K H L D rm q ns nw) (hz:ZK K) {i s:Nat} (hi:i<4) (hs:s<8):ldc (some 33) D (i*367+39+s*33)=some (.agg zSt):=by
 have hl:=h.len;simp only[ldc];rw[if_pos (by omega)];congr 2;apply List.ext_getElem?;intro j;rw[List.getElem?_take];by_cases hj:j<33
 ·rw[if_pos hj,List.getElem?_drop];have e:(dkJ K.d K.C 64)[i*367+39+s*33+j]?=zSt[j]?:=by
   rw[show i*367+39+s*33+j=i*367+(39+s*33+j) by omega,zis hi (by omega),zlx hs hj]
  rw[List.getElem?_eq_getElem (l:=zSt) (by rw[zj2]; exact hj)]at e;rw[List.getElem?_eq_getElem (l:=zSt) (by rw[zj2]; exact hj)];refine h.ot _ _ ?_ (zsa (m:=39+s*33+j) hi (by omega) (by omega) (by omega));rw[hz];exact e
 ·rw[if_neg hj,List.getElem?_eq_none (by rw[zj2]; omega)]
theorem ia8m{d o s m:Nat}(hs:s<8){k:IntKind}:Ax.iaddr (some 8) m (.ptr d o) (.int k (s:Nat))=some (.ptr d (o+s*m)):=by
 simp only[Ax.iaddr];rw[if_pos (by omega),Int.toNat_natCast]
end Go.Ax.SU
/- Rc14 -/
namespace Go.Ax.SU
open Go.Ax
def bl(n:Nat):Nat:=if n=0 then 0 else n.log2+1
structure RpO (x:Rp):Prop where
 ex:x.ex<64
 mt:x.mt<262144
 fi:x.k≠5→x.fi=[]
 ss:x.k≠6→x.ss=[]
 k:1≤x.k∧x.k≤7
 fl:x.fi.length≤1200
 sl:x.ss.length≤1200
end Go.Ax.SU
/- Rc15 -/
namespace Go.Ax.SU
open Go.Ax
def nsC(ns:List Nat)(c:Nat):List Nat:=ns.set 4 (ns.getD 4 0+c)
theorem nsC_c{ns:List Nat}(h:4<ns.length)(a b:Nat):(nsC ns a).set 4 ((nsC ns a).getD 4 0+b)=nsC ns (a+b)∧(nsC ns a).getD 4 0=ns.getD 4 0+a:=by
 have e:(nsC ns a).getD 4 0=ns.getD 4 0+a:=by
  unfold nsC;rw[List.getD_eq_getElem?_getD,List.getElem?_set,if_pos rfl,if_pos h]; rfl
 refine⟨?_,e⟩;rw[e];unfold nsC;rw[List.set_set,Nat.add_assoc]
structure RI (K:Kd) (L:Nat→V) (rm:Nat→Rm) (Q:Nat→List Ot) (ns:List Nat) (nw:Int) (H0 H:Heap) (c:Nat):Prop where
 dw:DW K H L rm Q (nsC ns c) nw
 at':AtS [K.cs] H0 H
theorem RI.one{K:Kd}{L:Nat→V}{rm:Nat→Rm}{Q:Nat→List Ot}{ns:List Nat}{nw:Int}{H0 H H':Heap}{c:Nat}(h:RI K L rm Q ns nw H0 H c)(h4:4<ns.length) (a:AtS [K.cs] H H') (d:DW K H' L rm Q ((nsC ns c).set 4 ((nsC ns c).getD 4 0+1)) nw):RI K L rm Q ns nw H0 H' (c+1) :=
 ⟨by rw[(nsC_c h4 c 1).1]at d; exact d,h.at'.trans a⟩
theorem RI.grow{K:Kd}{L:Nat→V}{rm:Nat→Rm}{Q:Nat→List Ot}{ns:List Nat}{nw:Int}{H0 H H':Heap}{c:Nat}(h:RI K L rm Q ns nw H0 H c)(s:Grow H H'):RI K L rm Q ns nw H0 H' c:=⟨h.dw.grow s,h.at'.trans (s.atS _)⟩
end Go.Ax.SU
/- Rc16 -/
namespace Go.Ax.SU
open Go.Ax
end Go.Ax.SU
/- Rc17 -/
namespace Go.Ax.SU
open Go.Ax
def zS1:List V:=[V.bool false,V.int .u32 0,V.int .i64 0,V.int .i64 0,V.int .i64 0,V.nils,V.int .i64 0,V.nils,V.nils,V.int .u32 0,V.nils]
theorem st_at{j:Nat}(hj:j<3):Ax.index 3 11 (some 11) (.agg zSt) (.int .i64 (j:Nat))=some (.agg zS1):=by
 have:j=0∨j=1∨j=2:=by omega
 rcases this with rfl|rfl|rfl<;>rfl
theorem source_z{K:Kd}{H:Heap}{L:Nat→V}{rm:Nat→Rm}{Q:Nat→List Ot}{ns:List Nat}{nw:Int}(hh:DW K H L rm Q ns nw)(hz:ZK K){i s:Nat}(hi:i<4)(hs:s<8)(x:V) :
  Ok (sem T zby [.ptr K.d (i*367),.int .i64 (s:Nat),x]) H λr H'=>r = .tup [.int .i64 0,.bool false]∧Grow H H':=by
 refine zfu ?_;unfold zee uS uNF uI uc;obtain⟨D,q,h,hQ⟩:=hh;have g:=h.blk;have hl:=h.sts hz hi hs;have ia:=λ{k}=>@ia8m K.d (i*367+39) s 33 hs k;simp(disch:=omega)only[↓RD,RZ,eq_self,seval,g,hl,ia];refine zaw (Q:=λr H'=>r = .ex 0 []∧Grow H H') ?_ ?_
 ·refine za3 (λj L H'=>L=[.int .i64 (j:Nat)]∧Grow H H') 3 ⟨rfl,Grow.refl _⟩ ?_ ?_
  ·rintro j _ H1 hj ⟨rfl,s1⟩;have d1:decide (((j:Nat):Int)<3)=true:=decide_eq_true (by omega);have d1':decide (j<3)=true:=decide_eq_true hj;have w1:IntKind.i64.wrap (((j:Nat):Int)+1)=((j+1:Nat):Int):=by rw[wrap_i64 (by omega) (by omega)]; omega
   have n:=st_at hj;unfold zcs uL uT uFM uB uG uH uO uc ug;unfold zS1 at n;simp(disch:=omega)only[↓RD,RZ,eq_self,seval,d1,d1',n,w1];exact s1.trans ((Grow.new _ _).set (Nat.le_refl _) _)
  ·rintro _ H1 ⟨rfl,s1⟩;unfold zcs uL uT uFM uB uG uH uO uc ug;simp(disch:=omega)only[↓RD,RZ,eq_self,seval];exact s1
 ·rintro _ H1 ⟨rfl,s1⟩;simp(disch:=omega)only[↓RD,RZ,eq_self,seval];exact s1
def pkZ:List V:=[.bool false,.int .i64 0,.int .u16 0,.int .u32 0,.int .u32 0,.nils,.int .i64 0,.nils,.int .i64 0,.nils,.int .i64 0,.int .i64 0,.bool false,.bool false,.int .i64 0,.int .u16 0,.bool false,.int .i64 0,.int .i64 0,.nils,.int .i64 0,.nils,.nils,.bool false,.int .u32 0,.bool false,.bool false,.bool false,.nils,.nils,.nils]
end Go.Ax.SU
/- Ep4 -/
namespace Go.Ax.SU
open Go.Ax
def Kd.put(K:Kd)(k:Nat)(xs:List V):Kd:={ K with ot:=λm=>if k≤m∧m<k+xs.length then xs[m-k]? else K.ot m }
theorem DA.put{K:Kd}{H:Heap}{L:Nat→V}{D:List V}{rm:Nat→Rm} {q:Nat→List (V×Ot)} {ns:List Nat} {nw:Int} (h:DA K H L D rm q ns nw) {i k:Nat} {xs:List V} (hi:i<4) (h1:i*367+39≤k) (h2:k+xs.length≤i*367+367) :
  DA (K.put k xs) (H.set K.d (some ⟨tyDk,splice D k xs,none⟩)) L (splice D k xs) rm q ns nw:=by
 have hl:=h.len;have hb:k+xs.length≤D.length:=by omega
 obtain⟨cap,g1⟩:=h.cm.hd;obtain⟨o,g2⟩:=h.cm.bd;have a1:AtS [K.d] H (H.set K.d (some ⟨tyDk,splice D k xs,none⟩)):=AtS.set _ (by simp) _;refine⟨zan _ _ _,by rw[zgr hb]; exact hl,λj hj=>?_,by rw[zbT hb (by omega)]; exact h.now,λa ha=>by rw[zbT hb (by omega)]; exact h.po a ha,by rw[zbT hb (by omega)]; exact h.co,⟨⟨cap,(zap _ _ (Ne.symm h.dC)).trans g1⟩,⟨o,(zap _ _ (Ne.symm h.dc)).trans g2⟩,h.cm.len,h.cm.small⟩,h.pm.atS a1 (λk hk=>by simp only[List.mem_singleton]at hk; subst hk; exact⟨h.dl,λa ha e=>(h.Pd a ha).1 e.symm⟩),h.dl,h.Cl,h.cl,h.dc,h.Cc,h.dC,h.Pd,λm y hm hr=>?_⟩
 ·exact⟨(zj5 hb (by omega)).trans (h.rms j hj).1,(h.rms j hj).2⟩
 ·have hm:(if k≤m∧m<k+xs.length then xs[m-k]? else K.ot m)=some y:=hm;by_cases hin:k≤m∧m<k+xs.length
  ·rw[if_pos hin]at hm;obtain⟨j,rfl⟩:∃j,m=k+j:=⟨m-k,by omega⟩;rw[Nat.add_sub_cancel_left]at hm;have e:=ziN hb;have e2:(splice D k xs)[k+j]?=xs[j]?:=by
    rw[←congrArg (λl=>l[j]?) e];show _=(((splice D k xs).drop k).take xs.length)[j]?;rw[List.getElem?_take,if_pos (by omega),List.getElem?_drop]
   rw[e2];exact hm
  ·rw[if_neg hin]at hm;rw[zbT hb (by omega)];exact h.ot m y hm hr
theorem put_put{K:Kd}{k t:Nat}{xs:List V}{y:V}(ht:t<xs.length):(K.put k xs).put (k+t) [y]=K.put k (xs.set t y):=by
 unfold Kd.put;congr 1;funext m;dsimp only;rw[List.length_set];by_cases hin:k≤m∧m<k+xs.length
 ·obtain⟨j,rfl⟩:∃j,m=k+j:=⟨m-k,by omega⟩;rw[if_pos hin,if_pos hin,Nat.add_sub_cancel_left,List.getElem?_set];by_cases e:t=j
  ·subst e;rw[if_pos (by simp),if_pos rfl,if_pos ht,Nat.sub_self];rfl
  ·rw[if_neg (by simp; omega),if_neg e]
 ·rw[if_neg hin,if_neg hin,if_neg (by simp; omega)]
def stC(ssrc:Nat)(rate:Int):List V:=[.bool true,.int .u32 (ssrc:Nat),.int .i64 rate,.int .i64 0,.int .i64 0,.nils,.int .i64 0,.nils,.nils,.int .u32 0,.nils]
theorem show_ok{lb s j:Nat}{K:Kd}{H:Heap}{L:Nat→V}{rm:Nat→Rm}{Q:Nat→List Ot}{ns:List Nat}{nw:Int}{x:Nt}{bv:V}{b3:Nat}(hh:DW K H L rm Q ns nw)(hz:ZK K){i:Nat}(hi:i<4)(hs:s<8)(hb:By lb H bv x.b) (hxb:x.b=[0,0,0,b3]) (hb3:b3<256) (hn:x.n=(j:Nat)) (hj:j<3) :
  Ok (sem T zdl [.ptr K.d (i*367),.int .i64 (s:Nat),.agg (nC x bv)]) H λr H'=>r = .int .i64 0∧FrD K.lo L L H H'∧DW (K.put (i*367+39+s*33+j*11) (stC b3 x.m)) H' L rm Q ns nw:=by
 refine zkf ?_;unfold zhr uL uT uFM uNFM uNF uE uN uB uI uIM uG uH uO uc uq;have vc:=hb.cells1;have vo:=hb.okc;refine zao (zaK (by simp[nC,V.okc,vo]) ?_);rw[zam];have s0:=Grow.new H ⟨zae,nC x bv,none⟩;have g0:(H.new ⟨zae,nC x bv,none⟩).get H.next=some ⟨zae,nC x bv,none⟩:=zac _ _;have n0:(H.new ⟨zae,nC x bv,none⟩).next=H.next+1:=zaf _ _;generalize hq:H.next=q at *;generalize H.new _=H0 at *;have h0:=hh.grow s0;have hb0:=hb.ext s0;rw[hxb]at hb0;obtain⟨p0,hp0,ld0,-⟩:=by_at hb0 (i:=0) (by decide) (by simp);obtain⟨p1,hp1,ld1,-⟩:=by_at hb0 (i:=1) (by decide) (by simp);obtain⟨p2,hp2,ld2,-⟩:=by_at hb0 (i:=2) (by decide) (by simp);obtain⟨p3,hp3,ld3,-⟩:=by_at hb0 (i:=3) (by decide) (by simp);have ld0:LdR none H0 p0 (.int .u8 0):=ld0;have ld1:LdR none H0 p1 (.int .u8 0):=ld1;have ld2:LdR none H0 p2 (.int .u8 0):=ld2;have ld3:LdR none H0 p3 (.int .u8 (b3:Nat)):=ld3;have c6:(nC x bv)[6]?=some bv:=rfl;have c4:(nC x bv)[4]?=some (.int .i64 (j:Nat)):=by rw[←hn]; rfl
 have c5:(nC x bv)[5]?=some (.int .i64 x.m):=rfl;have sh24:Ax.bin .shl (.int .u32 0) (.int .u64 24)=some (.int .u32 0):=rfl;have sh16:Ax.bin .shl (.int .u32 0) (.int .u64 16)=some (.int .u32 0):=rfl;have sh08:Ax.bin .shl (.int .u32 0) (.int .u64 8)=some (.int .u32 0):=rfl;have o0:Ax.bin .or (.int .u32 0) (.int .u32 0)=some (.int .u32 0):=rfl;have or3:((List.range 256).all λm=>decide (Go.bits .or .u32 0 (m:Nat)=((m:Nat):Int)))=true:=by kernel_rfl
 have ob:Ax.bin .or (.int .u32 0) (.int .u32 (b3:Nat))=some (.int .u32 (b3:Nat)):=by
  have:=of_decide_eq_true (List.all_eq_true.1 or3 b3 (List.mem_range.2 hb3));rw[zoc,this]
 have cu:IntKind.u32.wrap ((b3:Nat):Int)=((b3:Nat):Int):=by rw[wrap_u32]; omega
 have cu0:IntKind.u32.wrap 0=0:=rfl;simp(disch:=omega)only[↓RD,RZ,eq_self,seval,g0,c6,hp0,hp1,hp2,hp3,ld0,ld1,ld2,ld3,cu,cu0,sh24,sh16,sh08,o0,ob];refine zad (source_z h0 hz hi hs _) ?_;rintro _ H1 ⟨rfl,s1⟩;have h1:=h0.grow s1;obtain⟨D,qs,hd,hQ⟩:=id h1;have gd:=hd.blk;have g1:=(s1.same q (by omega)).trans g0;have hdl:=hd.dl;have htop:=h0.lo;have hdq:K.d≠q:=by have:=hh.lo; omega
 have hl:=hd.len;have ia1:=λ{k}=>@ia8m K.d (i*367+39) s 33 hs k;have ia2:∀{k:IntKind},Ax.iaddr (some 3) 11 (.ptr K.d (i*367+39+s*33)) (.int k (j:Nat))=some (.ptr K.d (i*367+39+s*33+j*11)):=λ{k}=>by
  simp only[Ax.iaddr];rw[if_pos (by omega),Int.toNat_natCast]
 have st0:D[i*367+39+s*33+j*11]?=some (.bool false):=by
  refine hd.ot _ _ ?_ (zsa (m:=39+s*33+j*11) hi (by omega) (by omega) (by omega));rw[hz];show(dkJ K.d K.C 64)[_]? = _;rw[show i*367+39+s*33+j*11=i*367+(39+s*33+j*11) by omega,zis hi (by omega),zlx hs (by omega)];have:j=0∨j=1∨j=2:=by omega
  rcases this with rfl|rfl|rfl<;>rfl
 generalize hk:i*367+39+s*33+j*11=k at *;have hkl:k+11≤1535:=by omega
 have hk2:k+2<1535:=by omega
 have h4:=hd.put (xs:=stC b3 0) hi (k:=k) (by omega) (by show k+11≤_; omega);have h5:=h4.put (xs:=[.int .i64 x.m]) hi (k:=k+2) (by omega) (by show k+2+1≤_; omega);rw[put_put (show 2<(stC b3 0).length from Nat.lt_of_sub_pos (Nat.zero_lt_succ _))]at h5;have hl4:(splice D k (stC b3 0)).length=1535:=h4.len;have hl4':=hl4;unfold stC at hl4';have f5:∀b c,FrD K.lo L L H ((H1.set K.d b).set K.d c):=λb c=>((s0.trans s1).frD _ _).trans (FrD.low ((AtS.set (S:=[K.d]) H1 (k:=K.d) (by simp) b).trans (AtS.set (k:=K.d) _ (by simp) c)) L λk hk=>by simp only[List.mem_singleton]at hk; subst hk; exact hdl);simp(disch:=omega)only[↓RD,RZ,eq_self,seval,g1,c4,c5,gd,ia1,ia2,st0,hl,hkl,hk2,hdq];exact⟨by omega,f5 _ _,_,_,h5,hQ⟩
theorem said4_ok{lb s j b3:Nat}{K:Kd}{H:Heap}{L:Nat→V}{rm:Nat→Rm}{Q:Nat→List Ot}{ns:List Nat}{nw:Int}(hh:DW K H L rm Q ns nw)(hz:ZK K){i:Nat}(hi:i<4){bv:V}{x:Nt}(hk:x.k=4)(hb:By lb H bv x.b)(hbs:∀H',FrD K.lo L L H H'→By lb H' bv x.b)(hs:s<8) (hxb:x.b=[0,0,0,b3]) (hb3:b3<256) (hn:x.n=(j:Nat)) (hj:j<3) :
  Ok (sem T zbU [.ptr K.d 0,.ptr K.d (i*367),.int .i64 (s:Nat),.agg (nC x bv)]) H λr H'=>r = .int .i64 0∧FrD K.lo L L H H'∧DW (K.put (i*367+39+s*33+j*11) (stC b3 x.m)) H' L rm Q ns nw:=by
 refine zep ?_;unfold zdE uL uM uS uT uF uFM uNFM uNF uE uB uI uIM uO uU uc ug;have vc:=hb.cells1;have vo:=hb.okc;refine zao (zaK (by simp[nC,V.okc,vo]) ?_);rw[zam];have s0:=Grow.new H ⟨zae,nC x bv,none⟩;have g0:(H.new ⟨zae,nC x bv,none⟩).get H.next=some ⟨zae,nC x bv,none⟩:=zac _ _;have n0:(H.new ⟨zae,nC x bv,none⟩).next=H.next+1:=zaf _ _;generalize hq:H.next=q at *;generalize H.new _=H0 at *;have hh0:=hh.grow s0;obtain⟨D,qs,h,hQ⟩:=id hh0;have g:=h.blk;have ho:=(h.rms i hi).2;have hr:=h.r39 hi;have hdl:=h.dl;have htop:=h.pm.top;have ia:=λ{k}=>@ia8o K.d (i*367+8) s hs k;have da:D[i*367+8+s]?=some (.int .i64 ((rm i).t.aG s)):=by
  rw[show i*367+8+s=i*367+(8+s) by omega];exact(h.r1 hi (by omega)).trans (zta ho hs)
 have c0:(nC x bv)[0]?=some (.int .i64 4):=by rw[←hk]; rfl
 have c7:ldc (some 7) (nC x bv) 0=some (.agg (nC x bv)):=rfl;have ok:=ze9 (rm i);have hlr:=zbA ho;have nq:q≠H0.next:=by omega
 simp(disch:=omega)only[↓RD,RZ,eq_self,seval,g,g0,hr,ia,da,hlr,ok,c0,c7,nq];generalize hHH:Heap.set _ H0.next _=HH;have sH:Grow H0 HH:=by rw[←hHH]; exact(Grow.new H0 _).set (Nat.le_refl _) _
 clear hHH;have sT:=s0.trans sH;refine zad (show_ok (hh.grow sT) hz hi hs (hbs HH (sT.frD _ _)) hxb hb3 hn hj) ?_;rintro _ H3 ⟨rfl,f3,h3⟩;simp(disch:=omega)only[↓RD,RZ,eq_self,seval];exact⟨(sT.frD _ _).trans f3,h3⟩
theorem note4_ok{lb a i s j b3:Nat}{K:Kd}{H:Heap}{L:Nat→V}{rm:Nat→Rm}{Q:Nat→List Ot}{ns:List Nat}{nw:Int}{bv:V}{b:List Nat}(h:DW K H L rm Q ns nw)(hz:ZK K)(hb:By lb H bv b)(b8:Ok8 b)(hl:b.length≤1000000)(hp:zeF b=0) (hk:(rawN b).k=4) (hw:zcN (λi=>(rm i).t) (a:Nat)=some (i,s)) (hi:i<4) (hs:s<8) (hg:RmG (rm i)) (hal:zc1 (rm i) (a:Nat) nw=rm i) (hbb:(rawN b).b=[0,0,0,b3]) (hb3:b3<256) (hn:(rawN b).n=(j:Nat)) (hj:j<3) :
  Ok (sem T zaO [.ptr K.d 0,.int .i64 (a:Nat),bv]) H λr H'=>r = .tup []∧FrD K.lo L L H H'∧DW (K.put (i*367+39+s*33+j*11) (stC b3 (rawN b).m)) H' L rm Q ns nw:=by
 refine zcw ?_;unfold zcd uL uS uT uFM uE uB uG uH uO uc ug;refine zad (zgM hb b8 hl ⟨by rw[hk]; decide,by rw[hk]; decide,by rw[hk]; decide⟩) ?_;rintro r1 H1 ⟨s1,⟨he,_⟩|⟨_,v,rfl,hv⟩⟩
 ·exact absurd hp he
 refine zat rfl ?_;refine zat rfl ?_;refine zbi rfl rfl λq H2 eq g2 s2 n2=>?_;have s02:=s1.trans s2;have h2:=h.grow s02;have hlo:=h.lo;have n1:=s1.next;have hv2:=hv.ext s2;have hxb:b.drop 11=(rawN b).b:=rfl;rw[hxb]at hv2;generalize hx:rawN b=x at *;have c0:(nC x v)[0]?=some (.int .i64 4):=by rw[←hk]; rfl
 have c7:ldc (some 7) (nC x v) 0=some (.agg (nC x v)):=rfl;simp(disch:=omega)only[↓RD,RZ,eq_self,seval,g2,c0];obtain⟨D,qs,hd,hQ⟩:=id h2;refine zad (zgP hd.tb (by have:=hd.dl; omega) (a:Nat)) ?_;rintro _ H3 ⟨rfl,s3⟩;rw[hw];have g3:=(s3.same q (by omega)).trans g2;unfold wv;simp(disch:=omega)only[↓RD,RZ,eq_self,seval];refine zad (zjv (h2.grow s3) hi hg (a:Nat)) ?_;rintro _ H4 ⟨rfl,f4,h4⟩;rw[hal,upd_same]at h4;have n3:=s3.next;have g4:=(f4.same q (by omega) (by omega) λe he=>h.old he (by omega)).trans g3;have hv4:=f4.by (hv2.ext s3) hlo λe i he hi=>h.old he (hv.own i hi).1;simp(disch:=omega)only[↓RD,RZ,eq_self,seval,g4,c0,c7];refine zad (said4_ok h4 hz hi hk hv4 (λH' f=>f.by hv4 hlo λe i he hi=>h.old he (hv.own i hi).1) hs hbb hb3 hn hj) ?_;rintro _ H5 ⟨rfl,f5,h5⟩;have f05:FrD K.lo L L H H5:=((((s02.trans s3).frD _ _).trans f4)).trans f5;simp(disch:=omega)only[↓RD,RZ,eq_self,seval];exact⟨rfl,f05,h5⟩
end Go.Ax.SU
/- Ep5 -/
namespace Go.Ax.SU
open Go.Ax
theorem fields8{H:Heap}{k:Int}(hk:k=8∨k=22):Ok (sem T zaI [.int .i64 k]) H λr H'=>r=txt [101]∧H'=H:=by
 refine za4 ?_;unfold za1 uB uc ug;rcases hk with rfl|rfl
 ·simp(disch:=omega)only[↓RD,RZ,eq_self,seval];rfl
 ·simp(disch:=omega)only[↓RD,RZ,eq_self,seval];rfl
theorem fields4{H:Heap}{k:Int}(hk:k=4):Ok (sem T zaI [.int .i64 k]) H λr H'=>r=txt [110,109,98]∧H'=H:=by
 refine za4 ?_;unfold za1 uB uc ug;subst hk;simp(disch:=omega)only[↓RD,RZ,eq_self,seval];rfl
theorem good_r8{lo k e:Nat}(hk:k=8∨k=22)(he:e≤65535){H:Heap}{bv:V} (hb:By lo H bv []):Ok (sem T zas [.agg (nC ⟨(k:Nat),(0:Nat),(0:Nat),(e:Nat),(0:Nat),(0:Nat),[]⟩ bv)]) H λr H'=>r = .bool true∧Grow H H':=by
 refine za8 ?_;unfold za6 uL uFM uB uG uH uO uc ub ug;have vc:=hb.cells1;have vo:=hb.okc;refine zao (zaK (by simp[nC,V.okc,vo]) ?_);rw[zam];have s0:=Grow.new H ⟨zab,nC ⟨(k:Nat),(0:Nat),(0:Nat),(e:Nat),(0:Nat),(0:Nat),[]⟩ bv,none⟩;have g0:(H.new ⟨zab,nC ⟨(k:Nat),(0:Nat),(0:Nat),(e:Nat),(0:Nat),(0:Nat),[]⟩ bv,none⟩).get H.next=some ⟨zab,nC ⟨(k:Nat),(0:Nat),(0:Nat),(e:Nat),(0:Nat),(0:Nat),[]⟩ bv,none⟩:=zac _ _;generalize hq:H.next=q at *;generalize H.new _=H1 at *;unfold nC at g0;dsimp only at g0;have bl:=(hb.ext s0).vlen;have f1:=@zaQ _ _ _ _ (@fields8 H1 ((k:Nat):Int) (by omega));have wi:=λ{x lo hi:Int} {f:V→M Res} {Q:Res→Heap→Prop}=>@zvJ H1 x lo hi f Q;have es:Ax.bin .eql (txt [101]) (.str ⟨#[]⟩)=some (.bool false):=znD (l:=[101]) (all8 rfl) (by decide);have h114:=λ{f Q}=>@zd2 H1 [101] 114 false (all8 rfl) (by decide) rfl rfl f Q;have h115:=λ{f Q}=>@zd2 H1 [101] 115 false (all8 rfl) (by decide) rfl rfl f Q;have h101:=λ{f Q}=>@zd2 H1 [101] 101 true (all8 rfl) (by decide) rfl rfl f Q;have h110:=λ{f Q}=>@zd2 H1 [101] 110 false (all8 rfl) (by decide) rfl rfl f Q;have h109:=λ{f Q}=>@zd2 H1 [101] 109 false (all8 rfl) (by decide) rfl rfl f Q;have h98:=λ{f Q}=>@zd2 H1 [101] 98 false (all8 rfl) (by decide) rfl rfl f Q;rcases hk with rfl|rfl
 ·simp(maxSteps:=1000000) (disch:=first|omega|(simp only[RY]<;>omega)|decide)only[↓RD,RZ,eq_self,Int.reduceToNat,Int.reduceAdd,Int.reduceSub,Int.reduceMul,Nat.reduceAdd,Nat.reduceSub,Nat.reduceMul,Nat.reduceDiv,Nat.reduceMod,Nat.reduceBEq,Nat.reduceLeDiff,g0,f1,wi,es,h114,h115,h101,h110,h109,h98,bl];exact s0
 ·simp(maxSteps:=1000000) (disch:=first|omega|(simp only[RY]<;>omega)|decide)only[↓RD,RZ,eq_self,Int.reduceToNat,Int.reduceAdd,Int.reduceSub,Int.reduceMul,Nat.reduceAdd,Nat.reduceSub,Nat.reduceMul,Nat.reduceDiv,Nat.reduceMod,Nat.reduceBEq,Nat.reduceLeDiff,g0,f1,wi,es,h114,h115,h101,h110,h109,h98,bl];exact s0
theorem good_r4{lo n m:Nat}{b:List Nat}(hn:n<3)(hm:m≤65535)(hl:b.length=4){H:Heap}{bv:V}(hb:By lo H bv b):Ok (sem T zas [.agg (nC ⟨((4:Nat):Int),(0:Nat),(0:Nat),(0:Nat),(n:Nat),(m:Nat),b⟩ bv)]) H λr H'=>r = .bool true∧Grow H H':=by
 refine za8 ?_;unfold za6 uL uFM uB uG uH uO uc ub ug;have vc:=hb.cells1;have vo:=hb.okc;refine zao (zaK (by simp[nC,V.okc,vo]) ?_);rw[zam];have s0:=Grow.new H ⟨zab,nC ⟨((4:Nat):Int),(0:Nat),(0:Nat),(0:Nat),(n:Nat),(m:Nat),b⟩ bv,none⟩;have g0:(H.new ⟨zab,nC ⟨((4:Nat):Int),(0:Nat),(0:Nat),(0:Nat),(n:Nat),(m:Nat),b⟩ bv,none⟩).get H.next=some ⟨zab,nC ⟨((4:Nat):Int),(0:Nat),(0:Nat),(0:Nat),(n:Nat),(m:Nat),b⟩ bv,none⟩:=zac _ _;generalize hq:H.next=q at *;generalize H.new _=H1 at *;unfold nC at g0;dsimp only at g0;have bl:=(hb.ext s0).vlen;rw[hl]at bl;have f1:=@zaQ _ _ _ _ (@fields4 H1 ((4:Nat):Int) rfl);have wi:=λ{x lo hi:Int} {f:V→M Res} {Q:Res→Heap→Prop}=>@zvJ H1 x lo hi f Q;have es:Ax.bin .eql (txt [110,109,98]) (.str ⟨#[]⟩)=some (.bool false):=znD (l:=[110,109,98]) (all8 rfl) (by decide);have h114:=λ{f Q}=>@zd2 H1 [110,109,98] 114 false (all8 rfl) (by decide) rfl rfl f Q;have h115:=λ{f Q}=>@zd2 H1 [110,109,98] 115 false (all8 rfl) (by decide) rfl rfl f Q;have h101:=λ{f Q}=>@zd2 H1 [110,109,98] 101 false (all8 rfl) (by decide) rfl rfl f Q;have h110:=λ{f Q}=>@zd2 H1 [110,109,98] 110 true (all8 rfl) (by decide) rfl rfl f Q;have h109:=λ{f Q}=>@zd2 H1 [110,109,98] 109 true (all8 rfl) (by decide) rfl rfl f Q;have h98:=λ{f Q}=>@zd2 H1 [110,109,98] 98 true (all8 rfl) (by decide) rfl rfl f Q;have d3:decide (((n:Nat):Int)<3)=true:=decide_eq_true (by omega);have d3':decide (n<3)=true:=decide_eq_true (by omega);have d4:decide (((n:Nat):Int)<256)=true:=decide_eq_true (by omega);have d4':decide (n<256)=true:=decide_eq_true (by omega);have ea:Ax.bin .and (.int .i64 (shr n 0:Nat)) (.int .i64 1)=some (.int .i64 (Go.bits .and .i64 (shr n 0:Nat) 1)):=by simp[Ax.bin,zcF]
 have ea':Ax.bin .and (.int .i64 (n:Nat)) (.int .i64 1)=some (.int .i64 (Go.bits .and .i64 (n:Nat) 1)):=by simp[Ax.bin,zcF]
 simp(maxSteps:=1000000) (disch:=first|omega|(simp only[RY]<;>omega)|decide)only[↓RD,RZ,eq_self,Int.reduceToNat,Int.reduceAdd,Int.reduceSub,Int.reduceMul,Nat.reduceAdd,Nat.reduceSub,Nat.reduceMul,Nat.reduceDiv,Nat.reduceMod,Nat.reduceBEq,Nat.reduceLeDiff,g0,f1,wi,es,h114,h115,h101,h110,h109,h98,bl,d3,d3',d4,d4',ea,ea'];exact s0
end Go.Ax.SU
/- Ep6 -/
namespace Go.Ax.SU
open Go.Ax
def rE(e:Nat):Rm:={ rW [40,41]with ep:=(e:Nat) }
def rJ(e:Nat):Rm:=zd1 (rE e) 2 (50:Nat) 0
def rL(e hv:Nat):Rm:={ rE e with op:=true,nx:=(e:Nat)+1,nd:=3,hv:=(hv:Nat),bn:=0 }
theorem rL_eq(e:Nat):zgw (rJ e) 2 0=rL e 0:=by
 unfold zgw;have hm:zcH (zb8 (rJ e).t 2)=3:=by show zcH (zb8 (zdu (tW [40,41]) 2 50) 2)=3; decide +kernel
 rw[hm];unfold ze3;rw[if_neg (by decide)];rfl
theorem ack0(e:Nat):ackR (rL e 0) 0 ((e:Nat)+1)=(rL e 1,false,0):=by
 unfold ackR;have h1:¬shr (rL e 0).nd.toNat 0%2=0:=show ¬shr (3:Int).toNat 0%2=0 by decide
 have h2:¬shr (rL e 0).hv.toNat 0%2=1:=show ¬shr (0:Int).toNat 0%2=1 by decide
 have h3:¬(((rL e 0).hv.toNat ||| 2 ^ 0:Nat):Int)=(rL e 0).nd:=show ¬(((0:Int).toNat ||| 2 ^ 0:Nat):Int)=3 by decide
 rw[if_neg (by rintro(h|h); cases h; exact h rfl),if_neg h1,if_neg h2,if_neg h3];have h4:((rL e 0).hv.toNat ||| 2 ^ 0:Nat)=1:=show((0:Int).toNat ||| 2 ^ 0)=1 by decide
 rw[h4];rfl
theorem ack1(e:Nat):ackR (rL e 1) 1 ((e:Nat)+1)=(rE (e+1),true,0):=by
 unfold ackR;have h1:¬shr (rL e 1).nd.toNat 1%2=0:=show ¬shr (3:Int).toNat 1%2=0 by decide
 have h2:¬shr (rL e 1).hv.toNat 1%2=1:=show ¬shr (1:Int).toNat 1%2=1 by decide
 have h3:(((rL e 1).hv.toNat ||| 2 ^ 1:Nat):Int)=(rL e 1).nd:=show(((1:Int).toNat ||| 2 ^ 1:Nat):Int)=3 by decide
 rw[if_neg (by rintro(h|h); cases h; exact h rfl),if_neg h1,if_neg h2,if_pos h3];rfl
theorem z8(j:Nat):(List.replicate 8 (0:Int)).getD j 0=0:=by
 rw[List.getD_eq_getElem?_getD,List.getElem?_replicate];split<;>rfl
theorem who2:Who [40,41]:=⟨by decide,by decide,by decide⟩
theorem who3:Who [40,41,50]:=⟨by decide,by decide,by decide⟩
theorem rE_g{e:Nat}(he:e≤65535):RmG (rE e):=by
 have h:=rW_g who2.nd who2.l8 who2.a6;refine⟨⟨h.o.t,h.o.se,h.o.si⟩,⟨by show(0:Int)≤(e:Nat); omega,by show((e:Nat):Int)≤65535; omega,λ_=>⟨rfl,rfl,rfl,rfl⟩,λh=>(by cases h)⟩,h.t,h.z,λi hi=>⟨(h.s i hi).1,?_⟩,λh=>(by cases h),λh=>(by cases h)⟩;show(List.replicate 8 (0:Int)).getD i 0≤(e:Nat);rw[z8]; omega
theorem rJ_t(e:Nat):(rJ e).t=tW [40,41,50]:=rfl
theorem rJ_g{e:Nat}(he:e≤65535):RmG (rJ e):=by
 have h:=rW_g who3.nd who3.l8 who3.a6;have hsi:(rJ e).si=(List.replicate 8 (0:Int)).set 2 (e:Nat):=rfl;have hse:(rJ e).se=List.replicate 8 (0:Int):=rfl;have hst:∀i,((List.replicate 8 (0:Int)).set 2 ((e:Nat):Int)).getD i 0=if i=2 then ((e:Nat):Int) else 0:=λi=>by
  rw[zjz (by simp),z8]
 refine⟨⟨by rw[rJ_t]; exact tW_o _,rfl,rfl⟩,⟨by show(0:Int)≤(e:Nat); omega,by show((e:Nat):Int)≤65535; omega,λ_=>⟨rfl,rfl,rfl,rfl⟩,λh=>(by cases h)⟩,by rw[rJ_t]; exact h.t,λi hi hu=>?_,λi hi=>?_,λh=>(by cases h),λh=>(by cases h)⟩
 ·rw[rJ_t,tW_u _ hi]at hu;have h2:¬i<3:=of_decide_eq_false hu;rw[hsi,hse,hst,z8,if_neg (by omega)];exact⟨rfl,rfl⟩
 ·rw[hsi,hst];show 0≤(if i=2 then ((e:Nat):Int) else 0)∧(if i=2 then ((e:Nat):Int) else 0)≤(e:Nat);split<;>omega
theorem rL_g{e hv:Nat}(he:e+1≤65535)(hh:hv=0∨hv=1):RmG (rL e hv):=by
 have h:=rE_g (e:=e) (by omega);refine⟨⟨h.o.t,h.o.se,h.o.si⟩,⟨h.k.e0,h.k.e1,λh=>(by cases h),λ_=>⟨?_,?_,?_,?_,?_,?_⟩⟩,h.t,h.z,h.s,λ_=>?_,λh=>(by cases h)⟩
 ·show((e:Nat):Int)<(e:Nat)+1; omega
 ·show((e:Nat):Int)+1≤65535; omega
 ·show(1:Int)≤3; decide
 ·show(3:Int)≤255; decide
 ·rcases hh with rfl|rfl
  ·show Go.bits .andNot .i64 0 3=0; decide +kernel
  ·show Go.bits .andNot .i64 1 3=0; decide +kernel
 ·rcases hh with rfl|rfl
  ·show(0:Int)≠3; decide
  ·show(1:Int)≠3; decide
 ·show Go.bits .andNot .i64 3 (zcH (tW [40,41]):Nat)=0;decide +kernel
def rmE(r:Rm):Nat→Rm:=upd (λ_=>rmZ) 0 r
theorem zs6(r:Rm):rmE r 0=r:=zaP _ _ _
theorem zr2(r r':Rm):upd (rmE r) 0 r'=rmE r':=by
 unfold rmE;funext k;unfold upd;split<;>rfl
theorem rmE_w{r:Rm}{l:List Nat}(ht:r.t=tW l):(λi=>(rmE r i).t)=λi=>(rmW 0 l i).t:=by
 funext i;unfold rmE rmW upd;split
 ·exact ht
 ·rfl
theorem zpv{r:Rm}{l:List Nat}(ht:r.t=tW l)(hw:Who l){i a:Nat}(hi:i<l.length)(ha:l.getD i 0=a):zcN (λi=>(rmE r i).t) (a:Nat)=some (0,i):=by
 rw[rmE_w ht,←ha];exact zpu (by decide) hw.nd hw.l8 hw.a6 hi
theorem whereEn{r:Rm}{l:List Nat}(ht:r.t=tW l){a:Nat}(ha:a∉l):zcN (λi=>(rmE r i).t) (a:Nat)=none:=by
 rw[rmE_w ht];exact zrS ha
theorem alE(e:Nat)(a:Int):zc1 (rE e) a 0=rE e:=by
 have:=zr5 (l:=[40,41]) a;unfold zc1 at this ⊢;show(match inS (tW [40,41]) a with|some s=>{ rE e with se:=(List.replicate 8 (0:Int)).set s 0 }|none=>rE e)=rE e;have this:(match inS (tW [40,41]) a with|some s=>{ rW [40,41]with se:=(List.replicate 8 (0:Int)).set s 0 }|none=>rW [40,41])=rW [40,41]:=this;cases h:inS (tW [40,41]) a with
 | none=>rfl
 | some s =>
  rw[h]at this;have e2:(List.replicate 8 (0:Int)).set s 0=List.replicate 8 0:=congrArg Rm.se this;show({ rE e with se:=(List.replicate 8 (0:Int)).set s 0 }:Rm)=rE e;rw[e2];rfl
end Go.Ax.SU
/- Ep7 -/
namespace Go.Ax.SU
open Go.Ax
theorem allN_len{t:Tb}{but:Int}{x:Nt}{Q:Nat→List Ot}{B:Nat} (h:∀c,(Q c).length≤B) (c:Nat):(allN t but x Q 8 c).length≤B+1:=by
 have:=h c;unfold allN;split
 ·rw[List.length_append]; show(Q c).length+1≤_; omega
 ·omega
theorem zuu{Q:Nat→List Ot}{B a:Nat}{l:List Ot} (h:∀c,(Q c).length≤B) (hl:l.length≤B) (c:Nat):(upd Q a l c).length≤B:=by
 unfold upd;split
 ·exact hl
 ·exact h c
theorem joinQ_b{i s a:Nat}{r:Rm}{Q:Nat→List Ot}(hs:s<8)(hg:zdw r.t=true)(hu:r.t.uG s=true) (ha:r.t.aG s=(a:Nat)) (hQ:Q a=[]):ziQ i s a r Q a=[⟨(a:Nat),2,zaN (welR i s r)⟩]:=by
 unfold ziQ allN;have:hitA r.t ((s:Nat):Int) 8 a=false:=by
  unfold hitA;rw[List.any_eq_false];intro n hn;have hn:=List.mem_range.1 hn;unfold hit1;cases hv:r.t.uG n with
  | false=>simp
  | true =>
   by_cases h:n=s
   ·subst h; simp
   ·have:r.t.aG n≠((a:Nat):Int):=λe=>h (zmx hg hn hs hv hu (e.trans ha.symm));rw[decide_eq_false this];simp
 rw[this,if_neg (by decide)];unfold upd;rw[if_pos rfl,hQ];rfl
theorem wel_nrJ{e:Nat}(he:e≤65535):NR (welR 0 2 (rJ e)):=by
 have hg:=rJ_g he;have hw:=zrM hg.t;have hm:zcH (rJ e).t=7:=by rw[rJ_t]; decide +kernel
 have hb:(zcH (rJ e).t).testBit 2=true:=by rw[hm]; decide
 exact⟨(zus (by decide) (by decide) ⟨hg.k.e0,zi5 hg.k,zmV hg.k⟩ hw hb).le,hw.ok8,λH' lo' v hv=>zsl (by decide) (by decide) ⟨hg.k.e0,zi5 hg.k,zmV hg.k⟩ hw hb hv⟩
theorem joinE_ok{e:Nat}{K:Kd}{H:Heap}{L:Nat→V}{Q:Nat→List Ot}{ns:List Nat}{B:Nat} (hh:DW K H L (rmE (rE e)) Q ns 0) (he:e≤65535) (h50:Q 50=[]) (hB:∀c,(Q c).length≤B) (hB2:B≤20) (hs:ns.getD 10 0+1<4611686018427387904) :
  Ok (sem T za0 [.ptr K.d 0,.int .i64 50,.int .i64 0]) H λr H'=>(∃s:Int,r = .tup [.int .i64 s,.bool true])∧∃L' Q',FrD K.lo L L' H H'∧DW K H' L' (rmE (rJ e)) Q' ns 0∧Q' 50=[]∧∀c,(Q' c).length≤B+1:=by
 obtain⟨x1,x2,x3,x4⟩:=zqV (r:=0) (by decide);have hJ:=rJ_g he;have h0:=zs6 (rE e);have hw:zcN (λi=>(rmE (rE e) i).t) ((50:Nat):Int)=none:=whereEn (l:=[40,41]) rfl (by decide);have hu:(rJ e).t.uG 2=true:=by rw[rJ_t]; decide
 have haa:(rJ e).t.aG 2=(50:Nat):=by rw[rJ_t]; decide
 have htk:zfN (rmE (rE e) 0).t ((50:Nat):Int)=0:=by rw[h0]; show zfN (tW [40,41]) ((50:Nat):Int)=0; decide +kernel
 have hf:(zeJ (rmE (rE e) 0).t).getD 0=2:=by rw[h0]; show(zeJ (tW [40,41])).getD 0=2; decide +kernel
 have:=zlI (a:=50) (r:=0) (rm':=rmE (rJ e)) (Q':=ziQ 0 2 50 (rJ e) Q) (ns':=ns) (X:=welR 0 2 (rJ e)) hh (by decide) (by decide) (wel_nrJ he) (joinQ_b (by decide) hJ.t hu haa h50) λH1 bv s1 h1 hb=>by
  refine zaw (zlH (i:=0) h1 hb x3 x4 x2 (by rw[x1]; rfl) (by rw[x1]; rfl) (by decide) hw (by decide) (by rw[h0]; exact rE_g he) (by rw[h0]; rfl) (by rw[h0]; rfl) (λc=>by have:=hB c; omega) hs) ?_;rintro r H' ⟨e1,L',f1,h⟩;rw[if_pos htk,hf,h0,zr2]at h;exact⟨e1,L',f1,h⟩
 refine zaw this ?_;rintro r H' ⟨e1,L',f1,h⟩;refine⟨⟨(welR 0 2 (rJ e)).s,by rw[e1]; rfl⟩,L',upd (ziQ 0 2 50 (rJ e) Q) 50 [],f1,h,zaP _ _ _,zuu (λc=>?_) (Nat.zero_le _)⟩
 ·have:=hB c;unfold ziQ allN;have hU:∀c,(upd Q 50 (Q 50++[⟨((50:Nat):Int),2,zaN (welR 0 2 (rJ e))⟩]) c).length≤B+1∧(c≠50→(upd Q 50 (Q 50++[⟨((50:Nat):Int),2,zaN (welR 0 2 (rJ e))⟩]) c).length≤B):=λc=>by
   unfold upd;have:=hB c;split
   ·rename_i hc; rw[h50]; exact⟨Nat.le_add_left _ _,λh=>absurd hc h⟩
   ·exact⟨by omega,λ_=>this⟩
  by_cases hc:c=50
  ·subst hc;have:hitA (rJ e).t ((2:Nat):Int) 8 50=false:=by rw[rJ_t]; decide +kernel
   rw[this,if_neg (by decide)];exact(hU 50).1
  ·split
   ·rw[List.length_append];have:=(hU c).2 hc;show _+1≤_;omega
   ·exact(hU c).1
def xLv:Nt:=⟨((2:Nat):Int),((0:Nat):Int),((0:Nat):Int),((0:Nat):Int),((0:Nat):Int),((0:Nat):Int),[]⟩
def xHv(e:Nat):Nt:=⟨((8:Nat):Int),((0:Nat):Int),((0:Nat):Int),(e:Nat),((0:Nat):Int),((0:Nat):Int),[]⟩
theorem xOk{x:Nt}(hg:zfb x=true) (hb:x.b=[]):rawN (zaN x)=x∧zeF (zaN x)=0∧Ok8 (zaN x)∧(zaN x).length≤1000000 :=
 ⟨(zij hg).1,zhM hg,zpk hg (by rw[hb]; intro y hy; cases hy),by rw[zdZ,hb]; show 11+0≤1000000; decide⟩
theorem xLv_g:zfb xLv=true:=by decide
theorem xHv_g{e:Nat}(he:e≤4):zfb (xHv e)=true:=by
 have:e=0∨e=1∨e=2∨e=3∨e=4:=by omega
 rcases this with rfl|rfl|rfl|rfl|rfl<;>decide
theorem now_ng{e:Nat}(he:e≤4):NG (nowX (e:Nat)):=by
 refine NG.of ?_ ⟨by show(22:Int)≠17; decide,by show(22:Int)≠19; decide,by show(22:Int)≠20; decide⟩;have:e=0∨e=1∨e=2∨e=3∨e=4:=by omega
 rcases this with rfl|rfl|rfl|rfl|rfl<;>decide
theorem says2_ok{H:Heap}:Ok (sem T zay [.agg [.int .i64 2,.int .i64 0,.int .i64 0,.int .i64 0,.int .i64 0,.int .i64 0,.nils]]) H λr' H'=>Grow H H'∧Ab H.next H' r' (zaN xLv) :=
 zot (k:=2) (r:=0) (s:=0) (e:=0) (n:=0) (m:=0) (b:=[]) (Lc.nil:By 0 H .nils []) (λH' hb=>good_r2 hb) (by decide) (by decide) (by decide)
theorem says8_ok{e:Nat}(he:e≤65535){H:Heap}:Ok (sem T zay [.agg [.int .i64 8,.int .i64 0,.int .i64 0,.int .i64 (e:Nat),.int .i64 0,.int .i64 0,.nils]]) H λr' H'=>Grow H H'∧Ab H.next H' r' (zaN (xHv e)) :=
 zot (k:=8) (r:=0) (s:=0) (e:=e) (n:=0) (m:=0) (b:=[]) (Lc.nil:By 0 H .nils []) (λH' hb=>good_r8 (.inl rfl) he hb) (by decide) ⟨he,by decide,by decide⟩ (by decide)
theorem goneJ(e:Nat):zg1 (rJ e) (rL e 0) 8=[2]:=by
 show(List.range 8).filter (λk=>(tW [40,41,50]).uG k && !(tW [40,41]).uG k)=[2];decide +kernel
theorem zvD{e lb:Nat}{K:Kd}{H:Heap}{L:Nat→V}{Q:Nat→List Ot}{ns:List Nat}{B:Nat}{bv:V} (hh:DW K H L (rmE (rJ e)) Q ns 0) (hz:ZO K) (he:e≤65534) (hB:∀c,(Q c).length≤B) (hB1:1≤B) (hB2:B≤20) (hb:By lb H bv (zaN xLv)) :
  Ok (sem T zaO [.ptr K.d 0,.int .i64 50,bv]) H λr H'=>r = .tup []∧∃L' Q',FrD K.lo L L' H H'∧DW K H' L' (rmE (rL e 0)) Q' ns 0∧∀c,(Q' c).length≤B+1:=by
 obtain⟨x1,x2,x3,x4⟩:=xOk xLv_g rfl;have h0:=zs6 (rJ e);have hJ:=rJ_g (e:=e) (by omega);have hw:zcN (λi=>(rmE (rJ e) i).t) ((50:Nat):Int)=some (0,2):=zpv (l:=[40,41,50]) (rJ_t e) who3 (by decide) rfl;have hal:zc1 (rJ e) ((50:Nat):Int) 0=rJ e:=by
  have hin:inS (rJ e).t ((50:Nat):Int)=some 2:=by rw[rJ_t]; decide +kernel
  unfold zc1;rw[hin];rfl
 have hin:inS (rJ e).t ((rJ e).t.aG 2)=some 2:=by rw[rJ_t]; decide +kernel
 have hu:(rJ e).t.uG 2=true:=by rw[rJ_t]; decide
 refine zaw (note2_ok (a:=50) (i:=0) (s:=2) (B:=B) hh hz hb x3 x4 x2 (by rw[x1]; rfl) hw (by decide) (by decide) (by rw[h0]; exact hJ) (by rw[h0]; exact hal) (by rw[h0]; exact hu) (by rw[h0]; exact hin) (by rw[h0]; rfl) (by rw[h0]; show((e:Nat):Int)+1≤65535; omega) hB1 (by omega) hB) ?_;rintro r H' ⟨e1,L',f1,h⟩;rw[h0,rL_eq,zr2]at h;refine⟨e1,L',_,f1,h,λc=>?_⟩;unfold wentQ;rw[goneJ];exact we_len [2] (ov_len hB1 [2] hB) c
theorem haveE_ok{e s a hv lb:Nat}{K:Kd}{H:Heap}{L:Nat→V}{Q:Nat→List Ot}{ns:List Nat}{B:Nat}{bv:V} (hsa:(s=0∧a=40∧hv=0)∨(s=1∧a=41∧hv=1)) (hh:DW K H L (rmE (rL e hv)) Q ns 0) (he:e<4) (hB:∀c,(Q c).length≤B) (hB2:B≤20) (hb:By lb H bv (zaN (xHv (e+1)))) :
  Ok (sem T zaO [.ptr K.d 0,.int .i64 (a:Nat),bv]) H λr H'=>r = .tup []∧∃L' Q',FrD K.lo L L' H H'∧DW K H' L' (rmE (if s=0 then rL e 1 else rE (e+1))) Q' ns 0∧∀c,(Q' c).length≤B+(if s=0 then 0 else 1):=by
 obtain⟨x1,x2,x3,x4⟩:=xOk (xHv_g (e:=e+1) (by omega)) rfl;have h0:=zs6 (rL e hv);have hg:=rL_g (e:=e) (hv:=hv) (by omega) (by omega);have hex:(rawN (zaN (xHv (e+1)))).e=(e:Nat)+1:=by rw[x1]; show((e+1:Nat):Int) = _; omega
 have hal:∀a:Int,zc1 (rL e hv) a 0=rL e hv:=λa=>by
  have:=alE e a;unfold zc1 at this ⊢;show(match inS (tW [40,41]) a with|some s=>{ rL e hv with se:=(List.replicate 8 (0:Int)).set s 0 }|none=>rL e hv)=rL e hv;have this:(match inS (tW [40,41]) a with|some s=>{ rE e with se:=(List.replicate 8 (0:Int)).set s 0 }|none=>rE e)=rE e:=this;cases h:inS (tW [40,41]) a with
  | none=>rfl
  | some s =>
   rw[h]at this;have e2:(List.replicate 8 (0:Int)).set s 0=List.replicate 8 0:=congrArg Rm.se this;show({ rL e hv with se:=(List.replicate 8 (0:Int)).set s 0 }:Rm)=rL e hv;rw[e2];rfl
 have hnd:0≤(rL e hv).nd∧(rL e hv).nd≤255:=show(0:Int)≤3∧(3:Int)≤255 by decide
 have hhv:0≤(rL e hv).hv∧(rL e hv).hv≤255:=show(0:Int)≤(hv:Nat)∧((hv:Nat):Int)≤255 by omega
 rcases hsa with⟨rfl,rfl,rfl⟩|⟨rfl,rfl,rfl⟩
 ·have hw:zcN (λi=>(rmE (rL e 0) i).t) ((40:Nat):Int)=some (0,0):=zpv (l:=[40,41]) rfl who2 (by decide) rfl;have hin:inS (rL e 0).t ((rL e 0).t.aG 0)=some 0:=show inS (tW [40,41]) ((tW [40,41]).aG 0)=some 0 by decide +kernel
  refine zaw (zsf (a:=40) (i:=0) (s:=0) (A:=(rL e 1,false,0)) hh hb x3 x4 x2 (by rw[x1]; rfl) hw (by decide) (by decide) (by rw[h0]; exact hg) (by rw[h0]; exact hal _) (by rw[h0]; exact hin) (by rw[h0]; exact hnd) (by rw[h0]; exact hhv) (by rw[h0,hex]; exact ack0 e) rfl (λh=>by cases h) (λc=>by have:=hB c; omega)) ?_;rintro r H' ⟨e1,L',f1,h⟩;rw[zr2]at h;exact⟨e1,L',_,f1,h,hB⟩
 ·have hw:zcN (λi=>(rmE (rL e 1) i).t) ((41:Nat):Int)=some (0,1):=zpv (l:=[40,41]) rfl who2 (by decide) rfl;have hin:inS (rL e 1).t ((rL e 1).t.aG 1)=some 1:=show inS (tW [40,41]) ((tW [40,41]).aG 1)=some 1 by decide +kernel
  refine zaw (zsf (a:=41) (i:=0) (s:=1) (A:=(rE (e+1),true,0)) hh hb x3 x4 x2 (by rw[x1]; rfl) hw (by decide) (by decide) (by rw[h0]; exact hg) (by rw[h0]; exact hal _) (by rw[h0]; exact hin) (by rw[h0]; exact hnd) (by rw[h0]; exact hhv) (by rw[h0,hex]; exact ack1 e) rfl (λ_=>now_ng (by omega)) (λc=>by have:=hB c; omega)) ?_;rintro r H' ⟨e1,L',f1,h⟩;rw[zr2]at h;exact⟨e1,L',_,f1,h,λc=>allN_len hB c⟩
end Go.Ax.SU
/- Ep8 -/
namespace Go.Ax.SU
open Go.Ax
structure EI (K:Kd) (r:Rm) (ns:List Nat) (B:Nat) (H:Heap):Prop where
 ex:∃L Q,DW K H L (rmE r) Q ns 0∧∀c,(Q c).length≤B
def stE(e k:Nat):Rm:=if k=0 then rL e 0 else if k=1 then rL e 1 else rE (e+1)
theorem zsv{Q:Nat→List Ot}{B a n:Nat} (h:∀c,(Q c).length≤B):∀c,(upd Q a ((Q a).drop n) c).length≤B :=
 zuu h (by rw[List.length_drop]; have:=h a; omega)
theorem epo1_ok{e:Nat}{K:Kd}{H:Heap}{ns:List Nat}{B:Nat} (h:EI K (rL e 0) ns B H) (he:e<4) (hB:B≤18) :
  Ok (M.iter (zaS (sem T) (.int .i64 (e:Nat)) (.ptr K.d 0)) [.int .i64 0]) H λr H'=>r = .ex 4 []∧EI K (rE (e+1)) ns (B+1) H':=by
 refine za3 (λk L0 H'=>L0=[.int .i64 (k:Nat)]∧EI K (stE e k) ns (B+(if k=2 then 1 else 0)) H') 2 ⟨rfl,h⟩ ?_ ?_
 ·rintro k _ H1 hk ⟨rfl,h1⟩;obtain⟨L,Q,hh,hl⟩:=h1.ex;have hk2:k=0∨k=1:=by omega
  have d1:decide (((k:Nat):Int)<2)=true:=decide_eq_true (by omega);have d1':decide (k<2)=true:=decide_eq_true hk;have w1:IntKind.i64.wrap (((k:Nat):Int)+1)=((k+1:Nat):Int):=by rw[wrap_i64 (by omega) (by omega)]; omega
  have w4:IntKind.i64.wrap (40+((k:Nat):Int))=((40+k:Nat):Int):=by rw[wrap_i64 (by omega) (by omega)]; omega
  have we:IntKind.i64.wrap (((e:Nat):Int)+1)=((e+1:Nat):Int):=by rw[wrap_i64 (by omega) (by omega)]; omega
  rw[if_neg (by omega),Nat.add_zero]at hl;have hsa:(k=0∧40+k=40∧k=0)∨(k=1∧40+k=41∧k=1):=by omega
  have hst:stE e k=rL e k:=by rcases hk2 with rfl|rfl<;>rfl
  rw[hst]at hh;unfold zaS uL uB uc ug;simp(disch:=omega)only[↓RD,RZ,eq_self,seval,d1,d1',w4,we];refine zad (says8_ok (e:=e+1) (by omega)) ?_;rintro bv H2 ⟨s2,hbv⟩;have vc:=hbv.by.cells1;have vo:=hbv.by.okc;simp(maxSteps:=1000000) (disch:=first|omega|(simp only[RY]<;>omega)|decide)only[↓RD,RZ,eq_self,Int.reduceToNat,Int.reduceAdd,Int.reduceSub,Int.reduceMul,Nat.reduceAdd,Nat.reduceSub,Nat.reduceMul,Nat.reduceDiv,Nat.reduceMod,Nat.reduceBEq,Nat.reduceLeDiff,vc,vo];refine zad (zgN (a:=40+k) 0 (Q:=λH'=>EI K (stE e (k+1)) ns (B+(if k+1=2 then 1 else 0)) H') (by omega) vc vo λH3 s3=>?_) ?_
  ·refine zaw (haveE_ok (e:=e) (s:=k) (a:=40+k) (hv:=k) (by omega) (hh.grow (s2.trans s3)) he hl (by omega) (hbv.by.ext s3)) ?_;rintro r H' ⟨e1,L',Q',-,h',hl'⟩;refine⟨e1,L',Q',?_,λc=>?_⟩
   ·rcases hk2 with rfl|rfl<;>exact h'
   ·have:=hl' c;rcases hk2 with rfl|rfl<;>exact this
  rintro _ H4 ⟨rfl,h4⟩;obtain⟨L4,Q4,hh4,hl4⟩:=h4.ex;simp(maxSteps:=1000000) (disch:=first|omega|(simp only[RY]<;>omega)|decide)only[↓RD,RZ,eq_self,Int.reduceToNat,Int.reduceAdd,Int.reduceSub,Int.reduceMul,Nat.reduceAdd,Nat.reduceSub,Nat.reduceMul,Nat.reduceDiv,Nat.reduceMod,Nat.reduceBEq,Nat.reduceLeDiff];refine zad (zif (a:=40+k) (n:=32) hh4 (by omega) (by decide)) ?_;rintro _ H5 ⟨v,rfl,l,L5,-,-,-,-,h5⟩;simp(maxSteps:=1000000) (disch:=first|omega|(simp only[RY]<;>omega)|decide)only[↓RD,RZ,eq_self,Int.reduceToNat,Int.reduceAdd,Int.reduceSub,Int.reduceMul,Nat.reduceAdd,Nat.reduceSub,Nat.reduceMul,Nat.reduceDiv,Nat.reduceMod,Nat.reduceBEq,Nat.reduceLeDiff,w1];exact⟨rfl,L5,_,h5,zsv hl4⟩
 ·rintro _ H1 ⟨rfl,h1⟩;unfold zaS uL uB uc ug;simp(disch:=omega)only[↓RD,RZ,eq_self,seval];exact h1
theorem rem5(x:Nat):Ax.bin .rem (.int .u8 (x:Nat)) (.int .u8 5)=some (.int .u8 (x%5:Nat)):=by
 have e:((x:Nat):Int).tmod 5=((x%5:Nat):Int):=by rw[Int.tmod_eq_emod_of_nonneg (by omega)]; rfl
 simp[Ax.bin,zcF,e]
structure EJ (K:Kd) (e:Nat) (ns:List Nat) (H:Heap):Prop where
 ex:∃L Q,DW K H L (rmE (rE e)) Q ns 0∧Q 50=[]∧∀c,(Q c).length≤3*e+1
theorem epo2_ok{g:Nat}{K:Kd}{H:Heap}{ns:List Nat}(h:EJ K 0 ns H)(hz:ZO K)(hs:ns.getD 10 0+1<4611686018427387904) :
  Ok (M.iter (zaR (sem T) (.int .u8 (g:Nat)) (.ptr K.d 0)) [.int .i64 0]) H λr H'=>r = .ex 2 []∧EJ K (g%5) ns H':=by
 have hr:=rem5 g;have hg:g%5<5:=Nat.mod_lt _ (by decide);generalize g%5=G at *;have cg:IntKind.i64.wrap ((G:Nat):Int)=((G:Nat):Int):=wrap_i64 (by omega) (by omega);refine za3 (λe L0 H'=>L0=[.int .i64 (e:Nat)]∧EJ K e ns H') G ⟨rfl,h⟩ ?_ ?_
 ·rintro e _ H1 he ⟨rfl,h1⟩;obtain⟨L,Q,hh,h50,hl⟩:=h1.ex;have d1:decide (((e:Nat):Int)<((G:Nat):Int))=true:=decide_eq_true (by omega);have d1':decide (e<G)=true:=decide_eq_true he;have w1:IntKind.i64.wrap (((e:Nat):Int)+1)=((e+1:Nat):Int):=by rw[wrap_i64 (by omega) (by omega)]; omega
  unfold zaR uL uE uB uc ub ug;simp(disch:=omega)only[↓RD,RZ,eq_self,seval,hr,cg,d1,d1'];refine zad (joinE_ok (B:=3*e+1) hh (by omega) h50 hl (by omega) hs) ?_;rintro _ H2 ⟨⟨s,rfl⟩,L2,Q2,-,h2,h502,hl2⟩;simp(disch:=omega)only[↓RD,RZ,eq_self,seval,Bool.not_true];refine zad says2_ok ?_;rintro bv H3 ⟨s3,hbv⟩;have vc:=hbv.by.cells1;have vo:=hbv.by.okc;simp(disch:=omega)only[↓RD,RZ,eq_self,seval,vc,vo];refine zad (zgN (a:=50) 0 (Q:=λH'=>EI K (rL e 0) ns (3*e+3) H') (by decide) vc vo λH4 s4=>?_) ?_
  ·refine zaw (zvD (e:=e) (B:=3*e+2) (h2.grow (s3.trans s4)) hz (by omega) hl2 (by omega) (by omega) (hbv.by.ext s4)) ?_;rintro r H' ⟨e1,L',Q',-,h',hl'⟩;exact⟨e1,L',Q',h',hl'⟩
  rintro _ H4 ⟨rfl,h4⟩;simp(disch:=omega)only[↓RD,RZ,eq_self,seval];refine zaw (epo1_ok h4 (by omega) (by omega)) ?_;rintro _ H5 ⟨rfl,h5⟩;obtain⟨L5,Q5,hh5,hl5⟩:=h5.ex;simp(disch:=omega)only[↓RD,RZ,eq_self,seval];refine zad (zif (a:=50) (n:=32) hh5 (by decide) (by decide)) ?_;rintro _ H6 ⟨v,rfl,l,L6,-,-,-,-,h6⟩;simp(disch:=omega)only[↓RD,RZ,eq_self,seval,w1];refine⟨rfl,L6,_,h6,?_,zsv hl5⟩;rw[zaP];exact List.drop_eq_nil_of_le (by have:=hl5 50; omega)
 ·rintro _ H1 ⟨rfl,h1⟩;have d1:decide (((G:Nat):Int)<((G:Nat):Int))=false:=decide_eq_false (by omega);have d1':decide (G<G)=false:=decide_eq_false (by omega);unfold zaR uL uE uB uc ub ug;simp(disch:=omega)only[↓RD,RZ,eq_self,seval,hr,cg,d1,d1'];exact h1
theorem epo0_ok{K:Kd}{H:Heap} (h:DW K H (λ_=>.nils) (λ_=>rmZ) (λ_=>[]) (List.replicate 11 0) 0) :
  Ok (M.iter (zaT (sem T) (.ptr K.d 0)) [.int .i64 0]) H λr H'=>r = .ex 0 []∧EJ K 0 (List.replicate 11 0) H':=by
 have qn:∀c x,qJ [] x c=[]:=λc x=>by unfold qJ; rw[if_neg (by simp)]
 refine za3 (λk L0 H'=>L0=[.int .i64 (k:Nat)]∧∃L Q,DW K H' L (rmW 0 ([40,41].take k)) Q (List.replicate 11 0) 0∧(k<2→Q=λ_=>[])∧Q 50=[]∧∀c,(Q c).length≤1) 2 ?_ ?_ ?_
 ·refine⟨rfl,λ_=>.nils,λ_=>[],?_,λ_=>rfl,rfl,λc=>Nat.zero_le _⟩
  ·rw[List.take_zero,rmW_nil]; exact h
 ·rintro k _ H1 hk ⟨rfl,L,Q,hh,hq,-,-⟩;rw[hq hk]at hh;have d1:decide (((k:Nat):Int)<2)=true:=decide_eq_true (by omega);have d1':decide (k<2)=true:=decide_eq_true hk;have w1:IntKind.i64.wrap (((k:Nat):Int)+1)=((k+1:Nat):Int):=by rw[wrap_i64 (by omega) (by omega)]; omega
  have w4:IntKind.i64.wrap (40+((k:Nat):Int))=((40+k:Nat):Int):=by rw[wrap_i64 (by omega) (by omega)]; omega
  have hk2:k=0∨k=1:=by omega
  have hB:zmt ([40,41].take k) (40+k)=true:=by rcases hk2 with rfl|rfl<;>decide
  have hL:joinL ([40,41].take k) (40+k)=[40,41].take (k+1):=by rcases hk2 with rfl|rfl<;>decide
  have hwho:Who ([40,41].take k):=by rcases hk2 with rfl|rfl<;>exact⟨by decide,by decide,by decide⟩
  have hn:50∉[40,41].take k:=by rcases hk2 with rfl|rfl<;>decide
  unfold zaT uL uE uB uc ug;simp(disch:=omega)only[↓RD,RZ,eq_self,seval,d1,d1',w4];refine zad (asks_ok (a:=40+k) (k:=0) hh (by decide) (by omega) hwho (by show(0:Nat)+1 < _; decide)) ?_;rintro _ H2 ⟨rfl,L2,-,h2⟩;rw[hL]at h2;rw[hB];have hW:ztp ([40,41].take k) (40+k)=qJ ([40,41].take k) (zt2 ([40,41].take k).length (40+k) (rW ([40,41].take k++[40+k]))):=by unfold ztp; rw[hB,if_pos rfl]
  rw[hW]at h2;simp(disch:=omega)only[↓RD,RZ,eq_self,seval,Bool.not_true,w1];refine⟨L2,_,h2,λhlt=>?_,?_,λc=>?_⟩
  ·obtain rfl:k=0:=by omega
   funext c;exact qn c _
  ·unfold qJ;rw[if_neg hn]
  ·unfold qJ;split
   ·exact Nat.le_refl 1
   ·exact Nat.zero_le _
 ·rintro _ H1 ⟨rfl,L,Q,hh,-,h50,hl⟩;unfold zaT uL uE uB uc ug;simp(disch:=omega)only[↓RD,RZ,eq_self,seval];exact⟨L,Q,hh,h50,hl⟩
end Go.Ax.SU
/- Ep9 -/
namespace Go.Ax.SU
open Go.Ax
theorem zoQ{α:Type}{c:V}{x y:M α}{H:Heap}{Q:α→Heap→Prop}:@OkI α c H ⟨x⟩ ⟨y⟩ ⟨Q⟩=Ok (M.ite c x y) H Q:=rfl
theorem and8:∀x,x<16→x &&& 8=if x<8 then 0 else 8:=by decide
theorem and7:∀x,x<16→x &&& 7=if x<8 then x else x-8:=by decide
theorem size_eq{x:Nat}(hx:x<16):sem T zdy [.int .u8 (x:Nat)]=M.pure (.int .i64 (psz x:Nat)):=by
 refine znJ λH=>?_;refine zni ?_;unfold zjQ psz uL uB uc ub;have a8:=and8 x hx;have a7:=and7 x hx;by_cases h:x<8
 ·rw[if_pos h]at a8 a7 ⊢;simp(maxSteps:=1000000) (disch:=first|omega|(simp only[RY]<;>omega)|decide)only[↓RD,RZ,eq_self,Int.reduceToNat,Int.reduceAdd,Int.reduceSub,Int.reduceMul,Nat.reduceAdd,Nat.reduceSub,Nat.reduceMul,Nat.reduceDiv,Nat.reduceMod,Nat.reduceBEq,Nat.reduceLeDiff,a8,a7];rfl
 ·rw[if_neg h]at a8 a7 ⊢;have e:(((x-8:Nat):Int))+1=((x-7:Nat):Int):=by omega
  simp(disch:=omega)only[↓RD,RZ,eq_self,seval,a8,a7,e]
theorem zml{lo:Nat}{H:Heap}{v:V}{l:List Nat}{x:Nat}(hx:x<16)(hv:By lo H v l)(h8:Ok8 l)(hl:l.length=psz x):Ok (sem T zcO [.int .u8 (x:Nat),v]) H λr H'=>r = .tup [.int .u64 (pnum x l:Nat),.bool (zl8 x l)]∧H'=H:=by
 refine zlh ?_;unfold zh8 uL uB uIM uG uH uc ub uq ug;have a8:=and8 x hx;by_cases h:x<8
 ·rw[if_pos h]at a8;have c:IntKind.u64.wrap ((x:Nat):Int)=((x:Nat):Int):=by rw[wrap_u64]; omega
  simp(disch:=omega)only[↓RD,RZ,eq_self,seval,a8,c];unfold pnum zl8;rw[if_pos h,if_pos h]
 ·rw[if_neg h]at a8;unfold psz at hl;rw[if_neg h]at hl;simp(disch:=omega)only[↓RD,RZ,eq_self,seval,a8,hv.vlen];refine za3 (λi L H'=>L=[.int .u64 (be (l.take i):Nat),.int .i64 (i:Nat)]∧H'=H) l.length ?_ ?_ ?_
  ·exact⟨rfl,rfl⟩
  ·rintro i _ H' hi ⟨rfl,rfl⟩;obtain⟨p,hp,hld,-⟩:=by_at hv (i:=(i:Nat)) (by omega) (by omega);have e1:=be_more2 h8 hi (by omega);have b1:=be_take_lt h8 (show i≤8 by omega);have b2:=getD_lt h8 i;simp only[Int.toNat_natCast]at hld;have e2:be (l.take i)*256%18446744073709551616<18446744073709551616:=Nat.mod_lt _ (by decide);unfold zeu uL uB uIM uc uq ug;simp(disch:=omega)only[↓RD,RZ,eq_self,seval,hp,hld,Int.toNat_natCast,e1];rfl
  ·rintro _ H' ⟨rfl,rfl⟩;obtain⟨p,hp,hld,-⟩:=by_at hv (i:=0) (by omega) (by omega);simp only[Int.toNat_zero]at hld;unfold zeu uL uB uIM uc uq ug;simp(disch:=omega)only[↓RD,RZ,eq_self,seval,List.take_length,hp,hld];have eb:(((l.getD 0 0:Nat):Int)==0)=decide (l.getD 0 0=0):=by
    by_cases h:l.getD 0 0=0
    ·rw[h]; rfl
    ·rw[decide_eq_false h];have:¬((l.getD 0 0:Nat):Int)=0:=by omega
     simpa using this
   have ef:zl8 x l=((l.getD 0 0 != 0)&&decide (8≤be l)):=by unfold zl8; rw[if_neg h]
   have ep:pnum x l=be l:=by unfold pnum; rw[if_neg h]
   rw[ef,ep,eb];by_cases h0:l.getD 0 0=0
   ·rw[decide_eq_true h0,h0];simp(disch:=omega)only[↓RD,RZ,eq_self,seval];rw[List.take_length];rfl
   ·rw[decide_eq_false h0];have e0:(l.getD 0 0 != 0)=true:=by simpa using h0
    rw[e0];have eg:decide ((8:Int)≤((be l:Nat):Int))=decide (8≤be l):=by
     by_cases h:8≤be l
     ·rw[decide_eq_true h,decide_eq_true (by omega)]
     ·rw[decide_eq_false h,decide_eq_false (by omega)]
    simp(disch:=omega)only[↓RD,RZ,eq_self,seval,eg];rw[List.take_length];rfl
def phv:PH→V
 | .err e=>.tup [.int .u64 0,.int .u64 0,.int .i64 0,.int .i64 (e:Nat)]
 | .ok kid ctr n=>.tup [.int .u64 (kid:Nat),.int .u64 (ctr:Nat),.int .i64 (n:Nat),.int .i64 0]
theorem zug{lo:Nat}{H:Heap}{v:V}{l:List Nat}(hv:By lo H v l)(h8:Ok8 l)(hl:l.length≤1125899906842624):Ok (sem T zeb [v]) H λr H'=>r=phv (parse l)∧H'=H:=by
 refine zmf ?_;unfold ziH uL uE uB uIM uG uH uc ub uq;have ez:(((l.length:Nat):Int)==0)=decide (l.length=0):=by
  by_cases h:l.length=0
  ·rw[h]; rfl
  ·rw[decide_eq_false h];have:¬((l.length:Nat):Int)=0:=by omega
   simpa using this
 simp(disch:=omega)only[↓RD,RZ,eq_self,seval,hv.vlen,ez];rw[zoQ];refine zke (λh=>?_) (λh=>?_)
 ·simp(disch:=omega)only[↓RD,RZ,eq_self,seval];unfold parse;rw[if_pos h]; rfl
 ·obtain⟨p,hp,hld,-⟩:=by_at hv (i:=0) (by omega) (by omega);simp only[Int.toNat_zero]at hld;have g8:=getD_lt h8 0;unfold parse;rw[if_neg h];generalize l.getD 0 0=x at *;have a15:x &&& 15=x%16:=Nat.and_two_pow_sub_one_eq_mod x 4;have e4:shr x 4=x/16:=by rw[zhI,Nat.shiftRight_eq_div_pow]
  have x1:=size_eq (x:=x/16) (by omega);have x2:=size_eq (x:=x%16) (by omega);have p1:psz (x/16)≤8:=by unfold psz; split<;>omega
  have p2:psz (x%16)≤8:=by unfold psz; split<;>omega
  have e1:(1:Int)+((psz (x/16):Nat):Int)=((1+psz (x/16):Nat):Int):=by omega
  have e2:((1+psz (x/16):Nat):Int)+((psz (x%16):Nat):Int)=((1+psz (x/16)+psz (x%16):Nat):Int):=by omega
  simp(disch:=omega)only[↓RD,RZ,eq_self,seval,hp,hld,e4,a15,x1,x2,e1,e2,hv.vlen];rw[zoQ];refine zke (λh1=>?_) (λh1=>?_)
  ·simp(disch:=omega)only[↓RD,RZ,eq_self,seval];rw[if_pos (by omega)]; rfl
  ·rw[if_neg (by omega)];obtain⟨va,ha,-,-,hva,-⟩:=by_slice hv (x:=1) (y:=((1+psz (x/16):Nat):Int)) (by omega) (by omega) (by omega);obtain⟨vb,hb,-,-,hvb,-⟩:=by_slice hv (x:=((1+psz (x/16):Nat):Int)) (y:=((1+psz (x/16)+psz (x%16):Nat):Int)) (by omega) (by omega) (by omega);simp only[Int.toNat_natCast,Int.toNat_one]at hva hvb;rw[←List.drop_take]at hva hvb;have la:((l.take (1+psz (x/16))).drop 1).length=psz (x/16):=by rw[List.length_drop,List.length_take]; omega
   have lb:((l.take (1+psz (x/16)+psz (x%16))).drop (1+psz (x/16))).length=psz (x%16):=by rw[List.length_drop,List.length_take]; omega
   have k1:=@zaQ _ _ _ _ (zml (by omega) hva ((h8.take _).drop _) la);have k2:=@zaQ _ _ _ _ (zml (by omega) hvb ((h8.take _).drop _) lb);simp(disch:=omega)only[↓RD,RZ,eq_self,seval,ha,hb,k1,k2];generalize (l.take (1+psz (x/16))).drop 1=ya at *;generalize (l.take (1+psz (x/16)+psz (x%16))).drop (1+psz (x/16))=yb at *;cases q1:zl8 (x/16) ya with
   | false =>
    simp(disch:=omega)only[↓RD,RZ,eq_self,seval,Bool.not_false];rw[q1]; rfl
   | true =>
    cases q2:zl8 (x%16) yb with
    | false =>
     simp(disch:=omega)only[↓RD,RZ,eq_self,seval,Bool.not_true,Bool.not_false];rw[q1,q2]; rfl
    | true =>
     simp(disch:=omega)only[↓RD,RZ,eq_self,seval,Bool.not_true,Bool.not_false];rw[q1,q2]; rfl
def zr7(k:Nat):V:=if 16777216≤k then .tup [.int .i64 0,.int .i64 0,.int .i64 0,.bool false] else .tup [.int .i64 (k/256:Nat),.int .i64 (k%256/8:Nat),.int .i64 (k%8:Nat),.bool true]
theorem zsB{a m:Nat}(ha:a<18446744073709551616)(hm:0<m):Ax.bin .quo (.int .u64 (a:Nat)) (.int .u64 (m:Nat))=some (.int .u64 (a/m:Nat)):=by
 have h0:¬((m:Nat):Int)=0:=by omega
 have h1:((a:Nat):Int).tdiv ((m:Nat):Int)=((a/m:Nat):Int):=by rw[Int.tdiv_eq_ediv_of_nonneg (by omega)]; rfl
 have h2:a/m≤a:=Nat.div_le_self _ _;simp only[Ax.bin,if_true,zcF,if_neg h0,h1,wrap_u64];generalize a/m=d at h2;rw[Int.emod_eq_of_lt (by omega) (by omega)]
theorem zsA{a m:Nat}(hm:0<m):Ax.bin .rem (.int .u64 (a:Nat)) (.int .u64 (m:Nat))=some (.int .u64 (a%m:Nat)):=by
 have h0:¬((m:Nat):Int)=0:=by omega
 have h1:((a:Nat):Int).tmod ((m:Nat):Int)=((a%m:Nat):Int):=by rw[Int.tmod_eq_emod_of_nonneg (by omega)]; rfl
 simp only[Ax.bin,if_true,zcF,if_neg h0,h1]
theorem zqa{H:Heap}{k:Nat}(hk:k<18446744073709551616):Ok (sem T zf4 [.int .u64 (k:Nat)]) H λr H'=>r=zr7 k∧H'=H:=by
 refine zp3 ?_;unfold zmN uL uB uc uq;by_cases h1:16777216≤k
 ·have b1:decide ((16777216:Int)≤((k:Nat):Int))=true:=decide_eq_true (by omega);have b1':decide (16777216≤k)=true:=decide_eq_true h1;simp(disch:=omega)only[↓RD,RZ,eq_self,seval,b1,b1',zr7,h1]
 ·have b1:decide ((16777216:Int)≤((k:Nat):Int))=false:=decide_eq_false (by omega);have b1':decide (16777216≤k)=false:=decide_eq_false h1;have w1:IntKind.i64.wrap ((k/256:Nat):Int)=((k/256:Nat):Int):=wrap_i64 (by omega) (by omega);have w2:IntKind.i64.wrap ((k%256/8:Nat):Int)=((k%256/8:Nat):Int):=wrap_i64 (by omega) (by omega);have w3:IntKind.i64.wrap ((k%8:Nat):Int)=((k%8:Nat):Int):=wrap_i64 (by omega) (by omega);have q1:Ax.bin .quo (.int .u64 (k:Nat)) (.int .u64 256)=some (.int .u64 (k/256:Nat)):=zsB (m:=256) hk (by decide);have q2:Ax.bin .rem (.int .u64 (k:Nat)) (.int .u64 256)=some (.int .u64 (k%256:Nat)):=zsA (m:=256) (by decide);have q3:Ax.bin .rem (.int .u64 (k:Nat)) (.int .u64 8)=some (.int .u64 (k%8:Nat)):=zsA (m:=8) (by decide);have q4:Ax.bin .quo (.int .u64 (k%256:Nat)) (.int .u64 8)=some (.int .u64 (k%256/8:Nat)):=zsB (m:=8) (by omega) (by decide);simp(disch:=omega)only[↓RD,RZ,eq_self,seval,b1,b1',zr7,h1,q1,q2,q3,q4,w1,w2,w3]
def payK(k:Nat):List Nat:=if k<8 then [k*16] else if k<256 then [128,k] else [144,k/256,k%256]
theorem payK_8{k:Nat}(hk:k<2048):Ok8 (payK k):=by
 unfold payK;split
 ·intro y hy; rw[List.mem_singleton]at hy; omega
 split
 ·intro y hy; simp at hy; omega
 ·intro y hy; simp at hy; omega
theorem ztc{k:Nat}(hk:k<2048):∃n,parse (payK k) = .ok k 0 n:=by
 unfold payK;by_cases h8:k<8
 ·rw[if_pos h8];refine⟨1,?_⟩;have e1:k*16/16=k:=by omega
  have e2:k*16%16=0:=by omega
  simp[parse,psz,pnum,zl8,e1,e2,h8]
 rw[if_neg h8];by_cases h256:k<256
 ·rw[if_pos h256];refine⟨2,?_⟩;have h1:k≠0:=by omega
  have h2:8≤k:=by omega
  simp[parse,psz,pnum,zl8,be,h1,h2]
 ·rw[if_neg h256];refine⟨3,?_⟩;have h1:k/256≠0:=by omega
  have h2:k/256*256+k%256=k:=by omega
  have h3:8≤k:=by omega
  simp[parse,psz,pnum,zl8,be,h1,h2,h3]
end Go.Ax.SU
/- Ep11 -/
namespace Go.Ax.SU
open Go.Ax Go.Proofs
theorem sem_elim{f:FuncId}{ir:Fn'}(hT:T f=some ir){args:List V}{H:Heap}{r:V×Heap}(h:sem T f args H=some r):ir.run (sem T) args H=some r:=by
 obtain⟨n,hn⟩:=zvb f args H r h;have h':(match T f with|some ir=>if args.length≤ir.ntmps then ir.run (deep T n) args else M.fail|none=>M.fail) H=some r:=hn (n+1) (Nat.le_succ n);rw[hT]at h';dsimp only at h';split at h'
 ·obtain⟨k,hk⟩:=zvC (g:=λ_=>sem T) (G:=deep T n) (λf args H r e=>.const (zfs e)) ir args H r h';exact hk k (Nat.le_refl _)
 ·cases h'
theorem zvv{f:FuncId}{ir:Fn'}(hT:T f=some ir){args:List V}{x:M Res} (hx:execK (sem T) ir.rv ir.body [] [] (params 0 args)=x) {H:Heap} {Q:V→Heap→Prop} (h:Ok (sem T f args) H Q):Ok x H λr H'=>∃L,r = .ret L∧Q (zc4 L) H':=by
 obtain⟨v,H',e,hq⟩:=h;have e':=sem_elim hT e;have e':((exec (sem T) ir.rv ir.body [] [] (params 0 args)).bind λr=>match r with | .ret L=>M.pure (zc4 L) | _=>M.fail) H=some (v,H'):=e';rw[←zsr,hx]at e';obtain⟨r,H1,h1,h2⟩:=bind_some e';refine⟨r,H1,h1,?_⟩;cases r with
 | ret L =>
  simp only[M.pure,Option.some.injEq,Prod.mk.injEq]at h2;obtain⟨rfl,rfl⟩:=h2;exact⟨L,rfl,hq⟩
 | _=>cases h2
theorem zse{α β:Type}{x:M α}{f g:α→M β}{H:Heap}{Q:β→Heap→Prop} (k:∀v H1,x H=some (v,H1)→Ok (f v) H1 Q→Ok (g v) H1 Q) (h:Ok (x.bind f) H Q):Ok (x.bind g) H Q:=by
 obtain⟨r,H',e,hq⟩:=h;obtain⟨v,H1,h1,h2⟩:=bind_some e;obtain⟨r',H'',e',hq'⟩:=k v H1 h1 ⟨r,H',h2,hq⟩;exact⟨r',H'',by rw[bind_ok h1]; exact e',hq'⟩
theorem zqO{e:Nat}{H:Heap}{v:V}{q:List V×Nat}(h:rcells e H v=some q):acells e H v=some q:=by
 cases v<;>first|exact h|cases h
theorem Over_rs{H:Heap}{v:V}{cells:List V}{n:Nat}{Q:V→Heap→Prop} (hv:rcells 1 H v=some (cells,n)) (hr:rcells 1 H (.rs cells n)=some (cells,n)) (h:Ok (sem T zdc [.rs cells n]) H Q):Ok (sem T zdc [v]) H Q:=by
 have h:=zvv zpB (zqz (sem T) _) h;refine zp5 ?_;unfold zi0 uL uO uc at h ⊢;obtain⟨r,H',e,hq⟩:=h;obtain⟨w,H1,h1,h2⟩:=bind_some e;refine⟨r,H',?_,hq⟩;have h1':mappend zak 1 1 .nils v H=some (w,H1):=by
  unfold mappend at h1 ⊢;rw[zqO hr]at h1;rw[zqO hv];exact h1
 rw[bind_ok h1'];exact h2
def ddB:List Nat:=[192,0,1,128,0,224]
def zS6:List V:=[.int .i64 0,.int .i64 0,.nils,.int .i64 0,.nils,.nils]
def frD(d:Nat):List V:=[.bool true,.bool true,.int .i64 0,.int .u16 1,.bool true,.int .i64 0,.int .i64 1,.sl (8+d) 0 1 (.fix 1),.int .i64 0,.nils,.nils,.bool false,.int .u32 0,.bool false,.bool false,.bool false,.sl (21+d) 0 1 (.opn 1),.nils,.nils]
def isD (r:Option (V×Cc.Heap)):Bool:=match r with|some (.tup [.agg cs,e],c)=>Cc.sames cs (frD 0)&&Cc.same1 e (.int .i64 0) | _=>false
theorem dd_run:isD (Cc.cd T 40 zbt [.rs (ddB.map by8) 6,.agg zS6] ⟨.e,0⟩)=true:=by kernel_rfl
theorem Parse_rs{H:Heap}(hc:H.Cl):Ok (sem T zbt [.rs (ddB.map by8) 6,.agg zS6]) H λr H'=>r = .tup [.agg (frD H.next),.int .i64 0]∧Grow H H'∧H'.Cl:=by
 have h:=dd_run;cases hr:Cc.cd T 40 zbt [.rs (ddB.map by8) 6,.agg zS6] ⟨.e,0⟩with
 | none=>rw[hr]at h; cases h
 | some q =>
  obtain⟨v,c⟩:=q;rw[hr]at h;unfold isD at h;split at h
  ·rename_i cs e c' he;injection he with he
   injection he with he1 he2
   subst he1 he2;rw[Bool.and_eq_true]at h;have e1:=Cc.sames_eq h.1;have e2:=Cc.same1_eq h.2;subst e1 e2;refine zaw (zrL hT hr rfl hc) ?_;rintro _ H' ⟨rfl,-,s,cl⟩;exact⟨by simp only[sh,shL,frD,Nat.add_assoc]; rw[Nat.add_comm 0 H.next]; rfl,s,cl⟩
  ·cases h
theorem Parse_dd{lo:Nat}{H:Heap}{v:V}(hv:By lo H v ddB)(hc:H.Cl):Ok (sem T zbt [v,.agg zS6]) H λr H'=>r = .tup [.agg (frD H.next),.int .i64 0]∧Grow H H'∧H'.Cl:=by
 have h:=zvv zlR (zmP (sem T) _ _) (Parse_rs hc);refine zmh ?_;unfold zgp uL uM uS uT uF uFM uNFM uNF uE uB uG uH uO uU uc at h ⊢;have l1:vlen (.rs (ddB.map by8) 6)=some (.int .i64 6):=rfl;have l2:vlen v=some (.int .i64 6):=hv.vlen;simp only[l1]at h;simp only[l2];refine zse (λt3 H1 e1 h=>?_) h;have s1:Grow H H1:=by
  unfold mbox at e1;split at e1
  ·injection e1 with e1; injection e1 with _ e1; subst e1; exact Grow.new _ _
  ·cases e1
 refine zse (λt4 H2 e2 h=>?_) h;have s2:Grow H1 H2:=by
  unfold mbox at e2;split at e2
  ·injection e2 with e2; injection e2 with _ e2; subst e2; exact Grow.new _ _
  ·cases e2
 obtain⟨r,H',e,hq⟩:=h;obtain⟨w,H3,h1,h2⟩:=bind_some e;refine⟨r,H',?_,hq⟩;have hb:=(hv.ext (s1.trans s2)).rc;obtain⟨w',H3',h1',rfl,rfl⟩:=Over_rs (Q:=λx y=>x=w∧y=H3) hb rfl ⟨w,H3,h1,rfl,rfl⟩;rw[bind_ok h1'];exact h2
theorem Add_1{H:Heap}(hc:H.Cl):Ok (sem T zg7 [.nils,.int .u16 1]) H λr H'=>r = .sl (3+H.next) 0 1 (.opn 1)∧Grow H H'∧H'.Cl:=by
 have h:isV (Cc.cd T 40 zg7 [.nils,.int .u16 1] ⟨.e,0⟩) (.sl 3 0 1 (.opn 1))=true:=by kernel_rfl
 exact isV_ok h rfl hc
theorem Has_1{H:Heap}(hc:H.Cl):Ok (sem T zg6 [.nils,.int .u16 1]) H λr H'=>r = .bool false∧Grow H H'∧H'.Cl:=by
 have h:isV (Cc.cd T 40 zg6 [.nils,.int .u16 1] ⟨.e,0⟩) (.bool false)=true:=by kernel_rfl
 exact isV_ok h rfl hc
end Go.Ax.SU
/- Rtp7 -/
namespace Go.Ax.R7
open Go.Ax
theorem w_at{lo:Nat}{H:Heap}{v:V}{l:List Nat} (h:Lc 1 lo H v (l.map by32) l.length) {i:Nat} (hi:i<l.length):∃p,(∀{k:IntKind},Ax.iaddr none 1 v (.int k i)=some p)∧LdR none H p (.int .u32 (l[i]:Nat)):=by
 obtain⟨p,hp,hl⟩:=h.at (i:=(i:Nat)) (by omega) (by omega);have e:((l.map by32).drop ((i:Int).toNat*1)).take 1=[by32 l[i]]:=by
  rw[Nat.mul_one,Int.toNat_natCast,←List.map_drop,List.drop_eq_getElem_cons hi]; rfl
 rw[e]at hl;refine⟨p,hp,λf Q=>?_⟩;rw[hl.ld0 (by simp)];exact zod
theorem zr6{H:Heap}{p a b:V}{own:Option Nat} (h:Pl H p [a,b] own):LdR none H (fa p 0) a∧LdR none H (fa p 1) b :=
 ⟨λf Q=>by rw[h.ld (by simp)]; exact zod,λf Q=>by rw[h.ld (by simp)]; exact zod⟩
theorem Exs.own{lo:Nat}{H:Heap}{v:V}{xs:List X}(h:Exs lo H v xs):∀id,v.pid=some id→lo≤id∧id<H.next:=by
 obtain⟨ws,rfl,h2,h3⟩:=h;exact h2.own
end Go.Ax.R7
/- Rtp8 -/
namespace Go.Ax.R7
open Go.Ax
structure Fit (p:Pkt):Prop where
 a:p.csrc.length≤15
 b:p.exts.length≤1200
 c:p.pay.length≤1200
 d:∀x∈p.exts,x.2.length≤1200
end Go.Ax.R7
namespace Go.Ax
open R7
end Go.Ax
/- Rtp9 -/
namespace Go.Ax.R7
open Go.Ax
structure Sml (p:Pkt):Prop where
 a:p.csrc.length≤1048576
 b:p.exts.length≤1048576
 c:p.pay.length≤1048576
 d:∀x∈p.exts,x.2.length≤1048576
def idxV:Option Nat→V
 | some i=>.int .i64 (i:Nat)
 | none=>.int .i64 (-1)
theorem zqR{lo:Nat}{H:Heap}{v f:V}{xs:List X}(h:Exs lo H v xs)(P:X→Bool)(hn:xs.length≤1099511627776)
  (hf:∀H',Grow H H'→∀(x:X) (bv:V),By lo H' bv x.2→Ok (callv (sem T) f [.agg [.int .i64 x.1,bv]]) H' λr H''=>r = .bool (P x)∧Grow H' H'') :
  Ok (sem T zaZ [v,f]) H λr H'=>r=idxV (xs.findIdx? P)∧Grow H H':=by
 refine zdG ?_;unfold zb4 uL uc;simp(disch:=omega)only[↓RD,RZ,h.vlen];refine za3 (λk L H'=>L=[.int .i64 (k:Nat)]∧Grow H H'∧∀j (hj:j<xs.length),j<k→P xs[j]=false) xs.length ?_ ?_ ?_
 ·exact⟨rfl,Grow.refl _,λj hj hk=>absurd hk (by omega)⟩
 ·rintro k L H1 hk ⟨rfl,s1,hP⟩;obtain⟨q,bv,i1,l1,w1⟩:=(h.ext s1).at hk;have l2:=l1.all;dsimp only[List.length_cons,List.length_nil]at l2;unfold zbd uS uB uI uc ug;simp(disch:=omega)only[↓RD,RZ,i1,l2];refine zad (hf H1 s1 _ bv w1) ?_;rintro _ H2 ⟨rfl,s2⟩;cases hp:P xs[k]with
  | true =>
   simp(disch:=omega)only[↓RD,RZ];refine⟨?_,s1.trans s2⟩;have:xs.findIdx? P=some k:=List.findIdx?_eq_some_iff_getElem.2 ⟨hk,hp,λj hj=>by rw[hP j (by omega) hj]; decide⟩;rw[this]; rfl
  | false =>
   simp(disch:=omega)only[↓RD,RZ];refine⟨by rfl,s1.trans s2,λj hj hjk=>?_⟩;rcases Nat.lt_or_ge j k with h|h
   ·exact hP j hj h
   ·have:j=k:=by omega
    subst this; exact hp
 ·rintro L H1 ⟨rfl,s1,hP⟩;unfold zbd uS uB uI uc ug;simp(disch:=omega)only[↓RD,RZ];refine⟨?_,s1⟩;have:xs.findIdx? P=none:=List.findIdx?_eq_none_iff.2 λx hx=>by
   obtain⟨j,hj,rfl⟩:=List.getElem_of_mem hx;exact hP j hj hj
  rw[this]; rfl
def fd(a:Int)(xs:List X):Option Nat:=xs.findIdx? λx=>x.1==a
theorem fd_lt{a:Int}{xs:List X}{i:Nat}(h:fd a xs=some i):i<xs.length:=(List.findIdx?_eq_some_iff_getElem.1 h).1
theorem at_ok{lo:Nat}{H:Heap}{v:V}{p:Pkt}(h:PkR lo H v p)(a:Int)(hn:p.exts.length≤1099511627776) :
  Ok (sem T zjB [v,.int .i64 a]) H λr H'=>r=idxV (fd a p.exts)∧Grow H H':=by
 obtain⟨cv,xv,pv,rfl,hc,hx,hp⟩:=h;refine zvt ?_;unfold zsp uFM uO;unfold pcells;simp(disch:=first|omega|(simp only[RY]<;>omega)|decide)only[↓RD,RZ,Nat.reduceAdd,hc.cells1,hx.cells1,hp.cells1,hc.okc,hx.okc,hp.okc];generalize hH2:Heap.new (Heap.new H _) _=H2;have s2:Grow H H2:=by rw[←hH2]; exact(Grow.new _ _).trans (Grow.new _ _)
 have n2:H2.next=H.next+2:=by rw[←hH2]; rfl
 have g2:H2.get (H.next+1)=some ⟨zfn,[.int .i64 a],none⟩:=by rw[←hH2]; exact zac _ _
 clear hH2;refine zad (zqR (hx.ext s2) (λx=>x.1==a) hn λH3 s3 x bv hb=>?_) ?_
 ·have g3:H3.get (H.next+1) = _:=(s3.same _ (by omega)).trans g2;have n3:=s3.next;show Ok (sem T zg4 [.agg [.int .i64 x.1,bv],.ptr (H.next+1) 0]) H3 _;refine zra ?_;unfold zn1 uM uFM uB uO;simp(disch:=first|omega|(simp only[RY]<;>omega)|decide)only[↓RD,RZ,Nat.reduceAdd,hb.cells1,hb.okc,g3];exact Grow.new _ _
 ·rintro _ H3 ⟨rfl,s3⟩;simp(disch:=first|omega|(simp only[RY]<;>omega)|decide)only[↓RD,RZ,Nat.reduceAdd];exact⟨rfl,s2.trans s3⟩
def FQ(lo:Nat)(H:Heap) (o:Option (List Nat)) (r:V):Prop:=match o with
 | none=>r = .tup [.nils,.bool false]
 | some l=>∃bv,r = .tup [bv,.bool true]∧By lo H bv l
def got(a:Int)(p:Pkt):Option (List Nat):=(p.exts.find? λx=>x.1==a).map (·.2)
theorem got_some{a:Int}{p:Pkt}{i:Nat}(h:fd a p.exts=some i):got a p=some (p.exts[i]'(fd_lt h)).2:=by
 obtain⟨h1,h2,h3⟩:=List.findIdx?_eq_some_iff_getElem.1 h;unfold got;have:p.exts.find? (λx=>x.1==a)=some p.exts[i]:=List.find?_eq_some_iff_getElem.2 ⟨h2,i,h1,rfl,λj hj=>by simpa using h3 j hj⟩;rw[this]; rfl
theorem got_none{a:Int}{p:Pkt}(h:fd a p.exts=none):got a p=none:=by
 have:=List.findIdx?_eq_none_iff.1 h;unfold got;rw[List.find?_eq_none.2 λx hx=>by rw[this x hx]; decide]; rfl
theorem Find_ok{lo:Nat}{H:Heap}{v:V}{p:Pkt}(h:PkR lo H v p)(a:Int)(hs:Sml p) :
  Ok (sem T zg5 [v,.int .i64 a]) H λr H'=>FQ 0 H' (got a p) r∧Grow H H':=by
 have h0:=h;obtain⟨cv,xv,pv,rfl,hc,hx,hp⟩:=h;refine zrb ?_;unfold zn2 uS uFM uB uI uO uc;have hn:=hs.b;unfold pcells;simp(disch:=first|omega|(simp only[RY]<;>omega)|decide)only[↓RD,RZ,Nat.reduceAdd,hc.cells1,hx.cells1,hp.cells1,hc.okc,hx.okc,hp.okc];generalize hH1:Heap.new H _=H1;have s1:Grow H H1:=by rw[←hH1]; exact Grow.new _ _
 have n1:H1.next=H.next+1:=by rw[←hH1]; rfl
 have g1:H1.get H.next=some ⟨zaC,pcells p cv xv pv,none⟩:=by rw[←hH1]; exact zac _ _
 clear hH1;unfold pcells at g1;refine zad (at_ok (h0.ext s1) a (by omega)) ?_;rintro _ H2 ⟨rfl,s2⟩;have g2:H2.get H.next = _:=(s2.same _ (by omega)).trans g1;cases hf:fd a p.exts with
 | none =>
  unfold idxV;simp(disch:=first|omega|(simp only[RY]<;>omega)|decide)only[↓RD,RZ,Nat.reduceAdd];rw[got_none hf];exact⟨rfl,s1.trans s2⟩
 | some i =>
  have hi:=fd_lt hf;obtain⟨q,bv,i1,l1,w1⟩:=((hx.ext s1).ext s2).at hi;have hd:=hs.d _ (List.getElem_mem hi);unfold idxV;simp(disch:=first|omega|(simp only[RY]<;>omega)|decide)only[↓RD,RZ,Nat.reduceAdd,g2,i1,l1.fa,(zr6 l1).2];refine zad (zps w1 (by omega)) ?_;rintro bv' H3 ⟨hb,s3⟩;simp(disch:=first|omega|(simp only[RY]<;>omega)|decide)only[↓RD,RZ,Nat.reduceAdd];rw[got_some hf];exact⟨⟨bv',rfl,hb.low (by omega)⟩,(s1.trans s2).trans s3⟩
end Go.Ax.R7
/- Ep12 -/
namespace Go.Ax.SU
open Go.Ax
structure KS (K:Kd) (xs:List V):Prop where
 len:xs.length=11
 st:∀t y,t<33→(xs++zSt.drop 11)[t]?=some y→K.ot (39+t)=some y
 ln:∀j,j<64→K.ot (303+j)=some .nilp
theorem put_in{K:Kd}{k m:Nat}{xs:List V}(h1:k≤m)(h2:m<k+xs.length):(K.put k xs).ot m=xs[m-k]?:=if_pos ⟨h1,h2⟩
theorem zl7{K:Kd}{k m:Nat}{xs:List V}(h:m<k∨k+xs.length≤m):(K.put k xs).ot m=K.ot m:=if_neg (by omega)
theorem KS.of{K:Kd}{xs:List V}(hz:ZK K)(hx:xs.length=11):KS (K.put 39 xs) xs:=by
 refine⟨hx,λt y ht h=>?_,λj hj=>?_⟩
 ·by_cases h11:t<11
  ·rw[put_in (by omega) (by omega),show 39+t-39=t by omega];rw[List.getElem?_append_left (by omega)]at h;exact h
  ·rw[zl7 (by omega),hz];rw[List.getElem?_append_right (by omega),List.getElem?_drop,hx,show 11+(t-11)=t by omega]at h;have e:(dkJ K.d K.C 64)[0*367+(39+0*33+t)]?=zSt[t]?:=by
    rw[zis (by decide) (by omega),zlx (by decide) ht]
   rw[show 0*367+(39+0*33+t)=39+t by omega,h]at e;exact e
 ·rw[zl7 (by omega),hz];have e:(dkJ K.d K.C 64)[0*367+(303+j)]?=zle[303+j]?:=zis (by decide) (by omega);rw[znA hj,show 0*367+(303+j)=303+j by omega]at e;exact e
section
variable {K:Kd} {H:Heap} {L:Nat→V} {D:List V} {rm:Nat→Rm} {q:Nat→List (V×Ot)} {Q:Nat→List Ot} {ns:List Nat} {nw:Int} {xs:List V}
theorem KS.l33(hk:KS K xs):(xs++zSt.drop 11).length=33:=by rw[List.length_append,List.length_drop,zj2,hk.len]
theorem KS.at'(hk:KS K xs)(h:DA K H L D rm q ns nw){t:Nat}(ht:t<33):D[39+t]?=(xs++zSt.drop 11)[t]?:=by
 have hlt:t<(xs++zSt.drop 11).length:=by rw[hk.l33]; exact ht
 have e:(xs++zSt.drop 11)[t]?=some (xs++zSt.drop 11)[t]:=List.getElem?_eq_getElem hlt;rw[e];exact h.ot _ _ (hk.st t _ ht e) (zsa (i:=0) (m:=39+t) (by decide) (by omega) (by omega) (by omega))
theorem KS.seg(hk:KS K xs)(h:DA K H L D rm q ns nw){n:Nat}(hn:n≤33):ldc (some n) D 39=some (.agg ((xs++zSt.drop 11).take n)):=by
 have hl:=h.len;simp only[ldc];rw[if_pos (by omega)];congr 2;apply List.ext_getElem?;intro j;rw[List.getElem?_take,List.getElem?_take];by_cases hj:j<n
 ·rw[if_pos hj,if_pos hj,List.getElem?_drop,hk.at' h (by omega)]
 ·rw[if_neg hj,if_neg hj]
theorem KS.s33(hk:KS K xs)(h:DA K H L D rm q ns nw):ldc (some 33) D 39=some (.agg (xs++zSt.drop 11)):=by
 rw[hk.seg h (Nat.le_refl _),List.take_of_length_le (Nat.le_of_eq hk.l33)]
theorem KS.s11(hk:KS K xs)(h:DA K H L D rm q ns nw):ldc (some 11) D 39=some (.agg xs):=by
 rw[hk.seg h (by decide),←hk.len,List.take_left'];rfl
end
theorem ia0{d o m n:Nat}(hn:0<n){k:IntKind}:Ax.iaddr (some n) m (.ptr d o) (.int k 0)=some (.ptr d o):=by
 simp only[Ax.iaddr];rw[if_pos (by omega)];simp
theorem source_s{K:Kd}{H:Heap}{L:Nat→V}{rm:Nat→Rm}{Q:Nat→List Ot}{ns:List Nat}{nw:Int}(hh:DW K H L rm Q ns nw) (hk:KS K (stC 77 0)) :
  Ok (sem T zby [.ptr K.d 0,.int .i64 0,.int .u32 77]) H λr H'=>r = .tup [.int .i64 0,.bool true]∧Grow H H':=by
 refine zfu ?_;unfold zee uS uNF uI uc;obtain⟨D,q,h,hQ⟩:=hh;have g:=h.blk;have hl:=hk.s33 h;have ia:=λ{k}=>@ia0 K.d 39 33 8 (by decide) k;have n:Ax.index 3 11 (some 11) (.agg (stC 77 0++zSt.drop 11)) (.int .i64 0)=some (.agg (stC 77 0)):=rfl;simp(disch:=omega)only[↓RD,RZ,eq_self,seval,g,hl,ia];refine zoz (λL H' n=>L=[.int .i64 0]∧H'=H) 0 ⟨rfl,rfl⟩ ?_;rintro _ H1 n' ⟨rfl,rfl⟩;unfold zcs uL uT uFM uB uG uH uO uc ug;unfold stC at n ⊢;simp(disch:=first|omega|(simp only[RY]<;>omega)|decide)only[↓RD,RZ,eq_self,seval,n];exact(Grow.new _ _).set (Nat.le_refl _) _
theorem zoy{β:Type}{H:Heap}{ty:TypeId}{zs:List V}{f:V→M β}{Q:β→Heap→Prop}(hc:H.Cl) (k:∀q H',q=H.next→H'.get q=some ⟨ty,zs,none⟩→Grow H H'→H'.next=H.next+1→H'.Cl→Ok (f (.ptr q 0)) H' Q):Ok ((mbox ty (.agg zs)).bind f) H Q:=by
 refine zao (zaK rfl ?_);rw[zam];exact k _ _ rfl (zac _ _) (Grow.new _ _) rfl (zjY hc _)
theorem zik{β:Type}{H:Heap}{ty:TypeId}{n:Nat}{zs cs:List V}{f:V→V→M β}{Q:β→Heap→Prop}(hc:H.Cl)(hz:zs.length=n)(hl:cs.length=n) (k:∀q H',q=H.next→H'.get q=some ⟨ty,cs,none⟩→Grow H H'→H'.next=H.next+1→H'.Cl→Ok (f (.ptr q 0) .undef) H' Q) :
  Ok ((mbox ty (.agg zs)).bind λt=>(mstore n t (.agg cs)).bind λu=>f t u) H Q:=by
 refine zao (zaK rfl ?_);rw[zam];have g:=zac H ⟨ty,zs,none⟩;refine zao (zsd g (by rw[zam]; exact hl) (by show 0+n≤zs.length; omega) rfl ?_);refine k _ _ rfl ?_ ((Grow.new _ _).set (Nat.le_refl _) _) rfl (zmW (zjY hc _) (by rw[zaf]; omega) _);rw[zan,zam];congr 2;unfold splice;rw[List.take_zero,List.nil_append,List.drop_of_length_le (by show zs.length≤0+cs.length; omega),List.append_nil]
def kB(k:Nat):List Nat:=[144,96,0,1,0,0,0,0,0,0,0,77,190,222,0,2,21,192,0,1,128,0,224,0]++payK k
def pkK(l:List Nat):R7.Pkt:=⟨false,96,1,0,77,[],48862,[(1,ddB)],0,l⟩
theorem kB_parse(k:Nat):R7.parse (kB k) = .ok (pkK (payK k)):=by
 unfold kB payK;split
 ·kernel_rfl
 split
 ·kernel_rfl
 ·kernel_rfl
theorem kB_8{k:Nat}(hk:k<2048):Ok8 (kB k):=by
 intro y hy;rcases List.mem_append.1 hy with h|h
 ·have key:([144,96,0,1,0,0,0,0,0,0,0,77,190,222,0,2,21,192,0,1,128,0,224,0].all λy=>decide (y<256))=true:=by decide
  exact of_decide_eq_true (List.all_eq_true.1 key y h)
 ·exact payK_8 hk y h
theorem zlF(k:Nat):1≤(payK k).length∧(payK k).length≤3:=by
 unfold payK;split
 ·exact⟨Nat.le_refl 1,Nat.le_of_ble_eq_true rfl⟩
 split
 ·exact⟨Nat.le_of_ble_eq_true rfl,Nat.le_of_ble_eq_true rfl⟩
 ·exact⟨Nat.le_of_ble_eq_true rfl,Nat.le_of_ble_eq_true rfl⟩
theorem kB_len(k:Nat):25≤(kB k).length∧(kB k).length≤27:=by
 have:=zlF k;unfold kB;rw[List.length_append];show 25≤24 + _∧24 + _≤27;omega
end Go.Ax.SU
/- Ep13 -/
namespace Go.Ax.SU
open Go.Ax
def zmq(k e:Nat):Bool:=decide (k%8=0)&&(decide (k/256=e)||decide (k/256+1=e))
def pkS(k d:Nat)(cv xv pv:V):List V:=R7.pcells (pkK (payK k)) cv xv pv++([.int .i64 0,.int .i64 (k/256:Nat)]++frD d)
theorem parts_k{k:Nat}(hk:k<2048):zr7 k = .tup [.int .i64 (k/256:Nat),.int .i64 (k%256/8:Nat),.int .i64 (k%8:Nat),.bool true]:=if_neg (by omega)
theorem phv_k{k:Nat}(hk:k<2048):∃n:Nat,phv (parse (payK k)) = .tup [.int .u64 (k:Nat),.int .u64 0,.int .i64 n,.int .i64 0]:=by
 obtain⟨n,h⟩:=ztc hk;exact⟨n,by rw[h]; rfl⟩
theorem sml_k{l:List Nat}(hl:l.length≤3):R7.Sml (pkK l):=by
 refine⟨Nat.zero_le _,by show 1≤_; decide,by show l.length≤_; omega,λx hx=>?_⟩;have hx:x∈[((1:Int),ddB)]:=hx;rw[List.mem_singleton]at hx;subst hx;show 6≤1048576;decide
theorem packet_s{lb e k:Nat}{K:Kd}{H:Heap}{L:Nat→V}{rm:Nat→Rm}{Q:Nat→List Ot}{ns:List Nat}{nw:Int}{bv:V}(hh:DW K H L rm Q ns nw) (hr:RmO (rm 0)) (he:(rm 0).ep=(e:Nat)) (h5:e<5) (hK:KS K (stC 77 0)) (hc:H.Cl) (hb:By lb H bv (kB k)) (hk:k<2048) :
  Ok (sem T zcL [.ptr K.d 0,.int .i64 0,bv]) H λr H'=>Grow H H'∧H'.Cl∧(if zmq k e=true then ∃d cv xv pv,r = .tup [.agg (pkS k d cv xv pv),.int .i64 0] else r = .tup [.agg pkZ,.int .i64 6]):=by
 refine ziO ?_;unfold zf6 uL uS uT uF uFM uNF uE uB uI uG uH uO uc;refine zoy hc λq6 H1 e6 g0 s0 n0 c0=>?_;have h1:=hh.grow s0;have hl:=(kB_len k).2;refine zad (zlj c0 (R7.Parse_ok (hb.ext s0) (kB_8 hk) (by omega))) ?_;rintro res H2 ⟨⟨s2,hP⟩,c2⟩;have h2:=h1.grow s2;have n2:=s2.next;have g2:=(s2.same q6 (by omega)).trans g0;rw[kB_parse]at hP;obtain⟨z,rfl,hz⟩:=hP;have hz0:=hz;obtain⟨cv,xv,pv,rfl,l1,l2,l3⟩:=hz;have o1:=l1.okc;have o2:=l2.okc;have o3:=l3.okc;unfold R7.pcells pkK at hz0 ⊢;refine zat rfl ?_;refine zat rfl ?_;refine zik c2 rfl rfl λq8 HH e8 g8 sH nH cH=>?_;simp(disch:=omega)only[↓RD,RZ,eq_self,seval,g8];refine zad (zlj cH (source_s (h2.grow sH) hK)) ?_;rintro _ H3 ⟨⟨rfl,s3⟩,c3⟩;have h3:=(h2.grow sH).grow s3;have g83:=(s3.same q8 (by omega)).trans g8;obtain⟨n,hph⟩:=phv_k hk;have l33:By H1.next H3 pv (payK k):=(l3.ext sH).ext s3;have hp1:=@zaQ _ _ _ _ (zug l33 (payK_8 hk) (by have:=(zlF k).2; omega));rw[hph]at hp1;have hp2:=@zaQ _ _ _ _ (zqa (H:=H3) (k:=k) (by omega));rw[parts_k hk]at hp2;obtain⟨D,q,hd,hQ⟩:=id h3;have gd:=hd.blk;have hep:D[16]?=some (.int .i64 (e:Nat)):=by
  have e1:=hd.r1 (i:=0) (by decide) (k:=16) (by decide);rw[show 0*367+16=16 by rfl]at e1;rw[e1,show(16:Nat)=16+0 by rfl,zs9 hr 0 (by decide)];show some (V.int .i64 (rm 0).ep) = _;rw[he]
 have g63:=((sH.trans s3).same q6 (by omega)).trans g2;have hdl:=hd.dl;generalize he2:k/256=E at *;have hE:E<8:=by omega
 have we:IntKind.i64.wrap (((e:Nat):Int)-1)=((e:Nat):Int)-1:=wrap_i64 (by omega) (by omega);have q1:(((k%8:Nat):Int)==0)=decide (k%8=0):=by
  by_cases h:k%8=0
  ·rw[h]; rfl
  ·rw[decide_eq_false h]; exact beq_false_of_ne (by omega)
 have q1':(k%8==0)=decide (k%8=0):=by
  by_cases h:k%8=0
  ·rw[h]; rfl
  ·rw[decide_eq_false h]; exact beq_false_of_ne h
 have q2:(((E:Nat):Int)==((e:Nat):Int))=decide (E=e):=beq_n E e;have q3:(((E:Nat):Int)==((e:Nat):Int)-1)=decide (E+1=e):=by
  by_cases h:E+1=e
  ·rw[decide_eq_true h]; exact beq_of_eq (by omega)
  ·rw[decide_eq_false h]; exact beq_false_of_ne (by omega)
 have ko:zmq k e=(decide (k%8=0)&&(decide (E=e)||decide (E+1=e))):=by unfold zmq; rw[he2]
 have no:Grow H (H3.set q6 (some ⟨zdt,pkZ,none⟩))∧(H3.set q6 (some ⟨zdt,pkZ,none⟩)).Cl:=by
  have sA:=(s0.trans s2).trans (sH.trans s3);exact⟨sA.set (by omega) _,zmW c3 (by have:=(s2.trans (sH.trans s3)).next; omega) _⟩
 unfold pkZ at no;simp(maxSteps:=1000000) (disch:=first|omega|(simp only[RY]<;>omega)|decide)only[↓RD,RZ,eq_self,Int.reduceToNat,Int.reduceAdd,Int.reduceSub,Int.reduceMul,Nat.reduceAdd,Nat.reduceSub,Nat.reduceMul,Nat.reduceDiv,Nat.reduceMod,Nat.reduceBEq,Nat.reduceLeDiff,hp1,hp2,gd,hep,g83,q1,q1'];by_cases hb1:k%8=0
 ·rw[decide_eq_true hb1];by_cases hy:E=e∨E+1=e
  ·have kt:zmq k e=true:=by
    rw[ko,decide_eq_true hb1,Bool.true_and];rcases hy with hy|hy
    ·rw[decide_eq_true hy]; rfl
    ·rw[decide_eq_true hy,Bool.or_true]
   rcases hy with hy|hy
   all_goals
    first
    | rw[decide_eq_true hy]at q2
    | (rw[decide_eq_false (show ¬E=e by omega)]at q2; rw[decide_eq_true hy]at q3)
    simp(disch:=first|omega|(simp only[RY]<;>omega)|decide)only[↓RD,RZ,eq_self,seval,q2,q3,we,Bool.not_false,Bool.not_true,g83];refine zad (zlj c3 (R7.Find_ok (hz0.ext (sH.trans s3)) 1 (sml_k (zlF k).2))) ?_;rintro _ H4 ⟨⟨hF,s4⟩,c4⟩;obtain⟨dv,rfl,hdd⟩:∃dv,_=V.tup [dv,.bool true]∧By 0 H4 dv ddB:=hF;have h4:=h3.grow s4;obtain⟨D4,q4,hd4,-⟩:=id h4;have gd4:=hd4.blk;have hs11:=hK.s11 hd4;have i1:=λ{k}=>@ia0 K.d 39 33 8 (by decide) k;have i2:=λ{k}=>@ia0 K.d 39 11 3 (by decide) k;unfold stC at hs11;simp(disch:=first|omega|(simp only[RY]<;>omega)|decide)only[↓RD,RZ,eq_self,seval,gd4,hs11,i1,i2];generalize hHH:Heap.set _ H4.next _=HI;have sI:Grow H4 HI:=by rw[←hHH]; exact(Grow.new H4 _).set (Nat.le_refl _) _
    have cI:HI.Cl:=by rw[←hHH]; exact zmW (zjY c4 _) (by rw[zaf]; omega) _
    have gI:HI.get H4.next=some ⟨zf8,[.bool true,.int .u32 (77:Nat),.int .i64 0,.int .i64 0,.int .i64 0,.nils,.int .i64 0,.nils,.nils,.int .u32 0,.nils],none⟩:=by rw[←hHH]; exact zan _ _ _
    have nI:HI.next=H4.next+1:=by rw[←hHH]; rfl
    clear hHH;refine zad (Parse_dd (hdd.ext sI) cI) ?_;rintro _ H5 ⟨rfl,s5,c5⟩;have gI5:=(s5.same H4.next (by omega)).trans gI;generalize HI.next=d5;have s35:=(s4.trans sI).trans s5;have g85:=(s35.same q8 (by have:=s3.next; omega)).trans g83;have g65:=(s35.same q6 (by have:=(sH.trans s3).next; omega)).trans g63;have n45:=s5.next;generalize hq9:H4.next=q9 at *;refine zat rfl ?_;refine zat rfl ?_;refine zik c5 rfl rfl λq10 H6 e10 g10 s6 n6 c6=>?_;have gI6:=(s6.same q9 (by omega)).trans gI5;have g86:=(s6.same q8 (by have:=s35.next; have:=s3.next; omega)).trans g85;simp(disch:=omega)only[↓RD,RZ,eq_self,seval,gI6,g86];refine zad (Has_1 c6) ?_;rintro _ H7 ⟨rfl,s7,c7⟩;have g67:=((s6.trans s7).same q6 (by have:=(sH.trans s3).next; have:=s35.next; omega)).trans g65;have g87:=(s7.same q8 (by have:=s35.next; have:=s3.next; omega)).trans g86;have g97:=(s7.same q10 (by omega)).trans g10;unfold frD at g97;simp(disch:=first|omega|(simp only[RY]<;>omega)|decide)only[↓RD,RZ,eq_self,seval,g67,g87,g97];have sA:=((s0.trans s2).trans (sH.trans s3)).trans (s35.trans (s6.trans s7));refine⟨sA.set (by omega) _,zmW c7 (by have:=(s2.trans (sH.trans s3)).next; have:=(s35.trans (s6.trans s7)).next; omega) _,?_⟩;rw[kt,if_pos rfl];exact⟨d5,cv,xv,pv,by unfold pkS; rw[he2]; rfl⟩
  ·have kf:zmq k e=false:=by
    rw[ko,decide_eq_false (λh=>hy (.inl h)),decide_eq_false (λh=>hy (.inr h)),Bool.or_self,Bool.and_false]
   rw[decide_eq_false (λh=>hy (.inl h))]at q2;rw[decide_eq_false (λh=>hy (.inr h))]at q3;simp(disch:=first|omega|(simp only[RY]<;>omega)|decide)only[↓RD,RZ,eq_self,seval,q2,q3,we,Bool.not_false,Bool.not_true,g63];exact⟨no.1,no.2,by rw[kf]; exact rfl⟩
 ·have kf:zmq k e=false:=by rw[ko,decide_eq_false hb1,Bool.false_and]
  rw[decide_eq_false hb1];simp(disch:=first|omega|(simp only[RY]<;>omega)|decide)only[↓RD,RZ,eq_self,seval,Bool.not_false,g63];exact⟨no.1,no.2,by rw[kf]; exact rfl⟩
end Go.Ax.SU
/- Ep14 -/
namespace Go.Ax.SU
open Go.Ax
theorem media_s{k d:Nat}{cv xv pv:V}{K:Kd}{H:Heap}{L:Nat→V}{rm:Nat→Rm}{Q:Nat→List Ot}{ns:List Nat}{nw:Int}(hh:DW K H L rm Q ns nw) (hK:KS K (stC 77 0)) (hc:H.Cl) :
  Ok (sem T zcW [.ptr K.d 0,.ptr K.d 0,.int .i64 0,.agg (pkS k d cv xv pv)]) H λr H'=>r = .tup []∧FrD K.lo L L H H'∧∃K',K'.d=K.d∧DW K' H' L rm Q ns nw:=by
 refine zjk ?_;unfold zgG uL uS uT uF uFM uNFM uNF uB uI uO uc;refine zoy hc λq7 H1 e7 g7 s1 n1 c1=>?_;unfold pkS R7.pcells pkK frD at g7;simp only[List.cons_append,List.nil_append]at g7;have hh1:=hh.grow s1;obtain⟨D,q,h,hQ⟩:=id hh1;have g:=h.blk;have i1:=λ{k}=>@ia0 K.d 39 33 8 (by decide) k;have i2:=λ{k}=>@ia0 K.d 39 11 3 (by decide) k;have x10:D[49]?=some .nils:=hK.at' h (t:=10) (by decide);have hdl:=h.dl;have hlo:=hh.lo;simp(disch:=omega)only[↓RD,RZ,eq_self,seval,g7,g,i1,i2,x10];refine zad (Add_1 c1) ?_;rintro _ H2 ⟨rfl,s2,c2⟩;have h2:=h.grow s2;have g72:=(s2.same q7 (by omega)).trans g7;have g2:=h2.blk;have hl:=h2.len;generalize 3+H1.next=a;generalize 8+d=b at *;have p1:=h2.put (i:=0) (k:=49) (xs:=[.sl a 0 1 (.opn 1)]) (by decide) (by decide) (Nat.le_of_ble_eq_true rfl);have p2:=p1.put (i:=0) (k:=42) (xs:=[.int .i64 0,.int .i64 1,.sl b 0 1 (.fix 1),.int .i64 0,.nils,.nils]) (by decide) (by decide) (Nat.le_of_ble_eq_true rfl);have p3:=p2.put (i:=0) (k:=48) (xs:=[.int .u32 1]) (by decide) (by decide) (by decide);have l1:=p1.len;have l2:=p2.len;have l3:=p3.len;have x43:(splice (splice D 49 [.sl a 0 1 (.opn 1)]) 42 [.int .i64 0,.int .i64 1,.sl b 0 1 (.fix 1),.int .i64 0,.nils,.nils])[43]?=some (.int .i64 1):=by
  rw[zdQ _ _ _ (by rw[l1]; exact Nat.le_of_ble_eq_true rfl),if_pos ⟨by decide,Nat.le_of_ble_eq_true rfl⟩];rfl
 have cu:IntKind.u64.wrap 1=1:=rfl;have sh:Ax.bin .shl (.int .u32 1) (.int .u64 1)=some (.int .u32 2):=rfl;have sb:Ax.bin .sub (.int .u32 2) (.int .u32 1)=some (.int .u32 1):=rfl;have nq:K.d≠q7:=by omega
 have nq':q7≠K.d:=by omega
 simp(disch:=first|omega|(simp only[RY]<;>omega)|decide)only[↓RD,RZ,eq_self,seval,g72,g2,hl,l1,l2,l3,x43,cu,sh,sb,nq,nq'];generalize hH3:Heap.set (Heap.set (Heap.set H2 K.d _) K.d _) K.d _=H3;have gX:H3.get K.d=some ⟨tyDk,splice (splice (splice D 49 [.sl a 0 1 (.opn 1)]) 42 [.int .i64 0,.int .i64 1,.sl b 0 1 (.fix 1),.int .i64 0,.nils,.nils]) 48 [.int .u32 1],none⟩:=by rw[←hH3]; exact zan _ _ _
 have p4:DW (((K.put 49 [.sl a 0 1 (.opn 1)]).put 42 [.int .i64 0,.int .i64 1,.sl b 0 1 (.fix 1),.int .i64 0,.nils,.nils]).put 48 [.int .u32 1]) H3 L rm Q ns nw:=by rw[←hH3]; exact⟨_,_,p3,hQ⟩
 have f3:FrD K.lo L L H H3:=by
  rw[←hH3];exact((s1.trans s2).frD _ _).trans (FrD.low (((AtS.set (S:=[K.d]) H2 (k:=K.d) (by simp) _).trans (AtS.set (k:=K.d) _ (by simp) _)).trans (AtS.set (k:=K.d) _ (by simp) _)) L λk hk=>by simp only[List.mem_singleton]at hk; subst hk; exact hdl)
 clear hH3;have lan:∀j,j<64→(splice (splice (splice D 49 [.sl a 0 1 (.opn 1)]) 42 [.int .i64 0,.int .i64 1,.sl b 0 1 (.fix 1),.int .i64 0,.nils,.nils]) 48 [.int .u32 1])[303+j]?=some .nilp:=λj hj=>by
  refine p3.ot _ _ ?_ (zsa (i:=0) (m:=303+j) (by decide) (by omega) (by omega) (by omega));rw[zl7 (.inr (by show 48+1≤_; omega)),zl7 (.inr (by show 42+6≤_; omega)),zl7 (.inr (by show 49+1≤_; omega))];exact hK.ln j hj
 generalize splice (splice (splice D 49 _) 42 _) 48 _=D3 at *;refine zaw (Q:=λr H'=>r = .ex 0 []∧H'=H3) ?_ ?_
 ·refine za3 (λj L0 H'=>L0=[.int .i64 (j:Nat)]∧H'=H3) 8 ⟨rfl,rfl⟩ ?_ ?_
  ·rintro j _ H' hj ⟨rfl,rfl⟩;have d1:decide (((j:Nat):Int)<8)=true:=decide_eq_true (by omega);have d1':decide (j<8)=true:=decide_eq_true hj;have w1:IntKind.i64.wrap (((j:Nat):Int)+1)=((j+1:Nat):Int):=by rw[wrap_i64 (by omega) (by omega)]; omega
   have j1:=λ{k}=>@ia8m K.d 303 j 8 hj k;have j2:=λ{k}=>@ia0 K.d (303+j*8) 1 8 (by decide) k;have ln:=lan (j*8) (by omega);have e:Ax.eqr .ptr false .nilp .nilp=some (.bool true):=rfl;unfold zdL uL uM uS uT uF uFM uNFM uNF uE uB uI uIM uG uH uO uU uc ug;simp(disch:=omega)only[↓RD,RZ,eq_self,seval,d1,d1',gX,j1,j2,ln,e,w1]
  ·rintro _ H' ⟨rfl,rfl⟩;unfold zdL uL uM uS uT uF uFM uNFM uNF uE uB uI uIM uG uH uO uU uc ug;simp(disch:=omega)only[↓RD,RZ,eq_self,seval]
 ·rintro _ _ ⟨rfl,rfl⟩;simp(disch:=omega)only[↓RD,RZ,eq_self,seval];refine⟨rfl,f3,_,?_,p4⟩;rfl
theorem kB_R(k:Nat):(decide (2≤(kB k).length)&&(decide (192≤(kB k).getD 1 0)&&decide ((kB k).getD 1 0≤223)))=false:=by
 have e:(kB k).getD 1 0=96:=rfl;rw[e];show(_&&(false && _))=false;rw[Bool.false_and,Bool.and_false]
theorem dgram_s{lb a e k:Nat}{K:Kd}{H:Heap}{L:Nat→V}{rm:Nat→Rm}{Q:Nat→List Ot}{ns:List Nat}{nw:Int}{bv:V}(hh:DW K H L rm Q ns nw) (hg:RmG (rm 0)) (he:(rm 0).ep=(e:Nat)) (h5:e<5) (hK:KS K (stC 77 0)) (hc:H.Cl) (hb:By lb H bv (kB k)) (hlo:K.lo≤lb) (hold:∀c i,c<64→bv.pid=some i→(L c).pid≠some i) (hk:k<2048) (hw:zcN (λi=>(rm i).t) (a:Nat)=some (0,0)) (hal:zc1 (rm 0) (a:Nat) nw=rm 0) (h6:ns.getD 6 0<1000000) :
  Ok (sem T za5 [.ptr K.d 0,.int .i64 (a:Nat),bv]) H λr H'=>r = .tup []∧∃K',K'.d=K.d∧DW K' H' L rm Q (if zmq k e=true then ns else ns.set 6 (ns.getD 6 0+1)) nw:=by
 refine zeG ?_;unfold zds uL uS uT uNFM uE uB uO uc;obtain⟨D,q,hd,hQ⟩:=id hh;have hdl:=hd.dl;have htop:=hd.pm.top;have hv:=hb.vlen;have hl:=kB_len k;have d1:decide ((1200:Int)<(((kB k).length:Nat):Int))=false:=decide_eq_false (by omega);have d1':decide (1200<(kB k).length)=false:=decide_eq_false (by omega);simp(disch:=omega)only[↓RD,RZ,eq_self,seval,hv,d1,d1'];refine zad (zlj hc (zgP hd.tb (by omega) (a:Nat))) ?_;rintro _ H1 ⟨⟨rfl,s1⟩,c1⟩;rw[hw];unfold wv;simp(disch:=omega)only[↓RD,RZ,eq_self,seval,Bool.not_true];refine zad (zlj c1 (zjv (i:=0) (hh.grow s1) (by decide) hg (a:Nat))) ?_;rintro _ H2 ⟨⟨rfl,f2,h2⟩,c2⟩;rw[hal,upd_same]at h2;have hb2:=f2.by (hb.ext s1) hlo hold;have is:=@zaQ _ _ _ _ (Is_p_ok hb2 (by omega));rw[kB_R]at is;simp(disch:=omega)only[↓RD,RZ,eq_self,seval,is];refine zad (packet_s h2 hg.o he h5 hK c2 hb2 hk) ?_;rintro r H3 ⟨s3,c3,hr⟩;have h3:=h2.grow s3;cases hko:zmq k e with
 | false =>
  rw[hko,if_neg (by decide)]at hr;subst hr;rw[if_neg (by decide)];refine zat rfl ?_;refine zat rfl ?_;refine zik c3 rfl rfl λq9 H4 e9 g9 s4 n4 c4=>?_;have h4:=h3.grow s4;obtain⟨D4,q4,hd4,-⟩:=id h4;have g4:=hd4.blk;have hco:=hd4.co;simp(disch:=omega)only[↓RD,RZ,eq_self,seval,g4,hco];refine zad (zwV (i:=6) hd4.cm hd4.Cc (by decide) (by omega)) ?_;rintro _ H6 ⟨rfl,a6,hc6⟩;simp(disch:=omega)only[↓RD,RZ,eq_self,seval];exact⟨rfl,K,rfl,h4.one a6 hc6⟩
 | true =>
  rw[hko,if_pos rfl]at hr;obtain⟨d,cv,xv,pv,rfl⟩:=hr;rw[if_pos rfl];refine zat rfl ?_;refine zat rfl ?_;refine zik c3 rfl (by rfl) λq9 H4 e9 g9 s4 n4 c4=>?_;have h4:=h3.grow s4;have l31:ldc (some 31) (pkS k d cv xv pv) 0=some (.agg (pkS k d cv xv pv)):=rfl;simp(disch:=omega)only[↓RD,RZ,eq_self,seval,g9,l31];refine zad (media_s h4 hK c4) ?_;rintro _ H5 ⟨rfl,-,K',e5,h5⟩;simp(disch:=omega)only[↓RD,RZ,eq_self,seval];exact⟨rfl,K',e5,h5⟩
end Go.Ax.SU
/- Ep15 -/
namespace Go.Ax.SU
open Go.Ax
section
variable {G:Rsu}
theorem zwu{id:Nat}{x:M Res}{k:List V→M Res}(h:CfM G x) (hk:∀L,CfM G (k L)):CfM G (M.blk id x k):=by
 unfold M.blk;refine zbm h λr=>?_;cases r with
 | nrm L=>exact hk L
 | ret L=>exact zbz _
 | ex i L =>
  dsimp only;split
  ·exact hk L
  ·exact zbz _
theorem cf_e0{x:V}(L:List V):CfM G (M.iter (zaT (sem T) x) L):=by
 refine zpi (λL=>?_) L;unfold zaT uL uE uB uc ug
 repeat' first|exact zbz _|exact zeg _|exact zqI _ _|refine zwu ?_ λ_=>?_|refine zqJ _ ?_ ?_|refine zbm ?_ λ_=>?_
theorem cf_e1{x y:V}(L:List V):CfM G (M.iter (zaS (sem T) x y) L):=by
 refine zpi (λL=>?_) L;unfold zaS uL uB uc ug
 repeat' first|exact zbz _|exact zeg _|exact zqI _ _|refine zwu ?_ λ_=>?_|refine zqJ _ ?_ ?_|refine zbm ?_ λ_=>?_
theorem cf_e2{x y:V}(L:List V):CfM G (M.iter (zaR (sem T) x y) L):=by
 refine zpi (λL=>?_) L;unfold zaR uL uE uB uc ub ug
 repeat' first|exact cf_e1 _|exact zbz _|exact zeg _|exact zqI _ _|refine zwu ?_ λ_=>?_|refine zqJ _ ?_ ?_|refine zbm ?_ λ_=>?_
end
def x4:Nt:=⟨((4:Nat):Int),((0:Nat):Int),((0:Nat):Int),((0:Nat):Int),((0:Nat):Int),((0:Nat):Int),[0,0,0,77]⟩
theorem x4_g:zfb x4=true:=by decide
theorem says4_ok{lo:Nat}{H:Heap}{bv:V} (hb:By lo H bv [0,0,0,77]):Ok (sem T zay [.agg [.int .i64 4,.int .i64 0,.int .i64 0,.int .i64 0,.int .i64 0,.int .i64 0,bv]]) H λr' H'=>Grow H H'∧Ab H.next H' r' (zaN x4) :=
 zot (k:=4) (r:=0) (s:=0) (e:=0) (n:=0) (m:=0) (b:=[0,0,0,77]) hb (λH' hb=>good_r4 (n:=0) (m:=0) (by decide) (by decide) rfl hb) (by decide) (by decide) (by decide)
theorem by_new{H:Heap}{l:List Nat}(n:Nat)(hn:l.length=n):By H.next (H.new ⟨zak,l.map by8,none⟩) (.sl H.next 0 n (.fix n)) l:=by
 subst hn;refine⟨?_,λid h=>?_,Nat.le_refl _⟩
 ·simp only[rcells,zac,Option.bind_some,List.length_map,Nat.zero_add,Nat.mul_one,List.drop_zero];rw[if_pos (Nat.le_refl _),List.take_of_length_le (by rw[List.length_map]; exact Nat.le_refl _)]
 ·injection h with h
  subst h;exact⟨Nat.le_refl _,by rw[zaf]; omega⟩
theorem showE_ok{e lb:Nat}{K:Kd}{H:Heap}{L:Nat→V}{Q:Nat→List Ot}{ns:List Nat}{bv:V} (hh:DW K H L (rmE (rE e)) Q ns 0) (hz:ZK K) (he:e<5) (hb:By lb H bv (zaN x4)) :
  Ok (sem T zaO [.ptr K.d 0,.int .i64 40,bv]) H λr H'=>r = .tup []∧FrD K.lo L L H H'∧DW (K.put 39 (stC 77 0)) H' L (rmE (rE e)) Q ns 0:=by
 have x1:rawN (zaN x4)=x4:=(zij x4_g).1;have x2:zeF (zaN x4)=0:=zhM x4_g;have x3:Ok8 (zaN x4):=zpk x4_g (by intro y hy; have hy:y∈[0,0,0,77]:=hy; simp at hy; omega);have x5:(zaN x4).length≤1000000:=by rw[zdZ]; decide
 have h0:=zs6 (rE e);have hw:zcN (λi=>(rmE (rE e) i).t) ((40:Nat):Int)=some (0,0):=zpv (l:=[40,41]) rfl who2 (by decide) rfl;refine note4_ok (a:=40) (i:=0) (s:=0) (j:=0) (b3:=77) hh hz hb x3 x5 x2 (by rw[x1]; rfl) hw (by decide) (by decide) (by rw[h0]; exact rE_g (by omega)) ?_ (by rw[x1]; rfl) (by decide) (by rw[x1]; rfl) (by decide);rw[h0];exact alE e _
end Go.Ax.SU
/- Rtp10 -/
namespace Go.Ax.R7
open Go.Ax
def fl (ws:List (X×V)):List V:=(ws.map xc).flatten
theorem fl_len (ws:List (X×V)):(fl ws).length=ws.length*2:=by
 unfold fl
 induction ws with
 | nil=>rfl
 | cons w ws ih=>simp only[List.map_cons,List.flatten_cons,List.length_append,ih,List.length_cons]; simp[xc]; omega
structure Own (ty lo:Nat) (H:Heap) (v:V) (ws:List (X×V)):Prop where
 ex:(v = .nils∧ws=[])∨∃id cap o,v = .sl id 0 ws.length cap∧H.get id=some ⟨ty,fl ws,o⟩∧lo≤id∧id<H.next∧V.capOk 2 v
theorem Own.lc{ty lo:Nat}{H:Heap}{v:V} {ws:List (X×V)} (h:Own ty lo H v ws):Lc 2 lo H v (fl ws) ws.length:=by
 rcases h.ex with⟨rfl,rfl⟩|⟨id,cap,o,rfl,hb,h1,h2,h3⟩
 ·exact Lc.nil
 ·refine⟨?_,λi hi=>?_,h3⟩
  ·simp only[rcells,hb,Option.bind_some];rw[if_pos (by rw[fl_len]; omega),List.drop_zero,List.take_of_length_le (by rw[fl_len]; exact Nat.le_refl _)]
  ·simp only[V.pid,Option.some.injEq]at hi; subst hi; exact⟨h1,h2⟩
theorem Own.exs{ty lo lo':Nat}{H:Heap}{v:V} {ws:List (X×V)} (h:Own ty lo H v ws) (hl:lo'≤lo) (hw:∀w∈ws,By lo' H w.2 w.1.2):Exs lo' H v (ws.map (·.1)) :=
 ⟨ws,rfl,h.lc.low hl,hw⟩
theorem Own.to{ty lo:Nat}{H H':Heap}{v:V} {ws:List (X×V)} (h:Own ty lo H v ws) (hs:∀id,v.pid=some id→H'.get id=H.get id) (hn:H.next≤H'.next):Own ty lo H' v ws:=by
 rcases h.ex with⟨rfl,rfl⟩|⟨id,cap,o,rfl,hb,h1,h2,h3⟩
 ·exact⟨.inl ⟨rfl,rfl⟩⟩
 ·exact⟨.inr ⟨id,cap,o,rfl,by rw[hs id rfl]; exact hb,h1,by omega,h3⟩⟩
theorem Own.at{ty lo:Nat}{H:Heap}{v:V} {ws:List (X×V)} (h:Own ty lo H v ws) {i:Nat} (hi:i<ws.length):∃id cap o,v = .sl id 0 ws.length cap∧H.get id=some ⟨ty,fl ws,o⟩∧lo≤id∧id<H.next∧(∀{k:IntKind},Ax.iaddr none 2 v (.int k i)=some (.ptr id (i*2)))∧∀ws':List (X×V),ws'.length=ws.length→∀H',H'.get id=some ⟨ty,fl ws',o⟩→H.next≤H'.next→Own ty lo H' v ws':=by
 rcases h.ex with⟨rfl,rfl⟩|⟨id,cap,o,rfl,hb,h1,h2,h3⟩
 ·simp at hi
 ·refine⟨id,cap,o,rfl,hb,h1,h2,λ{k}=>?_,λws' hl H' hb' hn=>⟨.inr ⟨id,cap,o,by rw[hl],hb',h1,by omega,by simpa [V.capOk,hl]using h3⟩⟩⟩;have:=zfW (id:=id) (off:=0) (len:=ws.length) (c:=cap) (k:=k) (i:=((i:Nat):Int)) (e:=2) (by omega) (by omega);simpa using this
structure PkO (ty lo:Nat) (H:Heap) (v:V) (p:Pkt):Prop where
 ex:∃cv xv pv ws m1 m2,v = .agg (pcells p cv xv pv)∧Lc 1 lo H cv (p.csrc.map by32) p.csrc.length∧By lo H pv p.pay∧Own ty m1 H xv ws∧(∀id,xv.pid=some id→id<m2)∧ws.map (·.1)=p.exts∧(∀w∈ws,By m2 H w.2 w.1.2) ∧
  (∀id,cv.pid=some id→id<m1)∧(∀id,pv.pid=some id→id<m1)∧lo≤m1∧m1≤m2
theorem PkO.ext{ty lo:Nat}{H H':Heap}{v:V}{p:Pkt}(h:PkO ty lo H v p)(s:Grow H H'):PkO ty lo H' v p:=by
 obtain⟨cv,xv,pv,ws,m1,m2,h1,h2,h3,h4,h5,h6,h7,h8,h9,h10,h11⟩:=h;exact⟨cv,xv,pv,ws,m1,m2,h1,h2.ext s,h3.ext s,h4.to (λid hi=>s.same id (h4.lc.own id hi).2) s.next,h5,h6,λw hw=>(h7 w hw).ext s,h8,h9,h10,h11⟩
end Go.Ax.R7
/- Rtp11 -/
namespace Go.Ax.R7
open Go.Ax
end Go.Ax.R7
/- Rtp12 -/
namespace Go.Ax.R7
open Go.Ax
structure Rng (p:Pkt):Prop where
 typ:-9223372036854775808≤p.typ∧p.typ≤9223372036854775807
 seq:p.seq<65536
 ts:p.ts<4294967296
 ssrc:p.ssrc<4294967296
 csrc:∀x∈p.csrc,x<4294967296
 prof:-9223372036854775808≤p.prof∧p.prof≤9223372036854775807
 exts:∀x∈p.exts,(-9223372036854775808≤x.1∧x.1≤9223372036854775807)∧Ok8 x.2
 pad:-9223372036854775808≤p.pad∧p.pad≤9223372036854775807
 pay:Ok8 p.pay
theorem FQ.get{lo:Nat}{H:Heap} {o:Option (List Nat)} {r:V} (h:FQ lo H o r):∃x,r = .tup [x,.bool o.isSome]∧By lo H x (o.getD []):=by
 cases o with
 | none=>exact⟨_,h,Lc.nil⟩
 | some l=>obtain⟨x,rfl,hx⟩:=h; exact⟨x,rfl,hx⟩
end Go.Ax.R7
namespace Go.Ax
open R7
end Go.Ax
/- Rtp13 -/
namespace Go.Ax.R7
open Go.Ax
inductive Apf (ty e lo:Nat) (H:Heap):V→List V→Nat→Prop
 | app {v:V} {cells:List V} {n:Nat} (h:App ty e lo H v cells n):Apf ty e lo H v cells n
 | full {id n:Nat} {cells:List V} (h:H.get id=some ⟨ty,cells,none⟩) (hl:cells.length=n*e) (h0:lo≤id) (h1:id<H.next):Apf ty e lo H (.sl id 0 n (.fix n)) cells n
theorem Apf.lc{ty e lo n:Nat}{H:Heap}{v:V}{cells:List V}(h:Apf ty e lo H v cells n):Lc e lo H v cells n:=by
 cases h with
 | app h=>exact h.lc
 | full h hl h0 h1 =>
  refine⟨?_,λid hi=>by simp only[V.pid,Option.some.injEq]at hi; subst hi; exact⟨h0,h1⟩,Nat.le_refl _⟩;simp only[rcells,h,Option.bind_some];rw[if_pos (by omega),List.drop_zero,List.take_of_length_le (by omega)]
theorem Apf.keep{ty e lo n:Nat}{H H':Heap}{v:V}{cells:List V}(h:Apf ty e lo H v cells n)(k:Keep lo H H'):Apf ty e lo H' v cells n:=by
 cases h with
 | app h=>exact .app (App.keep h k)
 | full h hl h0 h1=>exact .full (by rw[k.same _ h0 h1,h]) hl h0 (Nat.lt_of_lt_of_le h1 k.next)
structure Bel (lo:Nat) (H H':Heap):Prop where
 next:H.next≤H'.next
 same:∀i,i<lo→H'.get i=H.get i
theorem Bel.refl(lo:Nat)(H:Heap):Bel lo H H:=⟨Nat.le_refl _,λ_ _=>rfl⟩
theorem Bel.trans{lo:Nat}{H H1 H2:Heap}(h:Bel lo H H1)(k:Bel lo H1 H2):Bel lo H H2:=⟨Nat.le_trans h.next k.next,λi hi=>by rw[k.same i hi,h.same i hi]⟩
theorem Bel.low{lo lo':Nat}{H H':Heap}(h:Bel lo H H')(hl:lo'≤lo):Bel lo' H H':=⟨h.next,λi hi=>h.same i (by omega)⟩
theorem _root_.Go.Ax.Grow.bel7{H H':Heap}(h:Grow H H'){lo:Nat}(hl:lo≤H.next):Bel lo H H':=⟨h.next,λi hi=>h.same i (by omega)⟩
theorem Bel.grow{H H':Heap}(h:Bel H.next H H'):Grow H H':=⟨h.next,λi hi=>h.same i hi⟩
theorem _root_.Go.Ax.Grow.bel7'{H0 H H':Heap}{lo:Nat}(h0:Grow H0 H)(hl:H0.next≤lo)(h:Bel lo H H'):Grow H0 H':=⟨Nat.le_trans h0.next h.next,λi hi=>by rw[h.same i (by omega),h0.same i hi]⟩
theorem okb_apf{β:Type}{ty e bytes lo n m:Nat}{H:Heap}{x y:V}{cells q:List V}{f:V→M β}{Q:β→Heap→Prop}(hx:Apf ty e lo H x cells n)(hlo:lo≤H.next) (hy:acells e H y=some (q,m)) (hq:q.length=m*e)
  (hb:(n+m)*bytes≤140737488355328) (hm:n+m≤140737488355328)
  (k:∀x' H',Apf ty e lo H' x' (cells++q) (n+m)→Bel lo H H'→Step H H' x.pid.toList x'.pid.toList→Ok (f x') H' Q):Ok ((mappend ty e bytes x y).bind f) H Q:=by
 cases hx with
 | app h =>
  refine zgc h hlo hy hq hb hm λx' H' h1 hs=>k x' H' (.app h1) ⟨hs.next,λi hi=>hs.same i (by omega) λe=>?_⟩ hs;have:=(h.lc.own i (by simpa [zb7]using e)).1;omega
 | full h hl h0 h1 =>
  rename_i id;have hml:n+m≤maxLen:=Nat.le_trans hm zgL;by_cases hz:m=0
  ·subst hz;have hq0:q=[]:=List.eq_nil_of_length_eq_zero (by omega);subst hq0;refine zao ⟨.sl id 0 n (.fix n),H.set id (some ⟨ty,cells,none⟩),?_,k _ _ ?_ ⟨by rw[zbg]; exact Nat.le_refl _,λi hi=>zap _ _ (by omega)⟩ (Step.set _ (by simp[V.pid]))⟩
   ·simp only[mappend,hy,Option.bind_some,mappendq,h];rw[if_pos ⟨by omega,trivial⟩];simp only[Nat.add_zero,Nat.le_refl,if_true];rw[if_pos (by omega)];simp[splice]
   ·rw[List.append_nil];exact .full (zan _ _ _) hl h0 h1
  ·refine zao ⟨.sl H.next 0 (n+m) (.opn e),H.new ⟨ty,cells++q,some e⟩,?_,?_⟩
   ·simp only[mappend,hy,Option.bind_some,mappendq,h];rw[if_pos ⟨by omega,trivial⟩,if_neg (by omega),if_pos ⟨hb,hml⟩,List.drop_zero,List.take_of_length_le (by omega)]
   ·refine k _ _ (.app (.opn (.inr ⟨H.next,rfl,zac _ _,by simp[hl,hq,Nat.add_mul]⟩) λi hi=>?_)) ⟨by rw[zaf]; omega,λi hi=>zaE _ _ (by omega)⟩ ⟨by rw[zaf]; omega,λi hi _=>zaE _ _ (by omega),λi hi=>.inr (by simp only[V.pid,Option.toList_some,List.mem_singleton]at hi; subst hi; exact⟨Nat.le_refl _,by rw[zaf]; omega⟩)⟩;simp only[V.pid,Option.some.injEq]at hi;subst hi;exact⟨hlo,by rw[zaf]; omega⟩
theorem okb_apfz{β:Type}{ty bytes lo n m:Nat}{z:V}{H:Heap}{x:V}{cells:List V}{f:V→M β}{Q:β→Heap→Prop}(hx:Apf ty 1 lo H x cells n)(hlo:lo≤H.next)
  (hb:(n+m)*bytes≤140737488355328) (hm:n+m≤140737488355328)
  (k:∀x' H',Apf ty 1 lo H' x' (cells++List.replicate m z) (n+m)→Bel lo H H'→Ok (f x') H' Q):Ok ((mappendz ty bytes [z] x (.int .i64 (m:Nat))).bind f) H Q:=by
 have hw:IntKind.i64.wrap (m:Nat)=(m:Int):=by
  have h1:(m:Int)%18446744073709551616=m:=Int.emod_eq_of_lt (by omega) (by omega);simp only[IntKind.wrap,IntKind.signed,IntKind.bits];simp;omega
 have hm2:m*bytes≤140737488355328:=Nat.le_trans (Nat.mul_le_mul_right _ (by omega)) hb;have hm3:((m:Int)*(bytes:Int))≤281474976710656:=by
  have:((m*bytes:Nat):Int)≤140737488355328:=by omega
  rw[Int.natCast_mul]at this; omega
 have e:(mappendz ty bytes [z] x (.int .i64 (m:Nat)) H)=mappend ty 1 bytes x (.rs (List.replicate m z) m) H:=by
  simp only[mappendz,mappend,hw];rw[if_pos ⟨by omega,hm3⟩];simp[acells,rcells,zeros1]
 have:=okb_apf (y:=.rs (List.replicate m z) m) (q:=List.replicate m z) (m:=m) hx hlo (by simp[acells,rcells]) (by simp) hb hm λx' H' h1 h2 _=>k x' H' h1 h2;unfold Ok M.bind at this ⊢;rw[e]; exact this
def bn(k n:Nat):List Nat:=(List.range k).map λi=>n/256 ^ (k-1-i)%256
theorem bn_len(k n:Nat):(bn k n).length=k:=by simp[bn]
theorem bn_get(k n i:Nat)(h:i<k):(bn k n).getD i 0=n/256 ^ (k-1-i)%256:=by
 rw[List.getD_eq_getElem?_getD,List.getElem?_eq_getElem (by rw[bn_len]; exact h)]; simp[bn]
abbrev Ab(lo:Nat)(H:Heap)(v:V)(l:List Nat):Prop:=Apf zak 1 lo H v (l.map by8) l.length
theorem Ab.by{lo:Nat}{H:Heap}{v:V}{l:List Nat}(h:Ab lo H v l):By lo H v l:=h.lc
theorem okb_ab'{β:Type}{lo:Nat}{H:Heap}{x y:V}{l m:List Nat}{f:V→M β}{Q:β→Heap→Prop}(hx:Ab lo H x l)(hlo:lo≤H.next) (hy:acells 1 H y=some (m.map by8,m.length)) (hm:l.length+m.length≤1099511627776)
  (k:∀x' H',Ab lo H' x' (l++m)→Bel lo H H'→Step H H' x.pid.toList x'.pid.toList→Ok (f x') H' Q):Ok ((mappend zak 1 1 x y).bind f) H Q:=by
 refine okb_apf hx hlo hy (by simp) (by omega) (by omega) λx' H' h1 h2=>k x' H' ?_ h2;show Apf zak 1 lo H' x' ((l++m).map by8) (l++m).length;rw[List.map_append,List.length_append]; exact h1
theorem okb_ab{β:Type}{lo:Nat}{H:Heap}{x y:V}{l m:List Nat}{f:V→M β}{Q:β→Heap→Prop}(hx:Ab lo H x l)(hlo:lo≤H.next) (hy:acells 1 H y=some (m.map by8,m.length)) (hm:l.length+m.length≤1099511627776)
  (k:∀x' H',Ab lo H' x' (l++m)→Bel lo H H'→Ok (f x') H' Q):Ok ((mappend zak 1 1 x y).bind f) H Q :=
 okb_ab' hx hlo hy hm λx' H' h1 h2 _=>k x' H' h1 h2
theorem U_ok{lo:Nat}{H:Heap}{v:V}{l:List Nat}(h:By lo H v l)(hl:l.length≤2097152)(n k:Nat)(hn:n<18446744073709551616)(hk:k≤8) :
  Ok (sem T zaD [v,.int .u64 n,.int .i64 k]) H λr H'=>Ab H.next H' r (l++bn k n)∧Grow H H':=by
 refine zfT ?_;unfold zet uB uc ub ug;simp(maxSteps:=1000000) (disch:=first|omega|(simp only[RY]<;>omega)|decide)only[↓RD,RZ,eq_self,Int.reduceToNat,Int.reduceAdd,Int.reduceSub,Int.reduceMul,Nat.reduceAdd,Nat.reduceSub,Nat.reduceMul,Nat.reduceDiv,Nat.reduceMod,Nat.reduceBEq,Nat.reduceLeDiff];refine okb_copy h.ac (λi hi=>(h.own i hi).2) (by simp) (by omega) (by omega) λv' H1 ha1 s1=>?_;simp(maxSteps:=1000000) (disch:=first|omega|(simp only[RY]<;>omega)|decide)only[↓RD,RZ,eq_self,Int.reduceToNat,Int.reduceAdd,Int.reduceSub,Int.reduceMul,Nat.reduceAdd,Nat.reduceSub,Nat.reduceMul,Nat.reduceDiv,Nat.reduceMod,Nat.reduceBEq,Nat.reduceLeDiff];refine za3 (λm L H'=>∃w,L=[w,.int .i64 ((k:Int)-1-(m:Nat))]∧Ab H.next H' w (l++(bn k n).take m)∧Grow H H') k ?_ ?_ ?_
 ·exact⟨v',by simp,by simpa using Apf.app ha1,s1⟩
 ·rintro m L H1 hm ⟨w,rfl,ha,hb⟩;have e1:(k:Int)-1-(m:Nat)=((k-1-m:Nat):Int):=by omega
  have e2:(8:Int)*((k-1-m:Nat):Int)=((8*(k-1-m):Nat):Int):=by omega
  have e3:shr n (8*(k-1-m))=n/256 ^ (k-1-m):=by rw[zhI,Nat.shiftRight_eq_div_pow,Nat.pow_mul]
  have e4:8*(k-1-m)%18446744073709551616=8*(k-1-m):=Nat.mod_eq_of_lt (by omega);have hlo1:=hb.next;rw[e1];unfold zbX uL uB uc ub ug;simp(maxSteps:=1000000) (disch:=first|omega|(simp only[RY]<;>omega)|decide)only[↓RD,RZ,eq_self,Int.reduceToNat,Int.reduceAdd,Int.reduceSub,Int.reduceMul,Nat.reduceAdd,Nat.reduceSub,Nat.reduceMul,Nat.reduceDiv,Nat.reduceMod,Nat.reduceBEq,Nat.reduceLeDiff,e2,e4,e3];refine okb_ab (m:=[n/256 ^ (k-1-m)%256]) (ha.keep ((Grow.new _ _).keep _)) (by rw[zaf]; omega) (zbS rfl) (by simp; omega) λw' H2 h2 hb2=>?_;simp(maxSteps:=1000000) (disch:=first|omega|(simp only[RY]<;>omega)|decide)only[↓RD,RZ,eq_self,Int.reduceToNat,Int.reduceAdd,Int.reduceSub,Int.reduceMul,Nat.reduceAdd,Nat.reduceSub,Nat.reduceMul,Nat.reduceDiv,Nat.reduceMod,Nat.reduceBEq,Nat.reduceLeDiff];refine⟨w',by rw[show((k-1-m:Nat):Int)-1=(k:Int)-1-((m+1:Nat):Int) by omega],?_,Grow.bel7' (hb.trans (Grow.new _ _)) (Nat.le_refl _) hb2⟩;rw[take_snoc (by rw[bn_len]; exact hm),bn_get k n m hm,←List.append_assoc];exact h2
 ·rintro L H1 ⟨w,rfl,ha,hb⟩;have e1:(k:Int)-1-(k:Nat) = -1:=by omega
  rw[e1];unfold zbX uL uB uc ub ug;simp(maxSteps:=1000000) (disch:=first|omega|(simp only[RY]<;>omega)|decide)only[↓RD,RZ,eq_self,Int.reduceToNat,Int.reduceAdd,Int.reduceSub,Int.reduceMul,Nat.reduceAdd,Nat.reduceSub,Nat.reduceMul,Nat.reduceDiv,Nat.reduceMod,Nat.reduceBEq,Nat.reduceLeDiff];rw[List.take_of_length_le (by rw[bn_len]; exact Nat.le_refl _)]at ha;exact⟨ha,hb⟩
/-! What is good. -/
def zeT(prof:Int)(x:X):Bool :=
 if prof=48862 then decide (1≤x.1∧x.1≤14∧1≤x.2.length∧x.2.length≤16) else decide (1≤x.1∧x.1≤255∧x.2.length≤255)
def good(p:Pkt):Bool :=
 decide ((0≤p.typ∧p.typ≤127)∧p.csrc.length≤15∧(0≤p.pad∧p.pad≤255)) &&
  (if p.prof=0 then decide (p.exts.length=0) else decide (p.prof=48862∨p.prof=4096)&&p.exts.all (zeT p.prof))
end Go.Ax.R7
/- Rtp14 -/
namespace Go.Ax.R7
open Go.Ax
theorem zkl{p:Pkt} (h:¬((0≤p.typ∧p.typ≤127)∧p.csrc.length≤15∧(0≤p.pad∧p.pad≤255))):good p=false:=by
 unfold good; rw[decide_eq_false h]; rfl
theorem zsk{p:Pkt} (h:(0≤p.typ∧p.typ≤127)∧p.csrc.length≤15∧(0≤p.pad∧p.pad≤255)):good p=if p.prof=0 then decide (p.exts.length=0) else decide (p.prof=48862∨p.prof=4096)&&p.exts.all (zeT p.prof):=by
 unfold good; rw[decide_eq_true h]; simp
theorem zjx{x:X} (h:¬(1≤x.1∧x.1≤14∧1≤x.2.length∧x.2.length≤16)):zeT 48862 x=false:=by unfold zeT; rw[if_pos rfl,decide_eq_false h]
theorem zmw{x:X} (h:¬(1≤x.1∧x.1≤255∧x.2.length≤255)):zeT 4096 x=false:=by unfold zeT; rw[if_neg (by decide),decide_eq_false h]
theorem ztw{x:X} (h:(1≤x.1∧x.1≤14∧1≤x.2.length∧x.2.length≤16)):zeT 48862 x=true:=by unfold zeT; rw[if_pos rfl,decide_eq_true h]
theorem ztv{x:X} (h:(1≤x.1∧x.1≤255∧x.2.length≤255)):zeT 4096 x=true:=by unfold zeT; rw[if_neg (by decide),decide_eq_true h]
theorem zhj{P:X→Bool}{xs:List X}{k:Nat}(hk:k<xs.length) (h:P xs[k]=false):xs.all P=false:=by
 refine Bool.eq_false_iff.2 λe=>?_;have:=List.all_eq_true.1 e _ (List.getElem_mem hk);rw[this]at h; cases h
theorem Good2_ok{lo:Nat}{H:Heap}{v:V}{p:Pkt}(h:PkR lo H v p)(hs:Sml p):Ok (sem T zcg [v]) H λr H'=>r = .bool (good p)∧Grow H H':=by
 obtain⟨cv,xv,pv,rfl,hc,hx,hp⟩:=h;have hb:=hs.b;refine zhP ?_;unfold ze6 uL uFM uB uG uH uO uc;unfold pcells;simp(disch:=omega)only[↓RD,RZ,eq_self,seval,hc.cells1,hx.cells1,hp.cells1,hc.okc,hx.okc,hp.okc];generalize hH1:Heap.new H _=H1;have n1:H1.next=H.next+1:=by rw[←hH1]; rfl
 have s1:Grow H H1:=by rw[←hH1]; exact Grow.new _ _
 have g1:H1.get H.next=some ⟨zai,pcells p cv xv pv,none⟩:=by rw[←hH1]; exact zac _ _
 clear hH1;unfold pcells at g1;have ec:=hc.vlen;have ex:=hx.vlen;by_cases a1:p.typ<0
 ·simp(disch:=omega)only[↓RD,RZ,eq_self,seval,g1];exact⟨by rw[zkl (by omega)],s1⟩
 by_cases a2:127<p.typ
 ·simp(disch:=omega)only[↓RD,RZ,eq_self,seval,g1];exact⟨by rw[zkl (by omega)],s1⟩
 by_cases a3:15<p.csrc.length
 ·simp(disch:=omega)only[↓RD,RZ,eq_self,seval,g1,ec];exact⟨by rw[zkl (by omega)],s1⟩
 by_cases a4:p.pad<0
 ·simp(disch:=omega)only[↓RD,RZ,eq_self,seval,g1,ec];exact⟨by rw[zkl (by omega)],s1⟩
 by_cases a5:255<p.pad
 ·simp(disch:=omega)only[↓RD,RZ,eq_self,seval,g1,ec];exact⟨by rw[zkl (by omega)],s1⟩
 rw[zsk (by omega)];have loop:(p.prof=0→p.exts.length=0)→(p.prof=0∨p.prof=48862∨p.prof=4096)→Ok (M.iter (zb2 (sem T) (.ptr H.next 0)) [.int .i64 0]) H1 λr H'=>Grow H H'∧((r = .ex 0 []∧p.exts.all (zeT p.prof)=true)∨(r = .ret [.bool false]∧p.exts.all (zeT p.prof)=false)):=by
  intro hz hpf;refine za3 (λk L H'=>L=[.int .i64 (k:Nat)]∧Grow H1 H'∧∀j (hj:j<p.exts.length),j<k→zeT p.prof p.exts[j]=true) p.exts.length ?_ ?_ ?_
  ·exact⟨rfl,Grow.refl _,λj hj hk=>absurd hk (by omega)⟩
  ·rintro k L H2 hk ⟨rfl,s2,hP⟩;have g2:H2.get H.next = _:=(s2.same _ (by omega)).trans g1;have n2:=s2.next;obtain⟨q,bv,i1,l1,w1⟩:=((hx.ext s1).ext s2).at hk;have l2:=l1.all;dsimp only[List.length_cons,List.length_nil]at l2;have hs12:Grow H1 (Heap.set (Heap.new H2 ⟨zbu,[.int .i64 0,.nils],none⟩) H2.next (some ⟨zbu,[.int .i64 p.exts[k].1,bv],none⟩)):=(s2.trans (Grow.new _ _)).set (by omega) _;have yes:zeT p.prof p.exts[k]=true→∀j (hj:j<p.exts.length),j<k+1→zeT p.prof p.exts[j]=true:=λhg j hj hjk=>by
    rcases Nat.lt_or_ge j k with h|h
    ·exact hP j hj h
    ·have:j=k:=by omega
     subst this; exact hg
   unfold zb2 uL uS uT uFM uB uI uG uH uO uc ug;rcases hpf with hpf|hpf|hpf
   ·have:=hz hpf; omega
   ·rw[hpf]at g2 yes ⊢;by_cases b1:p.exts[k].1<1
    ·simp(disch:=omega)only[↓RD,RZ,eq_self,seval,g2,ex,i1,l2,w1.cells1,w1.okc];exact⟨s1.trans hs12,.inr (zhj hk (zjx (by omega)))⟩
    by_cases b2:14<p.exts[k].1
    ·simp(disch:=omega)only[↓RD,RZ,eq_self,seval,g2,ex,i1,l2,w1.cells1,w1.okc];exact⟨s1.trans hs12,.inr (zhj hk (zjx (by omega)))⟩
    by_cases b3:p.exts[k].2.length<1
    ·simp(disch:=omega)only[↓RD,RZ,eq_self,seval,g2,ex,i1,l2,w1.cells1,w1.okc,w1.vlen];exact⟨s1.trans hs12,.inr (zhj hk (zjx (by omega)))⟩
    by_cases b4:16<p.exts[k].2.length
    ·simp(disch:=omega)only[↓RD,RZ,eq_self,seval,g2,ex,i1,l2,w1.cells1,w1.okc,w1.vlen];exact⟨s1.trans hs12,.inr (zhj hk (zjx (by omega)))⟩
    simp(disch:=omega)only[↓RD,RZ,eq_self,seval,g2,ex,i1,l2,w1.cells1,w1.okc,w1.vlen];exact⟨by rfl,hs12,yes (ztw (by omega))⟩
   ·rw[hpf]at g2 yes ⊢;by_cases b1:p.exts[k].1<1
    ·simp(disch:=omega)only[↓RD,RZ,eq_self,seval,g2,ex,i1,l2,w1.cells1,w1.okc];exact⟨s1.trans hs12,.inr (zhj hk (zmw (by omega)))⟩
    by_cases b2:255<p.exts[k].1
    ·simp(disch:=omega)only[↓RD,RZ,eq_self,seval,g2,ex,i1,l2,w1.cells1,w1.okc];exact⟨s1.trans hs12,.inr (zhj hk (zmw (by omega)))⟩
    by_cases b4:255<p.exts[k].2.length
    ·simp(disch:=omega)only[↓RD,RZ,eq_self,seval,g2,ex,i1,l2,w1.cells1,w1.okc,w1.vlen];exact⟨s1.trans hs12,.inr (zhj hk (zmw (by omega)))⟩
    simp(disch:=omega)only[↓RD,RZ,eq_self,seval,g2,ex,i1,l2,w1.cells1,w1.okc,w1.vlen];exact⟨by rfl,hs12,yes (ztv (by omega))⟩
  ·rintro L H2 ⟨rfl,s2,hP⟩;have g2:H2.get H.next = _:=(s2.same _ (by omega)).trans g1;unfold zb2 uL uS uT uFM uB uI uG uH uO uc ug;simp(disch:=omega)only[↓RD,RZ,eq_self,seval,g2,ex];exact⟨s1.trans s2,.inl (List.all_eq_true.2 λx hx=>by
    obtain⟨j,hj,rfl⟩:=List.getElem_of_mem hx;exact hP j hj hj)⟩
 have fin:∀(b:Bool),b=p.exts.all (zeT p.prof)→(∀r H',(Grow H H'∧((r=Res.ex 0 []∧p.exts.all (zeT p.prof)=true)∨(r = .ret [.bool false]∧p.exts.all (zeT p.prof)=false)))→True):=λ_ _ _ _ _=>trivial;by_cases hz:p.prof=0
 ·rw[if_pos hz];by_cases he:p.exts.length=0
  ·have hl:=loop (λ_=>he) (.inl hz);have hnil:p.exts=[]:=List.eq_nil_of_length_eq_zero he;rw[hnil]at hl;rw[hz]at g1;simp(disch:=omega)only[↓RD,RZ,eq_self,seval,g1,ec,ex,he];refine zaw hl ?_;rintro r H' ⟨h1,⟨rfl,-⟩|⟨rfl,h2⟩⟩
   ·simp(disch:=omega)only[↓RD,RZ,eq_self,seval];exact⟨by rw[decide_eq_true he],h1⟩
   ·cases h2
  ·rw[hz]at g1;simp(disch:=omega)only[↓RD,RZ,eq_self,seval,g1,ec,ex,he];exact s1
 ·rw[if_neg hz];by_cases hpf:p.prof=48862∨p.prof=4096
  ·rw[decide_eq_true hpf,Bool.true_and];have hl:=loop (λe=>absurd e hz) (.inr hpf);generalize p.exts.all (zeT p.prof)=bb at *;rcases hpf with hpf|hpf
   ·rw[hpf]at g1;simp(disch:=omega)only[↓RD,RZ,eq_self,seval,g1,ec,ex];refine zaw hl ?_;rintro r H' ⟨h1,⟨rfl,rfl⟩|⟨rfl,rfl⟩⟩
    ·simp(disch:=omega)only[↓RD,RZ,eq_self,seval];exact h1
    ·simp(disch:=omega)only[↓RD,RZ,eq_self,seval];exact h1
   ·rw[hpf]at g1;simp(disch:=omega)only[↓RD,RZ,eq_self,seval,g1,ec,ex];refine zaw hl ?_;rintro r H' ⟨h1,⟨rfl,rfl⟩|⟨rfl,rfl⟩⟩
    ·simp(disch:=omega)only[↓RD,RZ,eq_self,seval];exact h1
    ·simp(disch:=omega)only[↓RD,RZ,eq_self,seval];exact h1
  ·rw[decide_eq_false hpf,Bool.false_and];have h1:p.prof≠48862:=λe=>hpf (.inl e);have h2:p.prof≠4096:=λe=>hpf (.inr e);simp(disch:=omega)only[↓RD,RZ,eq_self,seval,g1,ec,ex];exact s1
end Go.Ax.R7
/- Rtp15 -/
namespace Go.Ax.R7
open Go.Ax
def b0(p:Pkt):Nat:=128+p.csrc.length+(if 0<p.pad then 32 else 0)+(if p.prof=0 then 0 else 16)
def b1(p:Pkt):Nat:=p.typ.toNat+(if p.mark=true then 128 else 0)
def xb(prof:Int)(x:X):List Nat:=(if prof=48862 then [16*x.1.toNat+(x.2.length-1)] else [x.1.toNat,x.2.length])++x.2
def xsb(p:Pkt):List Nat:=(p.exts.map (xb p.prof)).flatten
def padn(n:Nat):Nat:=(4-n%4)%4
def zkB(p:Pkt):List Nat:=xsb p++List.replicate (padn (xsb p).length) 0
structure Gd (p:Pkt):Prop where
 a:(0≤p.typ∧p.typ≤127)∧p.csrc.length≤15∧(0≤p.pad∧p.pad≤255)
 b:p.prof=0→p.exts=[]
 c:p.prof=0∨p.prof=48862∨p.prof=4096
 d:∀x∈p.exts,zeT p.prof x=true
theorem good_gd{p:Pkt}(h:good p=true):Gd p:=by
 have ha:(0≤p.typ∧p.typ≤127)∧p.csrc.length≤15∧(0≤p.pad∧p.pad≤255):=by
  refine Classical.byContradiction λe=>?_;rw[zkl e]at h; cases h
 rw[zsk ha]at h;by_cases hz:p.prof=0
 ·rw[if_pos hz]at h;have hn:=List.eq_nil_of_length_eq_zero (of_decide_eq_true h);exact⟨ha,λ_=>hn,.inl hz,λx hx=>by rw[hn]at hx; cases hx⟩
 ·rw[if_neg hz]at h;obtain⟨h1,h2⟩:=Bool.and_eq_true_iff.1 h;exact⟨ha,λe=>absurd e hz,.inr (of_decide_eq_true h1),List.all_eq_true.1 h2⟩
theorem zvO{x:X}(h:zeT 48862 x=true):1≤x.1∧x.1≤14∧1≤x.2.length∧x.2.length≤16:=by
 unfold zeT at h; rw[if_pos rfl]at h; exact of_decide_eq_true h
theorem zvN{x:X}(h:zeT 4096 x=true):1≤x.1∧x.1≤255∧x.2.length≤255:=by
 unfold zeT at h; rw[if_neg (by decide)]at h; exact of_decide_eq_true h
theorem ab_lit{H:Heap}{l:List Nat}{lo:Nat}(h:lo≤H.next):Ab lo (H.new ⟨zak,l.map by8,none⟩) (.sl H.next 0 l.length (.fix l.length)) l :=
 .full (zac _ _) (by simp) h (by rw[zaf]; omega)
theorem xb_len{prof:Int}{x:X}(h:zeT prof x=true)(hp:prof=48862∨prof=4096):(xb prof x).length≤257:=by
 unfold xb;rcases hp with rfl|rfl
 ·have:=zvO h;rw[if_pos rfl]; simp; omega
 ·have:=zvN h;rw[if_neg (by decide)]; simp; omega
end Go.Ax.R7
/- Rtp16 -/
namespace Go.Ax.R7
open Go.Ax
def xsk(p:Pkt)(k:Nat):List Nat:=((p.exts.take k).map (xb p.prof)).flatten
theorem zrR{p:Pkt}{k:Nat}(h:k<p.exts.length):xsk p (k+1)=xsk p k++xb p.prof p.exts[k]:=by
 unfold xsk;rw[List.take_succ_eq_append_getElem h,List.map_append,List.flatten_append]; simp
theorem zqU(p:Pkt):xsk p p.exts.length=xsb p:=by unfold xsk xsb; rw[List.take_length]
theorem zqT{p:Pkt}(hg:Gd p)(hp:p.prof≠0):∀k,k≤p.exts.length→(xsk p k).length≤257*k:=by
 intro k
 induction k with
 | zero=>intro _; simp[xsk]
 | succ k ih =>
  intro hk;rw[zrR (by omega),List.length_append];have h1:=xb_len (hg.d _ (List.getElem_mem (show k<p.exts.length by omega))) (hg.c.resolve_left hp);have:=ih (by omega);omega
theorem Exs.at0{lo:Nat}{H H2:Heap}{v:V}{xs:List X}(h:Exs lo H v xs)(g:Grow H H2){i:Nat}(hi:i<xs.length):∃p bv,(∀{k:IntKind},Ax.iaddr none 2 v (.int k i)=some p)∧Pl H2 p [.int .i64 xs[i].1,bv] v.pid∧By lo H bv xs[i].2:=by
 obtain⟨ws,rfl,h2,h3⟩:=h;rw[List.length_map]at hi;obtain⟨p,hp,hl⟩:=(h2.ext g).at (i:=(i:Nat)) (by omega) (by omega);have e:((ws.map xc).flatten.drop (i*2)).take 2=[.int .i64 ws[i].1.1,ws[i].2]:=by
  rw[znX _ (xc_len ws) i (by rw[List.length_map]; exact hi),List.getElem_map]; rfl
 rw[Int.toNat_natCast,e]at hl;refine⟨p,ws[i].2,hp,?_,?_⟩
 ·simpa using hl
 ·simpa using h3 _ (List.getElem_mem hi)
end Go.Ax.R7
/- Rtp17 -/
namespace Go.Ax.R7
open Go.Ax
def csb(p:Pkt):List Nat:=(p.csrc.map (bn 4)).flatten
def extb(p:Pkt):List Nat:=if p.prof=0 then [] else bn 2 p.prof.toNat++bn 2 ((zkB p).length/4)++zkB p
def hb0(p:Pkt):List Nat:=[b0 p,b1 p]++bn 2 p.seq++bn 4 p.ts++bn 4 p.ssrc++csb p
def hb(p:Pkt):List Nat:=hb0 p++extb p
def padb(n:Nat):List Nat:=if n=0 then [] else List.replicate (n-1) 0++[n]
def bytes(p:Pkt):Except Int (List Nat) :=
 if good p=false then .error 1
 else if 1200<(hb p).length+p.pay.length+p.pad.toNat then .error 4
 else .ok (hb p++p.pay++padb p.pad.toNat)
structure Num (p:Pkt):Prop where
 seq:p.seq<65536
 ts:p.ts<4294967296
 ssrc:p.ssrc<4294967296
 csrc:∀x∈p.csrc,x<4294967296
def BytesQ(H:Heap) (o:Except Int (List Nat)) (r:V) (H':Heap):Prop :=
 Grow H H'∧match o with
  | .error e=>r = .tup [.nils,.int .i64 e]
  | .ok l=>∃w,r = .tup [w,.int .i64 0]∧By H.next H' w l
def csk(p:Pkt)(k:Nat):List Nat:=((p.csrc.take k).map (bn 4)).flatten
theorem zsw{p:Pkt}{k:Nat}(h:k<p.csrc.length):csk p (k+1)=csk p k++bn 4 p.csrc[k]:=by
 unfold csk;rw[List.take_succ_eq_append_getElem h,List.map_append,List.flatten_append]; simp
theorem zwj{p:Pkt}:∀k,k≤p.csrc.length→(csk p k).length=4*k:=by
 intro k
 induction k with
 | zero=>intro _; simp[csk]
 | succ k ih=>intro hk; rw[zsw (by omega),List.length_append,ih (by omega),bn_len]; omega
theorem zwk(p:Pkt):csk p p.csrc.length=csb p:=by unfold csk csb; rw[List.take_length]
theorem hb0_len(p:Pkt):(hb0 p).length=12+4*p.csrc.length:=by
 unfold hb0;have:=zwj (p:=p) p.csrc.length (Nat.le_refl _);rw[zwk]at this;simp only[List.length_append,bn_len,this,List.length_cons,List.length_nil]
theorem zqB{p:Pkt}(hg:Gd p)(hp:p.prof≠0):(zkB p).length≤257*p.exts.length+3:=by
 have:=zqT hg hp p.exts.length (Nat.le_refl _);rw[zqU]at this;unfold zkB padn;rw[List.length_append,List.length_replicate]; omega
theorem Ab.mem{lo:Nat}{H:Heap}{v:V}{l:List Nat}(h:Ab lo H v l)(hl:0<l.length):∃id cap o,v = .sl id 0 l.length cap∧H.get id=some ⟨zak,l.map by8,o⟩∧lo≤id∧id<H.next∧V.capOk 1 v:=by
 unfold Ab at h;generalize hc:l.map by8=cells at h;generalize hn:l.length=n at h hl;cases h with
 | app h =>
  cases h with
  | opn h ho =>
   rcases h with⟨rfl,_,h0⟩|⟨id,rfl,hb,_⟩
   ·omega
   ·obtain⟨h1,h2⟩:=ho id rfl;exact⟨id,_,_,rfl,hb,h1,h2,rfl⟩
  | lit h h0 h1=>omega
 | full h hl h0 h1=>exact⟨_,_,_,rfl,h,h0,h1,Nat.le_refl _⟩
end Go.Ax.R7
/- Rtp18 -/
namespace Go.Ax.R7
open Go.Ax
def o1(b:Bool):Nat:=if b=true then 1 else 0
theorem o1_le(b:Bool):o1 b≤1:=by cases b<;>decide
theorem one_eq(b:Bool):sem T zbv [.bool b]=M.pure (.int .i64 (o1 b:Nat)):=by
 refine znJ λH=>?_;refine ziu ?_;unfold zfG uc;cases b
 ·simp(disch:=omega)only[↓RD,RZ,eq_self,seval];rfl
 ·simp(disch:=omega)only[↓RD,RZ,eq_self,seval];rfl
theorem Apf.low{ty e lo lo' n:Nat}{H:Heap}{v:V}{cells:List V}(h:Apf ty e lo H v cells n)(hl:lo'≤lo):Apf ty e lo' H v cells n:=by
 cases h with
 | app h =>
  cases h with
  | opn h ho=>exact .app (.opn h λid hi=>⟨Nat.le_trans hl (ho id hi).1,(ho id hi).2⟩)
  | lit h h0 h1=>exact .app (.lit h (Nat.le_trans hl h0) h1)
 | full h hl2 h0 h1=>exact .full h hl2 (Nat.le_trans hl h0) h1
theorem pad2_ok{lo:Nat}{H:Heap}{w:V}{l:List Nat}(t2 t3:V)(h:Ab lo H w l)(hlo:lo≤H.next)(hl:l.length≤549755813888){Q:Res→Heap→Prop} (k:∀w' H',Ab lo H' w' (l++List.replicate (padn l.length) 0)→Bel lo H H'→Q (.ex 4 [w']) H') :
  Ok (M.iter (zbQ (sem T) t2 t3) [w]) H Q:=by
 refine za3 (λm L H'=>∃w',L=[w']∧Ab lo H' w' (l++List.replicate m 0)∧Bel lo H H') (padn l.length) ?_ ?_ ?_
 ·exact⟨w,rfl,by simpa using h,Bel.refl _ _⟩
 ·rintro m L H1 hm ⟨w',rfl,ha,hb⟩;have hv:=ha.lc.vlen;rw[List.length_append,List.length_replicate]at hv;have n1:=hb.next;have hne:(l.length+m)%4≠0:=by unfold padn at hm; omega
  unfold zbQ uL uB uc ub ug;simp(disch:=omega)only[↓RD,RZ,eq_self,seval,hv];refine okb_ab (m:=[0]) (ha.keep ((Grow.new _ _).keep _)) (by rw[zaf]; omega) (zbS rfl) (by simp; unfold padn at hm; omega) λw2 H2 h2 hb2=>?_;simp(disch:=omega)only[↓RD,RZ,eq_self,seval];refine⟨w2,rfl,?_,hb.trans (((Grow.new _ _).bel7 (by omega)).trans hb2)⟩;rw[List.replicate_succ',←List.append_assoc];exact h2
 ·rintro L H1 ⟨w',rfl,ha,hb⟩;have hv:=ha.lc.vlen;rw[List.length_append,List.length_replicate]at hv;have hne:(l.length+padn l.length)%4=0:=by unfold padn; omega
  have hb3:padn l.length≤3:=by unfold padn; omega
  unfold zbQ uL uB uc ub ug;simp(disch:=omega)only[↓RD,RZ,eq_self,seval,hv,hne];exact k _ _ ha hb
theorem ztO{lo:Nat}{H0 H:Heap}{b:Nat}{p:Pkt}{cv xv pv:V}(t2 t3:V)(hx:Exs lo H0 xv p.exts)(s0:Grow H0 H)(hb1:H0.next≤b)(hb2:b<H.next)(hs:Sml p)(hg:Gd p)(hp0:p.prof≠0) (gb:H.get b=some ⟨zai,pcells p cv xv pv,none⟩) {w0:V} (ha0:Ab H.next (H.new ⟨zak,[],none⟩) w0 []) {Q:Res→Heap→Prop}
  (kk:∀w' H',Ab H.next H' w' (xsb p)→Grow H H'→Q (.ex 2 [w']) H'):Ok (M.iter (zbR (sem T) (.ptr b 0) t2 t3) [w0,.int .i64 0]) (H.new ⟨zak,[],none⟩) Q:=by
 have hb:=hs.b;unfold pcells at gb;refine za3 (λk L H'=>∃w,L=[w,.int .i64 (k:Nat)]∧Ab H.next H' w (xsk p k)∧Grow H H') p.exts.length ?_ ?_ ?_
 ·exact⟨w0,rfl,ha0,Grow.new _ _⟩
 ·rintro k L H2 hk ⟨w,rfl,ha,s2⟩;have g2:H2.get b = _:=(s2.same _ hb2).trans gb;have n2:=s2.next;have s02:=s0.trans s2;obtain⟨q,bv,i1,l1,w1⟩:=hx.at0 s02 hk;have l2:=zr6 l1;have hlen:=zqT hg hp0 k (by omega);have hgx:=hg.d _ (List.getElem_mem hk);have ex:=(hx.ext s02).vlen;have w2:=w1.ext s02;generalize hxe:p.exts[k]=x at *;have hsx:xsk p (k+1)=xsk p k++xb p.prof x:=by rw[zrR hk,hxe]
  obtain⟨x1,x2⟩:=x;dsimp only at l2 w1 l1 w2;unfold zbR uL uFM uB uI uc ub ug;rcases hg.c.resolve_left hp0 with hpf|hpf
  ·rw[hpf]at g2 hgx hsx;obtain⟨c1,c2,c3,c4⟩:=zvO hgx;dsimp only at c1 c2 c3 c4;obtain⟨i,rfl⟩:=Int.eq_ofNat_of_zero_le (show 0≤x1 by omega);have e1:(16:Int)*(i:Nat)+(x2.length:Nat)-1=((16*i+(x2.length-1):Nat):Int):=by omega
   have e4:(16*i+(x2.length-1))%256=16*i+(x2.length-1):=by omega
   simp(disch:=omega)only[↓RD,RZ,eq_self,seval,g2,ex,i1,l1.fa,l2.1,l2.2,w2.vlen,e1,e4];refine okb_ab (m:=[16*i+(x2.length-1)]) (ha.keep ((Grow.new _ _).keep _)) (by rw[zaf]; omega) (zfM (by omega) rfl) (by simp; omega) λw' H4 h4 hb4=>?_;have s4:Grow H H4:=Grow.bel7' (s2.trans (Grow.new _ _)) (Nat.le_refl _) hb4;have g4:H4.get b = _:=(s4.same _ hb2).trans gb;rw[hpf]at g4;have s04:=s0.trans s4;obtain⟨q4,bv4,i4,l4,w4⟩:=hx.at0 s04 hk;rw[hxe]at l4 w4;dsimp only at l4 w4;have n4:=s4.next;simp(disch:=omega)only[↓RD,RZ,eq_self,seval,g4,i4,l4.fa,(zr6 l4).2];refine okb_ab (m:=x2) h4 (by omega) (w4.ext s04).ac (by simp; omega) λw5 H5 h5 hb5=>?_;simp(disch:=omega)only[↓RD,RZ,eq_self,seval];refine⟨w5,by rfl,?_,Grow.bel7' s4 (Nat.le_refl _) hb5⟩;rw[hsx];unfold xb;rw[if_pos rfl];rw[List.append_assoc]at h5;exact h5
  ·rw[hpf]at g2 hgx hsx;obtain⟨c1,c2,c4⟩:=zvN hgx;dsimp only at c1 c2 c4;obtain⟨i,rfl⟩:=Int.eq_ofNat_of_zero_le (show 0≤x1 by omega);have e4:i%256=i:=by omega
   have e5:x2.length%256=x2.length:=by omega
   simp(disch:=omega)only[↓RD,RZ,eq_self,seval,g2,ex,i1,l1.fa,l2.1,l2.2,w2.vlen,e4,e5];refine okb_ab (m:=[i,x2.length]) (ha.keep ((Grow.new _ _).keep _)) (by rw[zaf]; omega) (zfM (by omega) rfl) (by simp; omega) λw' H4 h4 hb4=>?_;have s4:Grow H H4:=Grow.bel7' (s2.trans (Grow.new _ _)) (Nat.le_refl _) hb4;have g4:H4.get b = _:=(s4.same _ hb2).trans gb;rw[hpf]at g4;have s04:=s0.trans s4;obtain⟨q4,bv4,i4,l4,w4⟩:=hx.at0 s04 hk;rw[hxe]at l4 w4;dsimp only at l4 w4;have n4:=s4.next;simp(disch:=omega)only[↓RD,RZ,eq_self,seval,g4,i4,l4.fa,(zr6 l4).2];refine okb_ab (m:=x2) h4 (by omega) (w4.ext s04).ac (by simp; omega) λw5 H5 h5 hb5=>?_;simp(disch:=omega)only[↓RD,RZ,eq_self,seval];refine⟨w5,by rfl,?_,Grow.bel7' s4 (Nat.le_refl _) hb5⟩;rw[hsx];unfold xb;rw[if_neg (by decide)];rw[List.append_assoc]at h5;exact h5
 ·rintro L H2 ⟨w,rfl,ha,s2⟩;rw[zqU]at ha;have g2:H2.get b = _:=(s2.same _ hb2).trans gb;have ex:=(hx.ext (s0.trans s2)).vlen;unfold zbR uL uFM uB uI uc ub ug;simp(disch:=omega)only[↓RD,RZ,eq_self,seval,g2,ex];exact kk w H2 ha s2
end Go.Ax.R7
/- Rtp19 -/
namespace Go.Ax.R7
open Go.Ax
def PB2(H:Heap)(p:Pkt)(r:Res)(H':Heap):Prop :=
 Grow H H'∧((1200<(zkB p).length∧p.prof≠0∧r = .ret [.nils,.int .i64 4])∨∃w,r = .nrm [w]∧Ab H.next H' w (hb p))
def PC2(H:Heap)(p:Pkt)(r:Res)(H':Heap):Prop:=Grow H H'∧∃w,r = .nrm [w]∧By H.next H' w (hb p++p.pay++padb p.pad.toNat)
theorem hb_big{p:Pkt}(h:p.prof≠0):(zkB p).length≤(hb p).length:=by
 unfold hb extb; rw[if_neg h]; simp only[List.length_append]; omega
theorem Bytes2_ok{lo:Nat}{H:Heap}{v:V}{p:Pkt}(h:PkR lo H v p)(hs:Sml p)(hn:Num p):Ok (sem T zb1 [v]) H (BytesQ H (bytes p)):=by
 have h0:=h;obtain⟨cv,xv,pv,rfl,hc,hx,hp⟩:=h;have hs':=hs;obtain⟨q1,q2,q3,q4⟩:=hs;obtain⟨m1,m2,m3,m4⟩:=hn;refine zhy ?_;unfold zeQ uL uM uS uF uFM uB uO uU uc ub ug;unfold bytes;unfold pcells;simp(disch:=first|omega|(simp only[RY]<;>omega)|decide)only[↓RD,RZ,eq_self,seval,hc.cells1,hx.cells1,hp.cells1,hc.okc,hx.okc,hp.okc];generalize hH1:Heap.new H _=H1;have n1:H1.next=H.next+1:=by rw[←hH1]; rfl
 have s1:Grow H H1:=by rw[←hH1]; exact Grow.new _ _
 have g1:H1.get H.next=some ⟨zai,pcells p cv xv pv,none⟩:=by rw[←hH1]; exact zac _ _
 clear hH1;have gp1:=g1;unfold pcells at g1;refine zad (Good2_ok (h0.ext s1) ⟨q1,q2,q3,q4⟩) ?_;rintro _ H2 ⟨rfl,s2⟩;have n2:=s2.next;have s02:=s1.trans s2;have g2:H2.get H.next = _:=(s2.same _ (by omega)).trans g1;cases hgd:good p with
 | false =>
  simp(disch:=omega)only[↓RD,RZ,eq_self,seval];exact⟨s02,rfl⟩
 | true =>
  have hg:=good_gd hgd;obtain⟨⟨⟨ht0,ht1⟩,hcl,hpd0,hpd1⟩,-,-,-⟩:=id hg;rw[if_neg (by decide)];have l1:=o1_le (decide (0<p.pad));have l2:=o1_le (!(p.prof==0));have l3:=o1_le p.mark;have eb0:(128:Int)+32*((o1 (decide (0<p.pad)):Nat):Int)+16*((o1 (!(p.prof==0)):Nat):Int)+(p.csrc.length:Nat)=((b0 p:Nat):Int):=by
   unfold b0 o1;by_cases c1:0<p.pad<;>by_cases c2:p.prof=0<;>simp[c1,c2]<;>omega
  have eb1:(128:Int)*((o1 p.mark:Nat):Int)+p.typ=((b1 p:Nat):Int):=by
   unfold b1 o1;cases p.mark<;>simp<;>omega
  have lb0:b0 p%256=b0 p:=by unfold b0; split<;>split<;>omega
  have lb1:b1 p%256=b1 p:=by unfold b1; split<;>omega
  have e1:p.seq%18446744073709551616=p.seq:=by omega
  simp(disch:=omega)only[↓RD,RZ,eq_self,seval,g2,one_eq,(hc.ext s02).vlen,eb0,eb1,lb0,lb1,e1];have a3:Ab H2.next (H2.new ⟨zak,[.int .u8 (b0 p:Nat),.int .u8 (b1 p:Nat)],none⟩) (.sl H2.next 0 2 (.fix 2)) [b0 p,b1 p]:=ab_lit (l:=[b0 p,b1 p]) (Nat.le_refl _);have s3:=Grow.new H2 ⟨zak,[.int .u8 (b0 p:Nat),.int .u8 (b1 p:Nat)],none⟩;refine zad (U_ok a3.by (by simp) p.seq 2 (by omega) (by omega)) ?_;rintro w4 H4 ⟨a4,s4⟩;have t4:=s3.trans s4;have g4:H4.get H.next = _:=(t4.same _ (by omega)).trans g2;have e2:p.ts%18446744073709551616=p.ts:=by omega
  have e3:p.ssrc%18446744073709551616=p.ssrc:=by omega
  simp(disch:=omega)only[↓RD,RZ,eq_self,seval,g4,e2];refine zad (U_ok a4.by (by simp[bn_len]) p.ts 4 (by omega) (by omega)) ?_;rintro w5 H5 ⟨a5,s5⟩;have t5:=t4.trans s5;have g5:H5.get H.next = _:=(t5.same _ (by omega)).trans g2;simp(disch:=omega)only[↓RD,RZ,eq_self,seval,g5,e3];refine zad (U_ok a5.by (by simp[bn_len]) p.ssrc 4 (by omega) (by omega)) ?_;rintro w6 H6 ⟨a6,s6⟩;have t6:=t5.trans s6;have n5:=t5.next;simp(disch:=omega)only[↓RD,RZ,eq_self,seval];refine za3 (λk L H'=>∃w,L=[w,.int .i64 (k:Nat)]∧Ab H2.next H' w ([b0 p,b1 p]++bn 2 p.seq++bn 4 p.ts++bn 4 p.ssrc++csk p k)∧Grow H2 H') p.csrc.length ?_ ?_ ?_
  ·exact⟨w6,rfl,by rw[show csk p 0=[] from rfl,List.append_nil]; exact Apf.low a6 (by omega),t6⟩
  ·rintro k L H7 hk ⟨w,rfl,a7,t7⟩;have g7:H7.get H.next = _:=(t7.same _ (by omega)).trans g2;have s7:=s02.trans t7;have n7:=t7.next;obtain⟨q,i1,l1⟩:=w_at (hc.ext s7) hk;have hlen:=zwj (p:=p) k (by omega);have hck:=m4 _ (List.getElem_mem hk);have e4:p.csrc[k]%18446744073709551616=p.csrc[k]:=by omega
   unfold zcM uL uFM uB uIM uc ug;simp(disch:=omega)only[↓RD,RZ,eq_self,seval,g7,(hc.ext s7).vlen,i1,l1,e4];refine zad (U_ok a7.by (by simp[bn_len,hlen]; omega) p.csrc[k] 4 (by omega) (by omega)) ?_;rintro w8 H8 ⟨a8,s8⟩;simp(disch:=omega)only[↓RD,RZ,eq_self,seval];refine⟨w8,by rfl,?_,t7.trans s8⟩;rw[zsw hk,←List.append_assoc];exact Apf.low a8 (by omega)
  ·rintro L H7 ⟨w7,rfl,a7,t7⟩;rw[zwk]at a7;have a7':Ab H2.next H7 w7 (hb0 p):=a7;have g7:H7.get H.next = _:=(t7.same _ (by omega)).trans g2;have s7:=s02.trans t7;have n7:=t7.next;have hl0:=hb0_len p;unfold zcM uL uFM uB uIM uc ug;simp(disch:=omega)only[↓RD,RZ,eq_self,seval,g7,(hc.ext s7).vlen];refine zaw (Q:=PB2 H2 p) ?_ ?_
   ·by_cases hz:p.prof=0
    ·simp(disch:=omega)only[↓RD,RZ,eq_self,seval,hz];refine⟨t7,.inr ⟨w7,rfl,?_⟩⟩;unfold hb extb;rw[if_pos hz,List.append_nil]; exact a7'
    ·have hel:=zqB hg hz;simp(disch:=omega)only[↓RD,RZ,eq_self,seval,hz];have gp7:H7.get H.next=some ⟨zai,pcells p cv xv pv,none⟩:=(t7.same _ (by omega)).trans ((s2.same _ (by omega)).trans gp1);refine ztO _ _ hx s7 (b:=H.next) (Nat.le_refl _) (by omega) hs' hg hz gp7 (Apf.app (.lit (zac _ _) (Nat.le_refl _) (by rw[zaf]; omega))) ?_;intro w8 H8 a8 s8;have hxl:=zqT hg hz p.exts.length (Nat.le_refl _);rw[zqU]at hxl;simp(disch:=omega)only[↓RD,RZ,eq_self,seval];refine pad2_ok _ _ a8 s8.next (by omega) λw9 H9 a9 b9=>?_;have a9':Ab H7.next H9 w9 (zkB p):=a9;have s9:Grow H7 H9:=Grow.bel7' s8 (Nat.le_refl _) b9;have t9:=t7.trans s9;have g9:H9.get H.next = _:=(t9.same _ (by omega)).trans g2;by_cases hbig:1200<(zkB p).length
     ·simp(disch:=omega)only[↓RD,RZ,eq_self,seval,a9'.lc.vlen];exact⟨t9,.inl ⟨hbig,hz,rfl⟩⟩
     ·obtain⟨f,hf,hf2⟩:∃f:Nat,p.prof=(f:Int)∧f<65536:=by
       rcases hg.c.resolve_left hz with e|e
       ·exact⟨48862,e,by omega⟩
       ·exact⟨4096,e,by omega⟩
      have e5:f%18446744073709551616=f:=by omega
      have e6:(zkB p).length/4%18446744073709551616=(zkB p).length/4:=by omega
      have a79:Ab H2.next H9 w7 (hb0 p):=Apf.keep a7' (s9.keep _);rw[hf]at g9;simp(disch:=omega)only[↓RD,RZ,eq_self,seval,a9'.lc.vlen,g9,e5];refine zad (U_ok a79.by (by omega) f 2 (by omega) (by omega)) ?_;rintro w10 H10 ⟨a10,s10⟩;have he10:=a9'.by.ext s10;simp(disch:=omega)only[↓RD,RZ,eq_self,seval,he10.vlen,e6];refine zad (U_ok a10.by (by simp[bn_len,hl0]; omega) ((zkB p).length/4) 2 (by omega) (by omega)) ?_;rintro w11 H11 ⟨a11,s11⟩;have he11:=he10.ext s11;have n9:=t9.next;have n10:=s10.next;have n11:=s11.next;simp(disch:=omega)only[↓RD,RZ,eq_self,seval];refine okb_ab (Apf.low a11 (show H2.next≤H10.next by omega)) (by omega) he11.ac (by simp[bn_len,hl0]; omega) λw12 H12 a12 b12=>?_;simp(disch:=omega)only[↓RD,RZ,eq_self,seval];refine⟨Grow.bel7' ((t9.trans s10).trans s11) (Nat.le_refl _) b12,.inr ⟨w12,rfl,?_⟩⟩;have ehb:hb p=hb0 p++bn 2 f++bn 2 ((zkB p).length/4)++zkB p:=by
       unfold hb extb;rw[if_neg hz,hf,Int.toNat_natCast];simp only[List.append_assoc]
      rw[ehb]; exact a12
   ·rintro r H8 ⟨t8,⟨hbig,hz,rfl⟩|⟨w8,rfl,a8⟩⟩
    ·have:=hb_big hz;rw[if_pos (by omega)];simp(disch:=omega)only[↓RD,RZ,eq_self,seval];exact⟨s02.trans t8,rfl⟩
    ·have g8:H8.get H.next = _:=(t8.same _ (by omega)).trans g2;have s8:=s02.trans t8;have n8:=t8.next;obtain⟨d,hd⟩:=Int.eq_ofNat_of_zero_le hpd0;rw[hd]at g8 hpd1;have hdt:p.pad.toNat=d:=by rw[hd]; rfl
     have hhl:(hb p).length≤549755813888:=by
      unfold hb extb;rw[List.length_append,hl0];split
      ·simp; omega
      ·rename_i hz;have:=zqB hg hz;simp only[List.length_append,bn_len]; omega
     simp(disch:=omega)only[↓RD,RZ,eq_self,seval,g8];refine okb_ab a8 n8 (hp.ext s8).ac (by omega) λw9 H9 a9 b9=>?_;have t9:=Grow.bel7' t8 (Nat.le_refl _) b9;have g9:H9.get H.next = _:=(b9.same _ (by omega)).trans g8;have n9:=t9.next;simp(disch:=omega)only[↓RD,RZ,eq_self,seval,g9];refine zaw (Q:=PC2 H2 p) ?_ ?_
     ·by_cases hd0:d=0
      ·subst hd0;simp(disch:=omega)only[↓RD,RZ,eq_self,seval];refine⟨t9,w9,rfl,?_⟩;rw[hdt];unfold padb;rw[if_pos rfl,List.append_nil];exact a9.by
      ·obtain⟨c,rfl⟩:∃c,d=c+1:=⟨d-1,by omega⟩;have e7:((c+1:Nat):Int)-1=(c:Nat):=by omega
       have e8:(c+1)%256=c+1:=by omega
       simp(disch:=omega)only[↓RD,RZ,eq_self,seval,g9,e7,e8];refine okb_apfz (m:=c) a9 n9 (by simp; omega) (by simp; omega) λw10 H10 a10 b10=>?_;have ea:Ab H2.next H10 w10 (hb p++p.pay++List.replicate c 0):=by
        show Apf _ _ _ _ _ _ _;rw[List.map_append,List.length_append,List.map_replicate,List.length_replicate];exact a10
       have g10:H10.get H.next = _:=(b10.same _ (by omega)).trans g9;have t10:=Grow.bel7' t9 (Nat.le_refl _) b10;have n10:=t10.next;simp(disch:=omega)only[↓RD,RZ,eq_self,seval,g9,g10];refine okb_ab (m:=[c+1]) (ea.keep ((Grow.new _ _).keep _)) (by rw[zaf]; omega) (zbS rfl) (by simp; omega) λw11 H11 a11 b11=>?_;simp(disch:=omega)only[↓RD,RZ,eq_self,seval];refine⟨Grow.bel7' (t10.trans (Grow.new _ _)) (Nat.le_refl _) b11,w11,rfl,?_⟩;have efin:hb p++p.pay++padb p.pad.toNat=(hb p++p.pay++List.replicate c 0)++[c+1]:=by
        rw[hdt];unfold padb;rw[if_neg (by omega)];simp
       rw[efin];exact a11.by
     ·rintro r H10 ⟨t10,w10,rfl,a10⟩;have hvl:=a10.vlen;have hpl:(padb p.pad.toNat).length=p.pad.toNat:=by
       unfold padb;split
       ·rename_i e; rw[e]; rfl
       ·simp; omega
      have htot:(hb p++p.pay++padb p.pad.toNat).length=(hb p).length+p.pay.length+p.pad.toNat:=by
       rw[List.length_append,List.length_append,hpl]
      rw[htot]at hvl;by_cases hbig:1200<(hb p).length+p.pay.length+p.pad.toNat
      ·rw[if_pos hbig];simp(disch:=omega)only[↓RD,RZ,eq_self,seval,hvl];exact⟨s02.trans t10,rfl⟩
      ·rw[if_neg hbig];simp(disch:=omega)only[↓RD,RZ,eq_self,seval,hvl];exact⟨s02.trans t10,w10,rfl,a10.low (by omega)⟩
end Go.Ax.R7
/- Rc18 -/
namespace Go.Ax.SU
open Go.Ax
def sumN(ns:List Nat)(j:Nat):Nat:=((List.range j).map λi=>ns.getD (i+1) 0).sum
theorem zpC(ns:List Nat)(j:Nat):sumN ns (j+1)=sumN ns j+ns.getD (j+1) 0:=by unfold sumN; rw[List.range_succ,List.map_append,List.sum_append]; simp
theorem sumN_le{ns:List Nat}(h:∀i,ns.getD i 0≤100000000)(j:Nat):sumN ns j≤j*100000000:=by
 induction j with
 | zero=>rw[Nat.zero_mul]; exact Nat.le_refl 0
 | succ j ih=>rw[zpC,Nat.succ_mul]; exact Nat.add_le_add ih (h (j+1))
theorem ztQ{K:Kd}{H:Heap}{L:Nat→V}{rm:Nat→Rm}{Q:Nat→List Ot}{ns:List Nat}{nw:Int}(hh:DW K H L rm Q ns nw)(hs:∀i,ns.getD i 0≤100000000) :
  Ok (sem T zbc [.ptr K.d 0]) H λr H'=>r = .int .i64 (sumN ns 10:Nat)∧H'=H:=by
 refine zgi ?_;unfold zdY uc ug;simp(disch:=omega)only[↓RD,RZ,eq_self,seval];refine zaw (Q:=λr H'=>r = .ex 0 [.int .i64 (sumN ns 10:Nat)]∧H'=H) ?_ ?_
 ·refine za3 (λj L0 H'=>L0=[.int .i64 (sumN ns j:Nat),.int .i64 (j+1:Nat)]∧H'=H) 10 ⟨rfl,rfl⟩ ?_ ?_
  ·rintro j _ H' hj ⟨rfl,rfl⟩;have d1:decide (((j+1:Nat):Int)≤10)=true:=decide_eq_true (by omega);have d1':decide (j+1≤10)=true:=decide_eq_true (by omega);have w1:IntKind.i64.wrap (((j+1:Nat):Int)+1)=((j+1+1:Nat):Int):=by rw[wrap_i64 (by omega) (by omega)]; omega
   have hS:=sumN_le hs j;have hj1:=hs (j+1);have es:=zpC ns j;have wc:=@zaQ _ _ _ _ (zkF (i:=j+1) hh (by omega));generalize sumN ns j=x at *;generalize ns.getD (j+1) 0=y at *;have w2:IntKind.i64.wrap (((x:Nat):Int)+((y:Nat):Int))=((x+y:Nat):Int):=by rw[wrap_i64 (by omega) (by omega)]; omega
   rw[es];unfold zcb uB uc ug;simp(disch:=omega)only[↓RD,RZ,eq_self,seval,d1,d1',wc,w1,w2]
  ·rintro _ H' ⟨rfl,rfl⟩;unfold zcb uB uc ug;simp(disch:=omega)only[↓RD,RZ,eq_self,seval]
 ·rintro _ H' ⟨rfl,rfl⟩;simp(disch:=omega)only[↓RD,RZ,eq_self,seval]
theorem z11(i:Nat):(List.replicate 11 0).getD i 0=0:=by
 rw[List.getD_eq_getElem?_getD,List.getElem?_replicate];split<;>rfl
end Go.Ax.SU
/- Ep16 -/
namespace Go.Ax.SU
open Go.Ax
theorem zul{H:Heap}{d a:Nat}{bv:V}(n:Int){Q:Heap→Prop}(hc:H.Cl)(ha:a<64) (vc:bv.cells=[bv]) (vo:bv.okc=true)
  (h:∀H1,Grow H H1→H1.Cl→Ok (sem T za5 [.ptr d 0,.int .i64 (a:Nat),bv]) H1 λr H'=>r = .tup []∧Q H') :
  Ok (sem T zaG [.ptr d 0,.agg [.int .i64 1,.int .i64 (a:Nat),.int .i64 n,bv]]) H λr H'=>r = .tup [.nils,.int .i64 0]∧Q H':=by
 refine zd4 ?_;unfold zdB uL uT uFM uNFM uNF uB uG uH uO uc;refine zoy hc λq H0 e0 g0 s0 n0 c0=>?_;have w:=@zaQ _ _ _ _ (@zid H0 (a:Nat));have e:(decide ((0:Int)≤((a:Nat):Int))&&decide (((a:Nat):Int)≤63))=true:=by
  rw[decide_eq_true (by omega),decide_eq_true (by omega)]; rfl
 rw[e]at w;simp(disch:=omega)only[↓RD,RZ,eq_self,seval,g0,w];refine zad (h H0 s0 c0) ?_;rintro _ H1 ⟨rfl,hq⟩;simp(disch:=omega)only[↓RD,RZ,eq_self,seval];exact hq
theorem remN(x m:Nat)(hm:0<m):Ax.bin .rem (.int .u8 (x:Nat)) (.int .u8 (m:Nat))=some (.int .u8 (x%m:Nat)):=by
 have e:((x:Nat):Int).tmod ((m:Nat):Int)=((x%m:Nat):Int):=by rw[Int.tmod_eq_emod_of_nonneg (by omega)]; rfl
 have h0:¬((m:Nat):Int)=0:=by omega
 simp[Ax.bin,zcF,e,h0];omega
def kd(E S W:Nat):Nat:=E*256+S*8+W
theorem kd_or:((List.range 8).all λE=>(List.range 32).all λS=>(List.range 8).all λW=>Cc.same1 ((Ax.bin .shl (.int .u64 (E:Nat)) (.int .u64 8)).getD .undef) (.int .u64 (E*256:Nat))&&Cc.same1 ((Ax.bin .shl (.int .u64 (S:Nat)) (.int .u64 3)).getD .undef) (.int .u64 (S*8:Nat))&&Cc.same1 ((Ax.bin .or (.int .u64 (E*256:Nat)) (.int .u64 (S*8:Nat))).getD .undef) (.int .u64 (E*256+S*8:Nat))&&Cc.same1 ((Ax.bin .or (.int .u64 (E*256+S*8:Nat)) (.int .u64 (W:Nat))).getD .undef) (.int .u64 (kd E S W:Nat)))=true:=by kernel_rfl
theorem getD_some{o:Option V}{v:V} (h:Cc.same1 (o.getD .undef) v=true) (hv:v≠.undef):o=some v:=by
 have e:=Cc.same1_eq h;cases o with
 | none=>exact absurd e.symm hv
 | some w=>exact congrArg some e
theorem kd_facts{E S W:Nat}(hE:E<8)(hS:S<32)(hW:W<8):Ax.bin .shl (.int .u64 (E:Nat)) (.int .u64 8)=some (.int .u64 (E*256:Nat))∧Ax.bin .shl (.int .u64 (S:Nat)) (.int .u64 3)=some (.int .u64 (S*8:Nat))∧Ax.bin .or (.int .u64 (E*256:Nat)) (.int .u64 (S*8:Nat))=some (.int .u64 (E*256+S*8:Nat))∧Ax.bin .or (.int .u64 (E*256+S*8:Nat)) (.int .u64 (W:Nat))=some (.int .u64 (kd E S W:Nat)):=by
 have h:=List.all_eq_true.1 (List.all_eq_true.1 (List.all_eq_true.1 kd_or E (List.mem_range.2 hE)) S (List.mem_range.2 hS)) W (List.mem_range.2 hW);simp only[Bool.and_eq_true]at h;obtain⟨⟨⟨h1,h2⟩,h3⟩,h4⟩:=h;exact⟨getD_some h1 (λh=>by cases h),getD_some h2 (λh=>by cases h),getD_some h3 (λh=>by cases h),getD_some h4 (λh=>by cases h)⟩
theorem app3{H:Heap}{a b c:V}{f:V→M Res}{Q:Res→Heap→Prop} (h:Ok (f (.sl (H.next+2) 0 3 (.opn 1))) (((H.new ⟨zak,[a],none⟩).new ⟨zak,[b,c],none⟩).new ⟨zak,[a,b,c],some 1⟩) Q) :
  Ok ((mappend zak 1 1 (.sl H.next 0 1 (.fix 1)) (.sl (H.next+1) 0 2 (.fix 2))).bind f) ((H.new ⟨zak,[a],none⟩).new ⟨zak,[b,c],none⟩) Q:=by
 refine zao ⟨_,_,?_,h⟩;have g1:((H.new ⟨zak,[a],none⟩).new ⟨zak,[b,c],none⟩).get (H.next+1)=some ⟨zak,[b,c],none⟩:=zac (H.new ⟨zak,[a],none⟩) _;have g0:((H.new ⟨zak,[a],none⟩).new ⟨zak,[b,c],none⟩).get H.next=some ⟨zak,[a],none⟩:=by
  rw[zaE _ _ (by rw[zaf]; omega)];exact zac _ _
 unfold mappend;simp only[acells,rcells,g1,Option.bind_some,List.length_cons,List.length_nil];rw[if_pos (by decide)];simp only[Option.bind_some,mappendq,g0,List.length_cons,List.length_nil];rw[if_pos ⟨by decide,trivial⟩,if_neg (by decide),if_pos (by decide)];rfl
structure PJ (B H:Heap) (q:Nat) (cv xv:V) (l:List Nat):Prop where
 ex:∃pv,H.get q=some ⟨zai,[.bool false,.int .i64 96,.int .u16 (1:Nat),.int .u32 (0:Nat),.int .u32 (77:Nat),cv,.int .i64 48862,xv,.int .i64 0,pv],none⟩∧By 0 H pv l
 gr:Grow B H
 cl:H.Cl
 nx:q<H.next
theorem zpl{H:Heap}{id n:Nat}{cap:Cap}{o:Option Nat}{l:List Nat} (hg:H.get id=some ⟨zak,l.map by8,o⟩) (hn:l.length=n) (hi:id<H.next) (hc:V.capOk 1 (.sl id 0 n cap)):By 0 H (.sl id 0 n cap) l:=by
 subst hn;refine⟨?_,λi h=>?_,hc⟩
 ·simp only[rcells,hg,Option.bind_some,List.length_map,Nat.zero_add,Nat.mul_one,List.drop_zero];rw[if_pos (Nat.le_refl _),List.take_of_length_le (by rw[List.length_map]; exact Nat.le_refl _)]
 ·injection h with h
  subst h;exact⟨Nat.zero_le _,hi⟩
theorem num_k(l:List Nat):R7.Num (pkK l):=⟨show 1<65536 by decide,show 0<4294967296 by decide,show 77<4294967296 by decide,λx hx=>by cases hx⟩
theorem kd_8{E S W:Nat}(hW:W<8):kd E S W%8=W:=by unfold kd; omega
theorem kd_256{E S W:Nat}(hS:S<32)(hW:W<8):kd E S W/256=E:=by unfold kd; omega
theorem cnt6(b:Bool):∃v:Nat,(if b=true then List.replicate 11 0 else (List.replicate 11 0).set 6 1).getD 6 0=v∧sumN (if b=true then List.replicate 11 0 else (List.replicate 11 0).set 6 1) 10=v∧(∀i,(if b=true then List.replicate 11 0 else (List.replicate 11 0).set 6 1).getD i 0≤100000000)∧v=if b=true then 0 else 1:=by
 cases b with
 | true=>exact⟨0,rfl,rfl,λi=>by rw[if_pos rfl,z11]; decide,rfl⟩
 | false =>
  refine⟨1,rfl,rfl,λi=>?_,rfl⟩;rw[if_neg (by decide),List.getD_eq_getElem?_getD,List.getElem?_set];split
  ·split
   ·decide
   ·exact Nat.zero_le _
  ·rw[←List.getD_eq_getElem?_getD,z11]; exact Nat.zero_le _
theorem kB_bytes(k:Nat):R7.bytes (pkK (payK k)) = .ok (kB k):=by
 unfold kB payK;split
 ·kernel_rfl
 split
 ·kernel_rfl
 ·kernel_rfl
end Go.Ax.SU
/- Ep17 -/
namespace Go.Ax.SU
open Go.Ax
theorem zo_zk{K:Kd}(hz:ZK K):ZO K:=by
 refine⟨λi j y hi hj h=>?_,λi s j y hi hs hj h=>?_⟩
 ·rw[hz]at h;have e:(dkJ K.d K.C 64)[i*367+(303+j)]?=some .nilp:=by rw[zis hi (by omega),znA hj]
  rw[←Nat.add_assoc]at e;exact(Option.some.inj (h.symm.trans e))
 ·rw[hz]at h;have e:(dkJ K.d K.C 64)[i*367+(39+s*33+j)]?=zSt[j]?:=by rw[zis hi (by omega),zlx hs hj]
  rw[←e,←h];congr 1;omega
theorem pkB_8:Ok8 pkB:=by
 have key:(pkB.all λy=>decide (y<256))=true:=by decide
 exact λy h=>of_decide_eq_true (List.all_eq_true.1 key y h)
theorem zvm:R7.parse pkB = .ok (pkK [0]):=by kernel_rfl
theorem sh4{k:Nat}(hk:k<8):Ax.bin .shl (.int .u8 (k:Nat)) (.int .u64 4)=some (.int .u8 (k*16:Nat)):=by
 have h:((List.range 8).all λk=>Cc.same1 ((Ax.bin .shl (.int .u8 (k:Nat)) (.int .u64 4)).getD .undef) (.int .u8 (k*16:Nat)))=true:=by kernel_rfl
 exact getD_some (List.all_eq_true.1 h k (List.mem_range.2 hk)) (λh=>by cases h)
theorem zwe{g p s t:Nat}(hg:g<256)(hp:p<256)(hs:s<256)(ht:t<256):Ok (sem T zbk [.int .u8 (g:Nat),.int .u8 (p:Nat),.int .u8 (s:Nat),.int .u8 (t:Nat)]) H0 λx H'=>x = .bool true:=by
 refine zfa ?_;unfold zdd uL uS uT uF uE uB uG uH uO uc ub uq;refine zad (zlj cl_0 New_ok) ?_;rintro _ H1 ⟨⟨K,rfl,-,h1,s1,hz⟩,c1⟩;have hz:ZK K:=hz;refine zad (zlj c1 awake_ok) ?_;rintro _ H2 ⟨⟨rfl,s2⟩,c2⟩;have h2:=h1.grow s2;have e1:Ax.eqr .ptr false (.ptr K.d 0) .nilp=some (.bool false):=rfl;simp(disch:=omega)only[↓RD,RZ,eq_self,seval,Bool.not_true,e1];refine zaw (ok_cm (cf_e0 _) c2 (epo0_ok h2)) ?_;rintro _ H3 ⟨⟨rfl,j3⟩,c3⟩;simp(disch:=omega)only[↓RD,RZ,eq_self,seval];refine zaw (ok_cm (cf_e2 _) c3 (epo2_ok (g:=g) j3 (zo_zk hz) (by rw[z11]; decide))) ?_;rintro _ H4 ⟨⟨rfl,j4⟩,c4⟩;obtain⟨L4,Q4,h4,-,hl4⟩:=j4.ex;have hG:g%5<5:=Nat.mod_lt _ (by decide);have r5:=rem5 g;generalize g%5=e at *;simp(disch:=omega)only[↓RD,RZ,eq_self,seval];refine zad (zlj c4 (zwU (i:=0) h4 (by decide))) ?_;rintro _ H5 ⟨⟨rfl,s5⟩,c5⟩;rw[zs6];have hgE:=rE_g (e:=e) (by omega);refine zat rfl ?_;refine zat rfl ?_;refine zik c5 rfl (zbA hgE.o) λq6 H6 e6 g6 s6 n6 c6=>?_;have hk6:=rC_k hgE.o;have ce:IntKind.i64.wrap ((e:Nat):Int)=((e:Nat):Int):=wrap_i64 (by omega) (by omega);have k0:(rC (rE e))[16]?=some (.int .i64 (e:Nat)):=zs9 hgE.o 0 (by decide);obtain⟨b,hb⟩:∃b,Ax.eqr (.st [.int,.bool,.int,.int,.int,.int]) true (.agg (kC (rE e))) (.agg [.int .i64 0,.bool false,.int .i64 0,.int .i64 0,.int .i64 0,.int .i64 0])=some (.bool b):=⟨_,rfl⟩;simp(disch:=first|omega|(simp only[RY]<;>omega)|decide)only[↓RD,RZ,eq_self,seval,g6,hk6,hb];have bn:(((e:Nat):Int)==((e:Nat):Int))=true:=beq_self_eq_true _;have rp:Ax.bin .rem (.int .u8 (p:Nat)) (.int .u8 8)=some (.int .u8 (p%8:Nat)):=remN p 8 (by decide);have rs:Ax.bin .rem (.int .u8 (s:Nat)) (.int .u8 8)=some (.int .u8 (s%8:Nat)):=remN s 8 (by decide);have rt:Ax.bin .rem (.int .u8 (t:Nat)) (.int .u8 32)=some (.int .u8 (t%32:Nat)):=remN t 32 (by decide);have hP:p%8<8:=Nat.mod_lt _ (by decide);have hS:s%8<8:=Nat.mod_lt _ (by decide);have hT:t%32<32:=Nat.mod_lt _ (by decide);generalize p%8=P at *;generalize s%8=S at *;generalize t%32=R at *;cases b
 all_goals
  simp(disch:=omega)only[↓RD,RZ,eq_self,seval,g6,k0,r5,ce,bn];have h6:=h4.grow (s5.trans s6);have hb7:By H6.next (H6.new ⟨zak,([0,0,0,77]:List Nat).map by8,none⟩) (.sl H6.next 0 4 (.fix 4)) [0,0,0,77]:=by_new 4 rfl;have h7:=h6.grow (Grow.new H6 ⟨zak,([0,0,0,77]:List Nat).map by8,none⟩);have c7:=zjY c6 ⟨zak,([0,0,0,77]:List Nat).map by8,none⟩;refine zad (zlj c7 (says4_ok hb7)) ?_;rintro bv H8 ⟨⟨s8,hbv⟩,c8⟩;have vc:=hbv.by.cells1;have vo:=hbv.by.okc;simp(disch:=omega)only[↓RD,RZ,eq_self,seval,vc,vo];refine zad (zlj c8 (zgN (a:=40) 0 (Q:=λH'=>DW (K.put 39 (stC 77 0)) H' L4 (rmE (rE e)) Q4 (List.replicate 11 0) 0) (by decide) vc vo λH9 s9=>?_)) ?_
  ·refine zaw (showE_ok (h7.grow (s8.trans s9)) hz (by omega) (hbv.by.ext s9)) ?_;rintro r H' ⟨e1,-,h⟩;exact⟨e1,h⟩
  rintro _ H10 ⟨⟨rfl,h10⟩,c10⟩;obtain⟨f1,f2,f3,f4⟩:=kd_facts hP hT hS;have cp:IntKind.u64.wrap ((P:Nat):Int)=((P:Nat):Int):=by rw[wrap_u64]; omega
  have cs:IntKind.u64.wrap ((S:Nat):Int)=((S:Nat):Int):=by rw[wrap_u64]; omega
  have ct:IntKind.u64.wrap ((R:Nat):Int)=((R:Nat):Int):=by rw[wrap_u64]; omega
  simp(disch:=omega)only[↓RD,RZ,eq_self,seval,rp,rt,rs,cp,cs,ct,f1,f2,f3,f4];refine zad (pk_ok c10) ?_;rintro v11 H11 ⟨hv,s11,c11⟩;have hv:By H10.next H11 v11 pkB:=hv;refine zad (zlj c11 (R7.Parse2_ok hv pkB_8 (by decide))) ?_;rintro res H12 ⟨⟨s12,hP⟩,c12⟩;rw[zvm]at hP;obtain⟨z,rfl,hzz⟩:=hP;obtain⟨cv,xv,pv,rfl,l1,l2,l3⟩:=hzz;unfold R7.pcells pkK;refine zat rfl ?_;refine zat rfl ?_;refine zik c12 rfl rfl λq13 H13 e13 g13 s13 n13 c13=>?_;have hk:kd P R S<2048:=by unfold kd; omega
  have k8:=kd_8 (E:=P) (S:=R) hS;have k256:=kd_256 (E:=P) hT hS;generalize kd P R S=k at *;have cw:IntKind.u8.wrap ((k:Nat):Int)=((k%256:Nat):Int):=by rw[wrap_u8]; omega
  simp(disch:=omega)only[↓RD,RZ,eq_self,seval,g13,cw];refine app3 ?_;generalize hA:Heap.new _ (⟨zak,[V.int .u8 144,_,_],some 1⟩:Blk)=H14;have sA:Grow H13 H14:=by rw[←hA]; exact((Grow.new _ _).trans (Grow.new _ _)).trans (Grow.new _ _)
  have cA:H14.Cl:=by rw[←hA]; exact zjY (zjY (zjY c13 _) _) _
  have gA:H14.get (H13.next+2)=some ⟨zak,([144,k/256,k%256]:List Nat).map by8,some 1⟩:=by rw[←hA]; exact zac _ _
  have nA:H14.next=H13.next+3:=by rw[←hA]; rfl
  clear hA;have g14:=(sA.same q13 (by omega)).trans g13;simp(disch:=omega)only[↓RD,RZ,eq_self,seval,g14];generalize hB:Heap.set H14 q13 _=H15;have g15:H15.get q13=some ⟨zai,[.bool false,.int .i64 96,.int .u16 (1:Nat),.int .u32 (0:Nat),.int .u32 (77:Nat),cv,.int .i64 48862,xv,.int .i64 0,.sl (H13.next+2) 0 3 (.opn 1)],none⟩:=by rw[←hB]; exact zan _ _ _
  have s15:Grow H12 H15:=by rw[←hB]; exact(s13.trans sA).set (by omega) _
  have c15:H15.Cl:=by rw[←hB]; exact zmW cA (by omega) _
  have n15:H15.next=H13.next+3:=by rw[←hB]; exact nA
  have b15:By 0 H15 (.sl (H13.next+2) 0 3 (.opn 1)) [144,k/256,k%256]:=zpl (by rw[←hB,zap _ _ (by omega)]; exact gA) rfl (by omega) rfl;clear hB;rw[zoQ];refine zaw (Q:=λr H'=>r = .nrm []∧PJ H12 H' q13 cv xv (if k<256 then [128,k] else [144,k/256,k%256])) ?_ ?_
  ·refine zke (λh=>?_) (λh=>?_)
   ·have cw':IntKind.u8.wrap ((k:Nat):Int)=((k:Nat):Int):=by rw[wrap_u8]; omega
    have nq:q13≠H15.next:=by omega
    rw[if_pos (by omega)];simp(disch:=omega)only[↓RD,RZ,eq_self,seval,cw',g15,nq];refine⟨⟨_,zan _ _ _,zpl (l:=[128,k]) (by rw[zap _ _ (by omega)]; exact zac _ _) rfl (by rw[zbg,zaf]; omega) (Nat.le_refl 2)⟩,(s15.trans (Grow.new _ _)).set (by omega) _,zmW (zjY c15 _) (by rw[zaf]; omega) _,by rw[zbg,zaf]; omega⟩
   ·rw[if_neg (by omega)];simp(disch:=omega)only[↓RD,RZ,eq_self,seval];exact⟨⟨_,g15,b15⟩,s15,c15,by omega⟩
  rintro _ H16 ⟨rfl,⟨pv6,g16,b16⟩,s16,c16,x16⟩;simp(disch:=omega)only[↓RD,RZ,eq_self,seval];rw[zoQ];refine zaw (Q:=λr H'=>r = .nrm []∧PJ H12 H' q13 cv xv (payK k)) ?_ ?_
  ·refine zke (λh=>?_) (λh=>?_)
   ·have cw':IntKind.u8.wrap ((k:Nat):Int)=((k:Nat):Int):=by rw[wrap_u8]; omega
    have nq:q13≠H16.next:=by omega
    have h4:=sh4 (k:=k) (by omega);unfold payK;rw[if_pos (by omega)];simp(disch:=omega)only[↓RD,RZ,eq_self,seval,cw',g16,nq,h4];refine⟨⟨_,zan _ _ _,zpl (l:=[k*16]) (by rw[zap _ _ (by omega)]; exact zac _ _) rfl (by rw[zbg,zaf]; omega) (Nat.le_refl 1)⟩,(s16.trans (Grow.new _ _)).set (by omega) _,zmW (zjY c16 _) (by rw[zaf]; omega) _,by rw[zbg,zaf]; omega⟩
   ·unfold payK;rw[if_neg (by omega)];simp(disch:=omega)only[↓RD,RZ,eq_self,seval];exact⟨⟨_,g16,b16⟩,s16,c16,x16⟩
  rintro _ H17 ⟨rfl,⟨pv7,g17,b17⟩,s17,c17,-⟩;simp(disch:=first|omega|(simp only[RY]<;>omega)|decide)only[↓RD,RZ,eq_self,seval,g17];have hz7:R7.PkR 0 H17 (.agg [.bool false,.int .i64 96,.int .u16 (1:Nat),.int .u32 (0:Nat),.int .u32 (77:Nat),cv,.int .i64 48862,xv,.int .i64 0,pv7]) (pkK (payK k)):=⟨cv,xv,pv7,rfl,(l1.ext s17).low (Nat.zero_le _),(l2.ext s17).low (Nat.zero_le _),b17⟩;refine zad (zlj c17 (R7.Bytes2_ok hz7 (sml_k (zlF k).2) (num_k _))) ?_;rintro r18 H18 ⟨⟨s18,hb18⟩,c18⟩;rw[kB_bytes]at hb18;obtain⟨bw,rfl,hbw⟩:=hb18;have vc:=hbw.cells1;have vo:=hbw.okc;simp(disch:=omega)only[↓RD,RZ,eq_self,seval,vc,vo];have h17:=h10.grow ((s11.trans s12).trans s17);have e0:rmE (rE e) 0=rE e:=zs6 _;have hw:zcN (λi=>(rmE (rE e) i).t) ((40:Nat):Int)=some (0,0):=zpv (l:=[40,41]) rfl who2 (by decide) rfl;refine zad (zul (a:=40) 0 (Q:=λH'=>∃K',K'.d=K.d∧DW K' H' L4 (rmE (rE e)) Q4 (if zmq k e=true then List.replicate 11 0 else (List.replicate 11 0).set 6 1) 0) c18 (by decide) vc vo λH19 s19 c19=>?_) ?_
  ·exact dgram_s (K:=K.put 39 (stC 77 0)) (a:=40) (e:=e) (h17.grow (s18.trans s19)) (by rw[e0]; exact hgE) (by rw[e0]; rfl) hG (KS.of (xs:=stC 77 0) hz rfl) c19 (hbw.ext s19) h17.lo (λc i hc hi=>h17.old hc (hbw.own i hi).1) hk hw (by rw[e0]; exact alE e _) (by decide)
  rintro _ H20 ⟨rfl,K',eK,h20⟩;have ko:zmq k e=(decide (S=0)&&(decide (P=e)||decide (P+1=e))):=by unfold zmq; rw[k8,k256]
  have we:IntKind.i64.wrap (((e:Nat):Int)-1)=((e:Nat):Int)-1:=wrap_i64 (by omega) (by omega);have cp':IntKind.i64.wrap ((P:Nat):Int)=((P:Nat):Int):=wrap_i64 (by omega) (by omega);have q1:(((S:Nat):Int)==0)=decide (S=0):=by
   by_cases h:S=0
   ·rw[h]; rfl
   ·rw[decide_eq_false h]; exact beq_false_of_ne (by omega)
  have q1':(S==0)=decide (S=0):=by
   by_cases h:S=0
   ·rw[h]; rfl
   ·rw[decide_eq_false h]; exact beq_false_of_ne h
  have q2:(((P:Nat):Int)==((e:Nat):Int))=decide (P=e):=beq_n P e;have q3:(((P:Nat):Int)==((e:Nat):Int)-1)=decide (P+1=e):=by
   by_cases h:P+1=e
   ·rw[decide_eq_true h]; exact beq_of_eq (by omega)
   ·rw[decide_eq_false h]; exact beq_false_of_ne (by omega)
  rw[ko]at h20;simp(disch:=omega)only[↓RD,RZ,eq_self,seval,r5,ce,rs,rp,cp',q1,q1',q2,q3,we];generalize decide (S=0)=B0 at *;generalize decide (P=e)=B1 at *;generalize decide (P+1=e)=B2 at *;obtain⟨v,v1,v2,v3,v4⟩:=cnt6 (B0&&(B1||B2));have k2:∀{f:V→M Res} {Q:Res→Heap→Prop},@OkB V Res (sem T za2 [.ptr K.d 0,.int .i64 6]) H20 ⟨f⟩ ⟨Q⟩↔Ok (f (.int .i64 (v:Nat))) H20 Q:=λ{f Q}=>by
   rw[←eK,←v1];exact @zaQ _ _ _ _ (zkF (i:=6) h20 (by decide)) f Q
  have k3:∀{f:V→M Res} {Q:Res→Heap→Prop},@OkB V Res (sem T zbc [.ptr K.d 0]) H20 ⟨f⟩ ⟨Q⟩↔Ok (f (.int .i64 (v:Nat))) H20 Q:=λ{f Q}=>by
   rw[←eK,←v2];exact @zaQ _ _ _ _ (ztQ h20 v3) f Q
  have vv:(((v:Nat):Int)==((v:Nat):Int))=true:=beq_self_eq_true _;clear h20 v1 v2 v3;cases B0<;>cases B1<;>cases B2<;>subst v4
  all_goals
   simp(disch:=omega)only[↓RD,RZ,eq_self,seval,r5,ce,rs,rp,cp',q1,q1',q2,q3,we,k2,k3,vv,Bool.and_true,Bool.and_false,Bool.or_true,Bool.or_false,if_true,if_false]
   done
end Go.Ax.SU
namespace Go.Ax
open Go.Ax.SU
theorem law_deskEpochs(us:List V) (h:zwS [.int .u8,.int .u8,.int .u8,.int .u8] us):∃H',sem T zbk us H0=some (.bool true,H'):=by
 obtain⟨a1,a2,a3,a4,rfl⟩:∃a1 a2 a3 a4,us=[a1,a2,a3,a4]:=by
  rcases us with _|⟨a1,_|⟨a2,_|⟨a3,_|⟨a4,_|⟨a5,us⟩⟩⟩⟩⟩
  ·cases h
  ·cases h.2
  ·cases h.2.2
  ·cases h.2.2.2
  ·exact⟨a1,a2,a3,a4,rfl⟩
  ·cases h.2.2.2.2
 obtain⟨g,h1,h1'⟩:=sh_u8 h.1;obtain⟨p,h2,h2'⟩:=sh_u8 h.2.1;obtain⟨s,h3,h3'⟩:=sh_u8 h.2.2.1;obtain⟨t,h4,h4'⟩:=sh_u8 h.2.2.2.1;cases h1; cases h2; cases h3; cases h4;obtain⟨r,H',k1,rfl⟩:=zwe h1' h2' h3' h4';exact⟨H',k1⟩
end Go.Ax
