/-
  Texts of mine, put together by program (wip/slim.py), for law_worldKnown: part 7.
-/
import Derived.Test.YtjabaappgopdmaaGreatZw6
import Derived.Test.YtjabaappgopdmaaGreatRows
import Derived.ProofKit
import Derived.OpenShut
import Derived.JoinedCond
import Derived.Below
import Derived.ChangeSame
import Derived.ReadAgain
import Derived.ChangeOld
import Derived.Deep.Slices
noncomputable section
set_option linter.unusedVariables false
set_option linter.unusedSimpArgs false
set_option linter.defProp false
set_option maxRecDepth 100000
/- Ax18 -/
namespace Go.Ax
open Go.ChangeShapes Go.WideShapes Go.Deep Go.RowKit
inductive Sh where
 | bool
 | int (k:IntKind)
 | str
 | sl (e:Sh)
 | st (fs:List Sh)
 | ar (n:Nat) (e:Sh)
mutual
def Sh.size:Sh->Nat
 | .bool=>1
 | .int _=>1
 | .str=>1
 | .sl _=>1
 | .st fs=>Sh.sizes fs
 | .ar n e=>n*Sh.size e
def Sh.sizes:List Sh->Nat
 | []=>0
 | s::ss=>Sh.size s+Sh.sizes ss
end
mutual
def Sh.Ty:Sh->List V->Prop
 | .bool,vs=>∃b,vs=[.bool b]
 | .int k,vs=>∃n,vs=[.int k n]/\k.min<=n/\n<=k.max
 | .str,vs=>∃s:ByteArray,vs=[.str s]/\s.size<=maxLen
 | .sl e,vs=>vs=[.nils]\/∃es:List (List V),vs=[.rs es.flatten es.length]/\es.length<=maxLen/\∀x∈es,Sh.Ty e x
 | .st fs,vs=>Sh.Tys fs vs
 | .ar n e,vs=>∃es:List (List V),vs=es.flatten/\es.length=n/\∀x∈es,Sh.Ty e x
def Sh.Tys:List Sh->List V->Prop
 | [],vs=>vs=[]
 | s::ss,vs=>∃a b,vs=a++b/\Sh.Ty s a/\Sh.Tys ss b
end
mutual
def V.blk:V->Nat
 | .str s=>s.size+1
 | .rs cells _=>V.blks cells+1
 | .agg cs=>V.blks cs
 | _=>1
def V.blks:List V->Nat
 | []=>0
 | v::vs=>V.blk v+V.blks vs
end
def zhB(a b:List V):V.blks (a++b)=V.blks a+V.blks b:=by
 induction a with
 | nil=>simp[V.blks]
 | cons v a ih=>simp[V.blks,ih,ybR]
mutual
theorem zv6:∀(s:Sh) (vs:List V),Sh.Ty s vs->vs.length=Sh.size s
 | .bool,vs,h=>by obtain⟨b,rfl⟩:=h;rfl
 | .int k,vs,h=>by obtain⟨n,rfl,_⟩:=h;rfl
 | .str,vs,h=>by obtain⟨s,rfl,_⟩:=h;rfl
 | .sl e,vs,h=>by
  rcases h with rfl|⟨es,rfl,_⟩
  ·rfl
  ·rfl
 | .st fs,vs,h=>by simpa [Sh.size]using zv5 fs vs h
 | .ar n e,vs,h=>by
  obtain⟨es,rfl,hn,he⟩:=h;simp only[Sh.size,List.length_flatten];subst hn;have:∀(l:List (List V)),(∀x∈l,x.length=Sh.size e)->(l.map List.length).sum=l.length*Sh.size e:=by
   intro l hl
   induction l with
   | nil=>simp
   | cons x l ih=>simp only[ya5,List.sum_cons,yaw,ih λy hy=>hl y (yaY _ hy),hl x (ya1 ..)];rw[ybm];omega
  exact this es λx hx=>zv6 e x (he x hx)
theorem zv5:∀(ss:List Sh) (vs:List V),Sh.Tys ss vs->vs.length=Sh.sizes ss
 | [],vs,h=>by have:vs=[]:=h;subst this;rfl
 | s::ss,vs,h=>by
  obtain⟨a,b,rfl,ha,hb⟩:=h;simp[Sh.sizes,zv6 s a ha,zv5 ss b hb]
end
mutual
theorem zse:∀(s:Sh) (vs:List V),Sh.Ty s vs->∀v∈vs,v.one=true
 | .bool,vs,h=>by obtain⟨b,rfl⟩:=h;simp[V.one]
 | .int k,vs,h=>by obtain⟨n,rfl,_⟩:=h;simp[V.one]
 | .str,vs,h=>by obtain⟨s,rfl,_⟩:=h;simp[V.one]
 | .sl e,vs,h=>by
  rcases h with rfl|⟨es,rfl,_⟩
  ·simp[V.one]
  ·simp[V.one]
 | .st fs,vs,h=>zv4 fs vs h
 | .ar n e,vs,h=>by
  obtain⟨es,rfl,hn,he⟩:=h;intro v hv;obtain⟨x,hx,hvx⟩:=ycW.1 hv;exact zse e x (he x hx) v hvx
theorem zv4:∀(ss:List Sh) (vs:List V),Sh.Tys ss vs->∀v∈vs,v.one=true
 | [],vs,h=>by have:vs=[]:=h;subst this;simp
 | s::ss,vs,h=>by
  obtain⟨a,b,rfl,ha,hb⟩:=h;intro v hv;rcases yaZ.1 hv with hv|hv
  ·exact zse s a ha v hv
  ·exact zv4 ss b hb v hv
end
/-! The shapes of a program's types. -/
def offs(P:Program):Nat->List Field->List Sh->Bool
 | _,[],[]=>true
 | o,f::fs,s::ss=>decide (f.offset=o/\P.cellsOf f.type=Sh.size s)&&offs P (o+Sh.size s) fs ss
 | _,_,_=>false
def zo0(g:TypeId->Option Sh):List TypeId->Option (List Sh)
 | []=>some []
 | t::ts=>(g t).bind λs=>(zo0 g ts).map (s :: ·)
def shOf(P:Program):Nat->TypeId->Option Sh
 | 0,_=>none
 | n+1,t=>
  match P.underlying t with
  | some .bool=>some .bool
  | some (.int k)=>some (.int k)
  | some .string=>some .str
  | some (.slice e)=>(shOf P n e).bind λs=>if P.cellsOf e=Sh.size s/\0<Sh.size s then some (.sl s) else none
  | some (.struct fs)=>(zo0 (shOf P n) (fs.toList.map (·.type))).bind λss=>if offs P 0 fs.toList ss=true/\P.cellsOf t=Sh.sizes ss then some (.st ss) else none
  | some (.array m e)=>(shOf P n e).bind λs=>if P.cellsOf e=Sh.size s/\P.cellsOf t=m*Sh.size s then some (.ar m s) else none
  | _=>none
def zrb{α:Type}{k:Nat}(hk:0<k):∀(es:List (List α)),(∀x∈es,x.length=k)->∀j:Nat,es.flatten[j]?=(es[j/k]?).bind λx=>x[j%k]?:=by
 intro es
 induction es with
 | nil=>intro _ j;simp
 | cons x es ih=>
  intro h j;have hx:=h x (ya1 ..);have hes:=λy hy=>h y (yaY _ hy);simp only[ybk,ybi,hx];by_cases hj:j<k
  ·rw[if_pos hj,ybY hj,yap hj];simp
  ·rw[if_neg hj,ih hes (j-k)];have e1:j/k=(j-k)/k+1:=by
    have:j=(j-k)+k:=by omega
    conv=>lhs;rw[this]
    exact Nat.add_div_right _ hk
   have e2:j%k=(j-k)%k:=by
    have:j=(j-k)+k:=by omega
    conv=>lhs;rw[this]
    exact Nat.add_mod_right _ _
   rw[e1,e2];simp
def zlY{H:Type}(f:Nat->List V)(D:Nat->DataW H):∀(l:List Nat),(∀i∈l,V.blks (f i)<=Proofs.YtjabaappgopdmaaGreat.Rows.uptoBulk (D i))->V.blks (l.map f).flatten<=Proofs.YtjabaappgopdmaaGreat.Rows.uptoBulkAll (l.map D):=by
 intro l
 induction l with
 | nil=>intro _;simp[V.blks]
 | cons i l ih=>
  intro h;simp only[ya5,ybk,zhB,Proofs.YtjabaappgopdmaaGreat.Rows.uptoBulkAll];have:=ih λj hj=>h j (yaY _ hj);have:=h i (ya1 ..);omega
section
variable {H:Type} {enc:TypeId×Value->H} {P:Program} {w:World} {spare:Nat->Bool} {held:Bool}
def RepC(w:World)(vs:List V)(cs:List Value):Prop:=
 vs.length=cs.length/\∀(j:Nat) (v:V) (x:Value),vs[j]?=some v->cs[j]?=some x->Rep (λ_=>none) (λb=>b<w.heap.size) w v x
def RepC.append{a b:List V}{c d:List Value}(h:RepC w a c)(k:RepC w b d):RepC w (a++b) (c++d):=by
 refine⟨by simp[h.1,k.1],λj v x hv hx=>?_⟩;rw[ybi]at hv hx;rw[<-h.1]at hx;split at hv
 ·rename_i hj;rw[if_pos hj]at hx;exact h.2 j v x hv hx
 ·rename_i hj;rw[if_neg hj]at hx;exact k.2 _ v x hv hx
def zlM{α:Type}(cs:List α)(o n:Nat):cs.drop o=(cs.drop o).take n++cs.drop (o+n):=by
 rw[<-ybs,ybJ]
def zlV{a:Addr}{v:Value}(h:w.cell? a=some v):a.block<w.heap.size/\a.spot=none:=by
 unfold World.cell? at h;cases hb:w.heap[a.block]? with
 | none=>rw[hb]at h;cases h
 | some o=>
  refine⟨(yaG.1 hb).1,?_⟩;rw[hb]at h;cases o with
  | cells c t f=>
   dsimp only at h;cases hs:a.spot with
   | none=>rfl
   | some _=>rw[hs]at h;simp at h
  | _=>cases h
def zsw{g:TypeId->Option Sh}:∀{ts:List TypeId} {ss:List Sh},zo0 g ts=some ss->ss.length=ts.length/\∀(i:Nat) (t:TypeId) (s:Sh),ts[i]?=some t->ss[i]?=some s->g t=some s:=by
 intro ts
 induction ts with
 | nil=>intro ss h;simp only[zo0,yab]at h;subst h;simp
 | cons t ts ih=>
  intro ss h;simp only[zo0,yaa,yac]at h;obtain⟨s,hs,ss',hss,rfl⟩:=h;obtain⟨h1,h2⟩:=ih hss;refine⟨by simp[h1],λi t' s' ht hs'=>?_⟩;cases i with
  | zero=>simp only[yaC,yab]at ht hs';subst ht hs';exact hs
  | succ i=>exact h2 i t' s' (by simpa using ht) (by simpa using hs')
def trod_sh:∀(n:Nat) (t:TypeId) (s:Sh) (fuel:Nat) (cs:List Value) (x:DataW H×List MemPlace),shOf P n t=some s->DataW.trod enc P w 0 spare held fuel t cs=some x ->
  ∃vs,Sh.Ty s vs/\RepC w vs cs/\V.blks vs<=Proofs.YtjabaappgopdmaaGreat.Rows.uptoBulk x.1:=by
 intro n
 induction n with
 | zero=>intro t s fuel cs x h;cases h
 | succ n ih=>
  intro t s fuel cs x hs h;have one:∀{v:V} {c:Value},Rep (λ_=>none) (λb=>b<w.heap.size) w v c->RepC w [v] [c]:=by
   intro v c hr;refine⟨rfl,λj u y hu hy=>?_⟩;cases j with
   | zero=>simp only[yaC,yab]at hu hy;subst hu hy;exact hr
   | succ j=>simp at hu
  cases hu:P.underlying t with
  | none=>simp only[shOf,hu,reduceCtorEq]at hs
  | some d=>
   cases d<;>simp only[shOf,hu,reduceCtorEq,yab]at hs
   case bool=>
    subst hs;obtain⟨b,rfl,rfl⟩:=DataW.trod_bool hu h;exact⟨[.bool b],⟨b,rfl⟩,one (.bool b),by simp[V.blks,V.blk,Proofs.YtjabaappgopdmaaGreat.Rows.uptoBulk]⟩
   case int k=>
    subst hs;obtain⟨i,rfl,rfl,hw⟩:=DataW.trod_int hu h;simp only[Lit.wf,yal,decide_eq_true_eq]at hw;exact⟨[.int k i],⟨i,rfl,hw⟩,one (.int k i),by simp[V.blks,V.blk,Proofs.YtjabaappgopdmaaGreat.Rows.uptoBulk]⟩
   case string=>
    subst hs;obtain⟨b,rfl,rfl,hw⟩:=DataW.trod_string hu h;exact⟨[.str b],⟨b,rfl,hw⟩,one (.str b),by
     simp only[V.blks,V.blk,Proofs.YtjabaappgopdmaaGreat.Rows.uptoBulk];have:b.data.toList.length=b.size:=rfl;omega⟩
   case slice e=>
    simp only[yaa]at hs;obtain⟨se,hse,hs⟩:=hs;split at hs
    ·rename_i hsz;simp only[yab]at hs;subst hs;rcases open_slice hu h with⟨rfl,rfl⟩|⟨a,len,cap,m,k,D,Pl,rfl,_,hlc,hcm,hm,rfl,hi⟩
     ·exact⟨[.nils],.inl rfl,one .nils,by simp[V.blks,V.blk,Proofs.YtjabaappgopdmaaGreat.Rows.uptoBulk]⟩
     ·have hlm:len<=m:=by rw[hm];split<;>omega
      have hex:∀i,i<len->∃vs,Sh.Ty se vs/\(∃cs',w.cells? 0 (a.add (i*P.cellsOf e)) (P.cellsOf e)=some cs'/\RepC w vs cs')/\V.blks vs<=Proofs.YtjabaappgopdmaaGreat.Rows.uptoBulk (D i):=by
       intro i hil;obtain⟨cs',hc,ht⟩:=hi i (by omega);obtain⟨vs,h1,h2,h3⟩:=ih e se k cs' (D i,Pl i) hse ht;exact⟨vs,h1,⟨cs',hc,h2⟩,h3⟩
      obtain⟨f,hf⟩:=choose_lt hex;have hlen:∀y∈(List.range len).map f,y.length=Sh.size se:=by
       intro y hy;obtain⟨i,hir,rfl⟩:=ybp.1 hy;exact zv6 _ _ (hf i (yaW.1 hir)).1
      have hty:∀y∈(List.range len).map f,Sh.Ty se y:=by
       intro y hy;obtain⟨i,hir,rfl⟩:=ybp.1 hy;exact(hf i (yaW.1 hir)).1
      -- cell by cell
      have cell:∀(j:Nat) (v:V),((List.range len).map f).flatten[j]?=some v->a.spot=none/\a.block<w.heap.size/\∃y,w.cell? ⟨a.block,a.off+j,none⟩=some y/\Rep (λ_=>none) (λb=>b<w.heap.size) w v y:=by
       intro j v hj;rw[zrb hsz.2 _ hlen]at hj;simp only[yaa,yaT,yac]at hj;obtain⟨vs,⟨i,hir,rfl⟩,hv⟩:=hj;have hil:i<len/\i=j/Sh.size se:=by
        rw[yax]at hir;obtain⟨h1,h2⟩:=hir;simp only[List.length_range]at h1;simp only[List.getElem_range]at h2;omega
       obtain⟨hil,rfl⟩:=hil;obtain⟨_,⟨cs',hc,hr⟩,_⟩:=hf _ hil;obtain⟨_,hcl,hat⟩:=World.cells?_some hc;have hmod:j%Sh.size se<Sh.size se:=ybf _ hsz.2;obtain⟨y,hcs⟩:∃y,cs'[j%Sh.size se]?=some y:=⟨_,yag (by rw[hcl,hsz.1];exact hmod)⟩;have hcell:=hat (j%Sh.size se) (by rw[hsz.1];exact hmod);rw[hcs,Go.Deep.add_add,hsz.1]at hcell;have hdm:j/Sh.size se*Sh.size se+j%Sh.size se=j:=by
        have:=Nat.div_add_mod j (Sh.size se);rw[ydf]at this;exact this
       rw[hdm]at hcell;have h0:=(zlV hcell).1;have hspot:a.spot=none:=by
        obtain⟨_,⟨cs0,hc0,hr0⟩,_⟩:=hf 0 (Nat.lt_of_le_of_lt (yaJ _) hil);obtain⟨_,hcl0,hat0⟩:=World.cells?_some hc0;have h00:=hat0 0 (by rw[hsz.1];exact hsz.2);obtain⟨y0,hcs0⟩:∃y,cs0[0]?=some y:=⟨_,yag (by rw[hcl0,hsz.1];exact hsz.2)⟩;rw[hcs0,Go.Deep.add_add]at h00;have:=(zlV h00).2;simpa [Addr.add]using this
       have hadd:a.add j=⟨a.block,a.off+j,none⟩:=by
        obtain⟨ab,ao,asp⟩:=a;dsimp only at hspot;subst hspot;exact zsc ab ao j
       rw[hadd]at hcell h0;exact⟨hspot,h0,_,hcell,hr.2 _ v _ hv hcs⟩
      refine⟨[.rs ((List.range len).map f).flatten len],.inr ⟨(List.range len).map f,by simp,by simp;omega,hty⟩,one ?_,?_⟩
      ·refine .rs a.block a.off (λj=>(w.cell? ⟨a.block,a.off+j,none⟩).getD Go.undef) hlc ?_ (λj v hj=>?_) λj v hj=>?_
       ·by_cases hl0:len=0
        ·exact .inl hl0
        ·right;have h0:0<((List.range len).map f).flatten.length:=by
          obtain⟨l0,hl0'⟩:∃l0,len=l0+1:=⟨len-1,by omega⟩;have hm0:f 0∈(List.range len).map f:=ybp.2 ⟨0,yaW.2 (by omega),rfl⟩;have:=hlen _ hm0;have hsub:(f 0).length<=((List.range len).map f).flatten.length:=by
           rw[hl0',ydc];simp
          omega
         obtain⟨h1,h2,_⟩:=cell 0 _ (yag h0);refine⟨by cases a;simp_all,h2,λj v hj=>?_⟩;obtain⟨_,_,y,hy,_⟩:=cell j v hj;rw[hy];rfl
       ·have hm:=ybh hj;obtain⟨y,hy,hvy⟩:=ycW.1 hm;exact zse se y (hty y hy) v hvy
       ·obtain⟨_,_,y,hy,hr⟩:=cell j v hj;rw[hy];exact hr
      ·simp only[V.blks,V.blk,Proofs.YtjabaappgopdmaaGreat.Rows.uptoBulk];have:=zlY f D (List.range len) λi hir=>(hf i (yaW.1 hir)).2.2;omega
    ·cases hs
   case struct fs=>
    simp only[yaa]at hs;obtain⟨ss,hss,hs⟩:=hs;split at hs
    ·rename_i hof;simp only[yab]at hs;subst hs;obtain⟨xs,k,_,rfl,hcl,hxl,hf⟩:=DataW.trod_struct hu h;obtain⟨hsl,hsg⟩:=zsw hss;have key:∀(fl:List Field) (ss:List Sh) (o:Nat) (ys:List (DataW H×List MemPlace)),offs P o fl ss=true->(∀(i:Nat) (f:Field) (s:Sh),fl[i]?=some f->ss[i]?=some s->shOf P n f.type=some s)->ys.length=fl.length ->
       (∀(i:Nat) (f:Field),fl[i]?=some f->DataW.trod enc P w 0 spare held k f.type ((cs.drop f.offset).take (P.cellsOf f.type))=ys[i]?)->o+Sh.sizes ss=cs.length ->
       ∃vs,Sh.Tys ss vs/\RepC w vs (cs.drop o)/\V.blks vs<=Proofs.YtjabaappgopdmaaGreat.Rows.uptoBulkAll (ys.map (·.1)):=by
      intro fl
      induction fl with
      | nil=>
       intro ss o ys ho _ hyl _ hlen;cases ss with
       | cons s ss=>simp[offs]at ho
       | nil=>
        simp only[Sh.sizes,ybI]at hlen;refine⟨[],rfl,⟨by simp[hlen],by simp⟩,by simp[V.blks]⟩
      | cons f fl ihf=>
       intro ss o ys ho hg hyl hfy hlen;cases ss with
       | nil=>simp[offs]at ho
       | cons s ss=>
        simp only[offs,yal,decide_eq_true_eq]at ho;obtain⟨⟨ho1,ho2⟩,ho3⟩:=ho;cases ys with
        | nil=>simp at hyl
        | cons y ys=>
         have h0:=hfy 0 f rfl;simp only[yaC]at h0;obtain⟨va,ha1,ha2,ha3⟩:=ih f.type s k _ y (hg 0 f s rfl rfl) h0;obtain⟨vb,hb1,hb2,hb3⟩:=ihf ss (o+Sh.size s) ys ho3 (λi f' s' h1 h2=>hg (i+1) f' s' (by simpa using h1) (by simpa using h2)) (by simpa using hyl) (λi f' h1=>by simpa using hfy (i+1) f' (by simpa using h1)) (by simp only[Sh.sizes]at hlen;omega);refine⟨va++vb,⟨va,vb,rfl,ha1,hb1⟩,?_,?_⟩
         ·rw[zlM cs o (Sh.size s)];rw[ho1,ho2]at ha2;exact ha2.append hb2
         ·simp only[zhB,ya5,Proofs.YtjabaappgopdmaaGreat.Rows.uptoBulkAll];omega
     obtain⟨vs,h1,h2,h3⟩:=key fs.toList ss 0 xs hof.1 (λi f s h1 h2=>hsg i f.type s (by simp[h1]) h2) (by simpa using hxl) (λi f h1=>hf i f (by simpa using h1)) (by rw[ya6,hcl,hof.2]);refine⟨vs,h1,by simpa using h2,?_⟩;simp only[Proofs.YtjabaappgopdmaaGreat.Rows.uptoBulk];omega
    ·cases hs
   case array mm e=>
    simp only[yaa]at hs;obtain⟨se,hse,hs⟩:=hs;split at hs
    ·rename_i hsz;simp only[yab]at hs;subst hs;obtain⟨xs,k,_,rfl,hcl,hxl,hf⟩:=DataW.trod_array hu h;have key:∀(i:Nat),i<=mm->∃es:List (List V),es.length=i/\(∀y∈es,Sh.Ty se y)/\RepC w es.flatten (cs.take (i*Sh.size se))/\V.blks es.flatten<=Proofs.YtjabaappgopdmaaGreat.Rows.uptoBulkAll ((xs.take i).map (·.1)):=by
      intro i
      induction i with
      | zero=>intro _;exact⟨[],rfl,by simp,⟨by simp,by simp⟩,by simp[V.blks]⟩
      | succ i ihi=>
       intro hi;obtain⟨es,h1,h2,h3,h4⟩:=ihi (by omega);have hxi:xs[i]?=some (xs[i]'(by omega)):=yag _;have ht:=(hf i (by omega)).trans hxi;obtain⟨va,ha1,ha2,ha3⟩:=ih e se k _ _ hse ht;refine⟨es++[va],by simp[h1],λy hy=>?_,?_,?_⟩
       ·rcases yaZ.1 hy with hy|hy
        ·exact h2 y hy
        ·rw[ya0.1 hy];exact ha1
       ·have:cs.take ((i+1)*Sh.size se)=cs.take (i*Sh.size se)++(cs.drop (i*Sh.size se)).take (Sh.size se):=by
         rw[ybm,Nat.one_mul,List.take_add]
        rw[this];simp only[yb7,ybk,ycn,yaN];rw[hsz.1]at ha2;exact h3.append ha2
       ·have hbulk:∀(a b:List (DataW H)),Proofs.YtjabaappgopdmaaGreat.Rows.uptoBulkAll (a++b)=Proofs.YtjabaappgopdmaaGreat.Rows.uptoBulkAll a+Proofs.YtjabaappgopdmaaGreat.Rows.uptoBulkAll b:=by
         intro a b
         induction a with
         | nil=>simp[Proofs.YtjabaappgopdmaaGreat.Rows.uptoBulkAll]
         | cons d a iha=>simp[Proofs.YtjabaappgopdmaaGreat.Rows.uptoBulkAll,iha,ybR]
        rw[ybW,hxi];simp only[yb7,ybk,ycn,yaN,zhB,ybv,yaP,ya5,ycd,hbulk,Proofs.YtjabaappgopdmaaGreat.Rows.uptoBulkAll,ybI];omega
     obtain⟨es,h1,h2,h3,h4⟩:=key mm (yaj _);refine⟨es.flatten,⟨es,rfl,h1,h2⟩,?_,?_⟩
     ·rw[yam (by rw[hcl,hsz.2];exact yaj _)]at h3;exact h3
     ·rw[yam (by omega)]at h4;simp only[Proofs.YtjabaappgopdmaaGreat.Rows.uptoBulk];omega
    ·cases hs
def Sh.TyV:Sh->V->Prop
 | .st fs,v=>∃vs,v = .agg vs/\Sh.Tys fs vs
 | .ar n e,v=>∃vs,v = .agg vs/\Sh.Ty (.ar n e) vs
 | s,v=>Sh.Ty s [v]
def zv7:List Sh->List V->Prop
 | [],[]=>True
 | s::ss,v::vs=>Sh.TyV s v/\zv7 ss vs
 | _,_=>False
def zpk{r:Reach}{base:Nat}{t e:TypeId}{n:Nat}{v:Value} (ht:P.underlying t=some (.array n e)) (h:Value.okWide P w r base t v):∃cs,v = .agg cs/\cs.size=P.cellsOf t:=by
 simp only[Value.okWide,ht]at h;obtain⟨cs,h1,h2,_⟩:=h;exact⟨cs,h1,h2⟩
def arg_sh{n:Nat}{t:TypeId}{s:Sh}{v:Value}{d:DataW H}{ps:List MemPlace}{r:Reach}{base:Nat}(hs:shOf P n t=some s)(hv:Value.okWide P w r base t v)(h:DataW.Trod enc P w 0 spare held t v d ps) :
  ∃u,Sh.TyV s u/\Rep (λ_=>none) (λb=>b<w.heap.size) w u v/\V.blk u<=Proofs.YtjabaappgopdmaaGreat.Rows.uptoBulk d:=by
 obtain⟨fuel,hf⟩:=h;obtain⟨vs,h1,h2,h3⟩:=trod_sh n t s fuel _ (d,ps) hs hf;have single:∀{x:Value},v=x->x.cells = #[x]->(∀u,Sh.Ty s [u]->Sh.TyV s u)->∃u,Sh.TyV s u/\Rep (λ_=>none) (λb=>b<w.heap.size) w u v/\V.blk u<=Proofs.YtjabaappgopdmaaGreat.Rows.uptoBulk d:=by
  intro x hx hc hty;subst hx;rw[hc]at h2;obtain⟨u,rfl⟩:∃u,vs=[u]:=ycr.1 (by simpa using h2.1);exact⟨u,hty u h1,h2.2 0 u v rfl rfl,by simpa [V.blks]using h3⟩
 have whole:∀{cs:Array Value},v = .agg cs->(Sh.TyV s (.agg vs))->∃u,Sh.TyV s u/\Rep (λ_=>none) (λb=>b<w.heap.size) w u v/\V.blk u<=Proofs.YtjabaappgopdmaaGreat.Rows.uptoBulk d:=by
  intro cs hx hty;subst hx;refine⟨.agg vs,hty,.agg (by simpa [Value.cells]using h2.1.symm) (zse s vs h1) (λj u x hu hx=>h2.2 j u x hu (by simpa [Value.cells]using hx)),by simpa [V.blk]using h3⟩
 cases n with
 | zero=>cases hs
 | succ n=>
  cases hu:P.underlying t with
  | none=>simp only[shOf,hu,reduceCtorEq]at hs
  | some dd=>
   cases dd<;>simp only[shOf,hu,reduceCtorEq,yab]at hs
   case bool=>subst hs;obtain⟨b,hb⟩:=okWide_bool hu hv;exact single hb rfl λu h=>h
   case int k=>subst hs;obtain⟨b,hb⟩:=okWide_int hu hv;exact single hb rfl λu h=>h
   case string=>subst hs;obtain⟨b,hb⟩:=okWide_string hu hv;exact single hb rfl λu h=>h
   case slice e=>
    simp only[yaa]at hs;obtain⟨se,hse,hs⟩:=hs;split at hs
    ·simp only[yab]at hs;subst hs;obtain⟨a,len,cap,hb⟩:=okWide_slice hu hv;exact single hb rfl λu h=>h
    ·cases hs
   case struct fs=>
    simp only[yaa]at hs;obtain⟨ss,hss,hs⟩:=hs;split at hs
    ·simp only[yab]at hs;subst hs;obtain⟨cs,hb,_⟩:=okWide_struct hu hv;exact whole hb ⟨vs,rfl,h1⟩
    ·cases hs
   case array mm e=>
    simp only[yaa]at hs;obtain⟨se,hse,hs⟩:=hs;split at hs
    ·simp only[yab]at hs;subst hs;obtain⟨cs,hb,_⟩:=zpk hu hv;exact whole hb ⟨vs,rfl,h1⟩
    ·cases hs
def args_sh{n:Nat}{r:Reach}{base:Nat}:∀(ts:List TypeId) (ss:List Sh) (vs:List Value) (ds:List (DataW H)) (ps:List MemPlace),zo0 (shOf P n) ts=some ss->DataW.TrodAll enc P w 0 spare held ts vs ds ps ->
  (∀(j:Nat) (t:TypeId) (v:Value),ts[j]?=some t->vs[j]?=some v->Value.okWide P w r base t v)->∃us,zv7 ss us/\Reps (λ_=>none) (λb=>b<w.heap.size) w us vs/\V.blks us<=Proofs.YtjabaappgopdmaaGreat.Rows.uptoBulkAll ds:=by
 intro ts
 induction ts with
 | nil=>
  intro ss vs ds ps hs h _;simp only[zo0,yab]at hs;subst hs;obtain⟨rfl,rfl,_⟩:=trodAll_nil h;exact⟨[],trivial,⟨rfl,by simp⟩,by simp[V.blks]⟩
 | cons t ts ih=>
  intro ss vs ds ps hs h hv;simp only[zo0,yaa,yac]at hs;obtain⟨s,hs1,ss',hss,rfl⟩:=hs;obtain⟨v,vs',d,ds',p,q,rfl,rfl,rfl,h1,h2⟩:=trodAll_cons h;obtain⟨u,hu1,hu2,hu3⟩:=arg_sh hs1 (hv 0 t v rfl rfl) h1;obtain⟨us,hs1,hs2,hs3⟩:=ih ss' vs' ds' q hss h2 λj t' v' ht hv'=>hv (j+1) t' v' (by simpa using ht) (by simpa using hv');refine⟨u::us,⟨hu1,hs1⟩,⟨by simp[hs2.1],λj a x ha hx=>?_⟩,by simp only[V.blks,Proofs.YtjabaappgopdmaaGreat.Rows.uptoBulkAll];omega⟩;cases j with
  | zero=>simp only[yaC,yab]at ha hx;subst ha hx;exact hu2
  | succ j=>exact hs2.2 j a x (by simpa using ha) (by simpa using hx)
end
def H0:Heap:=⟨λ_=>none,0⟩
def relH_H0(w:World):RelH (λ_=>none) (λb=>b<w.heap.size) H0 w:=
 ⟨λid b h=>(by cases h),λid id' b b' l l' h=>(by cases h),λ_ _=>rfl,λ_ h=>h⟩
def call_true{P:Program}{G:Sem'}(hG:zgb P G){F:FuncId}{W:World}{args:Array Value}{us:List V}{H':Heap} (h:G F us H0=some (.bool true,H')) (hr:Reps (λ_=>none) (λb=>b<W.heap.size) W us args.toList) :
  Calls P F args W λe W'=>e = .returned (.bool true)/\Below W.heap.size W W':=by
 have:=(hG F us H0 _ H' h).2.1 (λ_=>none) (λb=>b<W.heap.size) W args.toList (relH_H0 W) (λ_ _ _=>rfl) hr;refine Calls.mono this λe W' ⟨m',Z',x,he,hx,_,hext⟩=>?_;cases hx;exact⟨he,hext.os,hext.tape,hext.output,hext.size,λk hk=>hext.same k hk λid b l hb=>by cases hb⟩
section
variable {H:Type} {enc:TypeId×Value->H} {P:Program}
def trodAll_len{w:World}{base:Nat}{sp:Nat->Bool}{held:Bool}:∀{ts:List TypeId} {vs:List Value} {ds:List (DataW H)} {ps:List MemPlace},DataW.TrodAll enc P w base sp held ts vs ds ps->ds.length=ts.length:=by
 intro ts
 induction ts with
 | nil=>intro vs ds ps h;obtain⟨_,rfl,_⟩:=trodAll_nil h;rfl
 | cons t ts ih=>
  intro vs ds ps h;obtain⟨v,vs',d,ds',p,q,rfl,rfl,rfl,_,h2⟩:=trodAll_cons h;simp[ih h2]
def post_below{f:Func}{s:ChangeSpec}{apart fresh handsOn again:Bool}{W W':World}{args:Array Value} {ds gs:List (DataW H)} {before:List MemPlace}
  (hW:DataW.Whole enc P f.params.toList s.vars apart W args.toList ds gs before) (hvars:s.vars=[]) (hfn:s.fn H ds = { results:=[.lit (.bool true)],args:=ds }) (hlay:laidOutB P=true) (hmr:mapsRowed P=true)
  (hfull:((List.range P.types.size).all λt=>match P.underlying t with|some (.slice e)=>decide (0<P.cellsOf e) | _=>true)=true) (hpt:(f.params.toList.all λt=>decide (t<P.types.size))=true)
  {tb:TypeId} (hres:f.resultTypes = #[tb]) (htb:P.underlying tb=some .bool) (hb:Below W.heap.size W W') :
  s.post enc P f apart fresh handsOn again W args (.bool true) W':=by
 have hlt:∀p∈before,p.block<W.heap.size:=λp hp=>hW.lt p hp;have hW0:=hW;obtain⟨p,q,hA,hV,hbe,hz,hn⟩:=hW;rw[hvars]at hV;obtain⟨rfl,rfl⟩:=trodVars_none hV;simp only[yaN]at hbe;subst hbe;have hA':DataW.TrodAll enc P W' 0 (λ_=>true) true f.params.toList args.toList ds before:=by
  have go:∀{ts:List TypeId} {vs:List Value} {ds:List (DataW H)} {ps:List MemPlace},DataW.TrodAll enc P W 0 (λ_=>true) true ts vs ds ps->(∀p∈ps,W.sameAt W' p)->DataW.TrodAll enc P W' 0 (λ_=>true) true ts vs ds ps:=by
   intro ts
   induction ts with
   | nil=>
    intro vs ds ps h _;obtain⟨rfl,rfl,rfl⟩:=trodAll_nil h;rfl
   | cons t ts ih=>
    intro vs ds ps h hs;obtain⟨v,vs',d,ds',p,q,rfl,rfl,rfl,⟨k,h1⟩,h2⟩:=trodAll_cons h;exact⟨p,q,⟨k,DataW.trod_carry k _ _ _ h1 λx hx=>hs x (List.mem_append_left _ hx)⟩,ih h2 λx hx=>hs x (List.mem_append_right _ hx),rfl⟩
  refine go hA λp hp=>?_;have:=hb.block p.block (hlt p hp);cases p with
  | cell b o=>simp only[World.sameAt,World.cell?];dsimp only[MemPlace.block]at this;rw[this]
  | map b=>simp only[World.sameAt];dsimp only[MemPlace.block]at this;rw[this]
 have hres':∀(b:Nat) (sp:Nat->Bool) (hd:Bool),DataW.TrodAll enc P W' b sp hd f.resultTypes.toList ((Value.bool true).resultList f.resultTypes.size) [.lit (.bool true)] []:=by
  intro b sp hd;rw[hres];exact trodAll_cons_mk (shut_bool htb _) trodAll_mk0
 have hargs:∀sp:Nat->Bool,(∀p∈before,sp p.block=true)->DataW.TrodAll enc P W' 0 sp true f.params.toList args.toList ds before:=by
  intro sp hsp;refine DataW.TrodAll.respare (T:=(· < P.types.size)) (kids_rows hlay hmr) (slices_full_of P hfull) (λt ht=>?_) hA' hsp;have:=yaI.1 hpt t ht;simpa using this
 have hvr:∀sp:Nat->Bool,DataW.TrodVars enc P W' sp s.vars ([]:List (DataW H)) []:=by
  intro sp;rw[hvars];rfl
 have hok:∀(j:Nat) (t:TypeId) (r:Value),f.resultTypes[j]?=some t->((Value.bool true).resultList f.resultTypes.size)[j]?=some r->Value.okWide P W' .any 0 t r:=by
  exact ok_one hres rfl (okWide_bool_mk htb _)
 have hold:∀p∈before,(λb=>decide (b<W.heap.size)) p.block=true:=λp hp=>by simpa using hlt p hp
 refine⟨ds,[],before,[],before,[],hW0,?_,?_,?_,World.keptBut_mono (λp hp=>⟨hp,?_⟩) (hb.frame (·∈before)),λ_=>?_⟩
 ·simp only[yaN,hfn];exact hres' _ _ _
 ·simp only[yaN,hfn];exact hargs _ hold
 ·simp only[yaN,hfn];exact hvr _
 ·exact .inr (.inl hp)
 ·refine⟨hok,_,_,([]++before)++[],⟨[]++before,[],trodAll_append (hargs _ (λ_ _=>rfl)) (hres' _ _ _),hvr _,rfl,?_,?_⟩,?_⟩
  ·intro b off hp;have hin:MemPlace.cell b off∈before:=by simpa using hp
   rw[hb.frozen (hlt _ hin)];exact hz b off hin
  ·intro ha;have:=hn ha;simpa using this
  ·intro p hp _;simpa using hp
end
end Go.Ax
/- Ax19 -/
namespace Go.Ax
def M.bind_assoc{α β γ:Type}(x:M α)(f:α->M β)(g:β->M γ):(x.bind f).bind g=x.bind λv=>(f v).bind g:=by
 funext H;simp only[M.bind];cases x H with
 | none=>rfl
 | some r=>rfl
def M.pure_bind{α β:Type}(v:α)(f:α->M β):(M.pure v).bind f=f v:=rfl
def step{α:Type}(G:Sem')(o:AO)(A:Fr)(k:V->M α):M α:=
 match o.gd,o.ins with
 | none,.mv x=>(match x.ev A with|some v=>k v|none=>M.fail)
 | _,_=>(o.run G A).bind k
def ztL{α:Type}(G:Sem')(o:AO)(A:Fr)(k:V->M α):step G o A k=(o.run G A).bind k:=by
 obtain⟨d,gd,ins⟩:=o;cases gd with
 | some _=>rfl
 | none=>
  cases ins<;>first|rfl|skip
  rename_i x;show(match x.ev A with|some v=>k v|none=>M.fail) = _;simp only[AO.run,guarded,I.run,with1];cases x.ev A<;>rfl
def opsK{α:Type}(G:Sem'):List AO->Fr->(Fr->M α)->M α
 | [],A,k=>k A
 | o::os,A,k=>step G o A λv=>opsK G os (A.put o.dst v) k
def opsK_eq{α:Type}(G:Sem')(k:Fr->M α):∀(l:List AO) (A:Fr),opsK G l A k=(zdR G l A).bind k:=by
 intro l
 induction l with
 | nil=>intro A;rfl
 | cons o l ih=>
  intro A;simp only[opsK,zdR,M.bind_assoc,ztL];congr 1;funext v;exact ih _
def actsK{α:Type} (un:List (Nat×Nat)) (i:Nat) (a:V):List (Nat×Heap×Heap)->M α->M α
 | [],k=>k
 | (j,h,h')::js,k=>if un.contains (i,j) then (M.unch a h h').bind λ_=>actsK un i a js k else actsK un i a js k
def readsK{α:Type} (un:List (Nat×Nat)) (j:Nat) (h h':Heap):List (Nat×V)->M α->M α
 | [],k=>k
 | (i,a)::rs,k=>if un.contains (i,j) then (M.unch a h h').bind λ_=>readsK un j h h' rs k else readsK un j h h' rs k
def drawK{α:Type}(G:Sem') (un:List (Nat×Nat)):Nat->List (Nat×V)->List (Nat×Heap×Heap)->List AO->Fr->(Fr->M α)->M α
 | _,_,_,[],A,k=>k A
 | p,rs,js,o::os,A,k=>
  match o.ins.kind with
  | .read x=>
   if un.any (λq=>q.1==p) then
    zaC.with1' A x λa=>step G o A λv=>actsK un p a js (drawK G un (p+1) ((p,a)::rs) js os (A.put o.dst v) k)
   else step G o A λv=>drawK G un (p+1) rs js os (A.put o.dst v) k
  | .act=>
   if un.any (λq=>q.2==p) then
    M.getH.bind λh=>step G o A λv=>M.getH.bind λh'=>readsK un p h h' rs (drawK G un (p+1) rs ((p,h,h')::js) os (A.put o.dst v) k)
   else step G o A λv=>drawK G un (p+1) rs js os (A.put o.dst v) k
  | _=>step G o A λv=>drawK G un (p+1) rs js os (A.put o.dst v) k
section
variable {α:Type} {un:List (Nat×Nat)}
def actsK_eq(i:Nat)(a:V)(k:M α):∀js,actsK un i a js k=(za6 un i a js).bind λ_=>k:=by
 intro js
 induction js with
 | nil=>rfl
 | cons q js ih=>
  obtain⟨j,h,h'⟩:=q;simp only[actsK,za6];split
  ·rw[M.bind_assoc];congr 1;funext _;exact ih
  ·exact ih
def zug(j:Nat)(h h':Heap)(k:M α):∀rs,readsK un j h h' rs k=(za3 un j h h' rs).bind λ_=>k:=by
 intro rs
 induction rs with
 | nil=>rfl
 | cons q rs ih=>
  obtain⟨i,a⟩:=q;simp only[readsK,za3];split
  ·rw[M.bind_assoc];congr 1;funext _;exact ih
  ·exact ih
def relR (un:List (Nat×Nat)) (q:Nat×V):Bool:=un.any λx=>x.1==q.1
def relA (un:List (Nat×Nat)) (q:Nat×Heap×Heap):Bool:=un.any λx=>x.2==q.1
def zmO(i:Nat)(a:V):∀js,za6 un i a (js.filter (relA un))=za6 un i a js:=by
 intro js
 induction js with
 | nil=>rfl
 | cons q js ih=>
  obtain⟨j,h,h'⟩:=q;by_cases hr:relA un (j,h,h')=true
  ·rw[ybT hr];simp only[za6,ih]
  ·rw[ybU hr,ih];simp only[za6];rw[if_neg];intro hc;refine hr ?_;simp only[relA,yb0,beq_iff_eq];exact⟨(i,j),by simpa using hc,rfl⟩
def zlS(j:Nat)(h h':Heap):∀rs,za3 un j h h' (rs.filter (relR un))=za3 un j h h' rs:=by
 intro rs
 induction rs with
 | nil=>rfl
 | cons q rs ih=>
  obtain⟨i,a⟩:=q;by_cases hr:relR un (i,a)=true
  ·rw[ybT hr];simp only[za3,ih]
  ·rw[ybU hr,ih];simp only[za3];rw[if_neg];intro hc;refine hr ?_;simp only[relR,yb0,beq_iff_eq];exact⟨(i,j),by simpa using hc,rfl⟩
def zqc{i:Nat}(a:V) (h:(un.any λq=>q.1==i)=false):∀js,za6 un i a js=M.pure ():=by
 intro js
 induction js with
 | nil=>rfl
 | cons q js ih=>
  obtain⟨j,h1,h2⟩:=q;simp only[za6];rw[if_neg,ih];intro hc;have:(un.any λq=>q.1==i)=true:=by
   simp only[yb0,beq_iff_eq];exact⟨(i,j),by simpa using hc,rfl⟩
  rw[h]at this;cases this
def zoz{j:Nat}(h1 h2:Heap) (h:(un.any λq=>q.2==j)=false):∀rs,za3 un j h1 h2 rs=M.pure ():=by
 intro rs
 induction rs with
 | nil=>rfl
 | cons q rs ih=>
  obtain⟨i,a⟩:=q;simp only[za3];rw[if_neg,ih];intro hc;have:(un.any λq=>q.2==j)=true:=by
   simp only[yb0,beq_iff_eq];exact⟨(i,j),by simpa using hc,rfl⟩
  rw[h]at this;cases this
def drawK_eq(G:Sem')(k:Fr->M α):∀(l:List AO) (p:Nat) (rs:List (Nat×V)) (js:List (Nat×Heap×Heap)) (A:Fr),
  drawK G un p (rs.filter (relR un)) (js.filter (relA un)) l A k=(zaC G un p rs js l A).bind k:=by
 intro l
 induction l with
 | nil=>intro p rs js A;rfl
 | cons o l ih=>
  intro p rs js A;unfold drawK zaC;simp only[ztL];cases hk:o.ins.kind with
  | read x=>
   dsimp only;have go:∀a,(un.any λq=>q.1==p)=true->(λv=>actsK un p a (js.filter (relA un)) (drawK G un (p+1) ((p,a)::rs.filter (relR un)) (js.filter (relA un)) l (A.put o.dst v) k)) =
     λv=>((za6 un p a js).bind λ_=>zaC G un (p+1) ((p,a)::rs) js l (A.put o.dst v)).bind k:=by
    intro a hu;funext v;rw[actsK_eq,zmO,M.bind_assoc];congr 1;funext _;have:=ih (p+1) ((p,a)::rs) js (A.put o.dst v);rw[ybT (by exact hu)]at this;exact this
   cases hu:un.any λq=>q.1==p with
   | true=>
    rw[if_pos rfl];cases hx:x.ev A with
    | some a=>simp only[zaC.with1',hx,M.bind_assoc];rw[go a hu];simp only[M.bind_assoc]
    | none=>simp only[zaC.with1',hx,M.bind_assoc];rw[go .undef hu];simp only[M.bind_assoc]
   | false=>
    rw[if_neg (by exact yce)];have plain:∀a,(λv=>drawK G un (p+1) (rs.filter (relR un)) (js.filter (relA un)) l (A.put o.dst v) k)=λv=>((za6 un p a js).bind λ_=>zaC G un (p+1) ((p,a)::rs) js l (A.put o.dst v)).bind k:=by
     intro a;funext v;rw[zqc a hu,M.pure_bind,<-ih (p+1) ((p,a)::rs) js (A.put o.dst v),ybU (by simp[relR,hu])]
    cases hx:x.ev A with
    | some a=>simp only[zaC.with1',hx,M.bind_assoc];rw[plain a];simp only[M.bind_assoc]
    | none=>simp only[zaC.with1',hx,M.bind_assoc];rw[plain .undef];simp only[M.bind_assoc]
  | act=>
   dsimp only;cases hu:un.any λq=>q.2==p with
   | true=>
    rw[if_pos rfl];simp only[M.bind_assoc];congr 1;funext h;congr 1;funext v;congr 1;funext h';rw[zug,zlS];congr 1;funext _;have:=ih (p+1) rs ((p,h,h')::js) (A.put o.dst v);rw[ybT (by exact hu)]at this;exact this
   | false=>
    rw[if_neg (by exact yce)];simp only[M.bind_assoc];funext H;simp only[M.bind,M.getH,Option.bind_some];cases o.run G A H with
    | none=>rfl
    | some r=>
     simp only[Option.bind_some,zoz _ _ hu,M.pure];have:=congrFun (ih (p+1) rs ((p,H,r.2)::js) (A.put o.dst r.1)) r.2;rw[ybU (by simp[relA,hu])]at this;exact this
  | pure=>
   dsimp only;rw[M.bind_assoc];congr 1;funext v;exact ih ..
  | new=>
   dsimp only;rw[M.bind_assoc];congr 1;funext v;exact ih ..
end
def resK{α:Type}(A:Fr):List RV->(List V->M α)->M α
 | [],k=>k []
 | .tmp t::rs,k=>match A.get t with|some v=>resK A rs λvs=>k (v::vs)|none=>M.fail
 | .cell t n::rs,k=>match A.get t with|some a=>(mload n a).bind λv=>resK A rs λvs=>k (v::vs)|none=>M.fail
def resK_eq{α:Type}(A:Fr):∀(rv:List RV) (k:List V->M α),resK A rv k=(results A rv).bind k:=by
 intro rv
 induction rv with
 | nil=>intro k;rfl
 | cons x rv ih=>
  intro k;cases x with
  | tmp t=>
   simp only[resK,results];cases A.get t with
   | none=>rfl
   | some v=>
    dsimp only;rw[ih];funext H;simp only[M.bind,M.lift,yas,Option.bind_some];cases results A rv H with
    | none=>rfl
    | some r=>rfl
  | cell t n=>
   simp only[resK,results];cases A.get t with
   | none=>rfl
   | some v=>
    dsimp only;funext H;simp only[M.bind,M.lift,yas,Option.bind_some];cases mload n v H with
    | none=>rfl
    | some r=>
     simp only[Option.bind_some];rw[ih];simp only[M.bind];cases results A rv r.2 with
     | none=>rfl
     | some r=>rfl
def execK(G:Sem')(rv:List RV):C->List (Nat×List Nat)->List Nat->Fr->M Res
 | .done,_,J,A=>match zaV A J with|some L=>M.pure (.nrm L)|none=>M.fail
 | .bad,_,_,_=>M.fail
 | .ops l k,cx,J,A=>opsK G l A λA'=>execK G rv k cx J A'
 | .draw l un k,cx,J,A=>drawK G un 0 [] [] l A λA'=>execK G rv k cx J A'
 | .cond x a b,cx,J,A=>match x.ev A with|some c=>M.ite c (execK G rv a cx J A) (execK G rv b cx J A)|none=>M.fail
 | .condJ x a b J' W k,cx,J,A=>match x.ev A with
  | some c=>M.join (M.ite c (execK G rv a cx J' A) (execK G rv b cx J' A)) λL=>execK G rv k cx J (A.join J' W L)
  | none=>M.fail
 | .blk id a J' W k,cx,J,A=>M.blk id (execK G rv a ((id,J')::cx) J' A) λL=>execK G rv k cx J (A.join J' W L)
 | .loop a K W,cx,_,A=>match zaV A K with|some L=>M.iter (λL=>execK G rv a cx K (A.join K W L)) L|none=>M.fail
 | .exit id,cx,_,A=>match zhA cx id with|some J=>(match zaV A J with|some L=>M.pure (.ex id L)|none=>M.fail)|none=>M.fail
 | .ret,_,_,A=>resK A rv λL=>M.pure (.ret L)
def execK_eq(G:Sem')(rv:List RV):∀(c:C) (cx:List (Nat×List Nat)) (J:List Nat) (A:Fr),execK G rv c cx J A=exec G rv c cx J A:=by
 intro c
 induction c with
 | done=>intro cx J A;simp only[execK,exec];cases zaV A J<;>rfl
 | bad=>intro cx J A;rfl
 | ops l k ih=>intro cx J A;simp only[execK,exec];rw[opsK_eq];congr 1;funext A';exact ih _ _ _
 | draw l un k ih=>
  intro cx J A;simp only[execK,exec];have:=drawK_eq (un:=un) G (λA'=>execK G rv k cx J A') l 0 [] [] A;simp only[List.filter_nil]at this;rw[this];congr 1;funext A';exact ih _ _ _
 | cond x a b iha ihb=>intro cx J A;simp only[execK,exec,iha,ihb];cases x.ev A<;>rfl
 | condJ x a b J' W k iha ihb ihk=>intro cx J A;simp only[execK,exec,iha,ihb,ihk];cases x.ev A<;>rfl
 | blk id a J' W k iha ihk=>intro cx J A;simp only[execK,exec,iha,ihk]
 | loop a K W iha=>
  intro cx J A;simp only[execK,exec,iha];cases zaV A K<;>rfl
 | exit id=>
  intro cx J A;simp only[execK,exec];cases zhA cx id with
  | none=>rfl
  | some J=>dsimp only;cases zaV A J<;>rfl
 | ret=>intro cx J A;simp only[execK,exec,resK_eq]
def fin(x:M Res):M V:=x.bind λr=>
 match r with
 | .ret L=>M.pure (zdD L)
 | _=>M.fail
def zrD(G:Sem')(f:Fn')(args:List V):f.run G args=fin (execK G f.rv f.body [] [] (params 0 args)):=by
 rw[execK_eq];rfl
def zrA{T:FuncId->Option Fn'}{f:FuncId}{ir:Fn'}(hT:T f=some ir){args:List V}(hl:args.length<=ir.ntmps){x:M V} (hx:fin (execK (sem T) ir.rv ir.body [] [] (params 0 args))=x) {H:Heap} {r:V×Heap} (h:x H=some r) :
  sem T f args H=some r:=zo1 hT hl (by rw[zrD,hx];exact h)
/-! Steps of proofs. -/
def bind_ok{α β:Type}{x:M α}{f:α->M β}{H H1:Heap}{v:α} (h:x H=some (v,H1)):(x.bind f) H=f v H1:=by simp only[M.bind,h,Option.bind_some]
def zu1{body:List V->M Res}{L L':List V}{H H':Heap}{r:Res×Heap} (h:body L H=some (.nrm L',H')) (k:M.iter body L' H'=some r):M.iter body L H=some r:=by
 obtain⟨n,hn⟩:=zeO k;refine zfJ (n:=n+1) ?_;show(M.join (body L) (iterN body n)) H=some r;simp only[M.join,M.bind,h,Option.bind_some,hn]
def zu2{body:List V->M Res}{L L':List V}{id:Nat}{H H':Heap} (h:body L H=some (.ex id L',H')):M.iter body L H=some (.ex id L',H'):=by
 refine zfJ (n:=1) ?_;show(M.join (body L) (iterN body 0)) H=some _;simp only[M.join,M.bind,h,Option.bind_some,M.pure]
def iter_ret{body:List V->M Res}{L L':List V}{H H':Heap} (h:body L H=some (.ret L',H')):M.iter body L H=some (.ret L',H'):=by
 refine zfJ (n:=1) ?_;show(M.join (body L) (iterN body 0)) H=some _;simp only[M.join,M.bind,h,Option.bind_some,M.pure]
def Ok{α:Type}(x:M α)(H:Heap)(Q:α->Heap->Prop):Prop:=∃v H',x H=some (v,H')/\Q v H'
section
variable {α β:Type} {H:Heap}
def zax{x:M α}{Q Q':α->Heap->Prop}(h:Ok x H Q)(hq:∀v H',Q v H'->Q' v H'):Ok x H Q':=by
 obtain⟨v,H',h1,h2⟩:=h;exact⟨v,H',h1,hq _ _ h2⟩
def zaQ{x:M α}{f:α->M β}{Q:β->Heap->Prop} (h:Ok x H λv H1=>Ok (f v) H1 Q):Ok (x.bind f) H Q:=by
 obtain⟨v,H1,h1,w,H2,h2,hq⟩:=h;exact⟨w,H2,by rw[bind_ok h1,h2],hq⟩
def zam{x:M α}{f:α->M β}{P:α->Heap->Prop}{Q:β->Heap->Prop}(h:Ok x H P) (k:∀v H1,P v H1->Ok (f v) H1 Q):Ok (x.bind f) H Q:=zaQ (zax h k)
def ziU{v:α}{Q:α->Heap->Prop}(h:Q v H):Ok (M.pure v) H Q:=⟨v,H,rfl,h⟩
def ok_lift{o:Option α}{v:α}{Q:α->Heap->Prop}(ho:o=some v)(h:Q v H):Ok (M.lift o) H Q:=⟨v,H,by subst ho;rfl,h⟩
def zrL{o:Option α}{v:α}{f:α->M β}{Q:β->Heap->Prop}(ho:o=some v) (h:Ok (f v) H Q):Ok ((M.lift o).bind f) H Q:=zaQ (ok_lift ho h)
def ok_ite{b:Bool}{x y:M α}{Q:α->Heap->Prop}(h1:b=true->Ok x H Q)(h2:b=false->Ok y H Q):Ok (M.ite (.bool b) x y) H Q:=by
 cases b
 ·exact h2 rfl
 ·exact h1 rfl
def zdu{p:Prop}[Decidable p]{x y:M α}{Q:α->Heap->Prop}(h1:p->Ok x H Q)(h2:¬p->Ok y H Q):Ok (M.ite (.bool (decide p)) x y) H Q:=
 ok_ite (λh=>h1 (of_decide_eq_true h)) λh=>h2 (of_decide_eq_false h)
def Then(k:List V->M Res)(Q:Res->Heap->Prop):Res->Heap->Prop
 | .nrm L,H=>Ok (k L) H Q
 | r,H=>Q r H
def ok_join{x:M Res}{k:List V->M Res}{Q:Res->Heap->Prop} (h:Ok x H (Then k Q)):Ok (M.join x k) H Q:=by
 obtain⟨r,H1,h1,h2⟩:=h;refine zaQ ⟨r,H1,h1,?_⟩;cases r with
 | nrm L=>exact h2
 | ex id L=>exact ziU h2
 | ret L=>exact ziU h2
def Out(id:Nat)(k:List V->M Res)(Q:Res->Heap->Prop):Res->Heap->Prop
 | .nrm L,H=>Ok (k L) H Q
 | .ex i L,H=>if i=id then Ok (k L) H Q else Q (.ex i L) H
 | .ret L,H=>Q (.ret L) H
def ok_blk{id:Nat}{x:M Res}{k:List V->M Res}{Q:Res->Heap->Prop} (h:Ok x H (Out id k Q)):Ok (M.blk id x k) H Q:=by
 obtain⟨r,H1,h1,h2⟩:=h;refine zaQ ⟨r,H1,h1,?_⟩;cases r with
 | nrm L=>exact h2
 | ex i L=>
  simp only[Out]at h2;dsimp only;by_cases e:i=id
  ·rw[if_pos e]at h2 ⊢;exact h2
  ·rw[if_neg e]at h2 ⊢;exact ziU h2
 | ret L=>exact ziU h2
def ok_fin{x:M Res}{Q:V->Heap->Prop} (h:Ok x H λr H'=>∃L,r = .ret L/\Q (zdD L) H'):Ok (fin x) H Q:=by
 obtain⟨r,H1,h1,L,rfl,hq⟩:=h;exact zaQ ⟨_,H1,h1,ziU hq⟩
def zuJ{body:List V->M Res}{L:List V}{Q:Res->Heap->Prop}(I:List V->Heap->Nat->Prop)(n:Nat)(h0:I L H n)
  (hb:∀L H n,I L H n->Ok (body L) H λr H'=>match r with | .nrm L'=>∃n',n'<n/\I L' H' n'|r=>Q r H'):Ok (M.iter body L) H Q:=by
 induction n using Nat.strongRecOn generalizing L H with
 | ind n ih=>
  obtain⟨r,H1,h1,h2⟩:=hb L H n h0;cases r with
  | nrm L'=>
   obtain⟨n',hlt,hI⟩:=h2;obtain⟨r',H2,h3,h4⟩:=ih n' hlt hI;exact⟨r',H2,zu1 h1 h3,h4⟩
  | ex id L'=>exact⟨_,H1,zu2 h1,h2⟩
  | ret L'=>exact⟨_,H1,iter_ret h1,h2⟩
def zfs{ty:TypeId}{x:V}{Q:V->Heap->Prop}(h3:x.okc=true) (h:Q (.ptr H.next 0) (H.new ⟨ty,x.cells,none⟩)):Ok (mbox ty x) H Q:=
 ⟨_,_,by simp only[mbox];rw[if_pos h3],h⟩
def zsI{ty bytes:Nat}{zero:List V}{l c:Int}{Q:V->Heap->Prop}(h1:0<=l/\l<=c/\c*bytes<=281474976710656/\c<=281474976710656) (h:Q (.sl H.next 0 l.toNat (.fix c.toNat)) (H.new ⟨ty,zeros zero c.toNat,none⟩)) :
  Ok (mmkslice ty bytes zero (.int .i64 l) (.int .i64 c)) H Q:=
 ⟨_,_,by simp only[mmkslice];rw[if_pos h1],h⟩
def zsL{ty esz bytes:Nat}{y:V}{q:List V×Nat}{Q:V->Heap->Prop}(hy:acells esz H y=some q)(h0:q.2=0->Q .nils H) (h1:q.2≠0->q.2*bytes<=140737488355328/\q.2<=maxLen/\Q (.sl H.next 0 q.2 (.opn esz)) (H.new ⟨ty,q.1,some esz⟩)) :
  Ok (mappend ty esz bytes .nils y) H Q:=by
 by_cases h:q.2=0
 ·exact⟨_,_,by simp only[mappend,mappendq,hy,Option.bind_some];rw[if_pos h],h0 h⟩
 ·obtain⟨a,b,c⟩:=h1 h;exact⟨_,_,by simp only[mappend,mappendq,hy,Option.bind_some];rw[if_neg h,if_pos ⟨a,b⟩],c⟩
def zuK{ty esz bytes id len:Nat}{y:V}{b:Blk}{q:List V×Nat}{Q:V->Heap->Prop}(hy:acells esz H y=some q)(hb:H.get id=some b)(ht:b.ty=ty)(ho:b.opn=some esz)(hl:b.cells.length=len*esz)
  (h0:q.2=0->Q (.sl id 0 len (.opn esz)) H) (h1:q.2≠0->(len+q.2)*bytes<=140737488355328/\len+q.2<=maxLen/\Q (.sl H.next 0 (len+q.2) (.opn esz)) ((H.set id none).new ⟨ty,b.cells++q.1,some esz⟩)) :
  Ok (mappend ty esz bytes (.sl id 0 len (.opn esz)) y) H Q:=by
 have hc:0+len*esz<=b.cells.length/\b.ty=ty:=⟨by omega,ht⟩;by_cases h:q.2=0
 ·exact⟨_,_,by simp only[mappend,mappendq,hy,Option.bind_some,hb];rw[if_pos hc,if_pos ⟨trivial,ho,by omega⟩,if_pos h],h0 h⟩
 ·obtain⟨a,c,d⟩:=h1 h;exact⟨_,_,by simp only[mappend,mappendq,hy,Option.bind_some,hb];rw[if_pos hc,if_pos ⟨trivial,ho,by omega⟩,if_neg h,if_pos ⟨a,c⟩,yaH],d⟩
end
def ok_sem{T:FuncId->Option Fn'}{f:FuncId}{ir:Fn'}(hT:T f=some ir){args:List V}(hl:args.length<=ir.ntmps){x:M Res} (hx:execK (sem T) ir.rv ir.body [] [] (params 0 args)=x) {H:Heap} {Q:V->Heap->Prop}
  (h:Ok x H λr H'=>∃L,r = .ret L/\Q (zdD L) H'):Ok (sem T f args) H Q:=by
 obtain⟨v,H',h1,h2⟩:=ok_fin h;exact⟨v,H',zrA hT hl (congrArg fin hx) h1,h2⟩
/-! Heaps. -/
def zaj(H:Heap)(id:Nat)(b:Option Blk):(H.set id b).get id=b:=by simp[Heap.set]
def zag(H:Heap){id i:Nat}(b:Option Blk)(h:i≠id):(H.set id b).get i=H.get i:=by simp[Heap.set,h]
def zak(H:Heap)(id:Nat)(b:Option Blk):(H.set id b).next=H.next:=rfl
def zae(H:Heap)(b:Blk):(H.new b).get H.next=some b:=by simp[Heap.new]
def zaA(H:Heap){i:Nat}(b:Blk)(h:i≠H.next):(H.new b).get i=H.get i:=by simp[Heap.new,h]
def zaf(H:Heap)(b:Blk):(H.new b).next=H.next+1:=rfl
structure Step (H H':Heap) (F F':List Nat):Prop where
 next:H.next<=H'.next
 same:∀i,i<H.next->i∉F->H'.get i=H.get i
 own:∀i,i∈F'->i∈F\/(H.next<=i/\i<H'.next)
def Step.refl(H:Heap)(F:List Nat):Step H H F F:=⟨yaj _,λ_ _ _=>rfl,λ_ h=>.inl h⟩
def Step.trans{H H1 H2:Heap}{F F1 F2:List Nat}(h:Step H H1 F F1)(k:Step H1 H2 F1 F2):Step H H2 F F2:=by
 refine⟨yaA h.next k.next,λi hi hF=>?_,λi hi=>?_⟩
 ·rw[k.same i (yaq hi h.next) λh1=>?_,h.same i hi hF];rcases h.own i h1 with h2|h2
  ·exact hF h2
  ·omega
 ·rcases k.own i hi with h1|h1
  ·rcases h.own i h1 with h2|h2
   ·exact .inl h2
   ·exact .inr ⟨h2.1,yaq h2.2 k.next⟩
  ·exact .inr ⟨yaA h.next h1.1,h1.2⟩
def Below(F:List Nat)(H:Heap):Prop:=∀i∈F,i<H.next
class Kn (α:Type) where
 k:α
def OkB{α β:Type}(x:M α)(H:Heap) [f:Kn (α->M β)] [Q:Kn (β->Heap->Prop)]:Prop:=Ok (x.bind f.k) H Q.k
def OkI{α:Type}(c:V)(H:Heap) [x:Kn (M α)] [y:Kn (M α)] [Q:Kn (α->Heap->Prop)]:Prop:=Ok (M.ite c x.k y.k) H Q.k
def OkS{α:Type}(x:M α)(H:Heap) [Q:Kn (α->Heap->Prop)]:Prop:=Ok x H Q.k
def StK{β:Type}(o:Option Blk)(size id off:Nat)(x:V)(H:Heap) [f:Kn (V->M β)] [Q:Kn (β->Heap->Prop)]:Prop:=
 match o with
 | none=>False
 | some b=>(x.cells.length=size/\off+size<=b.cells.length/\x.okc=true)/\Ok (f.k .undef) (H.set id (some ⟨b.ty,splice b.cells off x.cells,b.opn⟩)) Q.k
def SlK{β:Type} (o:Option (List V)) (ty:TypeId) (len:Nat) (H:Heap) [f:Kn (V->M β)] [Q:Kn (β->Heap->Prop)]:Prop:=
 match o with
 | none=>False
 | some cs=>Ok (f.k (.sl H.next 0 len (.fix len))) (H.new ⟨ty,cs,none⟩) Q.k
section
variable {α β:Type} {H:Heap}
def d_bind{x:M α}{f:α->M β}{Q:β->Heap->Prop}:Ok (x.bind f) H Q = @OkB α β x H ⟨f⟩ ⟨Q⟩:=rfl
def d_ite{c:V}{x y:M α}{Q:α->Heap->Prop}:Ok (M.ite c x y) H Q = @OkI α c H ⟨x⟩ ⟨y⟩ ⟨Q⟩:=rfl
def d_iter{b:List V->M Res}{L:List V}{Q:Res->Heap->Prop}:Ok (M.iter b L) H Q = @OkS Res (M.iter b L) H ⟨Q⟩:=rfl
end
section
variable {α β γ:Type} {H:Heap}
def zqK{v:α}{Q:α->Heap->Prop}:Ok (M.pure v) H Q<->Q v H:=⟨λ⟨w,H',h,hq⟩=>by simp only[M.pure,yab,yae]at h;obtain⟨rfl,rfl⟩:=h;exact hq,ziU⟩
def zk4{x:M α}{f:α->M β}{Q:β->Heap->Prop}:Ok (x.bind f) H Q<->Ok x H λv H1=>Ok (f v) H1 Q:=by
 refine⟨λ⟨v,H',h,hq⟩=>?_,zaQ⟩;simp only[M.bind,yaa]at h;obtain⟨⟨w,H1⟩,h1,h2⟩:=h;exact⟨w,H1,h1,v,H',h2,hq⟩
def znF{v:α}{f:α->M β}{Q:β->Heap->Prop}:Ok ((M.pure v).bind f) H Q<->Ok (f v) H Q:=ycO
def okb_lift{v:α}{f:α->M β}{Q:β->Heap->Prop}:Ok ((M.lift (some v)).bind f) H Q<->Ok (f v) H Q:=ycO
def zuG{x:M α}{g:α->M β}{f:β->M γ}{Q:γ->Heap->Prop}:Ok ((x.bind g).bind f) H Q<->Ok (x.bind λv=>(g v).bind f) H Q:=by rw[M.bind_assoc]
def okb_getH{f:Heap->M β}{Q:β->Heap->Prop}:Ok (M.getH.bind f) H Q<->Ok (f H) H Q:=ycO
def zpg{id off:Nat}{h h':Heap}{f:Unit->M β}{Q:β->Heap->Prop}:Ok ((M.unch (.ptr id off) h h').bind f) H Q<->h'.get id=h.get id/\Ok (f ()) H Q:=by
 by_cases e:h'.get id=h.get id
 ·have hp:∀i,(V.ptr id off).pid=some i->h'.get i=h.get i:=by intro i hi;simp only[V.pid,yab]at hi;subst hi;exact e
  have:M.unch (.ptr id off) h h'=M.pure ():=by funext H;unfold M.unch;rw[if_pos hp];rfl
  rw[this,znF];simp[e]
 ·have hp:¬∀i,(V.ptr id off).pid=some i->h'.get i=h.get i:=λk=>e (k id rfl);constructor
  ·rintro⟨v,H',h1,_⟩;simp only[M.bind,M.unch]at h1;rw[if_neg hp]at h1;cases h1
  ·intro k;exact absurd k.1 e
def zqG{cells:List V}{off:Nat}{h h':Heap}{f:Unit->M β}{Q:β->Heap->Prop}:Ok ((M.unch (.rp cells off) h h').bind f) H Q<->Ok (f ()) H Q:=by
 have:M.unch (.rp cells off) h h'=M.pure ():=by funext H;unfold M.unch;rw[if_pos (by intro id h;cases h)];rfl
 rw[this,znF]
def zqL{x:M Res}{k:List V->M Res}{Q:Res->Heap->Prop}:Ok (M.join x k) H Q<->Ok x H (Then k Q):=by
 refine⟨λ⟨r,H',h,hq⟩=>?_,ok_join⟩;simp only[M.join,M.bind,yaa]at h;obtain⟨⟨w,H1⟩,h1,h2⟩:=h;refine⟨w,H1,h1,?_⟩;cases w with
 | nrm L=>exact⟨r,H',h2,hq⟩
 | ex id L=>simp only[M.pure,yab,yae]at h2;obtain⟨rfl,rfl⟩:=h2;exact hq
 | ret L=>simp only[M.pure,yab,yae]at h2;obtain⟨rfl,rfl⟩:=h2;exact hq
def then_nrm{k:List V->M Res}{Q:Res->Heap->Prop}{L:List V}:Then k Q (.nrm L) H=Ok (k L) H Q:=rfl
def then_ex{k:List V->M Res}{Q:Res->Heap->Prop}{id:Nat}{L:List V}:Then k Q (.ex id L) H=Q (.ex id L) H:=rfl
def then_ret{k:List V->M Res}{Q:Res->Heap->Prop}{L:List V}:Then k Q (.ret L) H=Q (.ret L) H:=rfl
def zsK{id:Nat}{x:M Res}{k:List V->M Res}{Q:Res->Heap->Prop}:Ok (M.blk id x k) H Q<->Ok x H (Out id k Q):=by
 refine⟨λ⟨r,H',h,hq⟩=>?_,ok_blk⟩;simp only[M.blk,M.bind,yaa]at h;obtain⟨⟨w,H1⟩,h1,h2⟩:=h;refine⟨w,H1,h1,?_⟩;cases w with
 | nrm L=>exact⟨r,H',h2,hq⟩
 | ex i L=>
  simp only[Out];dsimp only at h2;by_cases e:i=id
  ·rw[if_pos e]at h2 ⊢;exact⟨r,H',h2,hq⟩
  ·rw[if_neg e]at h2 ⊢;simp only[M.pure,yab,yae]at h2;obtain⟨rfl,rfl⟩:=h2;exact hq
 | ret L=>simp only[M.pure,yab,yae]at h2;obtain⟨rfl,rfl⟩:=h2;exact hq
def out_nrm{id:Nat}{k:List V->M Res}{Q:Res->Heap->Prop}{L:List V}:Out id k Q (.nrm L) H=Ok (k L) H Q:=rfl
def out_ret{id:Nat}{k:List V->M Res}{Q:Res->Heap->Prop}{L:List V}:Out id k Q (.ret L) H=Q (.ret L) H:=rfl
def out_same{id:Nat}{k:List V->M Res}{Q:Res->Heap->Prop}{L:List V}:Out id k Q (.ex id L) H=Ok (k L) H Q:=by simp only[Out,if_true]
def out_ne{id i:Nat}{k:List V->M Res}{Q:Res->Heap->Prop}{L:List V}(h:i≠id):Out id k Q (.ex i L) H=Q (.ex i L) H:=by
 simp only[Out];rw[if_neg h]
def zsT{x:M V}:guarded [(0,.bool true)] (some (0,true)) x=x:=rfl
def zsW{x:M V}:guarded [(0,.bool false)] (some (0,false)) x=x:=rfl
def zsU{x:M V}:guarded [(0,.bool true)] (some (0,false)) x=M.pure .undef:=rfl
def zsV{x:M V}:guarded [(0,.bool false)] (some (0,true)) x=M.pure .undef:=rfl
def zu9{x:M V}{w:Bool}:guarded [(0,.undef)] (some (0,w)) x=M.pure .undef:=rfl
def pick_t{a b:V}:Ax.pick (.bool true) a b=some a:=rfl
def pick_f{a b:V}:Ax.pick (.bool false) a b=some b:=rfl
def zuu{c:Bool}{a:V}:Ax.pick (.bool c) a a=some a:=by cases c<;>rfl
/-! Memory. -/
def okb_load{n:Option Nat}{id off:Nat}{f:V->M β}{Q:β->Heap->Prop}:Ok ((mload n (.ptr id off)).bind f) H Q<->Ok ((M.lift ((H.get id).bind λb=>ldc n b.cells off)).bind f) H Q:=by
 rw[zk4,zk4];have:∀Q',Ok (mload n (.ptr id off)) H Q'<->Ok (M.lift ((H.get id).bind λb=>ldc n b.cells off)) H Q':=by
  intro Q';unfold Ok;have e:mload n (.ptr id off) H=M.lift ((H.get id).bind λb=>ldc n b.cells off) H:=by
   simp only[mload,M.lift];cases H.get id with
   | none=>rfl
   | some b=>rfl
  rw[e]
 exact this _
def zuE{n:Option Nat}{cells:List V}{off:Nat}{f:V->M β}{Q:β->Heap->Prop}:Ok ((mload n (.rp cells off)).bind f) H Q<->Ok ((M.lift (ldc n cells off)).bind f) H Q:=ycO
def zuD{size id off:Nat}{x:V}{f:V->M β}{Q:β->Heap->Prop}:Ok ((mstore size (.ptr id off) x).bind f) H Q<->@StK β (H.get id) size id off x H ⟨f⟩ ⟨Q⟩:=by
 unfold StK;cases hb:H.get id with
 | none=>
  constructor
  ·rintro⟨v,H',h,_⟩;simp only[M.bind,mstore,hb,ycl]at h;cases h
  ·intro h;exact h.elim
 | some b=>
  by_cases hc:x.cells.length=size/\off+size<=b.cells.length/\x.okc=true
  ·have e:mstore size (.ptr id off) x H=some (.undef,H.set id (some ⟨b.ty,splice b.cells off x.cells,b.opn⟩)):=by
    simp only[mstore,hb,Option.bind_some];rw[if_pos hc]
   constructor
   ·rintro⟨v,H',h,hq⟩;simp only[M.bind,e,Option.bind_some]at h;exact⟨hc,v,H',h,hq⟩
   ·rintro⟨_,v,H',h,hq⟩;exact⟨v,H',by simp only[M.bind,e,Option.bind_some];exact h,hq⟩
  ·constructor
   ·rintro⟨v,H',h,hq⟩;simp only[M.bind,mstore,hb,Option.bind_some,if_neg hc]at h;cases h
   ·rintro⟨k,_⟩;exact absurd k hc
def stk_some{size id off:Nat}{x:V}{f:V->M β}{Q:β->Heap->Prop}{ty:TypeId}{cells:List V}{o:Option Nat} :
  @StK β (some ⟨ty,cells,o⟩) size id off x H ⟨f⟩ ⟨Q⟩<->(x.cells.length=size/\off+size<=cells.length/\x.okc=true)/\Ok (f .undef) (H.set id (some ⟨ty,splice cells off x.cells,o⟩)) Q:=ycO
def okb_box{ty:TypeId}{x:V}{f:V->M β}{Q:β->Heap->Prop}:Ok ((mbox ty x).bind f) H Q<->x.okc=true/\Ok (f (.ptr H.next 0)) (H.new ⟨ty,x.cells,none⟩) Q:=by
 by_cases hc:x.okc=true
 ·have e:mbox ty x H=some (.ptr H.next 0,H.new ⟨ty,x.cells,none⟩):=by simp only[mbox];rw[if_pos hc]
  constructor
  ·rintro⟨v,H',h,hq⟩;simp only[M.bind,e,Option.bind_some]at h;exact⟨hc,v,H',h,hq⟩
  ·rintro⟨_,v,H',h,hq⟩;exact⟨v,H',by simp only[M.bind,e,Option.bind_some];exact h,hq⟩
 ·constructor
  ·rintro⟨v,H',h,hq⟩;simp only[M.bind,mbox,if_neg hc,ycl]at h;cases h
  ·rintro⟨k,_⟩;exact absurd k hc
def okb_slit{ty:TypeId}{len:Nat}{zero:List V} {parts:List (Nat×Nat×V)} {f:V->M β} {Q:β->Heap->Prop} :
  Ok ((mslit ty len zero parts).bind f) H Q<->∃cs,fill (zeros zero len) parts=some cs/\Ok (f (.sl H.next 0 len (.fix len))) (H.new ⟨ty,cs,none⟩) Q:=by
 cases hc:fill (zeros zero len) parts with
 | none=>
  constructor
  ·rintro⟨v,H',h,hq⟩;simp only[M.bind,mslit,hc,Option.map_none,ycl]at h;cases h
  ·rintro⟨cs,h,_⟩;cases h
 | some cs=>
  have e:mslit ty len zero parts H=some (.sl H.next 0 len (.fix len),H.new ⟨ty,cs,none⟩):=by simp only[mslit,hc,yas]
  constructor
  ·rintro⟨v,H',h,hq⟩;simp only[M.bind,e,Option.bind_some]at h;exact⟨cs,rfl,v,H',h,hq⟩
  ·rintro⟨_,h0,v,H',h,hq⟩;cases h0;exact⟨v,H',by simp only[M.bind,e,Option.bind_some];exact h,hq⟩
end
/-! Heaps. -/
def zva(H:Heap){id:Nat}(b:Option Blk):(H.set id b).get id=b:=zaj H id b
def zvb(H:Heap){id i:Nat}(b:Option Blk)(h:i≠id):(H.set id b).get i=H.get i:=zag H b h
def zvc(H:Heap)(b:Blk):(H.new b).get H.next=some b:=zae H b
def nx_new(H:Heap)(b:Blk):(H.new b).next=H.next+1:=by simp[Heap.new]
def nx_set(H:Heap)(id:Nat)(b:Option Blk):(H.set id b).next=H.next:=by simp[Heap.set]
def zpv(H:Heap){i:Nat}(b:Blk)(h:i=H.next):(H.new b).get i=some b:=by subst h;exact zae H b
def zvd(H:Heap){i:Nat}(b:Blk)(h:i≠H.next):(H.new b).get i=H.get i:=zaA H b h
/-! Operations on numbers. -/
section
variable {k k':IntKind} {a b:Int}
def zvQ:Ax.bin .add (.int k a) (.int k b)=some (.int k (k.wrap (a+b))):=by simp[Ax.bin,zcy]
def zvP:Ax.bin .sub (.int k a) (.int k b)=some (.int k (k.wrap (a-b))):=by simp[Ax.bin,zcy]
def bin_mul:Ax.bin .mul (.int k a) (.int k b)=some (.int k (k.wrap (a*b))):=by simp[Ax.bin,zcy]
def bin_quo(hb:b≠0):Ax.bin .quo (.int k a) (.int k b)=some (.int k (k.wrap (a.tdiv b))):=by simp[Ax.bin,zcy,hb]
def bin_rem(hb:b≠0):Ax.bin .rem (.int k a) (.int k b)=some (.int k (a.tmod b)):=by simp[Ax.bin,zcy,hb]
def zl1:Ax.bin .and (.int k a) (.int k b)=some (.int k (Go.bits .and k a b)):=by simp[Ax.bin,zcy]
def zqe:Ax.bin .or (.int k a) (.int k b)=some (.int k (Go.bits .or k a b)):=by simp[Ax.bin,zcy]
def zoD:Ax.bin .xor (.int k a) (.int k b)=some (.int k (Go.bits .xor k a b)):=by simp[Ax.bin,zcy]
def zgj:Ax.bin .andNot (.int k a) (.int k b)=some (.int k (Go.bits .andNot k a b)):=by simp[Ax.bin,zcy]
def bin_eql:Ax.bin .eql (.int k a) (.int k b)=some (.bool (a==b)):=by simp[Ax.bin,zcy]
def bin_neq:Ax.bin .neq (.int k a) (.int k b)=some (.bool (!(a==b))):=by simp[Ax.bin,zcy];rfl
def bin_lss:Ax.bin .lss (.int k a) (.int k b)=some (.bool (decide (a<b))):=by simp[Ax.bin,zcy]
def bin_leq:Ax.bin .leq (.int k a) (.int k b)=some (.bool (decide (a<=b))):=by simp[Ax.bin,zcy]
def bin_gtr:Ax.bin .gtr (.int k a) (.int k b)=some (.bool (decide (b<a))):=by simp[Ax.bin,zcy]
def bin_geq:Ax.bin .geq (.int k a) (.int k b)=some (.bool (decide (b<=a))):=by simp[Ax.bin,zcy]
def zlZ(hb:0<=b):Ax.bin .shr (.int k a) (.int k' b)=some (.int k (a.fdiv (2 ^ min b.toNat k.bits))):=by simp only[Ax.bin];rw[if_neg (by omega)]
def zl0(hb:0<=b):Ax.bin .shl (.int k a) (.int k' b)=some (.int k (k.wrap (a*2 ^ min b.toNat k.bits))):=by simp only[Ax.bin];rw[if_neg (by omega)]
def bin_seql{s t:ByteArray}:Ax.bin .eql (.str s) (.str t)=some (.bool (s.toList==t.toList)):=rfl
def bin_sneq{s t:ByteArray}:Ax.bin .neq (.str s) (.str t)=some (.bool (!(s.toList==t.toList))):=rfl
def un_not{c:Bool}:Ax.un .not (.bool c)=some (.bool !c):=rfl
def un_neg:Ax.un .neg (.int k a)=some (.int k (k.wrap (0-a))):=rfl
def zr8:Ax.cint k' (.int k a)=some (.int k' (k'.wrap a)):=rfl
def zuQ{id off:Nat}:Ax.nilck (.ptr id off)=some (.ptr id off):=rfl
def nilck_rp{c:List V}{off:Nat}:Ax.nilck (.rp c off)=some (.rp c off):=rfl
def nilck_fn{f:FuncId}{c:List V}:Ax.nilck (.fn f c)=some (.fn f c):=rfl
def nilck_sl{id off len:Nat}{c:Cap}:Ax.nilck (.sl id off len c)=some (.sl id off len c):=rfl
def zvp{o id off:Nat}:Ax.faddr o (.ptr id off)=some (.ptr id (off+o)):=rfl
def faddr_rp{o off:Nat}{c:List V}:Ax.faddr o (.rp c off)=some (.rp c (off+o)):=rfl
def ztF:vlen .nils=some (.int .i64 0):=rfl
def vlen_sl{id off len:Nat}{c:Cap}:vlen (.sl id off len c)=some (.int .i64 (len:Int)):=rfl
def vlen_rs{cells:List V}{len:Nat}:vlen (.rs cells len)=some (.int .i64 (len:Int)):=rfl
def slen_str{s:ByteArray}:Ax.slen (.str s)=some (.int .i64 (s.size:Int)):=rfl
def ext_tup{i:Nat}{vs:List V}:Ax.ext i (.tup vs)=vs[i]?:=rfl
def zvn{o:Nat}{n:Option Nat}{cs:List V}:Ax.field o n (.agg cs)=ldc n cs o:=rfl
def zrW{e id off len:Nat}{c:Cap}{i:Int}(h0:0<=i)(h1:i<len):Ax.iaddr none e (.sl id off len c) (.int k i)=some (.ptr id (off+i.toNat*e)):=by simp only[Ax.iaddr];rw[if_pos ⟨h0,h1⟩]
def zrX{e len:Nat}{cells:List V}{i:Int}(h0:0<=i)(h1:i<len):Ax.iaddr none e (.rs cells len) (.int k i)=some (.rp cells (i.toNat*e)):=by simp only[Ax.iaddr];rw[if_pos ⟨h0,h1⟩]
def zrY{n e id off:Nat}{i:Int}(h0:0<=i)(h1:i<n):Ax.iaddr (some n) e (.ptr id off) (.int k i)=some (.ptr id (off+i.toNat*e)):=by simp only[Ax.iaddr];rw[if_pos ⟨h0,h1⟩]
def zu5{n e off:Nat}{cells:List V}{i:Int}(h0:0<=i)(h1:i<n):Ax.iaddr (some n) e (.rp cells off) (.int k i)=some (.rp cells (off+i.toNat*e)):=by simp only[Ax.iaddr];rw[if_pos ⟨h0,h1⟩]
def zu4{len e:Nat}{n:Option Nat}{cs:List V}{i:Int}(h0:0<=i)(h1:i<len):Ax.index len e n (.agg cs) (.int k i)=ldc n cs (i.toNat*e):=by simp only[Ax.index];rw[if_pos ⟨h0,h1⟩]
def eqr_nilp{n:Bool}:eqr .ptr n .nilp .nilp=some (.bool (if n then false else true)):=by cases n<;>rfl
def eqr_ptr{n:Bool}{id off:Nat}:eqr .ptr n (.ptr id off) .nilp=some (.bool (if n then true else false)):=by cases n<;>rfl
def eqr_rp{n:Bool}{c:List V}{off:Nat}:eqr .ptr n (.rp c off) .nilp=some (.bool (if n then true else false)):=by cases n<;>rfl
def eqr_nils{n:Bool}:eqr .sl n .nils .nils=some (.bool (if n then false else true)):=by cases n<;>rfl
def eqr_sl{n:Bool}{id off len:Nat}{c:Cap}:eqr .sl n (.sl id off len c) .nils=some (.bool (if n then true else false)):=by cases n<;>rfl
def eqr_rs{n:Bool}{cs:List V}{len:Nat}:eqr .sl n (.rs cs len) .nils=some (.bool (if n then true else false)):=by cases n<;>rfl
def eqr_bool{n a b:Bool}:eqr .bool n (.bool a) (.bool b)=some (.bool (if n then !(a==b) else a==b)):=by cases n<;>rfl
def ldc_none{cs:List V}{o:Nat}:ldc none cs o=cs[o]?:=rfl
def zdJ{cs:List V}{n o:Nat}(h:o+n<=cs.length):ldc (some n) cs o=some (.agg ((cs.drop o).take n)):=by simp only[ldc];rw[if_pos h]
def min2_min{a b:Int}:min2 false (.int k a) (.int k b)=some (.int k (min a b)):=by simp only[min2];congr 2;simp;omega
def min2_max{a b:Int}:min2 true (.int k a) (.int k b)=some (.int k (max a b)):=by simp only[min2];congr 2;simp;omega
def dec_lt_t{a b:Int}(h:a<b):decide (a<b)=true:=decide_eq_true h
def dec_lt_f{a b:Int}(h:b<=a):decide (a<b)=false:=decide_eq_false (by omega)
def dec_le_t{a b:Int}(h:a<=b):decide (a<=b)=true:=decide_eq_true h
def dec_le_f{a b:Int}(h:b<a):decide (a<=b)=false:=decide_eq_false (by omega)
def beq_t{a b:Int}(h:a=b):(a==b)=true:=by simp[h]
def beq_f{a b:Int}(h:a≠b):(a==b)=false:=by simp[h]
end
def shr(a b:Nat):Nat:=a >>> b
def shl(a b:Nat):Nat:=a <<< b
def shr_le(a b:Nat):shr a b<=a:=ycL a b
def ziN(a b:Nat):shr a b=a >>> b:=rfl
def ztU(a b:Nat):shl a b=a <<< b:=rfl
def shr_1(a:Nat):shr a 1=a/2:=yaf a 1
def shl_1(a:Nat):shl a 1=a*2:=yak a 1
def shr_2(a:Nat):shr a 2=a/4:=yaf a 2
def shl_2(a:Nat):shl a 2=a*4:=yak a 2
def shr_3(a:Nat):shr a 3=a/8:=yaf a 3
def shl_3(a:Nat):shl a 3=a*8:=yak a 3
def shr_4(a:Nat):shr a 4=a/16:=yaf a 4
def shl_4(a:Nat):shl a 4=a*16:=yak a 4
def shr_5(a:Nat):shr a 5=a/32:=yaf a 5
def shl_5(a:Nat):shl a 5=a*32:=yak a 5
def shr_6(a:Nat):shr a 6=a/64:=yaf a 6
def shl_6(a:Nat):shl a 6=a*64:=yak a 6
def shr_7(a:Nat):shr a 7=a/128:=yaf a 7
def shl_7(a:Nat):shl a 7=a*128:=yak a 7
def shr_8(a:Nat):shr a 8=a/256:=yaf a 8
def shl_8(a:Nat):shl a 8=a*256:=yak a 8
def shr_9(a:Nat):shr a 9=a/512:=yaf a 9
def shl_9(a:Nat):shl a 9=a*512:=yak a 9
def shr_10(a:Nat):shr a 10=a/1024:=yaf a 10
def shl_10(a:Nat):shl a 10=a*1024:=yak a 10
def shr_11(a:Nat):shr a 11=a/2048:=yaf a 11
def shl_11(a:Nat):shl a 11=a*2048:=yak a 11
def shr_12(a:Nat):shr a 12=a/4096:=yaf a 12
def shl_12(a:Nat):shl a 12=a*4096:=yak a 12
def shr_13(a:Nat):shr a 13=a/8192:=yaf a 13
def shl_13(a:Nat):shl a 13=a*8192:=yak a 13
def shr_14(a:Nat):shr a 14=a/16384:=yaf a 14
def shl_14(a:Nat):shl a 14=a*16384:=yak a 14
def shr_15(a:Nat):shr a 15=a/32768:=yaf a 15
def shl_15(a:Nat):shl a 15=a*32768:=yak a 15
def shr_16(a:Nat):shr a 16=a/65536:=yaf a 16
def shl_16(a:Nat):shl a 16=a*65536:=yak a 16
def shr_17(a:Nat):shr a 17=a/131072:=yaf a 17
def shl_17(a:Nat):shl a 17=a*131072:=yak a 17
def shr_18(a:Nat):shr a 18=a/262144:=yaf a 18
def shl_18(a:Nat):shl a 18=a*262144:=yak a 18
def shr_19(a:Nat):shr a 19=a/524288:=yaf a 19
def shl_19(a:Nat):shl a 19=a*524288:=yak a 19
def shr_20(a:Nat):shr a 20=a/1048576:=yaf a 20
def shl_20(a:Nat):shl a 20=a*1048576:=yak a 20
def shr_21(a:Nat):shr a 21=a/2097152:=yaf a 21
def shl_21(a:Nat):shl a 21=a*2097152:=yak a 21
def shr_22(a:Nat):shr a 22=a/4194304:=yaf a 22
def shl_22(a:Nat):shl a 22=a*4194304:=yak a 22
def shr_23(a:Nat):shr a 23=a/8388608:=yaf a 23
def shl_23(a:Nat):shl a 23=a*8388608:=yak a 23
def shr_24(a:Nat):shr a 24=a/16777216:=yaf a 24
def shl_24(a:Nat):shl a 24=a*16777216:=yak a 24
def shr_25(a:Nat):shr a 25=a/33554432:=yaf a 25
def shl_25(a:Nat):shl a 25=a*33554432:=yak a 25
def shr_26(a:Nat):shr a 26=a/67108864:=yaf a 26
def shl_26(a:Nat):shl a 26=a*67108864:=yak a 26
def shr_27(a:Nat):shr a 27=a/134217728:=yaf a 27
def shl_27(a:Nat):shl a 27=a*134217728:=yak a 27
def shr_28(a:Nat):shr a 28=a/268435456:=yaf a 28
def shl_28(a:Nat):shl a 28=a*268435456:=yak a 28
def shr_29(a:Nat):shr a 29=a/536870912:=yaf a 29
def shl_29(a:Nat):shl a 29=a*536870912:=yak a 29
def shr_30(a:Nat):shr a 30=a/1073741824:=yaf a 30
def shl_30(a:Nat):shl a 30=a*1073741824:=yak a 30
def shr_31(a:Nat):shr a 31=a/2147483648:=yaf a 31
def shl_31(a:Nat):shl a 31=a*2147483648:=yak a 31
def shr_32(a:Nat):shr a 32=a/4294967296:=yaf a 32
def shl_32(a:Nat):shl a 32=a*4294967296:=yak a 32
def shr_33(a:Nat):shr a 33=a/8589934592:=yaf a 33
def shl_33(a:Nat):shl a 33=a*8589934592:=yak a 33
def shr_34(a:Nat):shr a 34=a/17179869184:=yaf a 34
def shl_34(a:Nat):shl a 34=a*17179869184:=yak a 34
def shr_35(a:Nat):shr a 35=a/34359738368:=yaf a 35
def shl_35(a:Nat):shl a 35=a*34359738368:=yak a 35
def shr_36(a:Nat):shr a 36=a/68719476736:=yaf a 36
def shl_36(a:Nat):shl a 36=a*68719476736:=yak a 36
def shr_37(a:Nat):shr a 37=a/137438953472:=yaf a 37
def shl_37(a:Nat):shl a 37=a*137438953472:=yak a 37
def shr_38(a:Nat):shr a 38=a/274877906944:=yaf a 38
def shl_38(a:Nat):shl a 38=a*274877906944:=yak a 38
def shr_39(a:Nat):shr a 39=a/549755813888:=yaf a 39
def shl_39(a:Nat):shl a 39=a*549755813888:=yak a 39
def shr_40(a:Nat):shr a 40=a/1099511627776:=yaf a 40
def shl_40(a:Nat):shl a 40=a*1099511627776:=yak a 40
def shr_41(a:Nat):shr a 41=a/2199023255552:=yaf a 41
def shl_41(a:Nat):shl a 41=a*2199023255552:=yak a 41
def shr_42(a:Nat):shr a 42=a/4398046511104:=yaf a 42
def shl_42(a:Nat):shl a 42=a*4398046511104:=yak a 42
def shr_43(a:Nat):shr a 43=a/8796093022208:=yaf a 43
def shl_43(a:Nat):shl a 43=a*8796093022208:=yak a 43
def shr_44(a:Nat):shr a 44=a/17592186044416:=yaf a 44
def shl_44(a:Nat):shl a 44=a*17592186044416:=yak a 44
def shr_45(a:Nat):shr a 45=a/35184372088832:=yaf a 45
def shl_45(a:Nat):shl a 45=a*35184372088832:=yak a 45
def shr_46(a:Nat):shr a 46=a/70368744177664:=yaf a 46
def shl_46(a:Nat):shl a 46=a*70368744177664:=yak a 46
def shr_47(a:Nat):shr a 47=a/140737488355328:=yaf a 47
def shl_47(a:Nat):shl a 47=a*140737488355328:=yak a 47
def shr_48(a:Nat):shr a 48=a/281474976710656:=yaf a 48
def shl_48(a:Nat):shl a 48=a*281474976710656:=yak a 48
def shr_49(a:Nat):shr a 49=a/562949953421312:=yaf a 49
def shl_49(a:Nat):shl a 49=a*562949953421312:=yak a 49
def shr_50(a:Nat):shr a 50=a/1125899906842624:=yaf a 50
def shl_50(a:Nat):shl a 50=a*1125899906842624:=yak a 50
def shr_51(a:Nat):shr a 51=a/2251799813685248:=yaf a 51
def shl_51(a:Nat):shl a 51=a*2251799813685248:=yak a 51
def shr_52(a:Nat):shr a 52=a/4503599627370496:=yaf a 52
def shl_52(a:Nat):shl a 52=a*4503599627370496:=yak a 52
def shr_53(a:Nat):shr a 53=a/9007199254740992:=yaf a 53
def shl_53(a:Nat):shl a 53=a*9007199254740992:=yak a 53
def shr_54(a:Nat):shr a 54=a/18014398509481984:=yaf a 54
def shl_54(a:Nat):shl a 54=a*18014398509481984:=yak a 54
def shr_55(a:Nat):shr a 55=a/36028797018963968:=yaf a 55
def shl_55(a:Nat):shl a 55=a*36028797018963968:=yak a 55
def shr_56(a:Nat):shr a 56=a/72057594037927936:=yaf a 56
def shl_56(a:Nat):shl a 56=a*72057594037927936:=yak a 56
def shr_57(a:Nat):shr a 57=a/144115188075855872:=yaf a 57
def shl_57(a:Nat):shl a 57=a*144115188075855872:=yak a 57
def shr_58(a:Nat):shr a 58=a/288230376151711744:=yaf a 58
def shl_58(a:Nat):shl a 58=a*288230376151711744:=yak a 58
def shr_59(a:Nat):shr a 59=a/576460752303423488:=yaf a 59
def shl_59(a:Nat):shl a 59=a*576460752303423488:=yak a 59
def shr_60(a:Nat):shr a 60=a/1152921504606846976:=yaf a 60
def shl_60(a:Nat):shl a 60=a*1152921504606846976:=yak a 60
def shr_61(a:Nat):shr a 61=a/2305843009213693952:=yaf a 61
def shl_61(a:Nat):shl a 61=a*2305843009213693952:=yak a 61
def shr_62(a:Nat):shr a 62=a/4611686018427387904:=yaf a 62
def shl_62(a:Nat):shl a 62=a*4611686018427387904:=yak a 62
def shr_63(a:Nat):shr a 63=a/9223372036854775808:=yaf a 63
def shl_63(a:Nat):shl a 63=a*9223372036854775808:=yak a 63
def shr_0(a:Nat):shr a 0=a:=rfl
def shl_0(a:Nat):shl a 0=a:=rfl
def zio(a:Int)(w n:Nat)(h0:0<=a)(h1:a.toNat<2 ^ w):a.fdiv (2 ^ min n w)=((a.toNat >>> n:Nat):Int):=by
 obtain⟨m,rfl⟩:=yck h0;simp only[yav]at h1 ⊢;rw[Int.fdiv_eq_ediv_of_nonneg _ (Int.pow_nonneg (by decide)),yaf];have e:((2:Int) ^ min n w)=((2 ^ min n w:Nat):Int):=by rw[Int.natCast_pow];rfl
 rw[e,<-Int.natCast_ediv];congr 1;by_cases h:n<=w
 ·rw[ya8 h]
 ·rw[Nat.min_eq_right (by omega),ybY h1,ybY (yaq h1 (yb2 (by decide) (by omega)))]
def zkI(a:Int)(w n:Nat)(h0:0<=a):(a*2 ^ min n w)%((2 ^ w:Nat):Int)=(((a.toNat <<< n)%2 ^ w:Nat):Int):=by
 obtain⟨m,rfl⟩:=yck h0;simp only[yav];have e:((2:Int) ^ min n w)=((2 ^ min n w:Nat):Int):=by rw[Int.natCast_pow];rfl
 rw[e,<-Int.natCast_mul,<-Int.natCast_emod,yak];congr 1;by_cases h:n<=w
 ·rw[ya8 h]
 ·rw[Nat.min_eq_right (by omega),Nat.mul_mod_left];obtain⟨d,rfl⟩:∃d,n=w+d:=⟨n-w,by omega⟩;rw[Nat.pow_add,<-Nat.mul_assoc,Nat.mul_right_comm,Nat.mul_mod_left]
def zcw(w:Nat)(a:Int)(h:0<=a):BitVec.ofInt w a=BitVec.ofNat w a.toNat:=by
 obtain⟨m,rfl⟩:=yck h;simp
section
variable {a b:Int} {k':IntKind}
def wrap_u8(n:Int):IntKind.u8.wrap n=n%256:=by simp[IntKind.wrap,IntKind.bits,IntKind.signed]
def ztA{n:Int}(h0:0<=n)(h1:n<256):IntKind.u8.wrap n=n:=by rw[wrap_u8];omega
def shr_u8(h0:0<=a)(h1:a<256)(hb:0<=b):Ax.bin .shr (.int .u8 a) (.int k' b)=some (.int .u8 ((shr a.toNat b.toNat:Nat):Int)):=by
 rw[zlZ hb];simp only[IntKind.bits];rw[zio a 8 _ h0 (by omega)];rfl
def shl_u8(h0:0<=a)(hb:0<=b):Ax.bin .shl (.int .u8 a) (.int k' b)=some (.int .u8 ((shl a.toNat b.toNat%256:Nat):Int)):=by
 rw[zl0 hb];simp only[IntKind.bits];have:=zkI a 8 b.toNat h0;rw[wrap_u8];congr 2
def zoC(op:BinOp)(h0:0<=a)(h1:a<256)(g0:0<=b)(g1:b<256):Go.bits op .u8 a b=((match op with | .and=>BitVec.ofNat 8 a.toNat &&& BitVec.ofNat 8 b.toNat | .or=>BitVec.ofNat 8 a.toNat ||| BitVec.ofNat 8 b.toNat | .xor=>BitVec.ofNat 8 a.toNat ^^^ BitVec.ofNat 8 b.toNat | _=>BitVec.ofNat 8 a.toNat &&& ~~~BitVec.ofNat 8 b.toNat).toNat:Int):=by
 unfold Go.bits;simp only[IntKind.bits];rw[zcw _ a h0,zcw _ b g0,wrap_u8];apply ycj
 ·omega
 ·have:=(match op with | .and=>BitVec.ofNat 8 a.toNat &&& BitVec.ofNat 8 b.toNat | .or=>BitVec.ofNat 8 a.toNat ||| BitVec.ofNat 8 b.toNat | .xor=>BitVec.ofNat 8 a.toNat ^^^ BitVec.ofNat 8 b.toNat | _=>BitVec.ofNat 8 a.toNat &&& ~~~BitVec.ofNat 8 b.toNat).isLt;omega
def and_u8(h0:0<=a)(h1:a<256)(g0:0<=b)(g1:b<256):Ax.bin .and (.int .u8 a) (.int .u8 b)=some (.int .u8 ((a.toNat &&& b.toNat:Nat):Int)):=by
 rw[zl1,zoC _ h0 h1 g0 g1];simp only[ybt,yaO];rw[yap (show a.toNat<2 ^ 8 by omega),yap (show b.toNat<2 ^ 8 by omega)]
def or_u8(h0:0<=a)(h1:a<256)(g0:0<=b)(g1:b<256):Ax.bin .or (.int .u8 a) (.int .u8 b)=some (.int .u8 ((a.toNat ||| b.toNat:Nat):Int)):=by
 rw[zqe,zoC _ h0 h1 g0 g1];simp only[yb9,yaO];rw[yap (show a.toNat<2 ^ 8 by omega),yap (show b.toNat<2 ^ 8 by omega)]
def ztz(h0:0<=a)(h1:a<256)(g0:0<=b)(g1:b<256):Ax.bin .xor (.int .u8 a) (.int .u8 b)=some (.int .u8 ((a.toNat ^^^ b.toNat:Nat):Int)):=by
 rw[zoD,zoC _ h0 h1 g0 g1];simp only[ycp,yaO];rw[yap (show a.toNat<2 ^ 8 by omega),yap (show b.toNat<2 ^ 8 by omega)]
def zv1(h0:0<=a)(h1:a<256)(g0:0<=b)(g1:b<256):Ax.bin .andNot (.int .u8 a) (.int .u8 b)=some (.int .u8 ((a.toNat &&& (255-b.toNat):Nat):Int)):=by
 rw[zgj,zoC _ h0 h1 g0 g1];simp only[ybt,ycq,yaO];rw[yap (show a.toNat<2 ^ 8 by omega),yap (show b.toNat<2 ^ 8 by omega)]
end
section
variable {a b:Int} {k':IntKind}
def wrap_u16(n:Int):IntKind.u16.wrap n=n%65536:=by simp[IntKind.wrap,IntKind.bits,IntKind.signed]
def zsk{n:Int}(h0:0<=n)(h1:n<65536):IntKind.u16.wrap n=n:=by rw[wrap_u16];omega
def shr_u16(h0:0<=a)(h1:a<65536)(hb:0<=b):Ax.bin .shr (.int .u16 a) (.int k' b)=some (.int .u16 ((shr a.toNat b.toNat:Nat):Int)):=by
 rw[zlZ hb];simp only[IntKind.bits];rw[zio a 16 _ h0 (by omega)];rfl
def shl_u16(h0:0<=a)(hb:0<=b):Ax.bin .shl (.int .u16 a) (.int k' b)=some (.int .u16 ((shl a.toNat b.toNat%65536:Nat):Int)):=by
 rw[zl0 hb];simp only[IntKind.bits];have:=zkI a 16 b.toNat h0;rw[wrap_u16];congr 2
def zkw(op:BinOp)(h0:0<=a)(h1:a<65536)(g0:0<=b)(g1:b<65536):Go.bits op .u16 a b=((match op with | .and=>BitVec.ofNat 16 a.toNat &&& BitVec.ofNat 16 b.toNat | .or=>BitVec.ofNat 16 a.toNat ||| BitVec.ofNat 16 b.toNat | .xor=>BitVec.ofNat 16 a.toNat ^^^ BitVec.ofNat 16 b.toNat | _=>BitVec.ofNat 16 a.toNat &&& ~~~BitVec.ofNat 16 b.toNat).toNat:Int):=by
 unfold Go.bits;simp only[IntKind.bits];rw[zcw _ a h0,zcw _ b g0,wrap_u16];apply ycj
 ·omega
 ·have:=(match op with | .and=>BitVec.ofNat 16 a.toNat &&& BitVec.ofNat 16 b.toNat | .or=>BitVec.ofNat 16 a.toNat ||| BitVec.ofNat 16 b.toNat | .xor=>BitVec.ofNat 16 a.toNat ^^^ BitVec.ofNat 16 b.toNat | _=>BitVec.ofNat 16 a.toNat &&& ~~~BitVec.ofNat 16 b.toNat).isLt;omega
def and_u16(h0:0<=a)(h1:a<65536)(g0:0<=b)(g1:b<65536):Ax.bin .and (.int .u16 a) (.int .u16 b)=some (.int .u16 ((a.toNat &&& b.toNat:Nat):Int)):=by
 rw[zl1,zkw _ h0 h1 g0 g1];simp only[ybt,yaO];rw[yap (show a.toNat<2 ^ 16 by omega),yap (show b.toNat<2 ^ 16 by omega)]
def or_u16(h0:0<=a)(h1:a<65536)(g0:0<=b)(g1:b<65536):Ax.bin .or (.int .u16 a) (.int .u16 b)=some (.int .u16 ((a.toNat ||| b.toNat:Nat):Int)):=by
 rw[zqe,zkw _ h0 h1 g0 g1];simp only[yb9,yaO];rw[yap (show a.toNat<2 ^ 16 by omega),yap (show b.toNat<2 ^ 16 by omega)]
def xor_u16(h0:0<=a)(h1:a<65536)(g0:0<=b)(g1:b<65536):Ax.bin .xor (.int .u16 a) (.int .u16 b)=some (.int .u16 ((a.toNat ^^^ b.toNat:Nat):Int)):=by
 rw[zoD,zkw _ h0 h1 g0 g1];simp only[ycp,yaO];rw[yap (show a.toNat<2 ^ 16 by omega),yap (show b.toNat<2 ^ 16 by omega)]
def ztt(h0:0<=a)(h1:a<65536)(g0:0<=b)(g1:b<65536):Ax.bin .andNot (.int .u16 a) (.int .u16 b)=some (.int .u16 ((a.toNat &&& (65535-b.toNat):Nat):Int)):=by
 rw[zgj,zkw _ h0 h1 g0 g1];simp only[ybt,ycq,yaO];rw[yap (show a.toNat<2 ^ 16 by omega),yap (show b.toNat<2 ^ 16 by omega)]
end
section
variable {a b:Int} {k':IntKind}
def wrap_u32(n:Int):IntKind.u32.wrap n=n%4294967296:=by simp[IntKind.wrap,IntKind.bits,IntKind.signed]
def zsj{n:Int}(h0:0<=n)(h1:n<4294967296):IntKind.u32.wrap n=n:=by rw[wrap_u32];omega
def zqq(h0:0<=a)(h1:a<4294967296)(hb:0<=b):Ax.bin .shr (.int .u32 a) (.int k' b)=some (.int .u32 ((shr a.toNat b.toNat:Nat):Int)):=by
 rw[zlZ hb];simp only[IntKind.bits];rw[zio a 32 _ h0 (by omega)];rfl
def ztT(h0:0<=a)(hb:0<=b):Ax.bin .shl (.int .u32 a) (.int k' b)=some (.int .u32 ((shl a.toNat b.toNat%4294967296:Nat):Int)):=by
 rw[zl0 hb];simp only[IntKind.bits];have:=zkI a 32 b.toNat h0;rw[wrap_u32];congr 2
def zkv(op:BinOp)(h0:0<=a)(h1:a<4294967296)(g0:0<=b)(g1:b<4294967296):Go.bits op .u32 a b=((match op with | .and=>BitVec.ofNat 32 a.toNat &&& BitVec.ofNat 32 b.toNat | .or=>BitVec.ofNat 32 a.toNat ||| BitVec.ofNat 32 b.toNat | .xor=>BitVec.ofNat 32 a.toNat ^^^ BitVec.ofNat 32 b.toNat | _=>BitVec.ofNat 32 a.toNat &&& ~~~BitVec.ofNat 32 b.toNat).toNat:Int):=by
 unfold Go.bits;simp only[IntKind.bits];rw[zcw _ a h0,zcw _ b g0,wrap_u32];apply ycj
 ·omega
 ·have:=(match op with | .and=>BitVec.ofNat 32 a.toNat &&& BitVec.ofNat 32 b.toNat | .or=>BitVec.ofNat 32 a.toNat ||| BitVec.ofNat 32 b.toNat | .xor=>BitVec.ofNat 32 a.toNat ^^^ BitVec.ofNat 32 b.toNat | _=>BitVec.ofNat 32 a.toNat &&& ~~~BitVec.ofNat 32 b.toNat).isLt;omega
def zvW(h0:0<=a)(h1:a<4294967296)(g0:0<=b)(g1:b<4294967296):Ax.bin .and (.int .u32 a) (.int .u32 b)=some (.int .u32 ((a.toNat &&& b.toNat:Nat):Int)):=by
 rw[zl1,zkv _ h0 h1 g0 g1];simp only[ybt,yaO];rw[yap (show a.toNat<2 ^ 32 by omega),yap (show b.toNat<2 ^ 32 by omega)]
def or_u32(h0:0<=a)(h1:a<4294967296)(g0:0<=b)(g1:b<4294967296):Ax.bin .or (.int .u32 a) (.int .u32 b)=some (.int .u32 ((a.toNat ||| b.toNat:Nat):Int)):=by
 rw[zqe,zkv _ h0 h1 g0 g1];simp only[yb9,yaO];rw[yap (show a.toNat<2 ^ 32 by omega),yap (show b.toNat<2 ^ 32 by omega)]
def zqh(h0:0<=a)(h1:a<4294967296)(g0:0<=b)(g1:b<4294967296):Ax.bin .xor (.int .u32 a) (.int .u32 b)=some (.int .u32 ((a.toNat ^^^ b.toNat:Nat):Int)):=by
 rw[zoD,zkv _ h0 h1 g0 g1];simp only[ycp,yaO];rw[yap (show a.toNat<2 ^ 32 by omega),yap (show b.toNat<2 ^ 32 by omega)]
def zts(h0:0<=a)(h1:a<4294967296)(g0:0<=b)(g1:b<4294967296):Ax.bin .andNot (.int .u32 a) (.int .u32 b)=some (.int .u32 ((a.toNat &&& (4294967295-b.toNat):Nat):Int)):=by
 rw[zgj,zkv _ h0 h1 g0 g1];simp only[ybt,ycq,yaO];rw[yap (show a.toNat<2 ^ 32 by omega),yap (show b.toNat<2 ^ 32 by omega)]
end
section
variable {a b:Int} {k':IntKind}
def wrap_u64(n:Int):IntKind.u64.wrap n=n%18446744073709551616:=by simp[IntKind.wrap,IntKind.bits,IntKind.signed]
def zsi{n:Int}(h0:0<=n)(h1:n<18446744073709551616):IntKind.u64.wrap n=n:=by rw[wrap_u64];omega
def shr_u64(h0:0<=a)(h1:a<18446744073709551616)(hb:0<=b):Ax.bin .shr (.int .u64 a) (.int k' b)=some (.int .u64 ((shr a.toNat b.toNat:Nat):Int)):=by
 rw[zlZ hb];simp only[IntKind.bits];rw[zio a 64 _ h0 (by omega)];rfl
def shl_u64(h0:0<=a)(hb:0<=b):Ax.bin .shl (.int .u64 a) (.int k' b)=some (.int .u64 ((shl a.toNat b.toNat%18446744073709551616:Nat):Int)):=by
 rw[zl0 hb];simp only[IntKind.bits];have:=zkI a 64 b.toNat h0;rw[wrap_u64];congr 2
def zku(op:BinOp)(h0:0<=a)(h1:a<18446744073709551616)(g0:0<=b)(g1:b<18446744073709551616):Go.bits op .u64 a b=((match op with | .and=>BitVec.ofNat 64 a.toNat &&& BitVec.ofNat 64 b.toNat | .or=>BitVec.ofNat 64 a.toNat ||| BitVec.ofNat 64 b.toNat | .xor=>BitVec.ofNat 64 a.toNat ^^^ BitVec.ofNat 64 b.toNat | _=>BitVec.ofNat 64 a.toNat &&& ~~~BitVec.ofNat 64 b.toNat).toNat:Int):=by
 unfold Go.bits;simp only[IntKind.bits];rw[zcw _ a h0,zcw _ b g0,wrap_u64];apply ycj
 ·omega
 ·have:=(match op with | .and=>BitVec.ofNat 64 a.toNat &&& BitVec.ofNat 64 b.toNat | .or=>BitVec.ofNat 64 a.toNat ||| BitVec.ofNat 64 b.toNat | .xor=>BitVec.ofNat 64 a.toNat ^^^ BitVec.ofNat 64 b.toNat | _=>BitVec.ofNat 64 a.toNat &&& ~~~BitVec.ofNat 64 b.toNat).isLt;omega
def zvV(h0:0<=a)(h1:a<18446744073709551616)(g0:0<=b)(g1:b<18446744073709551616):Ax.bin .and (.int .u64 a) (.int .u64 b)=some (.int .u64 ((a.toNat &&& b.toNat:Nat):Int)):=by
 rw[zl1,zku _ h0 h1 g0 g1];simp only[ybt,yaO];rw[yap (show a.toNat<2 ^ 64 by omega),yap (show b.toNat<2 ^ 64 by omega)]
def or_u64(h0:0<=a)(h1:a<18446744073709551616)(g0:0<=b)(g1:b<18446744073709551616):Ax.bin .or (.int .u64 a) (.int .u64 b)=some (.int .u64 ((a.toNat ||| b.toNat:Nat):Int)):=by
 rw[zqe,zku _ h0 h1 g0 g1];simp only[yb9,yaO];rw[yap (show a.toNat<2 ^ 64 by omega),yap (show b.toNat<2 ^ 64 by omega)]
def xor_u64(h0:0<=a)(h1:a<18446744073709551616)(g0:0<=b)(g1:b<18446744073709551616):Ax.bin .xor (.int .u64 a) (.int .u64 b)=some (.int .u64 ((a.toNat ^^^ b.toNat:Nat):Int)):=by
 rw[zoD,zku _ h0 h1 g0 g1];simp only[ycp,yaO];rw[yap (show a.toNat<2 ^ 64 by omega),yap (show b.toNat<2 ^ 64 by omega)]
def ztr(h0:0<=a)(h1:a<18446744073709551616)(g0:0<=b)(g1:b<18446744073709551616):Ax.bin .andNot (.int .u64 a) (.int .u64 b)=some (.int .u64 ((a.toNat &&& (18446744073709551615-b.toNat):Nat):Int)):=by
 rw[zgj,zku _ h0 h1 g0 g1];simp only[ybt,ycq,yaO];rw[yap (show a.toNat<2 ^ 64 by omega),yap (show b.toNat<2 ^ 64 by omega)]
end
section
variable {a b:Int} {k':IntKind}
def wrap_i64{n:Int}(h0:-9223372036854775808<=n)(h1:n<=9223372036854775807):IntKind.i64.wrap n=n:=Go.IntWalk.i64_in n ⟨h0,h1⟩
def wrap_i32{n:Int}(h0:-2147483648<=n)(h1:n<=2147483647):IntKind.i32.wrap n=n:=Go.IntWalk.i32_in n ⟨h0,h1⟩
def shr_i64(h0:0<=a)(h1:a<9223372036854775808)(hb:0<=b):Ax.bin .shr (.int .i64 a) (.int k' b)=some (.int .i64 ((shr a.toNat b.toNat:Nat):Int)):=by
 rw[zlZ hb];simp only[IntKind.bits];rw[zio a 64 _ h0 (by omega)];rfl
def zul(h0:0<=a)(h1:a<9223372036854775808)(hb:0<b):Ax.bin .quo (.int .i64 a) (.int .i64 b)=some (.int .i64 (a/b)):=by
 rw[bin_quo (by omega),Go.IntWalk.i64_quo _ _ ⟨h0,by omega,by omega⟩]
def rem_i64(h0:0<=a)(hb:0<b):Ax.bin .rem (.int .i64 a) (.int .i64 b)=some (.int .i64 (a%b)):=by
 rw[bin_rem (by omega),Go.IntWalk.rem_in _ _ h0]
def zsa(op:BinOp)(r:Nat)(h0:0<=a)(g0:0<=b) (hr:(match op with | .and=>BitVec.ofNat 64 a.toNat &&& BitVec.ofNat 64 b.toNat | .or=>BitVec.ofNat 64 a.toNat ||| BitVec.ofNat 64 b.toNat | .xor=>BitVec.ofNat 64 a.toNat ^^^ BitVec.ofNat 64 b.toNat | _=>BitVec.ofNat 64 a.toNat &&& ~~~BitVec.ofNat 64 b.toNat).toNat=r) (hl:r<9223372036854775808):Go.bits op .i64 a b=(r:Int):=by
 unfold Go.bits;simp only[IntKind.bits];rw[zcw _ a h0,zcw _ b g0];exact(congrArg (λn:Nat=>IntKind.i64.wrap (n:Int)) hr).trans (wrap_i64 (by omega) (by omega))
def and_i64(h0:0<=a)(h1:a<9223372036854775808)(g0:0<=b)(g1:b<9223372036854775808):Ax.bin .and (.int .i64 a) (.int .i64 b)=some (.int .i64 ((a.toNat &&& b.toNat:Nat):Int)):=by
 rw[zl1,zsa .and (a.toNat &&& b.toNat) h0 g0]
 ·simp only[ybt,yaO];rw[yap (show a.toNat<2 ^ 64 by omega),yap (show b.toNat<2 ^ 64 by omega)]
 ·exact Nat.and_lt_two_pow _ (show b.toNat<2 ^ 63 by omega)
def or_i64(h0:0<=a)(h1:a<9223372036854775808)(g0:0<=b)(g1:b<9223372036854775808):Ax.bin .or (.int .i64 a) (.int .i64 b)=some (.int .i64 ((a.toNat ||| b.toNat:Nat):Int)):=by
 rw[zqe,zsa .or (a.toNat ||| b.toNat) h0 g0]
 ·simp only[yb9,yaO];rw[yap (show a.toNat<2 ^ 64 by omega),yap (show b.toNat<2 ^ 64 by omega)]
 ·exact ycM (show a.toNat<2 ^ 63 by omega) (show b.toNat<2 ^ 63 by omega)
def shl_i64(h0:0<=a)(hb:0<=b)(hl':shl a.toNat b.toNat<9223372036854775808):Ax.bin .shl (.int .i64 a) (.int k' b)=some (.int .i64 ((shl a.toNat b.toNat:Nat):Int)):=by
 have hl:a.toNat <<< b.toNat<9223372036854775808:=hl';show _=some (V.int IntKind.i64 ((a.toNat <<< b.toNat:Nat):Int));rw[zl0 hb];simp only[IntKind.bits];have h:=zkI a 64 b.toNat h0;rw[yap (show a.toNat <<< b.toNat<2 ^ 64 by omega)]at h;have e:IntKind.i64.wrap (a*2 ^ min b.toNat 64)=((a.toNat <<< b.toNat:Nat):Int):=by
  have h':(a*2 ^ min b.toNat 64)%18446744073709551616=((a.toNat <<< b.toNat:Nat):Int):=h;generalize a*2 ^ min b.toNat 64=x at h';generalize a.toNat <<< b.toNat=y at h' hl;rw[Go.IntWalk.i64_left];unfold Go.RowKit.wrap64;omega
 rw[e]
end
/-! A loop that counts. -/
def LQ(J:List V->Heap->Prop)(Q:Res->Heap->Prop):Res->Heap->Prop
 | .nrm L,H=>J L H
 | r,H=>Q r H
def lq_nrm{J:List V->Heap->Prop}{Q:Res->Heap->Prop}{L:List V}{H:Heap}:LQ J Q (.nrm L) H=J L H:=rfl
def lq_ex{J:List V->Heap->Prop}{Q:Res->Heap->Prop}{L:List V}{id:Nat}{H:Heap}:LQ J Q (.ex id L) H=Q (.ex id L) H:=rfl
def lq_ret{J:List V->Heap->Prop}{Q:Res->Heap->Prop}{L:List V}{H:Heap}:LQ J Q (.ret L) H=Q (.ret L) H:=rfl
def zaK{body:List V->M Res}{L:List V}{H:Heap}{Q:Res->Heap->Prop}(I:Nat->List V->Heap->Prop)(n:Nat)(h0:I 0 L H)
  (hs:∀k L H,k<n->I k L H->Ok (body L) H (LQ (I (k+1)) Q)) (he:∀L H,I n L H->Ok (body L) H (LQ (λ_ _=>False) Q)):Ok (M.iter body L) H Q:=by
 refine zuJ (λL H m=>∃k,k<=n/\m=n-k/\I k L H) n ⟨0,yaJ _,rfl,h0⟩ ?_;rintro L H m ⟨k,hk,rfl,hI⟩;by_cases e:k<n
 ·refine zax (hs k L H e hI) λr H' h=>?_;cases r with
  | nrm L'=>exact⟨n-(k+1),by omega,k+1,by omega,rfl,h⟩
  | ex id L'=>exact h
  | ret L'=>exact h
 ·have:k=n:=by omega
  subst this;refine zax (he L H hI) λr H' h=>?_;cases r with
  | nrm L'=>exact h.elim
  | ex id L'=>exact h
  | ret L'=>exact h
def ok_while{body:List V->M Res}{L:List V}{H:Heap}{Q:Res->Heap->Prop}(I:List V->Heap->Nat->Prop)(n:Nat)(h0:I L H n)
  (hb:∀L H n,I L H n->Ok (body L) H (LQ (λL' H'=>∃n',n'<n/\I L' H' n') Q)):Ok (M.iter body L) H Q:=by
 refine zuJ I n h0 λL H n h=>zax (hb L H n h) λr H' h=>?_;cases r<;>exact h
/-! What is done,all rules together. -/
def ziS{x:M V}{a:V}(h:∀H,Ok x H λv H'=>v=a/\H'=H):x=M.pure a:=by
 funext H;obtain⟨v,H',h1,rfl,rfl⟩:=h H;exact h1
def zkF(xs:List V)(o:Nat)(y:V)(h:o<xs.length):splice xs o [y]=xs.set o y:=by
 simp only[splice,ydi];rw[List.set_eq_take_append_cons_drop,if_pos h];simp
/-! Plain rules,at types of the lowest universe. -/
section
variable {α β:Type}
def r_bind(a:α)(f:α->Option β):(some a).bind f=f a:=rfl
def r_map(a:α)(f:α->β):Option.map f (some a)=some (f a):=rfl
def r_get0{a:α}{l:List α}:(a::l)[0]?=some a:=rfl
def r_getS{a:α}{l:List α}{i:Nat}:(a::l)[i+1]?=l[i]?:=rfl
def r_getD0{a d:α}{l:List α}:(a::l).getD 0 d=a:=rfl
def r_getDS{a d:α}{l:List α}{i:Nat}:(a::l).getD (i+1) d=l.getD i d:=rfl
def r_ift{x:Decidable True}(t e:α):(if True then t else e)=t:=if_pos trivial
def r_iff{x:Decidable False}(t e:α):(if False then t else e)=e:=if_neg id
def r_dt{h:Decidable True}:@decide True h=true:=by simp
def r_df{h:Decidable False}:@decide False h=false:=by simp
def r_lenS{a:α}{l:List α}:(a::l).length=l.length+1:=rfl
def r_capp{a:α}{l m:List α}:(a::l)++m=a::(l++m):=rfl
def r_napp{l:List α}:[]++l=l:=rfl
def r_dropS{a:α}{l:List α}{n:Nat}:(a::l).drop (n+1)=l.drop n:=rfl
def r_drop0{l:List α}:l.drop 0=l:=rfl
def r_takeS{a:α}{l:List α}{n:Nat}:(a::l).take (n+1)=a::l.take n:=rfl
def r_take0{l:List α}:l.take 0=[]:=by simp
def r_len0:([]:List α).length=0:=rfl
end
/-! Cells. -/
def okc_bool(b:Bool):V.okc (V.bool b)=true:=rfl
def ztj(b:Bool):V.cells (V.bool b)=[V.bool b]:=rfl
def okc_int(k:IntKind)(n:Int):V.okc (V.int k n)=true:=rfl
def zvL(k:IntKind)(n:Int):V.cells (V.int k n)=[V.int k n]:=rfl
def okc_str(s:ByteArray):V.okc (V.str s)=true:=rfl
def zvJ(s:ByteArray):V.cells (V.str s)=[V.str s]:=rfl
def okc_nilp :V.okc (V.nilp )=true:=rfl
def zti :V.cells (V.nilp )=[V.nilp ]:=rfl
def okc_nils :V.okc (V.nils )=true:=rfl
def zth :V.cells (V.nils )=[V.nils ]:=rfl
def okc_ptr(i o:Nat):V.okc (V.ptr i o)=true:=rfl
def zvK(i o:Nat):V.cells (V.ptr i o)=[V.ptr i o]:=rfl
def okc_sl(i o l:Nat)(c:Cap):V.okc (V.sl i o l c)=true:=rfl
def cells_sl(i o l:Nat)(c:Cap):V.cells (V.sl i o l c)=[V.sl i o l c]:=rfl
def okc_rs(cs:List V)(l:Nat):V.okc (V.rs cs l)=true:=rfl
def cells_rs(cs:List V)(l:Nat):V.cells (V.rs cs l)=[V.rs cs l]:=rfl
def okc_rp(cs:List V)(l:Nat):V.okc (V.rp cs l)=true:=rfl
def cells_rp(cs:List V)(l:Nat):V.cells (V.rp cs l)=[V.rp cs l]:=rfl
def okc_fn(f:FuncId)(c:List V):V.okc (V.fn f c)=true:=rfl
def cells_fn(f:FuncId)(c:List V):V.cells (V.fn f c)=[V.fn f c]:=rfl
def okc_agg(cs:List V):V.okc (V.agg cs)=true:=rfl
def zvM(cs:List V):V.cells (V.agg cs)=cs:=rfl
def sp_S{x:V}{xs ys:List V}{o:Nat}:splice (x::xs) (o+1) ys=x::splice xs o ys:=by simp[splice,ybd]
def sp_0{xs:List V}:splice xs 0 []=xs:=by simp[splice]
def sp_0S{x y:V}{xs ys:List V}:splice (x::xs) 0 (y::ys)=y::splice xs 0 ys:=by simp[splice]
def ztl{z:List V} {ps:List (Nat×Nat×V)}:Ax.build z ps=(fill z ps).map V.agg:=rfl
def fill_n{z:List V}:fill z []=some z:=rfl
def fill_c{z:List V}{o n:Nat}{v:V} {r:List (Nat×Nat×V)}:fill z ((o,n,v)::r)=if v.cells.length=n/\o+n<=z.length/\v.okc=true then fill (splice z o v.cells) r else none:=rfl
def zeros_0{z:List V}:zeros z 0=[]:=rfl
def zeros_S{z:List V}{n:Nat}:zeros z (n+1)=z++zeros z n:=rfl
def tupled1{v:V}:zdD [v]=v:=rfl
def tupled2{v w:V}{vs:List V}:zdD (v::w::vs) = .tup (v::w::vs):=rfl
def zkW{β:Type}{H:Heap}{ty bytes:Nat}{zero:List V}{l c:Int}{f:V->M β}{Q:β->Heap->Prop} :
  Ok ((mmkslice ty bytes zero (.int .i64 l) (.int .i64 c)).bind f) H Q<->(0<=l/\l<=c/\c*bytes<=281474976710656/\c<=281474976710656)/\Ok (f (.sl H.next 0 l.toNat (.fix c.toNat))) (H.new ⟨ty,zeros zero c.toNat,none⟩) Q:=by
 by_cases hc:0<=l/\l<=c/\c*bytes<=281474976710656/\c<=281474976710656
 ·have e:mmkslice ty bytes zero (.int .i64 l) (.int .i64 c) H=some (.sl H.next 0 l.toNat (.fix c.toNat),H.new ⟨ty,zeros zero c.toNat,none⟩):=by simp only[mmkslice];rw[if_pos hc]
  constructor
  ·rintro⟨v,H',h,hq⟩;simp only[M.bind,e,Option.bind_some]at h;exact⟨hc,v,H',h,hq⟩
  ·rintro⟨_,v,H',h,hq⟩;exact⟨v,H',by simp only[M.bind,e,Option.bind_some];exact h,hq⟩
 ·constructor
  ·rintro⟨v,H',h,hq⟩;simp only[M.bind,mmkslice,if_neg hc,ycl]at h;cases h
  ·rintro⟨k,_⟩;exact absurd k hc
def ret_ex{L:List V}{P:List V->Prop}:(∃L',Res.ret L=Res.ret L'/\P L')<->P L:=⟨λ⟨_,h,hp⟩=>by cases h;exact hp,λh=>⟨L,rfl,h⟩⟩
/-! The same,as simp meets it. -/
section
variable {α β γ:Type} {H:Heap} {Q:β->Heap->Prop}
def b_pure{v:α}{f:α->M β}:@OkB α β (M.pure v) H ⟨f⟩ ⟨Q⟩<->Ok (f v) H Q:=znF
def zvU{v:α}{f:α->M β}:@OkB α β (M.lift (some v)) H ⟨f⟩ ⟨Q⟩<->Ok (f v) H Q:=okb_lift
def b_assoc{x:M γ}{g:γ->M α}{f:α->M β}:@OkB α β (x.bind g) H ⟨f⟩ ⟨Q⟩<->@OkB γ β x H ⟨λv=>(g v).bind f⟩ ⟨Q⟩:=zuG
def b_getH{f:Heap->M β}:@OkB Heap β M.getH H ⟨f⟩ ⟨Q⟩<->Ok (f H) H Q:=okb_getH
def ztm{id off:Nat}{h h':Heap}{f:Unit->M β}:@OkB Unit β (M.unch (.ptr id off) h h') H ⟨f⟩ ⟨Q⟩<->h'.get id=h.get id/\Ok (f ()) H Q:=zpg
def zvS{cells:List V}{off:Nat}{h h':Heap}{f:Unit->M β}:@OkB Unit β (M.unch (.rp cells off) h h') H ⟨f⟩ ⟨Q⟩<->Ok (f ()) H Q:=zqG
def zrm{v:V}{h:Heap}{f:Unit->M β}:@OkB Unit β (M.unch v h h) H ⟨f⟩ ⟨Q⟩<->Ok (f ()) H Q:=by
 have:M.unch v h h=M.pure ():=by funext H;unfold M.unch;rw[if_pos (λ_ _=>rfl)];rfl
 rw[this];exact b_pure
def i_t{x y:M β}:@OkI β (.bool true) H ⟨x⟩ ⟨y⟩ ⟨Q⟩<->Ok x H Q:=ycO
def i_f{x y:M β}:@OkI β (.bool false) H ⟨x⟩ ⟨y⟩ ⟨Q⟩<->Ok y H Q:=ycO
def b_load{n:Option Nat}{id off:Nat}{f:V->M β}:@OkB V β (mload n (.ptr id off)) H ⟨f⟩ ⟨Q⟩<->@OkB V β (M.lift ((H.get id).bind λb=>ldc n b.cells off)) H ⟨f⟩ ⟨Q⟩:=okb_load
def b_loadr{n:Option Nat}{cells:List V}{off:Nat}{f:V->M β}:@OkB V β (mload n (.rp cells off)) H ⟨f⟩ ⟨Q⟩<->@OkB V β (M.lift (ldc n cells off)) H ⟨f⟩ ⟨Q⟩:=zuE
def b_store{size id off:Nat}{x:V}{f:V->M β}:@OkB V β (mstore size (.ptr id off) x) H ⟨f⟩ ⟨Q⟩<->@StK β (H.get id) size id off x H ⟨f⟩ ⟨Q⟩:=zuD
def b_box{ty:TypeId}{x:V}{f:V->M β}:@OkB V β (mbox ty x) H ⟨f⟩ ⟨Q⟩<->x.okc=true/\Ok (f (.ptr H.next 0)) (H.new ⟨ty,x.cells,none⟩) Q:=okb_box
def b_slit{ty:TypeId}{len:Nat}{zero:List V} {parts:List (Nat×Nat×V)} {f:V->M β}:@OkB V β (mslit ty len zero parts) H ⟨f⟩ ⟨Q⟩<->@SlK β (fill (zeros zero len) parts) ty len H ⟨f⟩ ⟨Q⟩:=by
 show Ok ((mslit ty len zero parts).bind f) H Q<->_;rw[okb_slit];unfold SlK;cases fill (zeros zero len) parts<;>simp
def slk_some{ty:TypeId}{len:Nat}{cs:List V}{f:V->M β}:@SlK β (some cs) ty len H ⟨f⟩ ⟨Q⟩<->Ok (f (.sl H.next 0 len (.fix len))) (H.new ⟨ty,cs,none⟩) Q:=ycO
def zvT{ty bytes:Nat}{zero:List V}{l c:Int}{f:V->M β}:@OkB V β (mmkslice ty bytes zero (.int .i64 l) (.int .i64 c)) H ⟨f⟩ ⟨Q⟩<->(0<=l/\l<=c/\c*bytes<=281474976710656/\c<=281474976710656)/\Ok (f (.sl H.next 0 l.toNat (.fix c.toNat))) (H.new ⟨ty,zeros zero c.toNat,none⟩) Q:=zkW
end
def bb_tt:(true==true)=true:=rfl
def bb_ff:(false==false)=true:=rfl
def bb_tf:(true==false)=false:=rfl
def bb_ft:(false==true)=false:=rfl
def zjx{α:Type}{x:M α}{H:Heap}{a:α}(h:Ok x H λv H'=>v=a/\H'=H){f:α->M Res}{Q:Res->Heap->Prop}:@OkB α Res x H ⟨f⟩ ⟨Q⟩<->Ok (f a) H Q:=by
 obtain⟨v,H',h1,rfl,rfl⟩:=h;show Ok (x.bind f) _ Q<->_;unfold Ok;rw[bind_ok h1]
def and_m1(x:Nat):x &&& 1=x%2:=yay x 1
def and_m3(x:Nat):x &&& 3=x%4:=yay x 2
def and_m7(x:Nat):x &&& 7=x%8:=yay x 3
def and_m15(x:Nat):x &&& 15=x%16:=yay x 4
def and_m31(x:Nat):x &&& 31=x%32:=yay x 5
def and_m63(x:Nat):x &&& 63=x%64:=yay x 6
def and_m127(x:Nat):x &&& 127=x%128:=yay x 7
def and_m255(x:Nat):x &&& 255=x%256:=yay x 8
def and_m511(x:Nat):x &&& 511=x%512:=yay x 9
def zv0(x:Nat):x &&& 1023=x%1024:=yay x 10
def zvZ(x:Nat):x &&& 2047=x%2048:=yay x 11
def zvY(x:Nat):x &&& 4095=x%4096:=yay x 12
def zvX(x:Nat):x &&& 8191=x%8192:=yay x 13
def ztq(x:Nat):x &&& 16383=x%16384:=yay x 14
def ztp(x:Nat):x &&& 32767=x%32768:=yay x 15
def zto(x:Nat):x &&& 65535=x%65536:=yay x 16
def zhC(x k:Nat):x &&& 2 ^ k=x/2 ^ k%2*2 ^ k:=by
 rw[<-Nat.toNat_testBit];refine Nat.eq_of_testBit_eq λj=>?_;rw[Nat.testBit_and,Nat.testBit_two_pow];cases h:x.testBit k
 ·by_cases e:k=j
  ·subst e;simp[h]
  ·simp[e]
 ·by_cases e:k=j
  ·subst e;simp[h]
  ·simp[e]
def and_b2(x:Nat):x &&& 2=x/2%2*2:=zhC x 1
def and_b4(x:Nat):x &&& 4=x/4%2*4:=zhC x 2
def and_b8(x:Nat):x &&& 8=x/8%2*8:=zhC x 3
def and_b16(x:Nat):x &&& 16=x/16%2*16:=zhC x 4
def and_b32(x:Nat):x &&& 32=x/32%2*32:=zhC x 5
def and_b64(x:Nat):x &&& 64=x/64%2*64:=zhC x 6
def and_b128(x:Nat):x &&& 128=x/128%2*128:=zhC x 7
/-! The rules,in bundles. -/
def RD:=
 yad @d_bind<|yad @d_ite<|yad @d_iter<|yad @zqK<|yad @zqL<|yad @then_nrm<|yad @then_ex<|yad @then_ret<|yad @zsK<|yad @out_nrm<|yad @out_ret<|yad @out_same<|yad @out_ne<|yad @lq_nrm<|yad @lq_ex<|yad @lq_ret @b_assoc
def RC:=
 yad @b_pure<|yad @zvU<|yad @b_getH<|yad @zrm<|yad @ztm<|yad @zvS<|yad @i_t<|yad @i_f<|yad @zsT<|yad @zsW<|yad @zsU<|yad @zsV<|yad @zu9<|yad @pick_t<|yad @pick_f<|yad @zuu<|yad @b_load<|yad @b_loadr<|yad @b_store<|yad @stk_some<|yad @b_box<|yad @b_slit<|yad @slk_some @zvT
def RH:=
 yad @zva<|yad @zvb<|yad @zvc<|yad @zpv<|yad @zvd<|yad @nx_set @nx_new
def RO:=
 yad @zvQ<|yad @zvP<|yad @bin_mul<|yad @bin_eql<|yad @bin_neq<|yad @bin_lss<|yad @bin_leq<|yad @bin_gtr<|yad @bin_geq<|yad @bin_seql<|yad @bin_sneq<|yad @un_not<|yad @un_neg<|yad @zr8<|yad @zuQ<|yad @nilck_rp<|yad @nilck_fn<|yad @nilck_sl<|yad @zvp<|yad @faddr_rp<|yad @ztF<|yad @vlen_sl<|yad @vlen_rs<|yad @slen_str<|yad @ext_tup<|yad @zvn<|yad @zrW<|yad @zrX<|yad @zrY<|yad @zu5<|yad @zu4<|yad @eqr_nilp<|yad @eqr_ptr<|yad @eqr_rp<|yad @eqr_nils<|yad @eqr_sl<|yad @eqr_rs<|yad @eqr_bool<|yad @ldc_none<|yad @zdJ<|yad @min2_min<|yad @min2_max<|yad @dec_lt_t<|yad @dec_lt_f<|yad @dec_le_t<|yad @dec_le_f<|yad @beq_t @beq_f
def RN:=
 yad @ztA<|yad @shr_u8<|yad @shl_u8<|yad @and_u8<|yad @or_u8<|yad @ztz<|yad @zv1<|yad @zsk<|yad @shr_u16<|yad @shl_u16<|yad @and_u16<|yad @or_u16<|yad @xor_u16<|yad @ztt<|yad @zsj<|yad @zqq<|yad @ztT<|yad @zvW<|yad @or_u32<|yad @zqh<|yad @zts<|yad @zsi<|yad @shr_u64<|yad @shl_u64<|yad @zvV<|yad @or_u64<|yad @xor_u64<|yad @ztr<|yad @wrap_i64<|yad @wrap_i32<|yad @shr_i64<|yad @zul<|yad @rem_i64<|yad @and_i64<|yad @or_i64 @shl_i64
def RL:=
 yad @r_bind<|yad @r_map<|yad @ybj<|yad @ya9<|yad @yaK<|yad @true_and<|yad @and_true<|yad @r_get0<|yad @r_getS<|yad @r_getD0<|yad @r_getDS<|yad @ya6<|yad @ybI<|yad @r_ift<|yad @r_iff<|yad @yav<|yad @Int.mul_one<|yad @ybc<|yad @r_dt<|yad @r_df<|yad @r_capp<|yad @r_napp<|yad @r_dropS<|yad @r_drop0<|yad @r_takeS<|yad @r_take0<|yad @r_lenS @r_len0
def RX:=
 yad @bb_tt<|yad @bb_ff<|yad @bb_tf<|yad @bb_ft<|yad @okc_bool<|yad @ztj<|yad @okc_int<|yad @zvL<|yad @okc_str<|yad @zvJ<|yad @okc_nilp<|yad @zti<|yad @okc_nils<|yad @zth<|yad @okc_ptr<|yad @zvK<|yad @okc_sl<|yad @cells_sl<|yad @okc_rs<|yad @cells_rs<|yad @okc_rp<|yad @cells_rp<|yad @okc_fn<|yad @cells_fn<|yad @okc_agg<|yad @zvM<|yad @sp_S<|yad @sp_0<|yad @sp_0S<|yad @ztl<|yad @fill_n<|yad @fill_c<|yad @zeros_0<|yad @zeros_S<|yad @tupled1<|yad @tupled2<|yad @zkW @ret_ex
def RS:=
 yad @shr_1<|yad @shr_2<|yad @shr_3<|yad @shr_4<|yad @shr_5<|yad @shr_6<|yad @shr_7<|yad @shr_8<|yad @shr_9<|yad @shr_10<|yad @shr_11<|yad @shr_12<|yad @shr_13<|yad @shr_14<|yad @shr_15<|yad @shr_16<|yad @shr_17<|yad @shr_18<|yad @shr_19<|yad @shr_20<|yad @shr_21<|yad @shr_22<|yad @shr_23<|yad @shr_24<|yad @shr_25<|yad @shr_26<|yad @shr_27<|yad @shr_28<|yad @shr_29<|yad @shr_30<|yad @shr_31<|yad @shr_32<|yad @shr_33<|yad @shr_34<|yad @shr_35<|yad @shr_36<|yad @shr_37<|yad @shr_38<|yad @shr_39<|yad @shr_40<|yad @shr_41<|yad @shr_42<|yad @shr_43<|yad @shr_44<|yad @shr_45<|yad @shr_46<|yad @shr_47<|yad @shr_48<|yad @shr_49<|yad @shr_50<|yad @shr_51<|yad @shr_52<|yad @shr_53<|yad @shr_54<|yad @shr_55<|yad @shr_56<|yad @shr_57<|yad @shr_58<|yad @shr_59<|yad @shr_60<|yad @shr_61<|yad @shr_62<|yad @shr_63<|yad @shl_1<|yad @shl_2<|yad @shl_3<|yad @shl_4<|yad @shl_5<|yad @shl_6<|yad @shl_7<|yad @shl_8<|yad @shl_9<|yad @shl_10<|yad @shl_11<|yad @shl_12<|yad @shl_13<|yad @shl_14<|yad @shl_15<|yad @shl_16<|yad @shl_17<|yad @shl_18<|yad @shl_19<|yad @shl_20<|yad @shl_21<|yad @shl_22<|yad @shl_23<|yad @shl_24<|yad @shl_25<|yad @shl_26<|yad @shl_27<|yad @shl_28<|yad @shl_29<|yad @shl_30<|yad @shl_31<|yad @shl_32<|yad @shl_33<|yad @shl_34<|yad @shl_35<|yad @shl_36<|yad @shl_37<|yad @shl_38<|yad @shl_39<|yad @shl_40<|yad @shl_41<|yad @shl_42<|yad @shl_43<|yad @shl_44<|yad @shl_45<|yad @shl_46<|yad @shl_47<|yad @shl_48<|yad @shl_49<|yad @shl_50<|yad @shl_51<|yad @shl_52<|yad @shl_53<|yad @shl_54<|yad @shl_55<|yad @shl_56<|yad @shl_57<|yad @shl_58<|yad @shl_59<|yad @shl_60<|yad @shl_61<|yad @shl_62<|yad @shl_63<|yad @shr_0 @shl_0
def RM:=
 yad @and_m1<|yad @and_m3<|yad @and_m7<|yad @and_m15<|yad @and_m31<|yad @and_m63<|yad @and_m127<|yad @and_m255<|yad @and_m511<|yad @zv0<|yad @zvZ<|yad @zvY<|yad @zvX<|yad @ztq<|yad @ztp<|yad @zto<|yad @and_b2<|yad @and_b4<|yad @and_b8<|yad @and_b16<|yad @and_b32<|yad @and_b64 @and_b128
def RZ:=yad RC<|yad RH<|yad RO<|yad RN<|yad RL<|yad RX<|yad RS RM
def RY:=yad @nx_new<|yad @nx_set<|yad @r_lenS @r_len0
def by8(n:Nat):V:=.int .u8 n
def zgi:(140737488355328:Nat)<=maxLen:=by decide
def Opn(ty e:Nat)(H:Heap)(v:V)(cells:List V)(n:Nat):Prop:=
 (v = .nils/\cells=[]/\n=0)\/∃id,v = .sl id 0 n (.opn e)/\H.get id=some ⟨ty,cells,some e⟩/\cells.length=n*e
def Opn.nil{ty e:Nat}{H:Heap}:Opn ty e H .nils [] 0:=.inl ⟨rfl,rfl,rfl⟩
def Opn.rc{ty e:Nat}{H:Heap}{v:V}{cells:List V}{n:Nat}(h:Opn ty e H v cells n):rcells e H v=some (cells,n):=by
 rcases h with⟨rfl,rfl,rfl⟩|⟨id,rfl,hg,hl⟩
 ·rfl
 ·simp only[rcells,hg,Option.bind_some];rw[if_pos (by omega),yaH,<-hl,ya7]
def Opn.to{ty e:Nat}{H H':Heap}{v:V}{cells:List V}{n:Nat}(h:Opn ty e H v cells n)(hs:∀i,v.pid=some i->H'.get i=H.get i):Opn ty e H' v cells n:=by
 rcases h with h|⟨id,rfl,hg,hl⟩
 ·exact .inl h
 ·exact .inr ⟨id,rfl,by rw[hs id rfl,hg],hl⟩
def zfC{e:Nat}{H H':Heap}{v:V}(hs:∀i,v.pid=some i->H'.get i=H.get i):rcells e H' v=rcells e H v:=by
 cases v<;>first|rfl|skip
 rename_i id off len cap;simp only[rcells];rw[hs id rfl]
def zv2{e:Nat}{H H':Heap}{v:V}(hs:∀i,v.pid=some i->H'.get i=H.get i):acells e H' v=acells e H v:=by
 cases v<;>first|rfl|skip
 exact zfC hs
def zv3{e:Nat}{H:Heap}{v:V}{q:List V×Nat}(h:rcells e H v=some q):acells e H v=some q:=by
 cases v<;>first|exact h|(simp only[rcells,reduceCtorEq]at h)
def zmW{β:Type}{ty e bytes n m:Nat}{H:Heap}{x y:V}{cells q:List V}{f:V->M β}{Q:β->Heap->Prop}(hx:Opn ty e H x cells n) (hy:acells e H y=some (q,m)) (hq:q.length=m*e)
  (hb:(n+m)*bytes<=140737488355328) (hm:n+m<=140737488355328)
  (k:∀x' H',Opn ty e H' x' (cells++q) (n+m)->Step H H' x.pid.toList x'.pid.toList->(x = .nils\/0<m->∀i,x'.pid=some i->H.next<=i)->Ok (f x') H' Q):Ok ((mappend ty e bytes x y).bind f) H Q:=by
 have hml:n+m<=maxLen:=yaA hm zgi;refine zaQ ?_;rcases hx with⟨rfl,rfl,rfl⟩|⟨id,rfl,hg,hl⟩
 ·refine zsL hy (λh0=>?_) λh0=>⟨by simpa using hb,by simpa using hml,?_⟩
  ·have h0:m=0:=h0;subst h0;have:q=[]:=yaz (by omega);subst this;exact k _ _ .nil ⟨yaj _,λ_ _ _=>rfl,λ_ h=>.inl h⟩ (λ_ i h=>by cases h)
  ·refine k (.sl H.next 0 m (.opn e)) _ (.inr ⟨H.next,by simp,by rw[zae];simp,by simpa using hq⟩) ⟨by rw[zaf];omega,λi hi _=>zaA _ _ (by omega),λi hi=>.inr ?_⟩ ?_
   ·simp only[V.pid,ybv,ya0]at hi;subst hi;exact⟨yaj _,by rw[zaf];omega⟩
   ·intro _ i hi;simp only[V.pid,yab]at hi;omega
 ·refine zuK hy hg rfl rfl hl (λh0=>?_) λh0=>⟨hb,hml,?_⟩
  ·have h0:m=0:=h0;subst h0;have:q=[]:=yaz (by omega);subst this;exact k _ _ (.inr ⟨id,by simp,by rw[hg];simp,by simp[hl]⟩) ⟨yaj _,λ_ _ _=>rfl,λ_ h=>.inl h⟩ (λh=>by
    rcases h with h|h
    ·cases h
    ·exact absurd h (by omega))
  ·refine k _ _ (.inr ⟨_,rfl,(zae (H.set id none) _),by simp[hl,hq,ybm]⟩) ⟨by rw[zaf,zak];omega,λi hi hF=>?_,λi hi=>.inr ?_⟩ ?_
   ·rw[zaA _ _ (by rw[zak];omega),zag];simp only[V.pid,ybv,ya0]at hF;exact hF
   ·simp only[V.pid,ybv,ya0]at hi;subst hi;exact⟨yaj _,by rw[zaf,zak];omega⟩
   ·intro _ i hi;simp only[V.pid,yab]at hi;omega
def zqH{β:Type}{ty e bytes m:Nat}{H:Heap}{y:V}{q:List V}{f:V->M β}{Q:β->Heap->Prop} (hy:acells e H y=some (q,m)) (hq:q.length=m*e)
  (hb:m*bytes<=140737488355328) (hm:m<=140737488355328)
  (k:∀x' H',Opn ty e H' x' q m->Step H H' [] x'.pid.toList->(∀i,x'.pid=some i->H.next<=i/\i<H'.next)->Ok (f x') H' Q):Ok ((mappend ty e bytes .nils y).bind f) H Q:=by
 refine zmW .nil hy hq (by simpa using hb) (by omega) λx' H' ho hs hf=>k x' H' (by simpa using ho) hs λi hi=>?_;have:=hs.own i (by simp[hi]);simp only[V.pid,Option.toList_none,yaX,false_or]at this;exact this
def zep{H:Heap}{ty:TypeId}{cs:List V}{o:Option Nat}{n e:Nat}{cap:Cap}(h:cs.length=n*e):acells e (H.new ⟨ty,cs,o⟩) (.sl H.next 0 n cap)=some (cs,n):=by
 simp only[acells,rcells,zae,Option.bind_some];rw[if_pos (by simp;omega),yaH,<-h,ya7]
def Step.new(H:Heap)(b:Blk)(F:List Nat):Step H (H.new b) F F:=⟨by rw[zaf];omega,λi hi _=>zaA _ _ (by omega),λi hi=>.inl hi⟩
def Step.newo(H:Heap)(b:Blk)(F:List Nat):Step H (H.new b) F (H.next::F):=⟨by rw[zaf];omega,λi hi _=>zaA _ _ (by omega),λi hi=>by
 rcases yaD.1 hi with rfl|hi
 ·exact .inr ⟨yaj _,by rw[zaf];omega⟩
 ·exact .inl hi⟩
def Step.set{H:Heap}{w:Nat}(b:Option Blk){F:List Nat}(h:w∈F):Step H (H.set w b) F F:=⟨yaj _,λi hi hF=>zag _ _ (λe=>hF (e ▸ h)),λi hi=>.inl hi⟩
def Step.more{H H':Heap}{F F':List Nat}(h:Step H H' F F')(G:List Nat):Step H H' (G++F) (G++F'):=by
 refine⟨h.next,λi hi hF=>h.same i hi λk=>hF (by simp[k]),λi hi=>?_⟩;rcases yaZ.1 hi with k|k
 ·exact .inl (by simp[k])
 ·rcases h.own i k with k|k
  ·exact .inl (by simp[k])
  ·exact .inr k
def Step.cons{H H':Heap}{F F':List Nat}(h:Step H H' F F')(w:Nat):Step H H' (w::F) (w::F'):=h.more [w]
def znM{v:V}{i:Nat}:i∈v.pid.toList<->v.pid=some i:=by cases v.pid<;>simp[eq_comm]
def flat_at{α:Type}{k:Nat}:∀(es:List (List α)),(∀x∈es,x.length=k)->∀(i:Nat) (x:List α),es[i]?=some x->(es.flatten.drop (i*k)).take k=x/\i*k+k<=es.flatten.length:=by
 intro es
 induction es with
 | nil=>intro _ i x h;simp at h
 | cons y es ih=>
  intro hk i x h;have hy:=hk y (ya1 ..);cases i with
  | zero=>
   simp only[yaC,yab]at h;subst h;simp[<-hy]
  | succ i=>
   obtain⟨h1,h2⟩:=ih (λz hz=>hk z (yaY _ hz)) i x (by simpa using h);rw[ycQ];simp only[ybk,yah];refine⟨?_,by omega⟩;rw[ycZ,yaS (by omega),ya2];have:i*k+k-y.length=i*k:=by omega
   rw[this,h1]
def ldc_flat{k:Nat} {es:List (List V)} (hk:∀x∈es,x.length=k) {i:Nat} {x:List V} (h:es[i]?=some x):ldc (some k) es.flatten (i*k)=some (.agg x):=by
 obtain⟨h1,h2⟩:=flat_at es hk i x h;rw[zdJ h2,h1]
def zeros1(x:V)(n:Nat):zeros [x] n=List.replicate n x:=by
 induction n with
 | zero=>rfl
 | succ n ih=>simp[zeros,ih,ycB]
structure Grow (H H':Heap):Prop where
 next:H.next<=H'.next
 same:∀i,i<H.next->H'.get i=H.get i
def Grow.refl(H:Heap):Grow H H:=⟨yaj _,λ_ _=>rfl⟩
def Grow.trans{H H1 H2:Heap}(h:Grow H H1)(k:Grow H1 H2):Grow H H2:=⟨yaA h.next k.next,λi hi=>by rw[k.same i (yaq hi h.next),h.same i hi]⟩
def Grow.new(H:Heap)(b:Blk):Grow H (H.new b):=⟨by rw[zaf];omega,λi hi=>zaA _ _ (by omega)⟩
def Grow.set{H H1:Heap}(h:Grow H H1){w:Nat}(hw:H.next<=w)(b:Option Blk):Grow H (H1.set w b):=⟨by rw[zak];exact h.next,λi hi=>by rw[zag _ _ (by omega),h.same i hi]⟩
structure Keep (lo:Nat) (H H':Heap):Prop where
 next:H.next<=H'.next
 same:∀i,lo<=i->i<H.next->H'.get i=H.get i
def Grow.keep{H H':Heap}(h:Grow H H')(lo:Nat):Keep lo H H':=⟨h.next,λi _ hi=>h.same i hi⟩
def V.capOk(e:Nat):V->Prop
 | .sl _ _ len (.fix c)=>len<=c
 | .sl _ _ _ (.opn e')=>e'=e
 | _=>True
structure Lc (e lo:Nat) (H:Heap) (v:V) (cells:List V) (n:Nat):Prop where
 rc:rcells e H v=some (cells,n)
 own:∀id,v.pid=some id->lo<=id/\id<H.next
 cap:V.capOk e v
section
variable {e lo n:Nat} {H H':Heap} {v:V} {cells:List V}
def Lc.nil:Lc e lo H .nils [] 0:=⟨rfl,λ_ h=>(by cases h),trivial⟩
def Lc.keep(h:Lc e lo H v cells n)(k:Keep lo H H'):Lc e lo H' v cells n:=
 ⟨by rw[zfC λi hi=>k.same i (h.own i hi).1 (h.own i hi).2];exact h.rc,λi hi=>⟨(h.own i hi).1,yaq (h.own i hi).2 k.next⟩,h.cap⟩
def Lc.ext(h:Lc e lo H v cells n)(k:Grow H H'):Lc e lo H' v cells n:=h.keep (k.keep lo)
def Lc.low{lo':Nat}(h:Lc e lo H v cells n)(hl:lo'<=lo):Lc e lo' H v cells n:=⟨h.rc,λi hi=>⟨yaA hl (h.own i hi).1,(h.own i hi).2⟩,h.cap⟩
def Lc.cases(h:Lc e lo H v cells n):(v = .nils/\cells=[]/\n=0)\/(∃id off cap b,v = .sl id off n cap/\H.get id=some b/\off+n*e<=b.cells.length/\cells=(b.cells.drop off).take (n*e))\/(∃cs,v = .rs cs n/\n*e<=cs.length/\cells=cs.take (n*e)):=by
 have hr:=h.rc;cases v<;>simp only[rcells,reduceCtorEq,yab,yae,yaa]at hr
 ·obtain⟨rfl,rfl⟩:=hr;exact .inl ⟨rfl,rfl,rfl⟩
 ·rename_i id off len cap;obtain⟨b,hb,hr⟩:=hr;split at hr
  ·rename_i hle;simp only[yab,yae]at hr;obtain⟨rfl,rfl⟩:=hr;exact .inr (.inl ⟨id,off,cap,b,rfl,hb,hle,rfl⟩)
  ·cases hr
 ·rename_i cs len;split at hr
  ·rename_i hle;simp only[yab,yae]at hr;obtain⟨rfl,rfl⟩:=hr;exact .inr (.inr ⟨cs,rfl,hle,rfl⟩)
  ·cases hr
def Lc.len(h:Lc e lo H v cells n):cells.length=n*e:=by
 rcases h.cases with⟨_,rfl,rfl⟩|⟨_,_,_,_,_,_,hl,rfl⟩|⟨_,_,hl,rfl⟩
 ·simp
 ·rw[yan,yat];omega
 ·rw[yan];omega
def Lc.vlen(h:Lc e lo H v cells n):Ax.vlen v=some (.int .i64 (n:Int)):=by
 rcases h.cases with⟨rfl,_,rfl⟩|⟨_,_,_,_,rfl,_⟩|⟨_,rfl,_⟩<;>rfl
def Lc.cells1(h:Lc e lo H v cells n):v.cells=[v]:=by
 rcases h.cases with⟨rfl,_,rfl⟩|⟨_,_,_,_,rfl,_⟩|⟨_,rfl,_⟩<;>rfl
def Lc.okc(h:Lc e lo H v cells n):v.okc=true:=by
 rcases h.cases with⟨rfl,_,rfl⟩|⟨_,_,_,_,rfl,_⟩|⟨_,rfl,_⟩<;>rfl
def Lc.ac(h:Lc e lo H v cells n):acells e H v=some (cells,n):=zv3 h.rc
def fa(p:V)(o:Nat):V:=match p with
 | .ptr id off=>.ptr id (off+o)
 | .rp cs off=>.rp cs (off+o)
 | v=>v
abbrev LdR(n:Option Nat)(H:Heap)(p c:V):Prop:=∀(f:V->M Res) (Q:Res->Heap->Prop),@OkB V Res (mload n p) H ⟨f⟩ ⟨Q⟩<->Ok (f c) H Q
structure Pl (H:Heap) (p:V) (cs:List V) (own:Option Nat):Prop where
 fa:∀{o:Nat},Ax.faddr o p=some (Ax.fa p o)
 ld:∀{o:Nat},o<cs.length->∀{f:V->M Res} {Q:Res->Heap->Prop},@OkB V Res (mload none (Ax.fa p o)) H ⟨f⟩ ⟨Q⟩<->@OkB V Res (M.lift cs[o]?) H ⟨f⟩ ⟨Q⟩
 ld0:0<cs.length->∀{f:V->M Res} {Q:Res->Heap->Prop},@OkB V Res (mload none p) H ⟨f⟩ ⟨Q⟩<->@OkB V Res (M.lift cs[0]?) H ⟨f⟩ ⟨Q⟩
 all:LdR (some cs.length) H p (.agg cs)
 pid:p.pid=own/\∀o,(Ax.fa p o).pid=own
def zkn{α:Type}{x:M α}{o:Option α}{H:Heap} (h:x H=o.map λv=>(v,H)) {f:α->M Res} {Q:Res->Heap->Prop}:@OkB α Res x H ⟨f⟩ ⟨Q⟩<->@OkB α Res (M.lift o) H ⟨f⟩ ⟨Q⟩:=by
 show Ok (x.bind f) H Q<->Ok ((M.lift o).bind f) H Q;have e:(x.bind f) H=((M.lift o).bind f) H:=by simp only[M.bind,M.lift,h]
 unfold Ok;rw[e]
def pl_ptr{id off m:Nat}{b:Blk}(hb:H.get id=some b)(hm:off+m<=b.cells.length):Pl H (.ptr id off) ((b.cells.drop off).take m) (some id):=by
 have hlen:((b.cells.drop off).take m).length=m:=by rw[yan,yat];omega
 refine⟨rfl,λ{o} ho f Q=>zkn ?_,λh0 f Q=>zkn ?_,λf Q=>?_,rfl,λo=>rfl⟩
 ·rw[hlen]at ho;simp only[fa,mload,hb,Option.bind_some,ldc];rw[ya3 ho,yaU]
 ·rw[hlen]at h0;simp only[mload,hb,Option.bind_some,ldc];rw[ya3 h0,yaU];rfl
 ·rw[hlen];refine zjx ⟨_,_,?_,rfl,rfl⟩;simp only[mload,hb,Option.bind_some,ldc];rw[if_pos hm];rfl
def pl_rp{cs:List V}{off m:Nat}(hm:off+m<=cs.length):Pl H (.rp cs off) ((cs.drop off).take m) none:=by
 have hlen:((cs.drop off).take m).length=m:=by rw[yan,yat];omega
 refine⟨rfl,λ{o} ho f Q=>zkn ?_,λh0 f Q=>zkn ?_,λf Q=>?_,rfl,λo=>rfl⟩
 ·rw[hlen]at ho;simp only[fa,mload,ldc];rw[ya3 ho,yaU]
 ·rw[hlen]at h0;simp only[mload,ldc];rw[ya3 h0,yaU];rfl
 ·rw[hlen];refine zjx ⟨_,_,?_,rfl,rfl⟩;simp only[mload,ldc];rw[if_pos hm];rfl
def Lc.at(h:Lc e lo H v cells n){i:Int}(h0:0<=i)(h1:i<n):∃p,(∀{k:IntKind},Ax.iaddr none e v (.int k i)=some p)/\Pl H p ((cells.drop (i.toNat*e)).take e) v.pid:=by
 have hi:i.toNat*e+e<=n*e:=by
  have:(i.toNat+1)*e<=n*e:=ybg e (by omega);rw[ybm]at this;omega
 rcases h.cases with⟨_,_,rfl⟩|⟨id,off,cap,b,rfl,hb,hl,rfl⟩|⟨cs,rfl,hl,rfl⟩
 ·omega
 ·refine⟨.ptr id (off+i.toNat*e),zrW h0 h1,?_⟩;have:=pl_ptr (H:=H) (off:=off+i.toNat*e) (m:=e) hb (by omega);rw[ybP,ybE,ybs,ya8 (by omega)];exact this
 ·refine⟨.rp cs (i.toNat*e),zrX h0 h1,?_⟩;have:=pl_rp (H:=H) (cs:=cs) (off:=i.toNat*e) (m:=e) (by omega);rw[ybP,ybE,ya8 (by omega)];exact this
def Lc.slice(h:Lc e lo H v cells n){x y:Int}(h0:0<=x)(h1:x<=y)(h2:y<=n) :
  ∃v',(∀{k k':IntKind},zav .sl e v (some (.int k x)) (some (.int k' y)) none=some v')/\(x=0->∀{k':IntKind},zav .sl e v none (some (.int k' y)) none=some v')/\(y=n->∀{k:IntKind},zav .sl e v (some (.int k x)) none none=some v') /\
   Lc e lo H v' ((cells.drop (x.toNat*e)).take ((y.toNat-x.toNat)*e)) (y.toNat-x.toNat)/\v'.pid=v.pid:=by
 have hxy:x.toNat*e+(y.toNat-x.toNat)*e<=n*e:=by
  rw[<-ybm];exact ybg e (by omega)
 rcases h.cases with⟨rfl,rfl,rfl⟩|⟨id,off,cap,b,rfl,hb,hl,rfl⟩|⟨cs,rfl,hl,rfl⟩
 ·have hx:x=0:=by omega
  have hy:y=0:=by omega
  subst hx hy;refine⟨.nils,rfl,λ_=>rfl,λ_=>rfl,by simpa using Lc.nil,rfl⟩
 ·have hcap:=h.cap;cases cap with
  | fix c=>
   have hcap:n<=c:=hcap;refine⟨.sl id (off+x.toNat*e) (y.toNat-x.toNat) (.fix (((c:Int)).toNat-x.toNat)),λ{k k'}=>?_,λhx k'=>?_,λhy k=>?_,⟨?_,h.own,?_⟩,rfl⟩
   ·simp only[zav,zbR,vint,yas,Option.bind_some,yaB,yaQ];rw[if_neg (by simp),if_pos (by omega)]
   ·subst hx;simp only[zav,zbR,vint,yas,Option.bind_some,yaB,yaQ];rw[if_neg (by simp),if_pos (by omega)]
   ·subst hy;simp only[zav,zbR,vint,yas,Option.bind_some,yaB,yaQ];rw[if_neg (by simp),if_pos (by omega)]
   ·simp only[rcells,hb,Option.bind_some];rw[if_pos (by omega),ybP,ybE,ybs,ya8 (by omega)]
   ·show y.toNat-x.toNat<=_;omega
  | opn e'=>
   have hcap:e'=e:=hcap;subst hcap;refine⟨.sl id (off+x.toNat*e') (y.toNat-x.toNat) (.opn e'),λ{k k'}=>?_,λhx k'=>?_,λhy k=>?_,⟨?_,h.own,rfl⟩,rfl⟩
   ·simp only[zav,zbR,vint,yas,Option.bind_some,yaB];rw[if_neg (by simp),if_pos ⟨trivial,by omega,by omega,by omega⟩]
   ·subst hx;simp only[zav,zbR,vint,yas,Option.bind_some,yaB,yaQ];rw[if_neg (by simp),if_pos ⟨trivial,by omega,by omega,by omega⟩]
   ·subst hy;simp only[zav,zbR,vint,yas,Option.bind_some,yaB,yaQ];rw[if_neg (by simp),if_pos ⟨trivial,by omega,by omega,by omega⟩]
   ·simp only[rcells,hb,Option.bind_some];rw[if_pos (by omega),ybP,ybE,ybs,ya8 (by omega)]
 ·refine⟨.rs (cs.drop (x.toNat*e)) (y.toNat-x.toNat),λ{k k'}=>?_,λhx k'=>?_,λhy k=>?_,⟨?_,λid h=>(by cases h),trivial⟩,rfl⟩
  ·simp only[zav,zbR,vint,yas,Option.bind_some,yaB];rw[if_neg (by simp),if_pos (by simp;omega)]
  ·subst hx;simp only[zav,zbR,vint,yas,Option.bind_some,yaB,yaQ];rw[if_neg (by simp),if_pos (by simp;omega)]
  ·subst hy;simp only[zav,zbR,vint,yas,Option.bind_some,yaB,yaQ];rw[if_neg (by simp),if_pos (by simp;omega)]
  ·simp only[rcells];rw[if_pos (by rw[yat];omega),ybP,ybE,ya8 (by omega)]
end
def Opn.lc{ty e lo n:Nat}{H:Heap}{v:V}{cells:List V}(h:Opn ty e H v cells n)(ho:∀id,v.pid=some id->lo<=id/\id<H.next):Lc e lo H v cells n:=by
 refine⟨h.rc,ho,?_⟩;rcases h with⟨rfl,_⟩|⟨_,rfl,_⟩
 ·trivial
 ·rfl
inductive App (ty e lo:Nat) (H:Heap):V->List V->Nat->Prop
 | opn {v:V} {cells:List V} {n:Nat} (h:Opn ty e H v cells n) (ho:∀id,v.pid=some id->lo<=id/\id<H.next):App ty e lo H v cells n
 | lit {id:Nat} (h:H.get id=some ⟨ty,[],none⟩) (h0:lo<=id) (h1:id<H.next):App ty e lo H (.sl id 0 0 (.fix 0)) [] 0
def App.lc{ty e lo n:Nat}{H:Heap}{v:V}{cells:List V}(h:App ty e lo H v cells n):Lc e lo H v cells n:=by
 cases h with
 | opn h ho=>exact h.lc ho
 | lit h h0 h1=>
  refine⟨?_,λid hi=>by simp only[V.pid,yab]at hi;subst hi;exact⟨h0,h1⟩,yaj _⟩;simp only[rcells,h,Option.bind_some];rw[if_pos (by simp)];simp
def App.nil{ty e lo:Nat}{H:Heap}:App ty e lo H .nils [] 0:=.opn .nil λ_ h=>by cases h
def zqI{β:Type}{ty e bytes lo n m:Nat}{H:Heap}{x y:V}{cells q:List V}{f:V->M β}{Q:β->Heap->Prop}(hx:App ty e lo H x cells n)(hlo:lo<=H.next) (hy:acells e H y=some (q,m)) (hq:q.length=m*e)
  (hb:(n+m)*bytes<=140737488355328) (hm:n+m<=140737488355328)
  (k:∀x' H',App ty e lo H' x' (cells++q) (n+m)->Step H H' x.pid.toList x'.pid.toList->Ok (f x') H' Q):Ok ((mappend ty e bytes x y).bind f) H Q:=by
 cases hx with
 | opn h ho=>
  refine zmW h hy hq hb hm λx' H' h1 hs _=>k x' H' (.opn h1 λid hi=>?_) hs;rcases hs.own id (by simp[hi]) with h2|h2
  ·obtain⟨h3,h4⟩:=ho id (by simpa [znM]using h2);exact⟨h3,yaq h4 hs.next⟩
  ·exact⟨yaA hlo h2.1,h2.2⟩
 | lit h h0 h1=>
  rename_i id;have hml:m<=maxLen:=yaA (by omega:m<=140737488355328) zgi;have hp:((V.sl id 0 0 (.fix 0)).pid).toList=[id]:=rfl;by_cases hz:m=0
  ·subst hz;have hq0:q=[]:=yaz (by omega);subst hq0;refine zaQ ⟨.sl id 0 0 (.fix 0),H.set id (some ⟨ty,[],none⟩),?_,k _ _ ?_ (Step.set _ (by simp[hp]))⟩
   ·simp only[mappend,hy,Option.bind_some,mappendq,h];rw[if_pos ⟨by simp,trivial⟩];simp[splice]
   ·exact .lit (zaj _ _ _) h0 h1
  ·refine zaQ ⟨.sl H.next 0 m (.opn e),H.new ⟨ty,q,some e⟩,?_,?_⟩
   ·simp only[mappend,hy,Option.bind_some,mappendq,h];rw[if_pos ⟨by simp,trivial⟩];simp only[ya6,ybz,ybw];rw[if_neg (by omega),if_pos ⟨by simpa using hb,hml⟩];simp
   ·have hr:App ty e lo (H.new ⟨ty,q,some e⟩) (.sl H.next 0 m (.opn e)) ([]++q) (0+m):=by
     refine .opn (.inr ⟨H.next,by simp,by rw[zae];simp,by simpa using hq⟩) λi hi=>?_;simp only[V.pid,yab]at hi;subst hi;exact⟨hlo,by rw[zaf];omega⟩
    refine k _ _ hr ⟨by rw[zaf];omega,λi hi _=>zaA _ _ (by omega),λi hi=>.inr ?_⟩;simp only[V.pid,ybv,ya0]at hi;subst hi;exact⟨yaj _,by rw[zaf];omega⟩
structure At1 (k:Nat) (H H':Heap):Prop where
 next:H.next<=H'.next
 same:∀i,i<H.next->i≠k->H'.get i=H.get i
def At1.refl(k:Nat)(H:Heap):At1 k H H:=⟨yaj _,λ_ _ _=>rfl⟩
def At1.trans{k:Nat}{H H1 H2:Heap}(h:At1 k H H1)(g:At1 k H1 H2):At1 k H H2:=⟨yaA h.next g.next,λi hi hk=>by rw[g.same i (yaq hi h.next) hk,h.same i hi hk]⟩
def Grow.at1{H H':Heap}(h:Grow H H')(k:Nat):At1 k H H':=⟨h.next,λi hi _=>h.same i hi⟩
def At1.set(k:Nat)(H:Heap)(b:Option Blk):At1 k H (H.set k b):=⟨yaj _,λi _ hk=>zag _ _ hk⟩
def Lc.at1{e lo n k:Nat}{H H':Heap}{v:V}{cells:List V}(h:Lc e lo H v cells n)(s:At1 k H H')(hk:v.pid≠some k):Lc e lo H' v cells n:=
 ⟨by rw[zfC λi hi=>s.same i (h.own i hi).2 λe=>hk (e ▸ hi)];exact h.rc,λi hi=>⟨(h.own i hi).1,yaq (h.own i hi).2 s.next⟩,h.cap⟩
end Go.Ax
/- Su1 -/
namespace Go.Ax.SU
open Go.Ax
def w32(x:UInt32):V:=.int .u32 (x.toNat:Int)
def w_ok(x:UInt32):V.okc (w32 x)=true:=rfl
def zkz(x:UInt32):V.cells (w32 x)=[w32 x]:=rfl
def w_nat(n:Nat)(h:n<4294967296):V.int .u32 (n:Int)=w32 (UInt32.ofNat n):=by
 unfold w32;rw[ycA,yap (by simpa using h)]
def rotr(x:UInt32)(n:Nat):UInt32:=UInt32.ofNat ((x.toNat >>> n) ||| (x.toNat <<< (32-n))%4294967296)
def ziO(x:UInt32)(n:Nat):UInt32:=UInt32.ofNat (x.toNat >>> n)
def zhF(x:UInt32)(n:Nat):(ziO x n).toNat=x.toNat >>> n:=by
 unfold ziO;rw[ycA,yap];have h1:x.toNat >>> n<=x.toNat:=ycL _ _;have:=x.toNat_lt;omega
def or_lt32{a b:Nat}(ha:a<4294967296)(hb:b<4294967296):a ||| b<4294967296:=ycM (n:=32) ha hb
def rotr_nat(x:UInt32)(n:Nat):(rotr x n).toNat=(x.toNat >>> n) ||| (x.toNat <<< (32-n))%4294967296:=by
 unfold rotr;rw[ycA,yap];have h1:x.toNat >>> n<=x.toNat:=ycL _ _;have:=x.toNat_lt;exact or_lt32 (by omega) (ybf _ (by decide))
def w_add(x y:UInt32):Ax.bin .add (w32 x) (w32 y)=some (w32 (x+y)):=by
 unfold w32;rw[zvQ,wrap_u32,UInt32.toNat_add];congr 2
def w_xor(x y:UInt32):Ax.bin .xor (w32 x) (w32 y)=some (w32 (x ^^^ y)):=by
 unfold w32;have h1:=x.toNat_lt;have h2:=y.toNat_lt;rw[zqh (by omega) (by omega) (by omega) (by omega),UInt32.toNat_xor];rfl
def w_and(x y:UInt32):Ax.bin .and (w32 x) (w32 y)=some (w32 (x &&& y)):=by
 unfold w32;have h1:=x.toNat_lt;have h2:=y.toNat_lt;rw[zvW (by omega) (by omega) (by omega) (by omega),UInt32.toNat_and];rfl
def w_not(x:UInt32):Ax.un .xor (w32 x)=some (w32 (~~~x)):=by
 unfold w32;have h1:=x.toNat_lt;have h:Ax.un .xor (.int .u32 (x.toNat:Int))=Ax.bin .xor (.int .u32 4294967295) (.int .u32 (x.toNat:Int)):=by
  simp only[Ax.un,Ax.bin,zcy,if_true];rfl
 rw[h,zqh (by omega) (by omega) (by omega) (by omega)];congr 3
def ztE(x:UInt32){k:IntKind}{n:Int}(h:0<=n):Ax.bin .shr (w32 x) (.int k n)=some (w32 (ziO x n.toNat)):=by
 unfold w32;have h1:=x.toNat_lt;rw[zqq (by omega) (by omega) h,zhF];rfl
def w_rot(x:UInt32){k k':IntKind}{n:Nat}{a b:Int} (ha:a=(32-n:Nat)) (hb:b=n):(Ax.bin .shl (w32 x) (.int k a)).bind (λu=>(Ax.bin .shr (w32 x) (.int k' b)).bind λv=>Ax.bin .or u v)=some (w32 (rotr x n)):=by
 subst ha hb;unfold w32;have h1:=x.toNat_lt;rw[ztT (by omega) (by omega),zqq (by omega) (by omega) (by omega)];have h2:shr x.toNat n<=x.toNat:=shr_le _ _;simp only[Option.bind_some,yav];rw[or_u32 (by omega) (by have:=ybf (shl x.toNat (32-n)) (show 0<4294967296 by decide);omega) (by omega) (by omega),rotr_nat];simp only[yav,ziN,ztU];rw[Nat.or_comm]
/-! The plain functions. -/
def be(l:List Nat):Nat:=l.foldl (λa b=>a*256+b) 0
def zrl(l:List Nat)(b:Nat):be (l++[b])=be l*256+b:=by simp[be]
def word(m:List Nat)(i:Nat):UInt32:=UInt32.ofNat (be [m.getD (4*i) 0,m.getD (4*i+1) 0,m.getD (4*i+2) 0,m.getD (4*i+3) 0])
def sg0(x:UInt32):UInt32:=rotr x 7 ^^^ rotr x 18 ^^^ ziO x 3
def sg1(x:UInt32):UInt32:=rotr x 17 ^^^ rotr x 19 ^^^ ziO x 10
def wnext(w:List UInt32)(i:Nat):UInt32:=w.getD (i-16) 0+sg0 (w.getD (i-15) 0)+w.getD (i-7) 0+sg1 (w.getD (i-2) 0)
def wl(m:List Nat):Nat->List UInt32
 | 0=>[]
 | n+1=>wl m n++[if n<16 then word m n else wnext (wl m n) n]
def wl_len(m:List Nat)(n:Nat):(wl m n).length=n:=by
 induction n with
 | zero=>rfl
 | succ n ih=>simp[wl,ih]
def rnd(v:List UInt32)(k w:UInt32):List UInt32:=
 let a:=v.getD 0 0
 let e:=v.getD 4 0
 let t:=v.getD 7 0+(rotr e 6 ^^^ rotr e 11 ^^^ rotr e 25)+(e &&& v.getD 5 0 ^^^ ~~~e &&& v.getD 6 0)+k+w
 let u:=(rotr a 2 ^^^ rotr a 13 ^^^ rotr a 22)+(a &&& v.getD 1 0 ^^^ a &&& v.getD 2 0 ^^^ v.getD 1 0 &&& v.getD 2 0)
 [t+u,a,v.getD 1 0,v.getD 2 0,v.getD 3 0+t,e,v.getD 5 0,v.getD 6 0]
def rnds(ks ws h:List UInt32):Nat->List UInt32
 | 0=>h
 | n+1=>rnd (rnds ks ws h n) (ks.getD n 0) (ws.getD n 0)
def zrE{ks ws h:List UInt32}(hh:h.length=8)(n:Nat):(rnds ks ws h n).length=8:=by
 cases n with
 | zero=>exact hh
 | succ n=>rfl
def comp(ks h:List UInt32)(m:List Nat):List UInt32:=(List.range 8).map λi=>h.getD i 0+(rnds ks (wl m 64) h 64).getD i 0
def zr7(ks h:List UInt32)(m:List Nat):(comp ks h m).length=8:=by simp[comp]
def pcs(ks:List UInt32):Nat->List Nat->List UInt32->List UInt32
 | 0,_,h=>h
 | n+1,m,h=>pcs ks n (m.drop 64) (comp ks h (m.take 64))
def pcs_len{ks:List UInt32}:∀(n:Nat) (m:List Nat) (h:List UInt32),h.length=8->(pcs ks n m h).length=8:=by
 intro n
 induction n with
 | zero=>intro m h hh;exact hh
 | succ n ih=>intro m h hh;exact ih _ _ (zr7 _ _ _)
def zuv{ks:List UInt32}(b:Nat):∀(a:Nat) (m:List Nat) (h:List UInt32),pcs ks (a+b) m h=pcs ks b (m.drop (64*a)) (pcs ks a m h):=by
 intro a
 induction a with
 | zero=>intro m h;simp[pcs]
 | succ a ih=>
  intro m h;rw[Nat.succ_add];simp only[pcs];rw[ih,ybs];congr 2;omega
def zqE{ks:List UInt32}(l:List Nat):∀(a:Nat) (m:List Nat) (h:List UInt32),64*a<=m.length->pcs ks a (m++l) h=pcs ks a m h:=by
 intro a
 induction a with
 | zero=>intro m h _;rfl
 | succ a ih=>
  intro m h hm;simp only[pcs];rw[ybZ (by omega),ybD (by omega),ih _ _ (by rw[yat];omega)]
def h0:List UInt32:=[0x6a09e667,0xbb67ae85,0x3c6ef372,0xa54ff53a,0x510e527f,0x9b05688c,0x1f83d9ab,0x5be0cd19]
def hs(ks:List UInt32)(m:List Nat):List UInt32:=pcs ks (m.length/64) m h0
def tl(m:List Nat):List Nat:=m.drop (64*(m.length/64))
def hs_len(ks:List UInt32)(m:List Nat):(hs ks m).length=8:=pcs_len _ _ _ rfl
def zrv(m:List Nat):(tl m).length=m.length%64:=by unfold tl;rw[yat];omega
def hs_piece{ks:List UInt32}{m l:List Nat}(h:m.length%64=0)(hl:l.length=64):hs ks (m++l)=comp ks (hs ks m) l:=by
 unfold hs;have e:(m++l).length/64=m.length/64+1:=by rw[yah];omega
 have hd:64*(m.length/64)=m.length:=by omega
 rw[e,zuv,zqE _ _ _ _ (by omega),hd,yc4];simp only[pcs];rw[yam (by omega)]
def tl_whole{m:List Nat}(h:m.length%64=0):tl m=[]:=by
 unfold tl;rw[show 64*(m.length/64)=m.length by omega,List.drop_length]
def hs_few{ks:List UInt32}{m l:List Nat}(h:m.length%64+l.length<64):hs ks (m++l)=hs ks m/\tl (m++l)=tl m++l:=by
 have e:(m++l).length/64=m.length/64:=by rw[yah];omega
 refine⟨?_,?_⟩
 ·unfold hs;rw[e,zqE _ _ _ _ (by omega)]
 ·unfold tl;rw[e,ybZ (by omega)]
def hs_fill{ks:List UInt32}{m l:List Nat}(h:m.length%64+l.length=64):hs ks (m++l)=comp ks (hs ks m) (tl m++l):=by
 have e:(m++l).length/64=m.length/64+1:=by rw[yah];omega
 unfold hs;rw[e,zuv,zqE _ _ _ _ (by omega),ybZ (by omega)];simp only[pcs];rw[yam]
 ·rfl
 ·have:=zrv m;unfold tl at this;rw[yah,this];omega
def padz(n:Nat):Nat:=(119-n%64)%64
def pad(n:Nat):List Nat:=0x80::List.replicate (padz n) 0++(List.range 8).map λi=>n*8%18446744073709551616/256 ^ (7-i)%256
def zcb(h:List UInt32):List Nat:=(h.map λx=>[x.toNat/16777216%256,x.toNat/65536%256,x.toNat/256%256,x.toNat%256]).flatten
def sha(ks:List UInt32)(m:List Nat):List Nat:=zcb (hs ks (m++pad m.length))
def ziK(h:List UInt32):(zcb h).length=4*h.length:=by
 unfold zcb
 induction h with
 | nil=>rfl
 | cons x h ih=>simp only[ya5,ybk,yah,ih,yaw,ybz];omega
def ztD(h:List UInt32):∀x∈zcb h,x<256:=by
 unfold zcb;intro x hx;simp only[ycW,ybp]at hx;obtain⟨l,⟨w,_,rfl⟩,hx⟩:=hx;simp only[yaD,yaX,or_false]at hx;omega
def ziP(ks:List UInt32)(m:List Nat):(sha ks m).length=32:=by unfold sha;rw[ziK,hs_len]
def ztV(ks:List UInt32)(m:List Nat):∀x∈sha ks m,x<256:=ztD _
def zei(ks:List UInt32)(key:List Nat):List Nat:=if 64<key.length then sha ks key else key
def kpad(ks:List UInt32)(key:List Nat)(x:Nat):List Nat:=((zei ks key)++List.replicate (64-(zei ks key).length) 0).map (· ^^^ x)
def hmac(ks:List UInt32)(key m:List Nat):List Nat:=sha ks (kpad ks key 0x5c++sha ks (kpad ks key 0x36++m))
def hkdf(ks:List UInt32)(zaE info:List Nat):Nat->List Nat×List Nat
 | 0=>([],[])
 | n+1=>
  let t:=hmac ks zaE ((hkdf ks zaE info n).2++info++[n+1])
  ((hkdf ks zaE info n).1++t,t)
def zdL(ks:List UInt32)(key m:List Nat):(hmac ks key m).length=32:=ziP _ _
def zlf(ks:List UInt32)(key m:List Nat):∀x∈hmac ks key m,x<256:=ztV _ _
def zgf(ks:List UInt32)(zaE info:List Nat)(n:Nat):(hkdf ks zaE info n).1.length=32*n:=by
 induction n with
 | zero=>rfl
 | succ n ih=>simp only[hkdf,yah,ih,zdL];omega
def zlg(ks:List UInt32)(zaE info:List Nat)(n:Nat):(∀x∈(hkdf ks zaE info n).1,x<256)/\∀x∈(hkdf ks zaE info n).2,x<256:=by
 induction n with
 | zero=>exact⟨λx h=>(yaX h).elim,λx h=>(yaX h).elim⟩
 | succ n ih=>
  simp only[hkdf];refine⟨λx h=>?_,zlf _ _ _⟩;rcases yaZ.1 h with h|h
  ·exact ih.1 x h
  ·exact zlf _ _ _ x h
def Ok8(l:List Nat):Prop:=∀x∈l,x<256
def Ok8.take{l:List Nat}(h:Ok8 l)(n:Nat):Ok8 (l.take n):=λx hx=>h x (yb3 hx)
def Ok8.drop{l:List Nat}(h:Ok8 l)(n:Nat):Ok8 (l.drop n):=λx hx=>h x (yb4 hx)
def Ok8.app{a b:List Nat}(h:Ok8 a)(k:Ok8 b):Ok8 (a++b):=λx hx=>(yaZ.1 hx).elim (h x) (k x)
def Ok8.nil:Ok8 []:=λx h=>(yaX h).elim
def Ok8.rep(n:Nat):Ok8 (List.replicate n 0):=λx hx=>by rw[ybQ hx];decide
def Ok8.getD{l:List Nat}(h:Ok8 l)(i:Nat):l.getD i 0<256:=by
 rw[yao];cases e:l[i]? with
 | none=>simp
 | some x=>exact h x (ybh e)
def zbS{a b:Nat}(ha:a<256)(hb:b<256):a ^^^ b<256:=Nat.xor_lt_two_pow (n:=8) ha hb
def Ok8.rmap{n:Nat}{f:Nat->Nat}(h:∀i,i<n->f i<256):Ok8 ((List.range n).map f):=λx hx=>by
 simp only[ybp,yaW]at hx;obtain⟨i,hi,rfl⟩:=hx;exact h i hi
def zcU{n:Nat}{f:Nat->Nat}{i:Nat}(h:i<n):((List.range n).map f).getD i 0=f i:=by
 rw[yao,yaT,ybC h];rfl
def sbox:List Nat:=[
 99,124,119,123,242,107,111,197,48,1,103,43,254,215,171,118,202,130,201,125,250,89,71,240,173,212,162,175,156,164,114,192,
 183,253,147,38,54,63,247,204,52,165,229,241,113,216,49,21,4,199,35,195,24,150,5,154,7,18,128,226,235,39,178,117,
 9,131,44,26,27,110,90,160,82,59,214,179,41,227,47,132,83,209,0,237,32,252,177,91,106,203,190,57,74,76,88,207,
 208,239,170,251,67,77,51,133,69,249,2,127,80,60,159,168,81,163,64,143,146,157,56,245,188,182,218,33,16,255,243,210,
 205,12,19,236,95,151,68,23,196,167,126,61,100,93,25,115,96,129,79,220,34,42,144,136,70,238,184,20,222,94,11,219,
 224,50,58,10,73,6,36,92,194,211,172,98,145,149,228,121,231,200,55,109,141,213,78,169,108,86,244,234,101,122,174,8,
 186,120,37,46,28,166,180,198,232,221,116,31,75,189,139,138,112,62,181,102,72,3,246,14,97,53,87,185,134,193,29,158,
 225,248,152,17,105,217,142,148,155,30,135,233,206,85,40,223,140,161,137,13,191,230,66,104,65,153,45,15,176,84,187,22]
theorem zhI:sbox.length=256:=by kernel_rfl
def all8{l:List Nat} (h:(l.all λx=>decide (x<256))=true):Ok8 l:=λx hx=>of_decide_eq_true (yaI.1 h x hx)
theorem sbox_lt:Ok8 sbox:=all8 (by kernel_rfl)
def kc:List UInt32:=[
 1116352408,1899447441,3049323471,3921009573,961987163,1508970993,2453635748,2870763221,3624381080,310598401,607225278,1426881987,1925078388,2162078206,2614888103,3248222580,
 3835390401,4022224774,264347078,604807628,770255983,1249150122,1555081692,1996064986,2554220882,2821834349,2952996808,3210313671,3336571891,3584528711,113926993,338241895,
 666307205,773529912,1294757372,1396182291,1695183700,1986661051,2177026350,2456956037,2730485921,2820302411,3259730800,3345764771,3516065817,3600352804,4094571909,275423344,
 430227734,506948616,659060556,883997877,958139571,1322822218,1537002063,1747873779,1955562222,2024104815,2227730452,2361852424,2428436474,2756734187,3204031479,3329325298]
theorem zrT:kc.length=64:=by kernel_rfl
def xt(a:Nat):Nat:=if 128<=a then (a*2%256) ^^^ 27 else a*2
def zky{a:Nat}(h:a<256):xt a<256:=by
 unfold xt;split
 ·exact zbS (by omega) (by decide)
 ·omega
/-! How the boxes come about: powers of three;what is made of an inverse. -/
def pwl:List Nat:=[
 1,3,5,15,17,51,85,255,26,46,114,150,161,248,19,53,95,225,56,72,216,115,149,164,247,2,6,10,30,34,102,170,
 229,52,92,228,55,89,235,38,106,190,217,112,144,171,230,49,83,245,4,12,20,60,68,204,79,209,104,184,211,110,178,205,
 76,212,103,169,224,59,77,215,98,166,241,8,24,40,120,136,131,158,185,208,107,189,220,127,129,152,179,206,73,219,118,154,
 181,196,87,249,16,48,80,240,11,29,39,105,187,214,97,163,254,25,43,125,135,146,173,236,47,113,147,174,233,32,96,160,
 251,22,58,78,210,109,183,194,93,231,50,86,250,21,63,65,195,94,226,61,71,201,64,192,91,237,44,116,156,191,218,117,
 159,186,213,100,172,239,42,126,130,157,188,223,122,142,137,128,155,182,193,88,232,35,101,175,234,37,111,177,200,67,197,84,
 252,31,33,99,165,244,7,9,27,45,119,153,176,203,70,202,69,207,74,222,121,139,134,145,168,227,62,66,198,81,243,14,
 18,54,90,238,41,123,141,140,143,138,133,148,167,242,13,23,57,75,221,124,132,151,162,253,28,36,108,180,199,82,246]
def t3(a:Nat):Nat:=xt a ^^^ a
theorem pwl_len:pwl.length=255:=by kernel_rfl
theorem pwl_lt:Ok8 pwl:=all8 (by kernel_rfl)
theorem zum:((List.range 254).all λi=>pwl.getD (i+1) 0==t3 (pwl.getD i 0))=true:=by kernel_rfl
def pwl_step{i:Nat}(h:i<254):pwl.getD (i+1) 0=t3 (pwl.getD i 0):=by
 have:=yaI.1 zum i (yaW.2 h);simpa using this
def rl8(y i:Nat):Nat:=y*2 ^ i%256 ||| y/2 ^ (8-i)
def bx(y:Nat):Nat:=y ^^^ rl8 y 1 ^^^ rl8 y 2 ^^^ rl8 y 3 ^^^ rl8 y 4 ^^^ 99
def zin:Nat->List Nat
 | 0=>List.replicate 256 0
 | n+1=>(zin n).set (pwl.getD n 0) (bx (pwl.getD ((255-n)%255) 0))
theorem zvl:(zin 255).set 0 (bx 0)=sbox:=by kernel_rfl
def zim(n:Nat):(zin n).length=256:=by
 induction n with
 | zero=>exact yaL ..
 | succ n ih=>simp[zin,ih]
/-! How the constants come about: primes. -/
def primes:List Nat:=[
 2,3,5,7,11,13,17,19,23,29,31,37,41,43,47,53,59,61,67,71,73,79,83,89,97,101,103,107,109,113,127,131,
 137,139,149,151,157,163,167,173,179,181,191,193,197,199,211,223,227,229,233,239,241,251,257,263,269,271,277,281,283,293,307,311]
def prv(i:Nat):Nat:=(0::primes).getD i 0
theorem zsC:((List.range 64).all λi=>decide (prv i<prv (i+1))&&primes.contains (prv (i+1))&&decide (prv (i+1)<312)&&(List.range (prv (i+1)-prv i-1)).all λj=>!primes.contains (prv i+1+j))=true:=by kernel_rfl
def zuo{i:Nat}(h:i<64):prv i<prv (i+1)/\primes.contains (prv (i+1))=true/\prv (i+1)<312/\∀n,prv i<n->n<prv (i+1)->primes.contains n=false:=by
 have h1:=yaI.1 zsC i (yaW.2 h);simp only[yal,decide_eq_true_eq]at h1;obtain⟨⟨⟨h2,h3⟩,h4⟩,h5⟩:=h1;refine⟨h2,h3,h4,λn hn hn'=>?_⟩;have:=yaI.1 h5 (n-prv i-1) (yaW.2 (by omega));rw[show prv i+1+(n-prv i-1)=n by omega]at this;simpa using this
def rcon:Nat->Nat
 | 0=>1
 | k+1=>xt (rcon k)
def zqC(k:Nat):rcon k<256:=by
 induction k with
 | zero=>decide
 | succ k ih=>exact zky ih
def sb(x:Nat):Nat:=sbox.getD x 0
def zsx(x:Nat):sb x<256:=sbox_lt.getD x
def zmn(n i:Nat)(w:List Nat):List Nat:=
 if i%n=0 then [sb (w.getD 1 0) ^^^ rcon (i/n-1),sb (w.getD 2 0),sb (w.getD 3 0),sb (w.getD 0 0)]
 else if 6<n/\i%n=4 then [sb (w.getD 0 0),sb (w.getD 1 0),sb (w.getD 2 0),sb (w.getD 3 0)]
 else w
def kw(b:List Nat)(n:Nat):Nat->List (List Nat)
 | 0=>[]
 | i+1=>kw b n i++[if i<n then (b.drop (4*i)).take 4 else (List.range 4).map λj=>(zmn n i ((kw b n i).getD (i-1) [])).getD j 0 ^^^ ((kw b n i).getD (i-n) []).getD j 0]
def zhV(b:List Nat)(n i:Nat):(kw b n i).length=i:=by
 induction i with
 | zero=>rfl
 | succ i ih=>simp[kw,ih]
def Word(w:List Nat):Prop:=w.length=4/\Ok8 w
def zm5{n i:Nat}{w:List Nat}(h:Word w):Word (zmn n i w):=by
 unfold zmn;split
 ·refine⟨rfl,λx hx=>?_⟩;simp only[yaD,yaX,or_false]at hx;rcases hx with rfl|rfl|rfl|rfl
  ·exact zbS (zsx _) (zqC _)
  all_goals exact zsx _
 ·split
  ·refine⟨rfl,λx hx=>?_⟩;simp only[yaD,yaX,or_false]at hx;rcases hx with rfl|rfl|rfl|rfl<;>exact zsx _
  ·exact h
def zuZ{b:List Nat}{n:Nat}(hn:0<n)(hb:Ok8 b)(hl:b.length=4*n)(i:Nat):∀w∈kw b n i,Word w:=by
 induction i with
 | zero=>intro w h;cases h
 | succ i ih=>
  intro w hw;simp only[kw,yaZ,ya0]at hw;rcases hw with hw|rfl
  ·exact ih w hw
  ·split
   ·refine⟨?_,(hb.drop _).take _⟩;rw[yan,yat];omega
   ·rename_i hi;have hg:∀j,j<i->Word ((kw b n i).getD j []):=λj hj=>by
     have hlt:j<(kw b n i).length:=by rw[zhV];exact hj
     rw[yao,yag hlt];exact ih _ (ycm hlt)
    refine⟨by simp,Ok8.rmap λj hj=>zbS ((zm5 (hg _ (by omega))).2.getD j) ((hg _ (by omega)).2.getD j)⟩
def addk (ws:List (List Nat)) (r:Nat) (x:List Nat):List Nat:=(List.range 16).map λi=>x.getD i 0 ^^^ (ws.getD (4*r+i/4) []).getD (i%4) 0
def movd(x:List Nat):List Nat:=(List.range 16).map λi=>sb (x.getD ((i+4*(i%4))%16) 0)
def mixd(x:List Nat):List Nat:=(List.range 16).map λi=>xt (x.getD i 0) ^^^ xt (x.getD (i-i%4+(i+1)%4) 0) ^^^ x.getD (i-i%4+(i+1)%4) 0 ^^^ x.getD (i-i%4+(i+2)%4) 0 ^^^ x.getD (i-i%4+(i+3)%4) 0
def arnd (ws:List (List Nat)) (x:List Nat):Nat->List Nat
 | 0=>addk ws 0 x
 | n+1=>addk ws (n+1) (mixd (movd (arnd ws x n)))
def aes (ws:List (List Nat)) (x:List Nat):List Nat:=addk ws (ws.length/4-1) (movd (arnd ws x (ws.length/4-2)))
def half(l:List Nat):Nat:=be l
def zdS(x:List Nat)(n:Nat):List Nat:=
 let v:=((be (x.take 8)+(if 18446744073709551616<=be (x.drop 8)+n then 1 else 0))%18446744073709551616)
 let w:=(be (x.drop 8)+n)%18446744073709551616
 ((List.range 8).map λi=>v/256 ^ (7-i)%256)++(List.range 8).map λi=>w/256 ^ (7-i)%256
def znN (ws:List (List Nat)) (first:List Nat) (i:Nat):Nat:=(aes ws (zdS first (i/16))).getD (i%16) 0
def ctr (ws:List (List Nat)) (first b:List Nat):List Nat:=(List.range b.length).map λi=>b.getD i 0 ^^^ znN ws first i
def zeG (ws:List (List Nat)) (first b:List Nat):(ctr ws first b).length=b.length:=by simp[ctr]
def num(x n:Nat):List Nat:=(List.range n).map λi=>x/256 ^ (n-1-i)%256
def zc9(x n:Nat):(num x n).length=n:=by simp[num]
def zjy(x n:Nat):Ok8 (num x n):=Ok8.rmap λi _=>ybf _ (by decide)
def zcp(x:Nat):Nat:=if x<256 then 1 else if x<65536 then 2 else if x<16777216 then 3 else if x<4294967296 then 4 else if x<1099511627776 then 5 else if x<281474976710656 then 6 else if x<72057594037927936 then 7 else 8
def fld(x:Nat):Nat×List Nat:=if x<8 then (x,[]) else (8+zcp x-1,num x (zcp x))
def hdr(kid ctr:Nat):List Nat:=((fld kid).1*16+(fld ctr).1)::((fld kid).2++(fld ctr).2)
end Go.Ax.SU
/- Ax28 -/
namespace Go.Ax
section
variable {m:Map} {Z:Nat->Prop} {H:Heap} {w:World}
def zfI{id off:Nat}{b:Blk}{l:Loc}{v:V}(r:RelH m Z H w)(hb:H.get id=some b)(hm:AtC m id l) (hv:b.cells[off]?=some v) :
  (∃x,w.cell? ⟨l.blk,off+l.bo,none⟩=some x/\Rep m Z w v x)/\w.frozen? ⟨l.blk,off+l.bo,none⟩=false:=by
 obtain⟨cur,fz,hL⟩:=r.at_ hb hm;obtain⟨x,hx,hr⟩:=hL.get hv;refine⟨⟨x,by rw[hL.cell];exact hx,hr⟩,?_⟩;have hlt:off+l.bo<cur.size:=(yaG.1 hx).1;simp only[World.frozen?,hL.heap];have:=hL.free (off+l.bo) hlt;simp;omega
def zsN{p v:V}{H':Heap}{X:Value} (h:mload none p H=some (v,H')) (hp:Rep m Z w p X) (r:RelH m Z H w):H'=H/\∃a x,X = .pointer (some a)/\w.cell? a=some x/\Rep m Z w v x:=by
 cases p<;>simp only[mload,ldc,yaa,yac,yae,reduceCtorEq]at h
 ·obtain⟨b,hb,v',hv,rfl,rfl⟩:=h;obtain⟨l,hm,rfl⟩:=hp.inv_ptr;obtain⟨⟨x,hx,hr⟩,_⟩:=zfI r hb hm hv;exact⟨rfl,_,x,rfl,hx,hr⟩
 ·obtain⟨v',hv,rfl,rfl⟩:=h;obtain⟨b,o,rfl,hz,hrd⟩:=hp.inv_rp;obtain⟨_,x,hx,hr⟩:=hrd _ _ hv;exact⟨rfl,_,x,rfl,hx,hr⟩
def zoo{k:IntKind}{n:Int}{v c:V} (h:Ax.bin .eql v (.int k n)=some c):∃d,v = .int k d/\c = .bool (decide (d=n)):=by
 cases v<;>simp only[Ax.bin,reduceCtorEq]at h
 ·split at h
  ·rename_i hk;subst hk;simp only[zcy,yab]at h;exact⟨_,rfl,by rw[<-h];congr 1⟩
  ·cases h
def uL(o:Option V)(f:V->M Res):M Res:=(M.lift o).bind f
def uM(p:V)(f:V->M Res):M Res:=(mload none p).bind f
def uS(n:Nat)(p:V)(f:V->M Res):M Res:=(mload (some n) p).bind f
def uT(n:Nat)(p v:V)(f:V->M Res):M Res:=(mstore n p v).bind f
def uF(k:Nat)(p:V)(f:V->M Res):M Res:=(M.lift (Ax.faddr k p)).bind f
def uFM(k:Nat)(p:V)(f:V->M Res):M Res:=(M.lift (Ax.faddr k p)).bind λa=>(mload none a).bind f
def uNFM(k:Nat)(p:V)(f:V->M Res):M Res:=(M.lift (Ax.nilck p)).bind λa=>(M.lift (Ax.faddr k a)).bind λb=>(mload none b).bind f
def uNF(k:Nat)(p:V)(f:V->M Res):M Res:=(M.lift (Ax.nilck p)).bind λa=>(M.lift (Ax.faddr k a)).bind f
def uE(k:Nat)(p:V)(f:V->M Res):M Res:=(M.lift (Ax.ext k p)).bind f
def uN(p:V)(f:V->M Res):M Res:=(M.lift (Ax.nilck p)).bind f
def uB(b:BinOp)(x y:V)(f:V->M Res):M Res:=(M.lift (Ax.bin b x y)).bind f
def uI(n:Option Nat)(e:Nat)(p i:V)(f:V->M Res):M Res:=(M.lift (Ax.iaddr n e p i)).bind f
def uIM(n:Option Nat)(e:Nat)(p i:V)(f:V->M Res):M Res:=(M.lift (Ax.iaddr n e p i)).bind λa=>(mload none a).bind f
def uG(c:V)(b:Bool)(x:M V)(f:V->M Res):M Res:=(guarded [(0,c)] (some (0,b)) x).bind f
def uH(c:V)(b:Bool)(o:Option V)(f:V->M Res):M Res:=(guarded [(0,c)] (some (0,b)) (M.lift o)).bind f
def uO(t:TypeId)(x:V)(f:V->M Res):M Res:=(mbox t x).bind f
def uU(p:V)(h k:Heap)(f:Unit->M Res):M Res:=(M.unch p h k).bind f
def uA(G:Sem')(n:FuncId)(l:List V)(f:V->M Res):M Res:=(G n l).bind f
def uZ(f:Heap->M Res):M Res:=M.getH.bind f
def uR(l:List V):M Res:=M.pure (.ret l)
def uK(l:List V):M Res:=M.pure (.nrm l)
def uc(n:Int):V:=.int .i64 n
def ub(n:Int):V:=.int .u8 n
def uq(n:Int):V:=.int .u64 n
def ug(L:List V)(n:Nat):V:=L.getD n .undef
/-! sync.Once's Do. -/
def f_once(G:Sem')(t0 t1:V):M Res:=(mload none t0).bind λt2=> (M.lift (Ax.bin .eql t2 (.int .u32 0))).bind λt3=> M.ite t3 ((M.lift (Ax.faddr 1 t0)).bind λt4=> (mload none t4).bind λt5=> (M.lift (Ax.bin .eql t5 (.int .i32 0))).bind λt6=> M.ite t6 ((mstore 1 t4 (.int .i32 1)).bind λ_=> (callv G t1 []).bind λ_=> (mload none t4).bind λt7=> (M.lift (Ax.bin .eql t7 (.int .i32 1))).bind λt8=>(mload none t0).bind λt9=> (M.lift (Ax.bin .eql t9 (.int .u32 0))).bind λt10=> M.ite t8 (M.ite t10 ((mstore 1 t0 (.int .u32 1)).bind λ_=> (mstore 1 t4 (.int .i32 0)).bind λ_=> M.pure (.ret [])) M.fail) M.fail) M.fail) (M.pure (.ret []))
def eq_once(G:Sem')(t0 t1:V):execK G zjw.rv zjw.body [] [] (params 0 [t0,t1])=f_once G t0 t1:=rfl
def zg0{id off:Nat}{v u:V}{H H':Heap} (h:mstore 1 (.ptr id off) v H=some (u,H')):∃b,H.get id=some b/\off+1<=b.cells.length/\H'=H.set id (some { b with cells:=splice b.cells off v.cells }):=by
 simp only[mstore,yaa]at h;obtain⟨b,hb,h⟩:=h;split at h
 ·rename_i hc;injection h with h
  injection h with h1 h2
  exact⟨b,hb,hc.2.1,h2.symm⟩
 ·cases h
def once_run{G:Sem'}{args:List V}{H H':Heap}{v:V}(hl:args.length<=2) (h:zjw.run G args H=some (v,H')) :
  ∃p g,args=[p,g]/\v = .tup []/\∃d,mload none p H=some (.int .u32 d,H)/\((d≠0/\H'=H)\/(d=0/\∃id off b,p = .ptr id off/\H.get id=some b/\b.cells[off]?=some (.int .u32 0)/\b.cells[off+1]?=some (.int .i32 0) /\
   ∃f caps x H2 b2,g = .fn f caps/\G f caps (H.set id (some { b with cells:=splice b.cells (off+1) [.int .i32 1] }))=some (x,H2)/\H2.get id=some b2/\b2.cells[off]?=some (.int .u32 0)/\b2.cells[off+1]?=some (.int .i32 1) /\
    H'=(H2.set id (some { b2 with cells:=splice b2.cells off [.int .u32 1] })).set id (some { b2 with cells:=splice (splice b2.cells off [.int .u32 1]) (off+1) [.int .i32 0] }))):=by
 rw[zrD]at h;obtain⟨p,g,rfl⟩:∃p g,args=[p,g]:=by
  cases args with
  | nil=>
   replace h:=bind_some h;obtain⟨_,_,h1,_⟩:=h;cases h1
  | cons p args=>
   cases args with
   | nil=>
    replace h:=bind_some h;obtain⟨_,_,h1,_⟩:=h;cases h1
   | cons g args=>
    cases args with
    | nil=>exact⟨p,g,rfl⟩
    | cons _ _=>simp at hl
 rw[eq_once]at h;replace h:=bind_some h;obtain⟨r,H9,h,hfin⟩:=h;have hret:r = .ret []->v = .tup []/\H'=H9:=by
  rintro rfl;have:=zar hfin;simp only[yae]at this;exact⟨this.1,this.2⟩
 unfold f_once at h;replace h:=bind_some h;obtain⟨t2,H1,hld,h⟩:=h;replace h:=bind_some h;obtain⟨t3,H1',h3,h⟩:=h;replace h3:=zap h3;obtain⟨k3,rfl⟩:=h3;have e1:H1'=H:=by
  cases p<;>simp only[mload,yaa,yac,yae,reduceCtorEq]at hld
  ·obtain⟨_,_,_,_,_,rfl⟩:=hld;rfl
  ·obtain⟨_,_,_,rfl⟩:=hld;rfl
 subst e1;obtain⟨d,rfl,rfl⟩:=zoo k3;replace h:=zdK h;obtain⟨t,ht,h⟩:=h;injection ht with ht
 subst ht;by_cases hd:d=0
 case neg=>
  rw[if_neg (by simpa using hd)]at h;have:=zar h;simp only[yae]at this;obtain⟨e2,e3⟩:=hret this.1;exact⟨p,g,rfl,e2,d,hld,.inl ⟨hd,e3.trans this.2⟩⟩
 subst hd;rw[if_pos (by simp)]at h;replace h:=bind_some h;obtain⟨t4,H2,h4,h⟩:=h;replace h4:=zap h4;obtain⟨k4,rfl⟩:=h4;replace h:=bind_some h;obtain⟨t5,H3,h5,h⟩:=h;replace h:=bind_some h;obtain⟨t6,H3',h6,h⟩:=h;replace h6:=zap h6;obtain⟨k6,rfl⟩:=h6;obtain⟨d5,rfl,rfl⟩:=zoo k6;replace h:=zdK h;obtain⟨t,ht,h⟩:=h;injection ht with ht
 subst ht;by_cases hd5:d5=0
 case neg=>rw[if_neg (by simpa using hd5)]at h;cases h
 subst hd5;rw[if_pos (by simp)]at h;replace h:=bind_some h;obtain⟨_,H4,hs1,h⟩:=h;obtain⟨id,off,rfl,rfl⟩:∃id off,p = .ptr id off/\t4 = .ptr id (off+1):=by
  cases p<;>simp only[Ax.faddr,reduceCtorEq,yab]at k4
  ·exact⟨_,_,rfl,k4.symm⟩
  ·subst k4;simp only[mstore,reduceCtorEq]at hs1
 simp only[mload,ldc,yaa,yac,yae]at hld h5;obtain⟨b,hb,_,hc0,rfl,_⟩:=hld;obtain⟨b',hb',_,hc1,rfl,rfl⟩:=h5;rw[hb]at hb';injection hb' with hb'
 subst hb';obtain⟨b',hb',hle,rfl⟩:=zg0 hs1;rw[hb]at hb';injection hb' with hb'
 subst hb';replace h:=bind_some h;obtain⟨x,H5,hcv,h⟩:=h;obtain⟨f,caps,rfl,hcall⟩:∃f caps,g = .fn f caps/\G f caps _=some (x,H5):=by
  cases g<;>simp only[callv,M.fail,reduceCtorEq]at hcv
  exact⟨_,_,rfl,hcv⟩
 replace h:=bind_some h;obtain⟨t7,H6,h7,h⟩:=h;replace h:=bind_some h;obtain⟨t8,H6',h8,h⟩:=h;replace h8:=zap h8;obtain⟨k8,rfl⟩:=h8;obtain⟨d7,rfl,rfl⟩:=zoo k8;replace h:=bind_some h;obtain⟨t9,H7,h9,h⟩:=h;replace h:=bind_some h;obtain⟨t10,H7',h10,h⟩:=h;replace h10:=zap h10;obtain⟨k10,rfl⟩:=h10;obtain⟨d9,rfl,rfl⟩:=zoo k10;replace h:=zdK h;obtain⟨t,ht,h⟩:=h;injection ht with ht
 subst ht;by_cases hd7:d7=1
 case neg=>rw[if_neg (by simpa using hd7)]at h;cases h
 subst hd7;rw[if_pos (by simp)]at h;replace h:=zdK h;obtain⟨t,ht,h⟩:=h;injection ht with ht
 subst ht;by_cases hd9:d9=0
 case neg=>rw[if_neg (by simpa using hd9)]at h;cases h
 subst hd9;rw[if_pos (by simp)]at h;simp only[mload,ldc,yaa,yac,yae]at h7 h9;obtain⟨b2,hb2,_,hc7,rfl,rfl⟩:=h7;obtain⟨b2',hb2',_,hc9,rfl,rfl⟩:=h9;rw[hb2]at hb2';injection hb2' with hb2'
 subst hb2';replace h:=bind_some h;obtain⟨_,H8,hs8,h⟩:=h;obtain⟨b8,hb8,hle8,rfl⟩:=zg0 hs8;rw[hb2]at hb8;injection hb8 with hb8
 subst hb8;replace h:=bind_some h;obtain⟨_,H8,hs9,h⟩:=h;obtain⟨b9,hb9,hle9,rfl⟩:=zg0 hs9;simp only[Heap.set,if_true,yab]at hb9;subst hb9;have:=zar h;simp only[yae]at this;obtain⟨e2,e3⟩:=hret this.1;refine⟨_,_,rfl,e2,0,?_,.inr ⟨rfl,id,off,b,rfl,hb,hc0,hc1,f,caps,x,H5,b2,rfl,hcall,hb2,hc9,hc7,e3.trans this.2⟩⟩;simp only[mload,ldc,hb,hc0,Option.bind_some,yas]
end
end Go.Ax
