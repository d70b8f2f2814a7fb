/-
  Texts of mine, put together by program (wip/slim.py), for law_deskEpochs: part 7.
-/
import Derived.Test.YthghlbdejdideaaGreatZe6
import Derived.Test.YthghlbdejdideaaGreatRows
import Derived.ProofKit
import Derived.OpenShut
import Derived.JoinedCond
import Derived.Below
import Derived.ChangeSame
import Derived.ReadAgain
import Derived.ChangeOld
import Derived.Deep.Slices
noncomputable section
set_option linter.unusedVariables false
set_option linter.unusedSimpArgs false
set_option linter.defProp false
set_option maxRecDepth 100000
/- Ax18 -/
namespace Go.Ax
open Go.ChangeShapes Go.WideShapes Go.Deep Go.RowKit
inductive Sh where
 | bool
 | int (k:IntKind)
 | str
 | sl (e:Sh)
 | st (fs:List Sh)
 | ar (n:Nat) (e:Sh)
mutual
def Sh.size:Sh→Nat
 | .bool=>1
 | .int _=>1
 | .str=>1
 | .sl _=>1
 | .st fs=>Sh.sizes fs
 | .ar n e=>n*Sh.size e
def Sh.sizes:List Sh→Nat
 | []=>0
 | s::ss=>Sh.size s+Sh.sizes ss
end
mutual
def Sh.Ty:Sh→List V→Prop
 | .bool,vs=>∃b,vs=[.bool b]
 | .int k,vs=>∃n,vs=[.int k n]∧k.min≤n∧n≤k.max
 | .str,vs=>∃s:ByteArray,vs=[.str s]∧s.size≤maxLen
 | .sl e,vs=>vs=[.nils]∨∃es:List (List V),vs=[.rs es.flatten es.length]∧es.length≤maxLen∧∀x∈es,Sh.Ty e x
 | .st fs,vs=>Sh.Tys fs vs
 | .ar n e,vs=>∃es:List (List V),vs=es.flatten∧es.length=n∧∀x∈es,Sh.Ty e x
def Sh.Tys:List Sh→List V→Prop
 | [],vs=>vs=[]
 | s::ss,vs=>∃a b,vs=a++b∧Sh.Ty s a∧Sh.Tys ss b
end
mutual
def V.blk:V→Nat
 | .str s=>s.size+1
 | .rs cells _=>V.blks cells+1
 | .agg cs=>V.blks cs
 | _=>1
def V.blks:List V→Nat
 | []=>0
 | v::vs=>V.blk v+V.blks vs
end
theorem zi6(a b:List V):V.blks (a++b)=V.blks a+V.blks b:=by
 induction a with
 | nil=>simp[V.blks]
 | cons v a ih=>simp[V.blks,ih,Nat.add_assoc]
mutual
theorem zwR:∀(s:Sh) (vs:List V),Sh.Ty s vs→vs.length=Sh.size s
 | .bool,vs,h=>by obtain⟨b,rfl⟩:=h; rfl
 | .int k,vs,h=>by obtain⟨n,rfl,_⟩:=h; rfl
 | .str,vs,h=>by obtain⟨s,rfl,_⟩:=h; rfl
 | .sl e,vs,h=>by
  rcases h with rfl|⟨es,rfl,_⟩
  ·rfl
  ·rfl
 | .st fs,vs,h=>by simpa [Sh.size]using zwQ fs vs h
 | .ar n e,vs,h=>by
  obtain⟨es,rfl,hn,he⟩:=h;simp only[Sh.size,List.length_flatten];subst hn;have:∀(l:List (List V)),(∀x∈l,x.length=Sh.size e)→(l.map List.length).sum=l.length*Sh.size e:=by
   intro l hl
   induction l with
   | nil=>simp
   | cons x l ih=>simp only[List.map_cons,List.sum_cons,List.length_cons,ih λy hy=>hl y (List.mem_cons_of_mem _ hy),hl x (List.mem_cons_self ..)]; rw[Nat.add_mul]; omega
  exact this es λx hx=>zwR e x (he x hx)
theorem zwQ:∀(ss:List Sh) (vs:List V),Sh.Tys ss vs→vs.length=Sh.sizes ss
 | [],vs,h=>by have:vs=[]:=h; subst this; rfl
 | s::ss,vs,h=>by
  obtain⟨a,b,rfl,ha,hb⟩:=h;simp[Sh.sizes,zwR s a ha,zwQ ss b hb]
end
mutual
theorem zsE:∀(s:Sh) (vs:List V),Sh.Ty s vs→∀v∈vs,v.one=true
 | .bool,vs,h=>by obtain⟨b,rfl⟩:=h; simp[V.one]
 | .int k,vs,h=>by obtain⟨n,rfl,_⟩:=h; simp[V.one]
 | .str,vs,h=>by obtain⟨s,rfl,_⟩:=h; simp[V.one]
 | .sl e,vs,h=>by
  rcases h with rfl|⟨es,rfl,_⟩
  ·simp[V.one]
  ·simp[V.one]
 | .st fs,vs,h=>zwP fs vs h
 | .ar n e,vs,h=>by
  obtain⟨es,rfl,hn,he⟩:=h;intro v hv;obtain⟨x,hx,hvx⟩:=List.mem_flatten.1 hv;exact zsE e x (he x hx) v hvx
theorem zwP:∀(ss:List Sh) (vs:List V),Sh.Tys ss vs→∀v∈vs,v.one=true
 | [],vs,h=>by have:vs=[]:=h; subst this; simp
 | s::ss,vs,h=>by
  obtain⟨a,b,rfl,ha,hb⟩:=h;intro v hv;rcases List.mem_append.1 hv with hv|hv
  ·exact zsE s a ha v hv
  ·exact zwP ss b hb v hv
end
/-! The shapes of a program's types. -/
def offs(P:Program):Nat→List Field→List Sh→Bool
 | _,[],[]=>true
 | o,f::fs,s::ss=>decide (f.offset=o∧P.cellsOf f.type=Sh.size s)&&offs P (o+Sh.size s) fs ss
 | _,_,_=>false
def zpN(g:TypeId→Option Sh):List TypeId→Option (List Sh)
 | []=>some []
 | t::ts=>(g t).bind λs=>(zpN g ts).map (s :: ·)
def shOf(P:Program):Nat→TypeId→Option Sh
 | 0,_=>none
 | n+1,t =>
  match P.underlying t with
  | some .bool=>some .bool
  | some (.int k)=>some (.int k)
  | some .string=>some .str
  | some (.slice e)=>(shOf P n e).bind λs=>if P.cellsOf e=Sh.size s∧0<Sh.size s then some (.sl s) else none
  | some (.struct fs)=>(zpN (shOf P n) (fs.toList.map (·.type))).bind λss=>if offs P 0 fs.toList ss=true∧P.cellsOf t=Sh.sizes ss then some (.st ss) else none
  | some (.array m e)=>(shOf P n e).bind λs=>if P.cellsOf e=Sh.size s∧P.cellsOf t=m*Sh.size s then some (.ar m s) else none
  | _=>none
theorem zrv{α:Type}{k:Nat}(hk:0<k):∀(es:List (List α)),(∀x∈es,x.length=k)→∀j:Nat,es.flatten[j]?=(es[j/k]?).bind λx=>x[j%k]?:=by
 intro es
 induction es with
 | nil=>intro _ j; simp
 | cons x es ih =>
  intro h j;have hx:=h x (List.mem_cons_self ..);have hes:=λy hy=>h y (List.mem_cons_of_mem _ hy);simp only[List.flatten_cons,List.getElem?_append,hx];by_cases hj:j<k
  ·rw[if_pos hj,Nat.div_eq_of_lt hj,Nat.mod_eq_of_lt hj]; simp
  ·rw[if_neg hj,ih hes (j-k)];have e1:j/k=(j-k)/k+1:=by
    have:j=(j-k)+k:=by omega
    conv=>lhs; rw[this]
    exact Nat.add_div_right _ hk
   have e2:j%k=(j-k)%k:=by
    have:j=(j-k)+k:=by omega
    conv=>lhs; rw[this]
    exact Nat.add_mod_right _ _
   rw[e1,e2]; simp
theorem zm2{H:Type}(f:Nat→List V)(D:Nat→DataW H):∀(l:List Nat),(∀i∈l,V.blks (f i)≤Proofs.YthghlbdejdideaaGreat.Rows.uptoBulk (D i))→V.blks (l.map f).flatten≤Proofs.YthghlbdejdideaaGreat.Rows.uptoBulkAll (l.map D):=by
 intro l
 induction l with
 | nil=>intro _; simp[V.blks]
 | cons i l ih =>
  intro h;simp only[List.map_cons,List.flatten_cons,zi6,Proofs.YthghlbdejdideaaGreat.Rows.uptoBulkAll];have:=ih λj hj=>h j (List.mem_cons_of_mem _ hj);have:=h i (List.mem_cons_self ..);omega
section
variable {H:Type} {enc:TypeId×Value→H} {P:Program} {w:World} {spare:Nat→Bool} {held:Bool}
def RepC(w:World)(vs:List V)(cs:List Value):Prop :=
 vs.length=cs.length∧∀(j:Nat) (v:V) (x:Value),vs[j]?=some v→cs[j]?=some x→Rep (λ_=>none) (λb=>b<w.heap.size) w v x
theorem RepC.append{a b:List V}{c d:List Value}(h:RepC w a c)(k:RepC w b d):RepC w (a++b) (c++d):=by
 refine⟨by simp[h.1,k.1],λj v x hv hx=>?_⟩;rw[List.getElem?_append]at hv hx;rw[←h.1]at hx;split at hv
 ·rename_i hj;rw[if_pos hj]at hx;exact h.2 j v x hv hx
 ·rename_i hj;rw[if_neg hj]at hx;exact k.2 _ v x hv hx
theorem zmR{α:Type}(cs:List α)(o n:Nat):cs.drop o=(cs.drop o).take n++cs.drop (o+n):=by
 rw[←List.drop_drop,List.take_append_drop]
theorem zwA{a:Addr}{v:Value}(h:w.cell? a=some v):a.block<w.heap.size∧a.spot=none:=by
 unfold World.cell? at h;cases hb:w.heap[a.block]? with
 | none=>rw[hb]at h; cases h
 | some o =>
  refine⟨(Array.getElem?_eq_some_iff.1 hb).1,?_⟩;rw[hb]at h;cases o with
  | cells c t f =>
   dsimp only at h;cases hs:a.spot with
   | none=>rfl
   | some _=>rw[hs]at h; simp at h
  | _=>cases h
theorem zs4{g:TypeId→Option Sh}:∀{ts:List TypeId} {ss:List Sh},zpN g ts=some ss→ss.length=ts.length∧∀(i:Nat) (t:TypeId) (s:Sh),ts[i]?=some t→ss[i]?=some s→g t=some s:=by
 intro ts
 induction ts with
 | nil=>intro ss h; simp only[zpN,Option.some.injEq]at h; subst h; simp
 | cons t ts ih =>
  intro ss h;simp only[zpN,Option.bind_eq_some_iff,Option.map_eq_some_iff]at h;obtain⟨s,hs,ss',hss,rfl⟩:=h;obtain⟨h1,h2⟩:=ih hss;refine⟨by simp[h1],λi t' s' ht hs'=>?_⟩;cases i with
  | zero=>simp only[List.getElem?_cons_zero,Option.some.injEq]at ht hs'; subst ht hs'; exact hs
  | succ i=>exact h2 i t' s' (by simpa using ht) (by simpa using hs')
theorem trod_sh:∀(n:Nat) (t:TypeId) (s:Sh) (fuel:Nat) (cs:List Value) (x:DataW H×List MemPlace),shOf P n t=some s→DataW.trod enc P w 0 spare held fuel t cs=some x →
  ∃vs,Sh.Ty s vs∧RepC w vs cs∧V.blks vs≤Proofs.YthghlbdejdideaaGreat.Rows.uptoBulk x.1:=by
 intro n
 induction n with
 | zero=>intro t s fuel cs x h; cases h
 | succ n ih =>
  intro t s fuel cs x hs h;have one:∀{v:V} {c:Value},Rep (λ_=>none) (λb=>b<w.heap.size) w v c→RepC w [v] [c]:=by
   intro v c hr;refine⟨rfl,λj u y hu hy=>?_⟩;cases j with
   | zero=>simp only[List.getElem?_cons_zero,Option.some.injEq]at hu hy; subst hu hy; exact hr
   | succ j=>simp at hu
  cases hu:P.underlying t with
  | none=>simp only[shOf,hu,reduceCtorEq]at hs
  | some d =>
   cases d<;>simp only[shOf,hu,reduceCtorEq,Option.some.injEq]at hs
   case bool =>
    subst hs;obtain⟨b,rfl,rfl⟩:=DataW.trod_bool hu h;exact⟨[.bool b],⟨b,rfl⟩,one (.bool b),by simp[V.blks,V.blk,Proofs.YthghlbdejdideaaGreat.Rows.uptoBulk]⟩
   case int k =>
    subst hs;obtain⟨i,rfl,rfl,hw⟩:=DataW.trod_int hu h;simp only[Lit.wf,Bool.and_eq_true,decide_eq_true_eq]at hw;exact⟨[.int k i],⟨i,rfl,hw⟩,one (.int k i),by simp[V.blks,V.blk,Proofs.YthghlbdejdideaaGreat.Rows.uptoBulk]⟩
   case string =>
    subst hs;obtain⟨b,rfl,rfl,hw⟩:=DataW.trod_string hu h;exact⟨[.str b],⟨b,rfl,hw⟩,one (.str b),by
     simp only[V.blks,V.blk,Proofs.YthghlbdejdideaaGreat.Rows.uptoBulk];have:b.data.toList.length=b.size:=rfl;omega⟩
   case slice e =>
    simp only[Option.bind_eq_some_iff]at hs;obtain⟨se,hse,hs⟩:=hs;split at hs
    ·rename_i hsz;simp only[Option.some.injEq]at hs;subst hs;rcases open_slice hu h with⟨rfl,rfl⟩|⟨a,len,cap,m,k,D,Pl,rfl,_,hlc,hcm,hm,rfl,hi⟩
     ·exact⟨[.nils],.inl rfl,one .nils,by simp[V.blks,V.blk,Proofs.YthghlbdejdideaaGreat.Rows.uptoBulk]⟩
     ·have hlm:len≤m:=by rw[hm]; split<;>omega
      have hex:∀i,i<len→∃vs,Sh.Ty se vs∧(∃cs',w.cells? 0 (a.add (i*P.cellsOf e)) (P.cellsOf e)=some cs'∧RepC w vs cs')∧V.blks vs≤Proofs.YthghlbdejdideaaGreat.Rows.uptoBulk (D i):=by
       intro i hil;obtain⟨cs',hc,ht⟩:=hi i (by omega);obtain⟨vs,h1,h2,h3⟩:=ih e se k cs' (D i,Pl i) hse ht;exact⟨vs,h1,⟨cs',hc,h2⟩,h3⟩
      obtain⟨f,hf⟩:=choose_lt hex;have hlen:∀y∈(List.range len).map f,y.length=Sh.size se:=by
       intro y hy;obtain⟨i,hir,rfl⟩:=List.mem_map.1 hy;exact zwR _ _ (hf i (List.mem_range.1 hir)).1
      have hty:∀y∈(List.range len).map f,Sh.Ty se y:=by
       intro y hy;obtain⟨i,hir,rfl⟩:=List.mem_map.1 hy;exact(hf i (List.mem_range.1 hir)).1
      -- cell by cell
      have cell:∀(j:Nat) (v:V),((List.range len).map f).flatten[j]?=some v→a.spot=none∧a.block<w.heap.size∧∃y,w.cell? ⟨a.block,a.off+j,none⟩=some y∧Rep (λ_=>none) (λb=>b<w.heap.size) w v y:=by
       intro j v hj;rw[zrv hsz.2 _ hlen]at hj;simp only[Option.bind_eq_some_iff,List.getElem?_map,Option.map_eq_some_iff]at hj;obtain⟨vs,⟨i,hir,rfl⟩,hv⟩:=hj;have hil:i<len∧i=j/Sh.size se:=by
        rw[List.getElem?_eq_some_iff]at hir;obtain⟨h1,h2⟩:=hir;simp only[List.length_range]at h1;simp only[List.getElem_range]at h2;omega
       obtain⟨hil,rfl⟩:=hil;obtain⟨_,⟨cs',hc,hr⟩,_⟩:=hf _ hil;obtain⟨_,hcl,hat⟩:=World.cells?_some hc;have hmod:j%Sh.size se<Sh.size se:=Nat.mod_lt _ hsz.2;obtain⟨y,hcs⟩:∃y,cs'[j%Sh.size se]?=some y:=⟨_,List.getElem?_eq_getElem (by rw[hcl,hsz.1]; exact hmod)⟩;have hcell:=hat (j%Sh.size se) (by rw[hsz.1]; exact hmod);rw[hcs,Go.Deep.add_add,hsz.1]at hcell;have hdm:j/Sh.size se*Sh.size se+j%Sh.size se=j:=by
        have:=Nat.div_add_mod j (Sh.size se);rw[Nat.mul_comm]at this; exact this
       rw[hdm]at hcell;have h0:=(zwA hcell).1;have hspot:a.spot=none:=by
        obtain⟨_,⟨cs0,hc0,hr0⟩,_⟩:=hf 0 (Nat.lt_of_le_of_lt (Nat.zero_le _) hil);obtain⟨_,hcl0,hat0⟩:=World.cells?_some hc0;have h00:=hat0 0 (by rw[hsz.1]; exact hsz.2);obtain⟨y0,hcs0⟩:∃y,cs0[0]?=some y:=⟨_,List.getElem?_eq_getElem (by rw[hcl0,hsz.1]; exact hsz.2)⟩;rw[hcs0,Go.Deep.add_add]at h00;have:=(zwA h00).2;simpa [Addr.add]using this
       have hadd:a.add j=⟨a.block,a.off+j,none⟩:=by
        obtain⟨ab,ao,asp⟩:=a;dsimp only at hspot;subst hspot;exact zsD ab ao j
       rw[hadd]at hcell h0;exact⟨hspot,h0,_,hcell,hr.2 _ v _ hv hcs⟩
      refine⟨[.rs ((List.range len).map f).flatten len],.inr ⟨(List.range len).map f,by simp,by simp; omega,hty⟩,one ?_,?_⟩
      ·refine .rs a.block a.off (λj=>(w.cell? ⟨a.block,a.off+j,none⟩).getD Go.undef) hlc ?_ (λj v hj=>?_) λj v hj=>?_
       ·by_cases hl0:len=0
        ·exact .inl hl0
        ·right;have h0:0<((List.range len).map f).flatten.length:=by
          obtain⟨l0,hl0'⟩:∃l0,len=l0+1:=⟨len-1,by omega⟩;have hm0:f 0∈(List.range len).map f:=List.mem_map.2 ⟨0,List.mem_range.2 (by omega),rfl⟩;have:=hlen _ hm0;have hsub:(f 0).length≤((List.range len).map f).flatten.length:=by
           rw[hl0',List.range_succ_eq_map]; simp
          omega
         obtain⟨h1,h2,_⟩:=cell 0 _ (List.getElem?_eq_getElem h0);refine⟨by cases a; simp_all,h2,λj v hj=>?_⟩;obtain⟨_,_,y,hy,_⟩:=cell j v hj;rw[hy]; rfl
       ·have hm:=List.mem_of_getElem? hj;obtain⟨y,hy,hvy⟩:=List.mem_flatten.1 hm;exact zsE se y (hty y hy) v hvy
       ·obtain⟨_,_,y,hy,hr⟩:=cell j v hj;rw[hy]; exact hr
      ·simp only[V.blks,V.blk,Proofs.YthghlbdejdideaaGreat.Rows.uptoBulk];have:=zm2 f D (List.range len) λi hir=>(hf i (List.mem_range.1 hir)).2.2;omega
    ·cases hs
   case struct fs =>
    simp only[Option.bind_eq_some_iff]at hs;obtain⟨ss,hss,hs⟩:=hs;split at hs
    ·rename_i hof;simp only[Option.some.injEq]at hs;subst hs;obtain⟨xs,k,_,rfl,hcl,hxl,hf⟩:=DataW.trod_struct hu h;obtain⟨hsl,hsg⟩:=zs4 hss;have key:∀(fl:List Field) (ss:List Sh) (o:Nat) (ys:List (DataW H×List MemPlace)),offs P o fl ss=true→(∀(i:Nat) (f:Field) (s:Sh),fl[i]?=some f→ss[i]?=some s→shOf P n f.type=some s)→ys.length=fl.length →
       (∀(i:Nat) (f:Field),fl[i]?=some f→DataW.trod enc P w 0 spare held k f.type ((cs.drop f.offset).take (P.cellsOf f.type))=ys[i]?)→o+Sh.sizes ss=cs.length →
       ∃vs,Sh.Tys ss vs∧RepC w vs (cs.drop o)∧V.blks vs≤Proofs.YthghlbdejdideaaGreat.Rows.uptoBulkAll (ys.map (·.1)):=by
      intro fl
      induction fl with
      | nil =>
       intro ss o ys ho _ hyl _ hlen;cases ss with
       | cons s ss=>simp[offs]at ho
       | nil =>
        simp only[Sh.sizes,Nat.add_zero]at hlen;refine⟨[],rfl,⟨by simp[hlen],by simp⟩,by simp[V.blks]⟩
      | cons f fl ihf =>
       intro ss o ys ho hg hyl hfy hlen;cases ss with
       | nil=>simp[offs]at ho
       | cons s ss =>
        simp only[offs,Bool.and_eq_true,decide_eq_true_eq]at ho;obtain⟨⟨ho1,ho2⟩,ho3⟩:=ho;cases ys with
        | nil=>simp at hyl
        | cons y ys =>
         have h0:=hfy 0 f rfl;simp only[List.getElem?_cons_zero]at h0;obtain⟨va,ha1,ha2,ha3⟩:=ih f.type s k _ y (hg 0 f s rfl rfl) h0;obtain⟨vb,hb1,hb2,hb3⟩:=ihf ss (o+Sh.size s) ys ho3 (λi f' s' h1 h2=>hg (i+1) f' s' (by simpa using h1) (by simpa using h2)) (by simpa using hyl) (λi f' h1=>by simpa using hfy (i+1) f' (by simpa using h1)) (by simp only[Sh.sizes]at hlen; omega);refine⟨va++vb,⟨va,vb,rfl,ha1,hb1⟩,?_,?_⟩
         ·rw[zmR cs o (Sh.size s)];rw[ho1,ho2]at ha2;exact ha2.append hb2
         ·simp only[zi6,List.map_cons,Proofs.YthghlbdejdideaaGreat.Rows.uptoBulkAll];omega
     obtain⟨vs,h1,h2,h3⟩:=key fs.toList ss 0 xs hof.1 (λi f s h1 h2=>hsg i f.type s (by simp[h1]) h2) (by simpa using hxl) (λi f h1=>hf i f (by simpa using h1)) (by rw[Nat.zero_add,hcl,hof.2]);refine⟨vs,h1,by simpa using h2,?_⟩;simp only[Proofs.YthghlbdejdideaaGreat.Rows.uptoBulk];omega
    ·cases hs
   case array mm e =>
    simp only[Option.bind_eq_some_iff]at hs;obtain⟨se,hse,hs⟩:=hs;split at hs
    ·rename_i hsz;simp only[Option.some.injEq]at hs;subst hs;obtain⟨xs,k,_,rfl,hcl,hxl,hf⟩:=DataW.trod_array hu h;have key:∀(i:Nat),i≤mm→∃es:List (List V),es.length=i∧(∀y∈es,Sh.Ty se y)∧RepC w es.flatten (cs.take (i*Sh.size se))∧V.blks es.flatten≤Proofs.YthghlbdejdideaaGreat.Rows.uptoBulkAll ((xs.take i).map (·.1)):=by
      intro i
      induction i with
      | zero=>intro _; exact⟨[],rfl,by simp,⟨by simp,by simp⟩,by simp[V.blks]⟩
      | succ i ihi =>
       intro hi;obtain⟨es,h1,h2,h3,h4⟩:=ihi (by omega);have hxi:xs[i]?=some (xs[i]'(by omega)):=List.getElem?_eq_getElem _;have ht:=(hf i (by omega)).trans hxi;obtain⟨va,ha1,ha2,ha3⟩:=ih e se k _ _ hse ht;refine⟨es++[va],by simp[h1],λy hy=>?_,?_,?_⟩
       ·rcases List.mem_append.1 hy with hy|hy
        ·exact h2 y hy
        ·rw[List.mem_singleton.1 hy]; exact ha1
       ·have:cs.take ((i+1)*Sh.size se)=cs.take (i*Sh.size se)++(cs.drop (i*Sh.size se)).take (Sh.size se):=by
         rw[Nat.add_mul,Nat.one_mul,List.take_add]
        rw[this];simp only[List.flatten_append,List.flatten_cons,List.flatten_nil,List.append_nil];rw[hsz.1]at ha2;exact h3.append ha2
       ·have hbulk:∀(a b:List (DataW H)),Proofs.YthghlbdejdideaaGreat.Rows.uptoBulkAll (a++b)=Proofs.YthghlbdejdideaaGreat.Rows.uptoBulkAll a+Proofs.YthghlbdejdideaaGreat.Rows.uptoBulkAll b:=by
         intro a b
         induction a with
         | nil=>simp[Proofs.YthghlbdejdideaaGreat.Rows.uptoBulkAll]
         | cons d a iha=>simp[Proofs.YthghlbdejdideaaGreat.Rows.uptoBulkAll,iha,Nat.add_assoc]
        rw[List.take_add_one,hxi];simp only[List.flatten_append,List.flatten_cons,List.flatten_nil,List.append_nil,zi6,Option.toList_some,List.map_append,List.map_cons,List.map_nil,hbulk,Proofs.YthghlbdejdideaaGreat.Rows.uptoBulkAll,Nat.add_zero];omega
     obtain⟨es,h1,h2,h3,h4⟩:=key mm (Nat.le_refl _);refine⟨es.flatten,⟨es,rfl,h1,h2⟩,?_,?_⟩
     ·rw[List.take_of_length_le (by rw[hcl,hsz.2]; exact Nat.le_refl _)]at h3;exact h3
     ·rw[List.take_of_length_le (by omega)]at h4;simp only[Proofs.YthghlbdejdideaaGreat.Rows.uptoBulk];omega
    ·cases hs
def Sh.TyV:Sh→V→Prop
 | .st fs,v=>∃vs,v = .agg vs∧Sh.Tys fs vs
 | .ar n e,v=>∃vs,v = .agg vs∧Sh.Ty (.ar n e) vs
 | s,v=>Sh.Ty s [v]
def zwS:List Sh→List V→Prop
 | [],[]=>True
 | s::ss,v::vs=>Sh.TyV s v∧zwS ss vs
 | _,_=>False
theorem zp6{r:Reach}{base:Nat}{t e:TypeId}{n:Nat}{v:Value} (ht:P.underlying t=some (.array n e)) (h:Value.okWide P w r base t v):∃cs,v = .agg cs∧cs.size=P.cellsOf t:=by
 simp only[Value.okWide,ht]at h;obtain⟨cs,h1,h2,_⟩:=h;exact⟨cs,h1,h2⟩
theorem arg_sh{n:Nat}{t:TypeId}{s:Sh}{v:Value}{d:DataW H}{ps:List MemPlace}{r:Reach}{base:Nat}(hs:shOf P n t=some s)(hv:Value.okWide P w r base t v)(h:DataW.Trod enc P w 0 spare held t v d ps) :
  ∃u,Sh.TyV s u∧Rep (λ_=>none) (λb=>b<w.heap.size) w u v∧V.blk u≤Proofs.YthghlbdejdideaaGreat.Rows.uptoBulk d:=by
 obtain⟨fuel,hf⟩:=h;obtain⟨vs,h1,h2,h3⟩:=trod_sh n t s fuel _ (d,ps) hs hf;have single:∀{x:Value},v=x→x.cells = #[x]→(∀u,Sh.Ty s [u]→Sh.TyV s u)→∃u,Sh.TyV s u∧Rep (λ_=>none) (λb=>b<w.heap.size) w u v∧V.blk u≤Proofs.YthghlbdejdideaaGreat.Rows.uptoBulk d:=by
  intro x hx hc hty;subst hx;rw[hc]at h2;obtain⟨u,rfl⟩:∃u,vs=[u]:=List.length_eq_one_iff.1 (by simpa using h2.1);exact⟨u,hty u h1,h2.2 0 u v rfl rfl,by simpa [V.blks]using h3⟩
 have whole:∀{cs:Array Value},v = .agg cs→(Sh.TyV s (.agg vs))→∃u,Sh.TyV s u∧Rep (λ_=>none) (λb=>b<w.heap.size) w u v∧V.blk u≤Proofs.YthghlbdejdideaaGreat.Rows.uptoBulk d:=by
  intro cs hx hty;subst hx;refine⟨.agg vs,hty,.agg (by simpa [Value.cells]using h2.1.symm) (zsE s vs h1) (λj u x hu hx=>h2.2 j u x hu (by simpa [Value.cells]using hx)),by simpa [V.blk]using h3⟩
 cases n with
 | zero=>cases hs
 | succ n =>
  cases hu:P.underlying t with
  | none=>simp only[shOf,hu,reduceCtorEq]at hs
  | some dd =>
   cases dd<;>simp only[shOf,hu,reduceCtorEq,Option.some.injEq]at hs
   case bool=>subst hs; obtain⟨b,hb⟩:=okWide_bool hu hv; exact single hb rfl λu h=>h
   case int k=>subst hs; obtain⟨b,hb⟩:=okWide_int hu hv; exact single hb rfl λu h=>h
   case string=>subst hs; obtain⟨b,hb⟩:=okWide_string hu hv; exact single hb rfl λu h=>h
   case slice e =>
    simp only[Option.bind_eq_some_iff]at hs;obtain⟨se,hse,hs⟩:=hs;split at hs
    ·simp only[Option.some.injEq]at hs;subst hs;obtain⟨a,len,cap,hb⟩:=okWide_slice hu hv;exact single hb rfl λu h=>h
    ·cases hs
   case struct fs =>
    simp only[Option.bind_eq_some_iff]at hs;obtain⟨ss,hss,hs⟩:=hs;split at hs
    ·simp only[Option.some.injEq]at hs;subst hs;obtain⟨cs,hb,_⟩:=okWide_struct hu hv;exact whole hb ⟨vs,rfl,h1⟩
    ·cases hs
   case array mm e =>
    simp only[Option.bind_eq_some_iff]at hs;obtain⟨se,hse,hs⟩:=hs;split at hs
    ·simp only[Option.some.injEq]at hs;subst hs;obtain⟨cs,hb,_⟩:=zp6 hu hv;exact whole hb ⟨vs,rfl,h1⟩
    ·cases hs
theorem args_sh{n:Nat}{r:Reach}{base:Nat}:∀(ts:List TypeId) (ss:List Sh) (vs:List Value) (ds:List (DataW H)) (ps:List MemPlace),zpN (shOf P n) ts=some ss→DataW.TrodAll enc P w 0 spare held ts vs ds ps →
  (∀(j:Nat) (t:TypeId) (v:Value),ts[j]?=some t→vs[j]?=some v→Value.okWide P w r base t v)→∃us,zwS ss us∧Reps (λ_=>none) (λb=>b<w.heap.size) w us vs∧V.blks us≤Proofs.YthghlbdejdideaaGreat.Rows.uptoBulkAll ds:=by
 intro ts
 induction ts with
 | nil =>
  intro ss vs ds ps hs h _;simp only[zpN,Option.some.injEq]at hs;subst hs;obtain⟨rfl,rfl,_⟩:=trodAll_nil h;exact⟨[],trivial,⟨rfl,by simp⟩,by simp[V.blks]⟩
 | cons t ts ih =>
  intro ss vs ds ps hs h hv;simp only[zpN,Option.bind_eq_some_iff,Option.map_eq_some_iff]at hs;obtain⟨s,hs1,ss',hss,rfl⟩:=hs;obtain⟨v,vs',d,ds',p,q,rfl,rfl,rfl,h1,h2⟩:=trodAll_cons h;obtain⟨u,hu1,hu2,hu3⟩:=arg_sh hs1 (hv 0 t v rfl rfl) h1;obtain⟨us,hs1,hs2,hs3⟩:=ih ss' vs' ds' q hss h2 λj t' v' ht hv'=>hv (j+1) t' v' (by simpa using ht) (by simpa using hv');refine⟨u::us,⟨hu1,hs1⟩,⟨by simp[hs2.1],λj a x ha hx=>?_⟩,by simp only[V.blks,Proofs.YthghlbdejdideaaGreat.Rows.uptoBulkAll]; omega⟩;cases j with
  | zero=>simp only[List.getElem?_cons_zero,Option.some.injEq]at ha hx; subst ha hx; exact hu2
  | succ j=>exact hs2.2 j a x (by simpa using ha) (by simpa using hx)
end
def H0:Heap:=⟨λ_=>none,0⟩
theorem relH_H0(w:World):RelH (λ_=>none) (λb=>b<w.heap.size) H0 w :=
 ⟨λid b h=>(by cases h),λid id' b b' l l' h=>(by cases h),λ_ _=>rfl,λ_ h=>h⟩
theorem call_true{P:Program}{G:Sem'}(hG:ziA P G){F:FuncId}{W:World}{args:Array Value}{us:List V}{H':Heap} (h:G F us H0=some (.bool true,H')) (hr:Reps (λ_=>none) (λb=>b<W.heap.size) W us args.toList) :
  Calls P F args W λe W'=>e = .returned (.bool true)∧Below W.heap.size W W':=by
 have:=(hG F us H0 _ H' h).2.1 (λ_=>none) (λb=>b<W.heap.size) W args.toList (relH_H0 W) (λ_ _ _=>rfl) hr;refine Calls.mono this λe W' ⟨m',Z',x,he,hx,_,hext⟩=>?_;cases hx;exact⟨he,hext.os,hext.tape,hext.output,hext.size,λk hk=>hext.same k hk λid b l hb=>by cases hb⟩
section
variable {H:Type} {enc:TypeId×Value→H} {P:Program}
theorem trodAll_len{w:World}{base:Nat}{sp:Nat→Bool}{held:Bool}:∀{ts:List TypeId} {vs:List Value} {ds:List (DataW H)} {ps:List MemPlace},DataW.TrodAll enc P w base sp held ts vs ds ps→ds.length=ts.length:=by
 intro ts
 induction ts with
 | nil=>intro vs ds ps h; obtain⟨_,rfl,_⟩:=trodAll_nil h; rfl
 | cons t ts ih =>
  intro vs ds ps h;obtain⟨v,vs',d,ds',p,q,rfl,rfl,rfl,_,h2⟩:=trodAll_cons h;simp[ih h2]
theorem post_below{f:Func}{s:ChangeSpec}{apart fresh handsOn again:Bool}{W W':World}{args:Array Value} {ds gs:List (DataW H)} {before:List MemPlace}
  (hW:DataW.Whole enc P f.params.toList s.vars apart W args.toList ds gs before) (hvars:s.vars=[]) (hfn:s.fn H ds = { results:=[.lit (.bool true)],args:=ds }) (hlay:laidOutB P=true) (hmr:mapsRowed P=true)
  (hfull:((List.range P.types.size).all λt=>match P.underlying t with|some (.slice e)=>decide (0<P.cellsOf e) | _=>true)=true) (hpt:(f.params.toList.all λt=>decide (t<P.types.size))=true)
  {tb:TypeId} (hres:f.resultTypes = #[tb]) (htb:P.underlying tb=some .bool) (hb:Below W.heap.size W W') :
  s.post enc P f apart fresh handsOn again W args (.bool true) W':=by
 have hlt:∀p∈before,p.block<W.heap.size:=λp hp=>hW.lt p hp;have hW0:=hW;obtain⟨p,q,hA,hV,hbe,hz,hn⟩:=hW;rw[hvars]at hV;obtain⟨rfl,rfl⟩:=trodVars_none hV;simp only[List.append_nil]at hbe;subst hbe;have hA':DataW.TrodAll enc P W' 0 (λ_=>true) true f.params.toList args.toList ds before:=by
  have go:∀{ts:List TypeId} {vs:List Value} {ds:List (DataW H)} {ps:List MemPlace},DataW.TrodAll enc P W 0 (λ_=>true) true ts vs ds ps→(∀p∈ps,W.sameAt W' p)→DataW.TrodAll enc P W' 0 (λ_=>true) true ts vs ds ps:=by
   intro ts
   induction ts with
   | nil =>
    intro vs ds ps h _;obtain⟨rfl,rfl,rfl⟩:=trodAll_nil h;rfl
   | cons t ts ih =>
    intro vs ds ps h hs;obtain⟨v,vs',d,ds',p,q,rfl,rfl,rfl,⟨k,h1⟩,h2⟩:=trodAll_cons h;exact⟨p,q,⟨k,DataW.trod_carry k _ _ _ h1 λx hx=>hs x (List.mem_append_left _ hx)⟩,ih h2 λx hx=>hs x (List.mem_append_right _ hx),rfl⟩
  refine go hA λp hp=>?_;have:=hb.block p.block (hlt p hp);cases p with
  | cell b o=>simp only[World.sameAt,World.cell?]; dsimp only[MemPlace.block]at this; rw[this]
  | map b=>simp only[World.sameAt]; dsimp only[MemPlace.block]at this; rw[this]
 have hres':∀(b:Nat) (sp:Nat→Bool) (hd:Bool),DataW.TrodAll enc P W' b sp hd f.resultTypes.toList ((Value.bool true).resultList f.resultTypes.size) [.lit (.bool true)] []:=by
  intro b sp hd;rw[hres];exact trodAll_cons_mk (shut_bool htb _) trodAll_mk0
 have hargs:∀sp:Nat→Bool,(∀p∈before,sp p.block=true)→DataW.TrodAll enc P W' 0 sp true f.params.toList args.toList ds before:=by
  intro sp hsp;refine DataW.TrodAll.respare (T:=(· < P.types.size)) (kids_rows hlay hmr) (slices_full_of P hfull) (λt ht=>?_) hA' hsp;have:=List.all_eq_true.1 hpt t ht;simpa using this
 have hvr:∀sp:Nat→Bool,DataW.TrodVars enc P W' sp s.vars ([]:List (DataW H)) []:=by
  intro sp; rw[hvars]; rfl
 have hok:∀(j:Nat) (t:TypeId) (r:Value),f.resultTypes[j]?=some t→((Value.bool true).resultList f.resultTypes.size)[j]?=some r→Value.okWide P W' .any 0 t r:=by
  exact ok_one hres rfl (okWide_bool_mk htb _)
 have hold:∀p∈before,(λb=>decide (b<W.heap.size)) p.block=true:=λp hp=>by simpa using hlt p hp
 refine⟨ds,[],before,[],before,[],hW0,?_,?_,?_,World.keptBut_mono (λp hp=>⟨hp,?_⟩) (hb.frame (·∈before)),λ_=>?_⟩
 ·simp only[List.append_nil,hfn]; exact hres' _ _ _
 ·simp only[List.append_nil,hfn]; exact hargs _ hold
 ·simp only[List.append_nil,hfn]; exact hvr _
 ·exact .inr (.inl hp)
 ·refine⟨hok,_,_,([]++before)++[],⟨[]++before,[],trodAll_append (hargs _ (λ_ _=>rfl)) (hres' _ _ _),hvr _,rfl,?_,?_⟩,?_⟩
  ·intro b off hp;have hin:MemPlace.cell b off∈before:=by simpa using hp
   rw[hb.frozen (hlt _ hin)];exact hz b off hin
  ·intro ha;have:=hn ha;simpa using this
  ·intro p hp _;simpa using hp
end
end Go.Ax
/- Ax19 -/
namespace Go.Ax
theorem M.bind_assoc{α β γ:Type}(x:M α)(f:α→M β)(g:β→M γ):(x.bind f).bind g=x.bind λv=>(f v).bind g:=by
 funext H;simp only[M.bind];cases x H with
 | none=>rfl
 | some r=>rfl
theorem M.pure_bind{α β:Type}(v:α)(f:α→M β):(M.pure v).bind f=f v:=rfl
def step{α:Type}(G:Sem')(o:AO)(A:Fr)(k:V→M α):M α :=
 match o.gd,o.ins with
 | none,.mv x=>(match x.ev A with|some v=>k v|none=>M.fail)
 | _,_=>(o.run G A).bind k
theorem zuE{α:Type}(G:Sem')(o:AO)(A:Fr)(k:V→M α):step G o A k=(o.run G A).bind k:=by
 obtain⟨d,gd,ins⟩:=o;cases gd with
 | some _=>rfl
 | none =>
  cases ins<;>first|rfl|skip
  rename_i x;show(match x.ev A with|some v=>k v|none=>M.fail) = _;simp only[AO.run,guarded,I.run,with1];cases x.ev A<;>rfl
def opsK{α:Type}(G:Sem'):List AO→Fr→(Fr→M α)→M α
 | [],A,k=>k A
 | o::os,A,k=>step G o A λv=>opsK G os (A.put o.dst v) k
theorem opsK_eq{α:Type}(G:Sem')(k:Fr→M α):∀(l:List AO) (A:Fr),opsK G l A k=(ze2 G l A).bind k:=by
 intro l
 induction l with
 | nil=>intro A; rfl
 | cons o l ih =>
  intro A;simp only[opsK,ze2,M.bind_assoc,zuE];congr 1;funext v;exact ih _
def actsK{α:Type} (un:List (Nat×Nat)) (i:Nat) (a:V):List (Nat×Heap×Heap)→M α→M α
 | [],k=>k
 | (j,h,h')::js,k=>if un.contains (i,j) then (M.unch a h h').bind λ_=>actsK un i a js k else actsK un i a js k
def readsK{α:Type} (un:List (Nat×Nat)) (j:Nat) (h h':Heap):List (Nat×V)→M α→M α
 | [],k=>k
 | (i,a)::rs,k=>if un.contains (i,j) then (M.unch a h h').bind λ_=>readsK un j h h' rs k else readsK un j h h' rs k
def drawK{α:Type}(G:Sem') (un:List (Nat×Nat)):Nat→List (Nat×V)→List (Nat×Heap×Heap)→List AO→Fr→(Fr→M α)→M α
 | _,_,_,[],A,k=>k A
 | p,rs,js,o::os,A,k =>
  match o.ins.kind with
  | .read x =>
   if un.any (λq=>q.1==p) then
    zaY.with1' A x λa=>step G o A λv=>actsK un p a js (drawK G un (p+1) ((p,a)::rs) js os (A.put o.dst v) k)
   else step G o A λv=>drawK G un (p+1) rs js os (A.put o.dst v) k
  | .act =>
   if un.any (λq=>q.2==p) then
    M.getH.bind λh=>step G o A λv=>M.getH.bind λh'=>readsK un p h h' rs (drawK G un (p+1) rs ((p,h,h')::js) os (A.put o.dst v) k)
   else step G o A λv=>drawK G un (p+1) rs js os (A.put o.dst v) k
  | _=>step G o A λv=>drawK G un (p+1) rs js os (A.put o.dst v) k
section
variable {α:Type} {un:List (Nat×Nat)}
theorem actsK_eq(i:Nat)(a:V)(k:M α):∀js,actsK un i a js k=(zbh un i a js).bind λ_=>k:=by
 intro js
 induction js with
 | nil=>rfl
 | cons q js ih =>
  obtain⟨j,h,h'⟩:=q;simp only[actsK,zbh];split
  ·rw[M.bind_assoc]; congr 1; funext _; exact ih
  ·exact ih
theorem zvj(j:Nat)(h h':Heap)(k:M α):∀rs,readsK un j h h' rs k=(zbl un j h h' rs).bind λ_=>k:=by
 intro rs
 induction rs with
 | nil=>rfl
 | cons q rs ih =>
  obtain⟨i,a⟩:=q;simp only[readsK,zbl];split
  ·rw[M.bind_assoc]; congr 1; funext _; exact ih
  ·exact ih
def relR (un:List (Nat×Nat)) (q:Nat×V):Bool:=un.any λx=>x.1==q.1
def relA (un:List (Nat×Nat)) (q:Nat×Heap×Heap):Bool:=un.any λx=>x.2==q.1
theorem znz(i:Nat)(a:V):∀js,zbh un i a (js.filter (relA un))=zbh un i a js:=by
 intro js
 induction js with
 | nil=>rfl
 | cons q js ih =>
  obtain⟨j,h,h'⟩:=q;by_cases hr:relA un (j,h,h')=true
  ·rw[List.filter_cons_of_pos hr];simp only[zbh,ih]
  ·rw[List.filter_cons_of_neg hr,ih];simp only[zbh];rw[if_neg];intro hc;refine hr ?_;simp only[relA,List.any_eq_true,beq_iff_eq];exact⟨(i,j),by simpa using hc,rfl⟩
theorem zmX(j:Nat)(h h':Heap):∀rs,zbl un j h h' (rs.filter (relR un))=zbl un j h h' rs:=by
 intro rs
 induction rs with
 | nil=>rfl
 | cons q rs ih =>
  obtain⟨i,a⟩:=q;by_cases hr:relR un (i,a)=true
  ·rw[List.filter_cons_of_pos hr];simp only[zbl,ih]
  ·rw[List.filter_cons_of_neg hr,ih];simp only[zbl];rw[if_neg];intro hc;refine hr ?_;simp only[relR,List.any_eq_true,beq_iff_eq];exact⟨(i,j),by simpa using hc,rfl⟩
theorem zqH{i:Nat}(a:V) (h:(un.any λq=>q.1==i)=false):∀js,zbh un i a js=M.pure ():=by
 intro js
 induction js with
 | nil=>rfl
 | cons q js ih =>
  obtain⟨j,h1,h2⟩:=q;simp only[zbh];rw[if_neg,ih];intro hc;have:(un.any λq=>q.1==i)=true:=by
   simp only[List.any_eq_true,beq_iff_eq];exact⟨(i,j),by simpa using hc,rfl⟩
  rw[h]at this;cases this
theorem zpg{j:Nat}(h1 h2:Heap) (h:(un.any λq=>q.2==j)=false):∀rs,zbl un j h1 h2 rs=M.pure ():=by
 intro rs
 induction rs with
 | nil=>rfl
 | cons q rs ih =>
  obtain⟨i,a⟩:=q;simp only[zbl];rw[if_neg,ih];intro hc;have:(un.any λq=>q.2==j)=true:=by
   simp only[List.any_eq_true,beq_iff_eq];exact⟨(i,j),by simpa using hc,rfl⟩
  rw[h]at this;cases this
theorem drawK_eq(G:Sem')(k:Fr→M α):∀(l:List AO) (p:Nat) (rs:List (Nat×V)) (js:List (Nat×Heap×Heap)) (A:Fr),
  drawK G un p (rs.filter (relR un)) (js.filter (relA un)) l A k=(zaY G un p rs js l A).bind k:=by
 intro l
 induction l with
 | nil=>intro p rs js A; rfl
 | cons o l ih =>
  intro p rs js A;unfold drawK zaY;simp only[zuE];cases hk:o.ins.kind with
  | read x =>
   dsimp only;have go:∀a,(un.any λq=>q.1==p)=true→(λv=>actsK un p a (js.filter (relA un)) (drawK G un (p+1) ((p,a)::rs.filter (relR un)) (js.filter (relA un)) l (A.put o.dst v) k)) =
     λv=>((zbh un p a js).bind λ_=>zaY G un (p+1) ((p,a)::rs) js l (A.put o.dst v)).bind k:=by
    intro a hu;funext v;rw[actsK_eq,znz,M.bind_assoc];congr 1;funext _;have:=ih (p+1) ((p,a)::rs) js (A.put o.dst v);rw[List.filter_cons_of_pos (by exact hu)]at this;exact this
   cases hu:un.any λq=>q.1==p with
   | true =>
    rw[if_pos rfl];cases hx:x.ev A with
    | some a=>simp only[zaY.with1',hx,M.bind_assoc]; rw[go a hu]; simp only[M.bind_assoc]
    | none=>simp only[zaY.with1',hx,M.bind_assoc]; rw[go .undef hu]; simp only[M.bind_assoc]
   | false =>
    rw[if_neg (by exact Bool.false_ne_true)];have plain:∀a,(λv=>drawK G un (p+1) (rs.filter (relR un)) (js.filter (relA un)) l (A.put o.dst v) k)=λv=>((zbh un p a js).bind λ_=>zaY G un (p+1) ((p,a)::rs) js l (A.put o.dst v)).bind k:=by
     intro a;funext v;rw[zqH a hu,M.pure_bind,←ih (p+1) ((p,a)::rs) js (A.put o.dst v),List.filter_cons_of_neg (by simp[relR,hu])]
    cases hx:x.ev A with
    | some a=>simp only[zaY.with1',hx,M.bind_assoc]; rw[plain a]; simp only[M.bind_assoc]
    | none=>simp only[zaY.with1',hx,M.bind_assoc]; rw[plain .undef]; simp only[M.bind_assoc]
  | act =>
   dsimp only;cases hu:un.any λq=>q.2==p with
   | true =>
    rw[if_pos rfl];simp only[M.bind_assoc];congr 1; funext h; congr 1; funext v; congr 1; funext h';rw[zvj,zmX];congr 1;funext _;have:=ih (p+1) rs ((p,h,h')::js) (A.put o.dst v);rw[List.filter_cons_of_pos (by exact hu)]at this;exact this
   | false =>
    rw[if_neg (by exact Bool.false_ne_true)];simp only[M.bind_assoc];funext H;simp only[M.bind,M.getH,Option.bind_some];cases o.run G A H with
    | none=>rfl
    | some r =>
     simp only[Option.bind_some,zpg _ _ hu,M.pure];have:=congrFun (ih (p+1) rs ((p,H,r.2)::js) (A.put o.dst r.1)) r.2;rw[List.filter_cons_of_neg (by simp[relA,hu])]at this;exact this
  | pure =>
   dsimp only;rw[M.bind_assoc];congr 1;funext v;exact ih ..
  | new =>
   dsimp only;rw[M.bind_assoc];congr 1;funext v;exact ih ..
end
def resK{α:Type}(A:Fr):List RV→(List V→M α)→M α
 | [],k=>k []
 | .tmp t::rs,k=>match A.get t with|some v=>resK A rs λvs=>k (v::vs)|none=>M.fail
 | .cell t n::rs,k=>match A.get t with|some a=>(mload n a).bind λv=>resK A rs λvs=>k (v::vs)|none=>M.fail
theorem resK_eq{α:Type}(A:Fr):∀(rv:List RV) (k:List V→M α),resK A rv k=(results A rv).bind k:=by
 intro rv
 induction rv with
 | nil=>intro k; rfl
 | cons x rv ih =>
  intro k;cases x with
  | tmp t =>
   simp only[resK,results];cases A.get t with
   | none=>rfl
   | some v =>
    dsimp only;rw[ih];funext H;simp only[M.bind,M.lift,Option.map_some,Option.bind_some];cases results A rv H with
    | none=>rfl
    | some r=>rfl
  | cell t n =>
   simp only[resK,results];cases A.get t with
   | none=>rfl
   | some v =>
    dsimp only;funext H;simp only[M.bind,M.lift,Option.map_some,Option.bind_some];cases mload n v H with
    | none=>rfl
    | some r =>
     simp only[Option.bind_some];rw[ih];simp only[M.bind];cases results A rv r.2 with
     | none=>rfl
     | some r=>rfl
def execK(G:Sem')(rv:List RV):C→List (Nat×List Nat)→List Nat→Fr→M Res
 | .done,_,J,A=>match zco A J with|some L=>M.pure (.nrm L)|none=>M.fail
 | .bad,_,_,_=>M.fail
 | .ops l k,cx,J,A=>opsK G l A λA'=>execK G rv k cx J A'
 | .draw l un k,cx,J,A=>drawK G un 0 [] [] l A λA'=>execK G rv k cx J A'
 | .cond x a b,cx,J,A=>match x.ev A with|some c=>M.ite c (execK G rv a cx J A) (execK G rv b cx J A)|none=>M.fail
 | .condJ x a b J' W k,cx,J,A=>match x.ev A with
  | some c=>M.join (M.ite c (execK G rv a cx J' A) (execK G rv b cx J' A)) λL=>execK G rv k cx J (A.join J' W L)
  | none=>M.fail
 | .blk id a J' W k,cx,J,A=>M.blk id (execK G rv a ((id,J')::cx) J' A) λL=>execK G rv k cx J (A.join J' W L)
 | .loop a K W,cx,_,A=>match zco A K with|some L=>M.iter (λL=>execK G rv a cx K (A.join K W L)) L|none=>M.fail
 | .exit id,cx,_,A=>match zjU cx id with|some J=>(match zco A J with|some L=>M.pure (.ex id L)|none=>M.fail)|none=>M.fail
 | .ret,_,_,A=>resK A rv λL=>M.pure (.ret L)
theorem zsr(G:Sem')(rv:List RV):∀(c:C) (cx:List (Nat×List Nat)) (J:List Nat) (A:Fr),execK G rv c cx J A=exec G rv c cx J A:=by
 intro c
 induction c with
 | done=>intro cx J A; simp only[execK,exec]; cases zco A J<;>rfl
 | bad=>intro cx J A; rfl
 | ops l k ih=>intro cx J A; simp only[execK,exec]; rw[opsK_eq]; congr 1; funext A'; exact ih _ _ _
 | draw l un k ih =>
  intro cx J A;simp only[execK,exec];have:=drawK_eq (un:=un) G (λA'=>execK G rv k cx J A') l 0 [] [] A;simp only[List.filter_nil]at this;rw[this]; congr 1; funext A'; exact ih _ _ _
 | cond x a b iha ihb=>intro cx J A; simp only[execK,exec,iha,ihb]; cases x.ev A<;>rfl
 | condJ x a b J' W k iha ihb ihk=>intro cx J A; simp only[execK,exec,iha,ihb,ihk]; cases x.ev A<;>rfl
 | blk id a J' W k iha ihk=>intro cx J A; simp only[execK,exec,iha,ihk]
 | loop a K W iha =>
  intro cx J A;simp only[execK,exec,iha];cases zco A K<;>rfl
 | exit id =>
  intro cx J A;simp only[execK,exec];cases zjU cx id with
  | none=>rfl
  | some J=>dsimp only; cases zco A J<;>rfl
 | ret=>intro cx J A; simp only[execK,exec,resK_eq]
def fin(x:M Res):M V:=x.bind λr =>
 match r with
 | .ret L=>M.pure (zc4 L)
 | _=>M.fail
theorem run_eq(G:Sem')(f:Fn')(args:List V):f.run G args=fin (execK G f.rv f.body [] [] (params 0 args)):=by
 rw[zsr]; rfl
theorem zr0{T:FuncId→Option Fn'}{f:FuncId}{ir:Fn'}(hT:T f=some ir){args:List V}(hl:args.length≤ir.ntmps){x:M V} (hx:fin (execK (sem T) ir.rv ir.body [] [] (params 0 args))=x) {H:Heap} {r:V×Heap} (h:x H=some r) :
  sem T f args H=some r:=zvc hT hl (by rw[run_eq,hx]; exact h)
/-! Steps of proofs. -/
theorem bind_ok{α β:Type}{x:M α}{f:α→M β}{H H1:Heap}{v:α} (h:x H=some (v,H1)):(x.bind f) H=f v H1:=by simp only[M.bind,h,Option.bind_some]
theorem zvF{body:List V→M Res}{L L':List V}{H H':Heap}{r:Res×Heap} (h:body L H=some (.nrm L',H')) (k:M.iter body L' H'=some r):M.iter body L H=some r:=by
 obtain⟨n,hn⟩:=zfv k;refine zhS (n:=n+1) ?_;show(M.join (body L) (iterN body n)) H=some r;simp only[M.join,M.bind,h,Option.bind_some,hn]
theorem zvG{body:List V→M Res}{L L':List V}{id:Nat}{H H':Heap} (h:body L H=some (.ex id L',H')):M.iter body L H=some (.ex id L',H'):=by
 refine zhS (n:=1) ?_;show(M.join (body L) (iterN body 0)) H=some _;simp only[M.join,M.bind,h,Option.bind_some,M.pure]
theorem iter_ret{body:List V→M Res}{L L':List V}{H H':Heap} (h:body L H=some (.ret L',H')):M.iter body L H=some (.ret L',H'):=by
 refine zhS (n:=1) ?_;show(M.join (body L) (iterN body 0)) H=some _;simp only[M.join,M.bind,h,Option.bind_some,M.pure]
end Go.Ax
/- Ax20 -/
namespace Go.Ax
def Ok{α:Type}(x:M α)(H:Heap)(Q:α→Heap→Prop):Prop:=∃v H',x H=some (v,H')∧Q v H'
section
variable {α β:Type} {H:Heap}
theorem zaw{x:M α}{Q Q':α→Heap→Prop}(h:Ok x H Q)(hq:∀v H',Q v H'→Q' v H'):Ok x H Q':=by
 obtain⟨v,H',h1,h2⟩:=h;exact⟨v,H',h1,hq _ _ h2⟩
theorem zao{x:M α}{f:α→M β}{Q:β→Heap→Prop} (h:Ok x H λv H1=>Ok (f v) H1 Q):Ok (x.bind f) H Q:=by
 obtain⟨v,H1,h1,w,H2,h2,hq⟩:=h;exact⟨w,H2,by rw[bind_ok h1,h2],hq⟩
theorem zad{x:M α}{f:α→M β}{P:α→Heap→Prop}{Q:β→Heap→Prop}(h:Ok x H P) (k:∀v H1,P v H1→Ok (f v) H1 Q):Ok (x.bind f) H Q:=zao (zaw h k)
theorem zhO{v:α}{Q:α→Heap→Prop}(h:Q v H):Ok (M.pure v) H Q:=⟨v,H,rfl,h⟩
theorem ok_lift{o:Option α}{v:α}{Q:α→Heap→Prop}(ho:o=some v)(h:Q v H):Ok (M.lift o) H Q:=⟨v,H,by subst ho; rfl,h⟩
theorem zat{o:Option α}{v:α}{f:α→M β}{Q:β→Heap→Prop}(ho:o=some v) (h:Ok (f v) H Q):Ok ((M.lift o).bind f) H Q:=zao (ok_lift ho h)
theorem ok_ite{b:Bool}{x y:M α}{Q:α→Heap→Prop}(h1:b=true→Ok x H Q)(h2:b=false→Ok y H Q):Ok (M.ite (.bool b) x y) H Q:=by
 cases b
 ·exact h2 rfl
 ·exact h1 rfl
theorem ok_itef{x y:M α}{Q:α→Heap→Prop}(h:Ok y H Q):Ok (M.ite (.bool false) x y) H Q:=h
theorem zke{p:Prop}[Decidable p]{x y:M α}{Q:α→Heap→Prop}(h1:p→Ok x H Q)(h2:¬p→Ok y H Q):Ok (M.ite (.bool (decide p)) x y) H Q :=
 ok_ite (λh=>h1 (of_decide_eq_true h)) λh=>h2 (of_decide_eq_false h)
def Then(k:List V→M Res)(Q:Res→Heap→Prop):Res→Heap→Prop
 | .nrm L,H=>Ok (k L) H Q
 | r,H=>Q r H
theorem ok_join{x:M Res}{k:List V→M Res}{Q:Res→Heap→Prop} (h:Ok x H (Then k Q)):Ok (M.join x k) H Q:=by
 obtain⟨r,H1,h1,h2⟩:=h;refine zao ⟨r,H1,h1,?_⟩;cases r with
 | nrm L=>exact h2
 | ex id L=>exact zhO h2
 | ret L=>exact zhO h2
def Out(id:Nat)(k:List V→M Res)(Q:Res→Heap→Prop):Res→Heap→Prop
 | .nrm L,H=>Ok (k L) H Q
 | .ex i L,H=>if i=id then Ok (k L) H Q else Q (.ex i L) H
 | .ret L,H=>Q (.ret L) H
theorem ok_blk{id:Nat}{x:M Res}{k:List V→M Res}{Q:Res→Heap→Prop} (h:Ok x H (Out id k Q)):Ok (M.blk id x k) H Q:=by
 obtain⟨r,H1,h1,h2⟩:=h;refine zao ⟨r,H1,h1,?_⟩;cases r with
 | nrm L=>exact h2
 | ex i L =>
  simp only[Out]at h2;dsimp only;by_cases e:i=id
  ·rw[if_pos e]at h2 ⊢; exact h2
  ·rw[if_neg e]at h2 ⊢; exact zhO h2
 | ret L=>exact zhO h2
theorem ok_fin{x:M Res}{Q:V→Heap→Prop} (h:Ok x H λr H'=>∃L,r = .ret L∧Q (zc4 L) H'):Ok (fin x) H Q:=by
 obtain⟨r,H1,h1,L,rfl,hq⟩:=h;exact zao ⟨_,H1,h1,zhO hq⟩
theorem zvu{body:List V→M Res}{L:List V}{Q:Res→Heap→Prop}(I:List V→Heap→Nat→Prop)(n:Nat)(h0:I L H n)
  (hb:∀L H n,I L H n→Ok (body L) H λr H'=>match r with | .nrm L'=>∃n',n'<n∧I L' H' n'|r=>Q r H'):Ok (M.iter body L) H Q:=by
 induction n using Nat.strongRecOn generalizing L H with
 | ind n ih =>
  obtain⟨r,H1,h1,h2⟩:=hb L H n h0;cases r with
  | nrm L' =>
   obtain⟨n',hlt,hI⟩:=h2;obtain⟨r',H2,h3,h4⟩:=ih n' hlt hI;exact⟨r',H2,zvF h1 h3,h4⟩
  | ex id L'=>exact⟨_,H1,zvG h1,h2⟩
  | ret L'=>exact⟨_,H1,iter_ret h1,h2⟩
theorem zsd{id off size:Nat}{b:Blk}{x:V}{Q:V→Heap→Prop}(hb:H.get id=some b)(h1:x.cells.length=size)(h2:off+size≤b.cells.length)(h3:x.okc=true)
  (h:Q .undef (H.set id (some { b with cells:=splice b.cells off x.cells }))):Ok (mstore size (.ptr id off) x) H Q :=
 ⟨_,_,by simp only[mstore,hb,Option.bind_some]; rw[if_pos ⟨h1,h2,h3⟩],h⟩
theorem zaK{ty:TypeId}{x:V}{Q:V→Heap→Prop}(h3:x.okc=true) (h:Q (.ptr H.next 0) (H.new ⟨ty,x.cells,none⟩)):Ok (mbox ty x) H Q :=
 ⟨_,_,by simp only[mbox]; rw[if_pos h3],h⟩
theorem ztl{ty esz bytes:Nat}{y:V}{q:List V×Nat}{Q:V→Heap→Prop}(hy:acells esz H y=some q)(h0:q.2=0→Q .nils H) (h1:q.2≠0→q.2*bytes≤140737488355328∧q.2≤maxLen∧Q (.sl H.next 0 q.2 (.opn esz)) (H.new ⟨ty,q.1,some esz⟩)) :
  Ok (mappend ty esz bytes .nils y) H Q:=by
 by_cases h:q.2=0
 ·exact⟨_,_,by simp only[mappend,mappendq,hy,Option.bind_some]; rw[if_pos h],h0 h⟩
 ·obtain⟨a,b,c⟩:=h1 h;exact⟨_,_,by simp only[mappend,mappendq,hy,Option.bind_some]; rw[if_neg h,if_pos ⟨a,b⟩],c⟩
theorem zvw{ty esz bytes id len:Nat}{y:V}{b:Blk}{q:List V×Nat}{Q:V→Heap→Prop}(hy:acells esz H y=some q)(hb:H.get id=some b)(ht:b.ty=ty)(ho:b.opn=some esz)(hl:b.cells.length=len*esz)
  (h0:q.2=0→Q (.sl id 0 len (.opn esz)) H) (h1:q.2≠0→(len+q.2)*bytes≤140737488355328∧len+q.2≤maxLen∧Q (.sl H.next 0 (len+q.2) (.opn esz)) ((H.set id none).new ⟨ty,b.cells++q.1,some esz⟩)) :
  Ok (mappend ty esz bytes (.sl id 0 len (.opn esz)) y) H Q:=by
 have hc:0+len*esz≤b.cells.length∧b.ty=ty:=⟨by omega,ht⟩;by_cases h:q.2=0
 ·exact⟨_,_,by simp only[mappend,mappendq,hy,Option.bind_some,hb]; rw[if_pos hc,if_pos ⟨trivial,ho,by omega⟩,if_pos h],h0 h⟩
 ·obtain⟨a,c,d⟩:=h1 h;exact⟨_,_,by simp only[mappend,mappendq,hy,Option.bind_some,hb]; rw[if_pos hc,if_pos ⟨trivial,ho,by omega⟩,if_neg h,if_pos ⟨a,c⟩,List.drop_zero],d⟩
end
theorem ok_sem{T:FuncId→Option Fn'}{f:FuncId}{ir:Fn'}(hT:T f=some ir){args:List V}(hl:args.length≤ir.ntmps){x:M Res} (hx:execK (sem T) ir.rv ir.body [] [] (params 0 args)=x) {H:Heap} {Q:V→Heap→Prop}
  (h:Ok x H λr H'=>∃L,r = .ret L∧Q (zc4 L) H'):Ok (sem T f args) H Q:=by
 obtain⟨v,H',h1,h2⟩:=ok_fin h;exact⟨v,H',zr0 hT hl (congrArg fin hx) h1,h2⟩
/-! Heaps. -/
theorem zan(H:Heap)(id:Nat)(b:Option Blk):(H.set id b).get id=b:=by simp[Heap.set]
theorem zap(H:Heap){id i:Nat}(b:Option Blk)(h:i≠id):(H.set id b).get i=H.get i:=by simp[Heap.set,h]
theorem zbg(H:Heap)(id:Nat)(b:Option Blk):(H.set id b).next=H.next:=rfl
theorem zac(H:Heap)(b:Blk):(H.new b).get H.next=some b:=by simp[Heap.new]
theorem zaE(H:Heap){i:Nat}(b:Blk)(h:i≠H.next):(H.new b).get i=H.get i:=by simp[Heap.new,h]
theorem zaf(H:Heap)(b:Blk):(H.new b).next=H.next+1:=rfl
structure Step (H H':Heap) (F F':List Nat):Prop where
 next:H.next≤H'.next
 same:∀i,i<H.next→i∉F→H'.get i=H.get i
 own:∀i,i∈F'→i∈F∨(H.next≤i∧i<H'.next)
theorem Step.refl(H:Heap)(F:List Nat):Step H H F F:=⟨Nat.le_refl _,λ_ _ _=>rfl,λ_ h=>.inl h⟩
theorem Step.trans{H H1 H2:Heap}{F F1 F2:List Nat}(h:Step H H1 F F1)(k:Step H1 H2 F1 F2):Step H H2 F F2:=by
 refine⟨Nat.le_trans h.next k.next,λi hi hF=>?_,λi hi=>?_⟩
 ·rw[k.same i (Nat.lt_of_lt_of_le hi h.next) λh1=>?_,h.same i hi hF];rcases h.own i h1 with h2|h2
  ·exact hF h2
  ·omega
 ·rcases k.own i hi with h1|h1
  ·rcases h.own i h1 with h2|h2
   ·exact .inl h2
   ·exact .inr ⟨h2.1,Nat.lt_of_lt_of_le h2.2 k.next⟩
  ·exact .inr ⟨Nat.le_trans h.next h1.1,h1.2⟩
def Below(F:List Nat)(H:Heap):Prop:=∀i∈F,i<H.next
theorem Step.below{H H':Heap}{F F':List Nat}(h:Step H H' F F')(hb:Below F H):Below F' H':=λi hi=>by
 rcases h.own i hi with h1|h1
 ·exact Nat.lt_of_lt_of_le (hb i h1) h.next
 ·exact h1.2
end Go.Ax
/- Ax33 -/
namespace Go.Ax
mutual
def sh(d:Nat):V→V
 | .ptr id off=>.ptr (id+d) off
 | .mp id=>.mp (id+d)
 | .sl id off len cap=>.sl (id+d) off len cap
 | .rs cells len=>.rs (shL d cells) len
 | .rp cells off=>.rp (shL d cells) off
 | .fn f caps=>.fn f (shL d caps)
 | .agg cells=>.agg (shL d cells)
 | .tup vs=>.tup (shL d vs)
 | .bool b=>.bool b
 | .int k n=>.int k n
 | .str s=>.str s
 | .nilp=>.nilp
 | .nils=>.nils
 | .lit x=>.lit x
 | .any=>.any
def shL(d:Nat):List V→List V
 | []=>[]
 | x::xs=>sh d x::shL d xs
end
section
variable {d:Nat}
theorem zfr(l:List V):shL d l=l.map (sh d):=by
 induction l with
 | nil=>rfl
 | cons x xs ih=>rw[List.map_cons,←ih]; rfl
theorem zb6(l:List V):(shL d l).length=l.length:=by rw[zfr,List.length_map]
theorem zl1(l:List V)(i:Nat):(shL d l)[i]?=l[i]?.map (sh d):=by rw[zfr,List.getElem?_map]
theorem zih(l:List V)(i:Nat):(shL d l).drop i=shL d (l.drop i):=by rw[zfr,zfr,List.map_drop]
theorem zig(l:List V)(i:Nat):(shL d l).take i=shL d (l.take i):=by rw[zfr,zfr,List.map_take]
theorem zj7(l m:List V):shL d (l++m)=shL d l++shL d m:=by rw[zfr,zfr,zfr,List.map_append]
theorem zlC(v:V):(sh d v).cells=shL d v.cells:=by cases v<;>simp[sh,shL,V.cells]
theorem zu3(v:V):(sh d v).okc=v.okc:=by cases v<;>simp[sh,V.okc]
theorem zfq(xs:List V)(o:Nat)(ys:List V):splice (shL d xs) o (shL d ys)=shL d (splice xs o ys):=by
 unfold splice;rw[zig,zb6,zih,←zj7,←zj7]
theorem zrZ(n:Option Nat)(cs:List V)(o:Nat):ldc n (shL d cs) o=(ldc n cs o).map (sh d):=by
 cases n with
 | none=>exact zl1 cs o
 | some n =>
  simp only[ldc];rw[zb6];by_cases h:o+n≤cs.length
  ·rw[if_pos h,if_pos h,zih,zig]; simp[sh]
  ·rw[if_neg h,if_neg h]; rfl
theorem zu8(op:BinOp)(k:IntKind)(a b:Int):(zcF op k a b).map (sh d)=zcF op k a b:=by
 cases op<;>simp only[zcF]<;>first|rfl|(split<;>rfl)
theorem zu1(op:BinOp)(a b:ByteArray):(zpD op a b).map (sh d)=zpD op a b:=by
 cases op<;>simp only[zpD]<;>first|rfl|(split<;>rfl)
theorem zu9(op:BinOp)(k:FloatKind)(a b:Nat):(zqs op k a b).map (sh d)=zqs op k a b:=by
 cases op<;>simp only[zqs,Option.map_map]<;>rfl
theorem sh_bin(op:BinOp)(x y:V):bin op (sh d x) (sh d y)=(bin op x y).map (sh d):=by
 cases x<;>cases y<;>try (simp[bin,sh]; done)
 ·rename_i k a k' b;simp only[sh];cases op<;>simp only[bin]<;>split<;>first|rfl|exact(zu8 _ _ _ _).symm
 ·simp only[sh,bin]; exact(zu1 _ _ _).symm
 ·rename_i x y;simp only[sh];cases x<;>cases y<;>try rfl
  simp only[bin];split
  ·exact(zu9 _ _ _ _).symm
  ·rfl
theorem sh_un(op:UnOp)(x:V):un op (sh d x)=(un op x).map (sh d):=by
 cases op<;>cases x<;>rfl
theorem sh_cint(k:IntKind)(x:V):cint k (sh d x)=(cint k x).map (sh d):=by
 cases x<;>try (simp[cint,sh]; done)
 rename_i x;simp only[sh];cases x<;>try rfl
 simp only[cint];split
 ·split<;>rfl
 ·rfl
theorem sh_op1(o:U1)(x:V):op1 o (sh d x)=(op1 o x).map (sh d):=by
 cases o<;>cases x<;>try rfl
 ·rename_i x;simp only[sh];cases x<;>try rfl
  rename_i k b;cases k<;>rfl
 ·rename_i k n;cases k<;>rfl
 ·simp only[sh,op1]; split<;>rfl
 ·simp only[sh,op1]; split<;>rfl
theorem sh_pick(c a b:V):pick (sh d c) (sh d a) (sh d b)=(pick c a b).map (sh d):=by
 cases c<;>simp[pick,sh]
 split<;>rfl
theorem sh_nilck(x:V):nilck (sh d x)=(nilck x).map (sh d):=by cases x<;>simp[nilck,sh]
theorem sh_faddr(o:Nat)(x:V):faddr o (sh d x)=(faddr o x).map (sh d):=by cases x<;>simp[faddr,sh]
theorem sh_iaddr(al:Option Nat)(e:Nat)(x i:V):iaddr al e (sh d x) (sh d i)=(iaddr al e x i).map (sh d):=by
 cases i<;>try (simp[iaddr,sh]; done)
 cases al<;>cases x<;>simp[iaddr,sh]<;>split<;>simp[sh]
theorem sh_index(l e:Nat)(n:Option Nat)(x i:V):index l e n (sh d x) (sh d i)=(index l e n x i).map (sh d):=by
 cases i<;>try (simp[index,sh]; done)
 cases x<;>simp[index,sh]
 split
 ·exact zrZ _ _ _
 ·rfl
theorem zu2(x i:V):sindex (sh d x) (sh d i)=(sindex x i).map (sh d):=by
 cases i<;>try (simp[sindex,sh]; done)
 cases x<;>simp[sindex,sh]
 split
 ·rw[Option.map_map]; rfl
 ·rfl
theorem sh_field(o:Nat)(n:Option Nat)(x:V):field o n (sh d x)=(field o n x).map (sh d):=by
 cases x<;>simp[field,sh]
 exact zrZ _ _ _
theorem sh_ext(i:Nat)(x:V):ext i (sh d x)=(ext i x).map (sh d):=by
 cases x<;>simp[ext,sh]
 exact zl1 _ _
theorem sh_slen(x:V):slen (sh d x)=(slen x).map (sh d):=by cases x<;>simp[slen,sh]
theorem sh_vlen(x:V):vlen (sh d x)=(vlen x).map (sh d):=by cases x<;>simp[vlen,sh]
theorem zva (ps:List (Nat×Nat×V)):∀cs:List V,fill (shL d cs) (ps.map λp=>(p.1,p.2.1,sh d p.2.2))=(fill cs ps).map (shL d):=by
 induction ps with
 | nil=>intro cs; rfl
 | cons p ps ih =>
  intro cs;obtain⟨o,s,v⟩:=p;simp only[List.map_cons,fill];rw[zlC,zb6,zb6,zu3];split
  ·rw[zfq]; exact ih _
  ·rfl
theorem zlB(z:List V)(n:Nat):zeros (shL d z) n=shL d (zeros z n):=by
 induction n with
 | zero=>rfl
 | succ n ih=>simp only[zeros]; rw[ih,zj7]
theorem zpL:∀xs ys:List V,ziJ (shL d xs) (shL d ys)=ziJ xs ys
 | [],[]=>rfl
 | [],y::ys=>by simp[shL,ziJ]
 | x::xs,[]=>by cases x<;>simp[shL,sh,ziJ]
 | x::xs,y::ys=>by
  cases x<;>cases y<;>simp only[shL,sh,ziJ]
  rw[zpL xs ys]
theorem zl0:∀(ks:List FK) (xs ys:List V),za7 ks (shL d xs) (shL d ys)=za7 ks xs ys
 | [],[],[]=>rfl
 | [],[],y::ys=>by simp[shL,za7]
 | [],x::xs,ys=>by cases ys<;>simp[shL,za7]
 | k::ks,[],ys=>by cases k<;>cases ys<;>simp[shL,za7]
 | k::ks,x::xs,[]=>by cases k<;>cases x<;>simp[shL,sh,za7]
 | k::ks,x::xs,y::ys=>by
  cases k<;>cases x<;>cases y<;>simp only[shL,sh,za7]<;>rw[zl0 ks xs ys]
theorem sh_eqv(k:EK)(x y:V):eqv k (sh d x) (sh d y)=eqv k x y:=by
 cases k<;>cases x<;>cases y<;>simp only[eqv,sh]
 ·rw[zb6,zb6,zpL]
 ·exact zl0 _ _ _
theorem sh_eqr(k:EK)(neg:Bool)(x y:V):eqr k neg (sh d x) (sh d y)=(eqr k neg x y).map (sh d):=by
 unfold eqr;rw[sh_eqv,Option.map_map];rfl
theorem sh_vint(v:V):vint (sh d v)=vint v:=by cases v<;>rfl
theorem zlZ(o:Option V):zdo (o.map (sh d))=zdo o:=by
 cases o with
 | none=>rfl
 | some v=>simp only[Option.map_some,zdo,sh_vint]
theorem sh_min2(mx:Bool)(x y:V):min2 mx (sh d x) (sh d y)=(min2 mx x y).map (sh d):=by cases x<;>cases y<;>rfl
theorem zpJ(mx:Bool):∀(l:List V) (v:V),minmax mx (sh d v) (shL d l)=(minmax mx v l).map (sh d)
 | [],v=>rfl
 | x::xs,v=>by
  simp only[shL,minmax];rw[sh_min2];cases min2 mx v x with
  | none=>rfl
  | some w=>exact zpJ mx xs w
theorem sh_build(z:List V) (ps:List (Nat×Nat×V)):build (shL d z) (ps.map λp=>(p.1,p.2.1,sh d p.2.2))=(build z ps).map (sh d):=by
 unfold build;rw[zva,Option.map_map,Option.map_map];congr 1
/-! Memory with other blocks ahead. -/
def shB(d:Nat)(b:Blk):Blk:=⟨b.ty,shL d b.cells,b.opn⟩
def Heap.up(H:Heap)(d:Nat)(R:Nat→Option Blk):Heap:=⟨λi=>if i<d then R i else (H.get (i-d)).map (shB d),H.next+d⟩
variable {R:Nat→Option Blk}
theorem znC(H:Heap)(i:Nat):(H.up d R).get (i+d)=(H.get i).map (shB d):=by
 show(if i+d<d then R (i+d) else (H.get (i+d-d)).map (shB d)) = _;rw[if_neg (by omega),Nat.add_sub_cancel]
theorem zuv(H:Heap)(i:Nat)(o:Option Blk):(H.up d R).set (i+d) (o.map (shB d))=(H.set i o).up d R:=by
 show Heap.mk _ _=Heap.mk _ _;congr 1;funext j;show(if j=i+d then o.map (shB d) else if j<d then R j else (H.get (j-d)).map (shB d))=if j<d then R j else (if j-d=i then o else H.get (j-d)).map (shB d)
 by_cases e:j=i+d
 ·subst e;rw[if_pos rfl,if_neg (by omega),if_pos (by omega)]
 ·rw[if_neg e];by_cases hj:j<d
  ·rw[if_pos hj,if_pos hj]
  ·rw[if_neg hj,if_neg hj,if_neg (by omega)]
theorem up_new(H:Heap)(b:Blk):(H.up d R).new (shB d b)=(H.new b).up d R:=by
 show Heap.mk _ _=Heap.mk _ _;have hn:(H.up d R).next=H.next+d:=rfl;rw[hn];congr 1
 ·funext j;show(if j=H.next+d then some (shB d b) else if j<d then R j else (H.get (j-d)).map (shB d))=if j<d then R j else (if j-d=H.next then some b else H.get (j-d)).map (shB d)
  by_cases e:j=H.next+d
  ·subst e;rw[if_pos rfl,if_neg (by omega),if_pos (by omega)];rfl
  ·rw[if_neg e];by_cases hj:j<d
   ·rw[if_pos hj,if_pos hj]
   ·rw[if_neg hj,if_neg hj,if_neg (by omega)]
 ·show H.next+d+1=H.next+1+d; omega
def ShR(d:Nat)(R:Nat→Option Blk){α β:Type}(f:α→β)(x:M α)(y:M β):Prop:=∀H a H',x H=some (a,H')→y (H.up d R)=some (f a,H'.up d R)
theorem zcv{α β:Type}(f:α→β)(a:α):ShR d R f (M.pure a) (M.pure (f a)):=by
 intro H b H' h;simp only[M.pure,Option.some.injEq,Prod.mk.injEq]at h ⊢;obtain⟨rfl,rfl⟩:=h;exact⟨rfl,rfl⟩
theorem zb5{α β:Type}{f:α→β}{y:M β}:ShR d R f M.fail y:=by intro H a H' h; cases h
theorem zbV{α β:Type}{f:α→β}{o:Option α}{o':Option β}(h:o'=o.map f):ShR d R f (M.lift o) (M.lift o'):=by
 subst h;intro H a H' h;cases o with
 | none=>cases h
 | some v=>exact zcv f v H a H' h
theorem zbK{α β γ δ:Type}{f:α→β}{g:γ→δ}{x:M α}{y:M β}{k:α→M γ}{l:β→M δ}(h:ShR d R f x y) (hk:∀v,ShR d R g (k v) (l (f v))):ShR d R g (x.bind k) (y.bind l):=by
 intro H a H' e;obtain⟨v,H1,h1,h2⟩:=bind_some e;rw[bind_ok (h H v H1 h1)];exact hk v H1 a H' h2
theorem zq0(n:Option Nat)(p:V):ShR d R (sh d) (mload n p) (mload n (sh d p)):=by
 intro H a H' h;cases p<;>try (cases h; done)
 ·rename_i id off;simp only[mload,sh]at h ⊢;rw[znC];cases hb:H.get id with
  | none=>rw[hb]at h; cases h
  | some b =>
   rw[hb]at h;simp only[Option.bind_some,Option.map_some]at h ⊢;show(ldc n (shL d b.cells) off).map _ = _;rw[zrZ];cases hl:ldc n b.cells off with
   | none=>rw[hl]at h; cases h
   | some v=>rw[hl]at h; cases h; rfl
 ·rename_i cells off;simp only[mload,sh]at h ⊢;rw[zrZ];cases hl:ldc n cells off with
  | none=>rw[hl]at h; cases h
  | some v=>rw[hl]at h; cases h; rfl
theorem sr_store(n:Nat)(p x:V):ShR d R (sh d) (mstore n p x) (mstore n (sh d p) (sh d x)):=by
 intro H a H' h;cases p<;>try (cases h; done)
 rename_i id off;simp only[mstore,sh]at h ⊢;rw[znC];cases hb:H.get id with
 | none=>rw[hb]at h; cases h
 | some b =>
  rw[hb]at h;simp only[Option.bind_some,Option.map_some]at h ⊢;have hc':((sh d x).cells.length=n∧off+n≤(shB d b).cells.length∧(sh d x).okc=true)↔(x.cells.length=n∧off+n≤b.cells.length∧x.okc=true):=by
   rw[zlC,zb6,zu3,show(shB d b).cells=shL d b.cells from rfl,zb6]
  by_cases hc:x.cells.length=n∧off+n≤b.cells.length∧x.okc=true
  ·rw[if_pos hc]at h;rw[if_pos (hc'.2 hc)];cases h;have e:=zuv (d:=d) (R:=R) H id (some { b with cells:=splice b.cells off x.cells });rw[←e,zlC,show(shB d b).cells=shL d b.cells from rfl,zfq];rfl
  ·rw[if_neg hc]at h; cases h
theorem sr_box(ty:TypeId)(x:V):ShR d R (sh d) (mbox ty x) (mbox ty (sh d x)):=by
 intro H a H' h;unfold mbox at h ⊢;rw[zu3];by_cases hc:x.okc=true
 ·rw[if_pos hc]at h ⊢;cases h;rw[zlC];exact congrArg (λq=>some (V.ptr (H.next+d) 0,q)) (up_new H ⟨ty,x.cells,none⟩)
 ·rw[if_neg hc]at h; cases h
end
end Go.Ax
/- Ax34 -/
namespace Go.Ax
section
variable {d:Nat} {R:Nat→Option Blk}
theorem upg{H:Heap}{id:Nat}{γ δ:Type}{k:Blk→Option γ}{k':Blk→Option δ}{a:γ}{r:Option δ} (h:(H.get id).bind k=some a) (hk:∀b,H.get id=some b→k b=some a→k' (shB d b)=r):((H.up d R).get (id+d)).bind k'=r:=by
 rw[znC];cases hb:H.get id with
 | none=>rw[hb]at h; cases h
 | some b=>rw[hb]at h; exact hk b hb h
theorem uset(H:Heap)(id:Nat)(ty:TypeId)(cs:List V)(o:Option Nat):(H.up d R).set (id+d) (some ⟨ty,shL d cs,o⟩)=(H.set id (some ⟨ty,cs,o⟩)).up d R:=zuv H id (some ⟨ty,cs,o⟩)
theorem unew(H:Heap)(ty:TypeId)(cs:List V)(o:Option Nat):(H.up d R).new ⟨ty,shL d cs,o⟩=(H.new ⟨ty,cs,o⟩).up d R:=up_new H ⟨ty,cs,o⟩
theorem zf9(b:Blk):(shB d b).cells=shL d b.cells:=rfl
theorem uif{γ:Type}{p p':Prop}[Decidable p][Decidable p']{x y:Option γ}{δ:Type}{x' y':Option δ}{a:γ}{r:Option δ}(hp:p↔p') (h:(if p then x else y)=some a) (h1:p→x=some a→x'=r) (h2:¬p→y=some a→y'=r):(if p' then x' else y')=r:=by
 by_cases hc:p
 ·rw[if_pos hc]at h; rw[if_pos (hp.1 hc)]; exact h1 hc h
 ·rw[if_neg hc]at h; rw[if_neg λk=>hc (hp.2 k)]; exact h2 hc h
theorem sr_slit(ty:TypeId)(l:Nat)(z:List V) (ps:List (Nat×Nat×V)):ShR d R (sh d) (mslit ty l z ps) (mslit ty l (shL d z) (ps.map λp=>(p.1,p.2.1,sh d p.2.2))):=by
 intro H a H' h;unfold mslit at h ⊢;rw[zlB,zva];cases hf:fill (zeros z l) ps with
 | none=>rw[hf]at h; cases h
 | some cs =>
  rw[hf]at h;cases h;show some (V.sl (H.next+d) 0 l (.fix l),(H.up d R).new ⟨ty,shL d cs,none⟩) = _;rw[unew];rfl
theorem zja{e:Nat}{H:Heap}{v:V}{q:List V×Nat}(h:rcells e H v=some q):rcells e (H.up d R) (sh d v)=some (shL d q.1,q.2):=by
 cases v<;>try (cases h; done)
 ·cases h; rfl
 ·rename_i id off len cap;simp only[rcells,sh]at h ⊢;refine upg h λb hb h=>?_;refine uif (by rw[zf9,zb6]) h (λ_ h=>?_) (λ_ h=>by cases h);cases h;rw[zf9,zih,zig]
 ·simp only[rcells,sh]at h ⊢;refine uif (by rw[zb6]) h (λ_ h=>?_) (λ_ h=>by cases h);cases h;rw[zig]
theorem zlY(s:ByteArray):shL d (strCells s)=strCells s:=by
 unfold strCells;rw[zfr,List.map_map];rfl
theorem zpx{e:Nat}{H:Heap}{v:V}{q:List V×Nat}(h:acells e H v=some q):acells e (H.up d R) (sh d v)=some (shL d q.1,q.2):=by
 cases v with
 | str s =>
  simp only[acells,sh]at h ⊢;refine uif Iff.rfl h (λ_ h=>?_) (λ_ h=>by cases h);cases h;rw[zlY]
 | nils=>cases h; rfl
 | sl id off len cap=>exact zja (v:=.sl id off len cap) h
 | rs cells len=>exact zja (R:=R) (H:=H) (v:=.rs cells len) h
 | _=>cases h
theorem znG(ty e b:Nat)(q:List V×Nat)(x:V):ShR d R (sh d) (mappendq ty e b q x) (mappendq ty e b (shL d q.1,q.2) (sh d x)):=by
 intro H a H' h;cases x<;>try (cases h; done)
 ·simp only[mappendq,sh]at h ⊢;refine uif Iff.rfl h (λ_ h=>by cases h; rfl) λ_ h=>?_;refine uif Iff.rfl h (λ_ h=>?_) (λ_ h=>by cases h);cases h;rw[unew]; rfl
 ·rename_i id off len cap;simp only[mappendq,sh]at h ⊢;refine upg h λbb hb h=>?_;refine uif (by rw[zf9,zb6]; exact Iff.rfl) h (λ_ h=>?_) (λ_ h=>by cases h);cases cap with
  | fix c =>
   dsimp only at h ⊢;refine uif Iff.rfl h (λ_ h=>?_) λ_ h=>?_
   ·refine uif (by rw[zf9,zb6]) h (λ_ h=>?_) (λ_ h=>by cases h);cases h;rw[zf9,zfq];exact congrArg (λq=>some (V.sl (id+d) off _ _,q)) (uset H id bb.ty _ bb.opn)
   ·refine uif Iff.rfl h (λ_ h=>?_) (λ_ h=>by cases h);cases h;rw[zf9,zih,zig,←zj7,unew]; rfl
  | opn ee =>
   dsimp only at h ⊢;refine uif (by rw[zf9,zb6]; exact Iff.rfl) h (λ_ h=>?_) λ_ h=>?_
   ·refine uif Iff.rfl h (λ_ h=>by cases h; rfl) λ_ h=>?_;refine uif Iff.rfl h (λ_ h=>?_) (λ_ h=>by cases h);cases h;rw[zf9,zih,←zj7];have e1:(H.up d R).set (id+d) none=(H.set id none).up d R:=zuv H id none;rw[e1,unew]; rfl
   ·refine uif Iff.rfl h (λ_ h=>by cases h; rfl) λ_ h=>?_;refine uif (by rw[zf9,zb6]; exact Iff.rfl) h (λ_ h=>?_) (λ_ h=>by cases h);cases h;rw[zf9,zfq];exact congrArg (λq=>some (V.sl (id+d) off _ _,q)) (uset H id bb.ty _ bb.opn)
 ·simp only[mappendq,sh]at h ⊢;refine uif Iff.rfl h (λ_ h=>by cases h; rfl) (λ_ h=>by cases h)
theorem zuO(ty e b:Nat)(x y:V):ShR d R (sh d) (mappend ty e b x y) (mappend ty e b (sh d x) (sh d y)):=by
 intro H a H' h;unfold mappend at h ⊢;cases hq:acells e H y with
 | none=>rw[hq]at h; cases h
 | some q =>
  rw[hq]at h;rw[zpx hq];exact znG ty e b q x H a H' h
theorem zsT(ty b:Nat)(z:List V)(x y:V):ShR d R (sh d) (mappendz ty b z x y) (mappendz ty b (shL d z) (sh d x) (sh d y)):=by
 intro H a H' h;cases y<;>try (cases h; done)
 simp only[mappendz,sh]at h ⊢;refine uif Iff.rfl h (λ_ h=>?_) (λ_ h=>by cases h);rw[zb6,zlB];exact znG _ _ _ _ _ H a H' h
theorem sr_copy(e:Nat)(x y:V):ShR d R (sh d) (mcopy e x y) (mcopy e (sh d x) (sh d y)):=by
 intro H a H' h;unfold mcopy at h ⊢;cases hq:acells e H y with
 | none=>rw[hq]at h; cases h
 | some q =>
  rw[hq]at h;rw[zpx hq];simp only[Option.bind_some]at h ⊢;cases x<;>try (cases h; done)
  ·cases h; rfl
  ·rename_i id off len cap;simp only[sh]at h ⊢;refine upg h λb hb h=>?_;refine uif (by rw[zf9,zb6]) h (λ_ h=>?_) (λ_ h=>by cases h);cases h;rw[zf9,zig,zfq];exact congrArg (λq=>some (V.int .i64 _,q)) (uset H id b.ty _ b.opn)
theorem zpI:∀l:List V,zhH (shL d l)=zhH l
 | []=>rfl
 | x::xs=>by
  cases x<;>simp only[shL,sh,zhH]
  rename_i k n;cases k<;>simp only[zhH]
  rw[zpI xs]
theorem sr_tostr(x:V):ShR d R (sh d) (mtostr x) (mtostr (sh d x)):=by
 intro H a H' h;unfold mtostr at h ⊢;cases hq:rcells 1 H x with
 | none=>rw[hq]at h; cases h
 | some q =>
  rw[hq]at h;rw[zja hq];simp only[Option.bind_some]at h ⊢;rw[zpI];cases hv:zhH q.1 with
  | none=>rw[hv]at h; cases h
  | some l=>rw[hv]at h; cases h; rfl
theorem znF(ty:TypeId)(x:V):ShR d R (sh d) (mtobytes ty x) (mtobytes ty (sh d x)):=by
 intro H a H' h;cases x<;>try (cases h; done)
 simp only[mtobytes,sh]at h ⊢;refine uif Iff.rfl h (λ_ h=>?_) (λ_ h=>by cases h);cases h;have e:=unew (d:=d) (R:=R) H ty (strCells ‹ByteArray›) (some 1);rw[zlY]at e;rw[e]; rfl
theorem zuH(ty:TypeId)(x:V):ShR d R (sh d) (mremark ty x) (mremark ty (sh d x)):=by
 intro H a H' h;cases x<;>try (cases h; done)
 ·exact znF ty (.str _) H a H' h
 ·simp only[mremark,sh]at h ⊢;refine upg h λb hb h=>?_;refine uif Iff.rfl h (λ_ h=>by cases h) λ_ h=>by cases h; rfl
theorem zsQ(ty b:Nat)(z:List V)(l c:V):ShR d R (sh d) (mmkslice ty b z l c) (mmkslice ty b (shL d z) (sh d l) (sh d c)):=by
 intro H a H' h;cases l<;>try (cases h; done)
 rename_i k n;cases k<;>try (cases h; done)
 cases c<;>try (cases h; done)
 rename_i k' n';cases k'<;>try (cases h; done)
 simp only[mmkslice,sh]at h ⊢;refine uif Iff.rfl h (λ_ h=>?_) (λ_ h=>by cases h);cases h;rw[zlB,unew]; rfl
theorem sr_mknz(ty:TypeId)(x:V):ShR d R (sh d) (mmknz ty x) (mmknz ty (sh d x)):=by
 intro H a H' h;cases x<;>try (cases h; done)
 rename_i k n;cases k<;>try (cases h; done)
 simp only[mmknz,sh]at h ⊢;refine uif Iff.rfl h (λ_ h=>?_) (λ_ h=>by cases h);cases h;have e:=unew (d:=d) (R:=R) H ty (List.replicate n.toNat .any) (some 1);have e2:shL d (List.replicate n.toNat V.any)=List.replicate n.toNat .any:=by rw[zfr,List.map_replicate]; rfl
 rw[e2]at e;rw[e]; rfl
theorem zuG(e:Nat)(x lo hi:V):ShR d R (sh d) (mslice2 e x lo hi) (mslice2 e (sh d x) (sh d lo) (sh d hi)):=by
 intro H a H' h;cases x<;>try (cases h; done)
 rename_i id off len cap;cases cap<;>cases lo<;>try (cases h; done)
 cases hi<;>try (cases h; done)
 simp only[mslice2,sh]at h ⊢;refine upg h λb hb h=>?_;refine uif (by rw[zf9,zb6]; exact Iff.rfl) h (λ_ h=>by cases h; rfl) (λ_ h=>by cases h)
theorem sr_clear(z:List V)(x:V):ShR d R (sh d) (mclear z x) (mclear (shL d z) (sh d x)):=by
 intro H a H' h;cases x<;>try (cases h; done)
 rename_i id off len cap;simp only[mclear,sh]at h ⊢;refine uif Iff.rfl h (λ_ h=>by cases h; rfl) λ_ h=>?_;refine upg h λb hb h=>?_;refine uif (by rw[zf9,zb6,zb6]) h (λ_ h=>?_) (λ_ h=>by cases h);cases h;rw[zf9,zlB,zfq];exact congrArg (λq=>some (V.undef,q)) (uset H id b.ty _ b.opn)
theorem zuZ(ck:CK)(e:Nat)(x:V)(lo hi mx:Option V):zaU ck e (sh d x) (lo.map (sh d)) (hi.map (sh d)) (mx.map (sh d))=(zaU ck e x lo hi mx).map (sh d):=by
 unfold zaU;rw[zlZ,zlZ,zlZ];cases zdo lo with
 | none=>rfl
 | some lo =>
 cases zdo hi with
 | none=>rfl
 | some hi =>
 cases zdo mx with
 | none=>rfl
 | some mx =>
 simp only[Option.bind_some];split
 ·rfl
 cases ck<;>cases x<;>try rfl
 all_goals simp only[sh]
 ·split<;>rfl
 ·split<;>rfl
 ·rename_i id off len cap;cases cap with
  | fix c=>simp only; split<;>rfl
  | opn ee =>
   cases mx with
   | none=>simp only; split<;>rfl
   | some m=>simp only; split<;>rfl
 ·split
  ·rw[zih]; rfl
  ·rfl
 ·split<;>rfl
theorem zu7(mk:MK)(a b:V):keq mk (sh d a) (sh d b)=keq mk a b:=by
 cases mk<;>cases a<;>cases b<;>simp only[keq,sh]
 exact zl0 _ _ _
theorem sh_kok(mk:MK)(a:V):kok mk (sh d a)=kok mk a:=by
 cases mk<;>cases a<;>simp only[kok,sh]
 rw[zb6]
theorem zu5(mk:MK)(k:V):∀l:List V,mget mk (sh d k) (shL d l)=(mget mk k l).map (Option.map (sh d))
 | []=>rfl
 | [x]=>rfl
 | k'::v'::r=>by
  simp only[shL,mget];rw[zu7];cases keq mk k k' with
  | none=>rfl
  | some b =>
   cases b with
   | true=>rfl
   | false=>exact zu5 mk k r
theorem zu4(mk:MK)(k v:V):∀l:List V,mset mk (sh d k) (sh d v) (shL d l)=(mset mk k v l).map (shL d)
 | []=>rfl
 | [x]=>rfl
 | k'::v'::r=>by
  simp only[shL,mset];rw[zu7];cases keq mk k k' with
  | none=>rfl
  | some b =>
   cases b with
   | true=>rfl
   | false =>
    simp only[Option.bind_some];rw[if_neg (by decide),if_neg (by decide),zu4 mk k v r,Option.map_map,Option.map_map];rfl
theorem sr_mkmap(ty:TypeId):ShR d R (sh d) (mmkmap ty) (mmkmap ty):=by
 intro H a H' h;cases h;exact congrArg (λq=>some (V.mp (H.next+d),q)) (unew H ty [] none)
theorem zuK(mk:MK)(z:V)(ok:Bool)(x k:V):ShR d R (sh d) (mlookup mk z ok x k) (mlookup mk (sh d z) ok (sh d x) (sh d k)):=by
 intro H a H' h;cases x<;>try (cases h; done)
 simp only[mlookup,sh]at h ⊢;refine upg h λb hb h=>?_;refine uif (by rw[sh_kok]) h (λ_ h=>?_) (λ_ h=>by cases h);rw[zf9,zu5];cases hg:mget mk k b.cells with
 | none=>rw[hg]at h; cases h
 | some r =>
  rw[hg]at h;cases h;cases r<;>cases ok<;>rfl
theorem zuI(mk:MK)(x k v:V):ShR d R (sh d) (mmapset mk x k v) (mmapset mk (sh d x) (sh d k) (sh d v)):=by
 intro H a H' h;cases x<;>try (cases h; done)
 simp only[mmapset,sh]at h ⊢;refine upg h λb hb h=>?_;refine uif (by rw[sh_kok]) h (λ_ h=>?_) (λ_ h=>by cases h);rw[zf9,zu4];cases hg:mset mk k v b.cells with
 | none=>rw[hg]at h; cases h
 | some cs =>
  rw[hg]at h;cases h;exact congrArg (λq=>some (V.undef,q)) (uset H _ b.ty cs b.opn)
theorem zuJ(x:V):ShR d R (sh d) (mmaplen x) (mmaplen (sh d x)):=by
 intro H a H' h;cases x<;>try (cases h; done)
 simp only[mmaplen,sh]at h ⊢;rw[znC];rename_i id;cases hb:H.get id with
 | none=>rw[hb]at h; cases h
 | some b =>
  rw[hb]at h;cases h;simp only[Option.map_some];rw[zf9,zb6];rfl
theorem sr_aload(k:IntKind)(p:V):ShR d R (sh d) (matoload k p) (matoload k (sh d p)):=by
 intro H a H' h;unfold matoload at h ⊢;cases hl:mload none p H with
 | none=>rw[hl]at h; cases h
 | some r =>
  obtain⟨v,H1⟩:=r;rw[hl]at h;rw[zq0 none p H v H1 hl];simp only[Option.bind_some]at h ⊢;cases v<;>try (cases h; done)
  simp only[sh]at h ⊢;refine uif Iff.rfl h (λ_ h=>by cases h; rfl) (λ_ h=>by cases h)
theorem sr_aadd(k:IntKind)(p y:V):ShR d R (sh d) (matoadd k p y) (matoadd k (sh d p) (sh d y)):=by
 intro H a H' h;cases p<;>try (cases h; done)
 cases y<;>try (cases h; done)
 rename_i id off k2 j;simp only[matoadd,sh]at h ⊢;refine upg h λb hb h=>?_;rw[zf9,zl1];cases hc:b.cells[off]? with
 | none=>rw[hc]at h; cases h
 | some c =>
  rw[hc]at h;cases c<;>try (cases h; done)
  rename_i kk nn;simp only[Option.map_some,sh]at h ⊢;refine uif Iff.rfl h (λ_ h=>?_) (λ_ h=>by cases h);cases h;have e:splice (shL d b.cells) off [V.int k (k.wrap (nn+j))]=shL d (splice b.cells off [V.int k (k.wrap (nn+j))]):=zfq (d:=d) b.cells off [V.int k (k.wrap (nn+j))];rw[e];exact congrArg (λq=>some (V.int k _,q)) (uset H id b.ty _ b.opn)
theorem zpK(mk:MK)(k:V):∀l:List V,znO mk (sh d k) (shL d l)=znO mk k l
 | []=>rfl
 | [x]=>rfl
 | k'::v'::r=>by
  simp only[shL,znO];rw[zu7,zpK mk k r]
theorem sh_mkeep(p:Bool)(n:Int)(k:V):mkeep p n (sh d k)=mkeep p n k:=by
 cases k<;>try rfl
 rename_i cs;simp only[sh];rcases cs with _|⟨a,_|⟨b,_|⟨c,cs⟩⟩⟩
 ·rfl
 ·cases a<;>rfl
 ·cases a<;>try rfl
  rename_i k1 n1;cases b<;>try (cases k1<;>rfl)
 ·cases a<;>try rfl
  rename_i k1 n1;cases b<;>try (cases k1<;>rfl)
  rename_i k2 n2;cases k1<;>cases k2<;>rfl
theorem zu6(p:Bool)(n:Int):∀l:List V,mfil p n (shL d l)=(mfil p n l).map (shL d)
 | []=>rfl
 | [x]=>rfl
 | k::v::r=>by
  simp only[shL,mfil];rw[zpK];by_cases h:znO (mkOfP p) k r=true
  ·rw[if_pos h,if_pos h,sh_mkeep];cases mkeep p n k with
   | none=>rfl
   | some b =>
    simp only[Option.bind_some];rw[zu6 p n r,Option.map_map,Option.map_map];cases b<;>rfl
  ·rw[if_neg h,if_neg h]; rfl
theorem zsR(p:Bool)(o:Nat)(x n:V):ShR d R (sh d) (mmapdrop p o x n) (mmapdrop p o (sh d x) (sh d n)):=by
 intro H a H' h;cases x<;>try (cases h; done)
 cases n<;>try (cases h; done)
 rename_i id off k n;cases k<;>try (cases h; done)
 simp only[mmapdrop,sh]at h ⊢;refine upg h λb0 hb0 h=>?_;rw[zf9,zl1];cases hc:b0.cells[off+o]? with
 | none=>rw[hc]at h; cases h
 | some c =>
  rw[hc]at h;cases c<;>try (cases h; done)
  simp only[Option.map_some,sh]at h ⊢;refine upg h λb hb h=>?_;rw[zf9,zu6];cases hf:mfil p n b.cells with
  | none=>rw[hf]at h; cases h
  | some cs =>
   rw[hf]at h;cases h;exact congrArg (λq=>some (V.undef,q)) (uset H _ b.ty cs b.opn)
end
end Go.Ax
/- Ax35 -/
namespace Go.Ax
mutual
def V.still:V→Bool
 | .ptr _ _=>false
 | .mp _=>false
 | .sl _ _ _ _=>false
 | .rs cells _=>V.stills cells
 | .rp cells _=>V.stills cells
 | .fn _ caps=>V.stills caps
 | .agg cells=>V.stills cells
 | .tup vs=>V.stills vs
 | _=>true
def V.stills:List V→Bool
 | []=>true
 | x::xs=>x.still&&V.stills xs
end
mutual
theorem zon{d:Nat}:∀v:V,v.still=true→sh d v=v
 | .ptr _ _,h=>by cases h
 | .mp _,h=>by cases h
 | .sl _ _ _ _,h=>by cases h
 | .rs cells _,h=>by simp only[V.still]at h; simp only[sh,zcu cells h]
 | .rp cells _,h=>by simp only[V.still]at h; simp only[sh,zcu cells h]
 | .fn _ caps,h=>by simp only[V.still]at h; simp only[sh,zcu caps h]
 | .agg cells,h=>by simp only[V.still]at h; simp only[sh,zcu cells h]
 | .tup vs,h=>by simp only[V.still]at h; simp only[sh,zcu vs h]
 | .bool _,_=>rfl
 | .int _ _,_=>rfl
 | .str _,_=>rfl
 | .nilp,_=>rfl
 | .nils,_=>rfl
 | .lit _,_=>rfl
 | .any,_=>rfl
theorem zcu{d:Nat}:∀l:List V,V.stills l=true→shL d l=l
 | [],_=>rfl
 | x::xs,h=>by
  simp only[V.stills,Bool.and_eq_true]at h;simp only[shL,zon x h.1,zcu xs h.2]
end
def Arg.still:Arg→Bool
 | .s _=>true
 | .c v=>v.still
def zjf:Option Arg→Bool
 | none=>true
 | some x=>x.still
def I.still:I→Bool
 | .mkmap _=>true
 | .maplen x | .aload _ x | .mv x | .box _ x | .load _ x | .nilck x | .un _ x | .cint _ x | .tostr x | .tobytes _ x | .faddr _ x | .field _ _ x | .ext _ x | .len x | .slen x | .op1 _ x | .mknz _ x | .remark _ x=>x.still
 | .clear z x=>V.stills z&&x.still
 | .pick c a b | .slice2 _ c a b | .mapset _ c a b=>c.still&&(a.still&&b.still)
 | .build z ps | .slit _ _ z ps=>V.stills z&&ps.all λp=>p.2.2.still
 | .store _ p x | .aadd _ p x | .mdrop _ _ p x=>p.still&&x.still
 | .lookup _ z _ p x=>z.still&&(p.still&&x.still)
 | .bin _ x y | .eq _ _ x y | .iaddr _ _ x y | .index _ _ _ x y | .sindex x y | .append _ _ _ x y | .copy _ x y=>x.still&&y.still
 | .appendz _ _ z x y | .mkslice _ _ z x y=>V.stills z&&(x.still&&y.still)
 | .slice _ _ x lo hi mx=>x.still&&(zjf lo&&(zjf hi&&zjf mx))
 | .minmax _ x xs=>x.still&&xs.all Arg.still
 | .call _ xs | .mkfn _ xs=>xs.all Arg.still
 | .callv x xs=>x.still&&xs.all Arg.still
def AO.still(o:AO):Bool:=o.ins.still
def C.still:C→Bool
 | .done | .bad | .exit _ | .ret=>true
 | .ops l k=>l.all AO.still&&k.still
 | .draw l _ k=>l.all AO.still&&k.still
 | .cond x a b=>x.still&&(a.still&&b.still)
 | .condJ x a b _ _ k=>x.still&&(a.still&&(b.still&&k.still))
 | .blk _ a _ _ k=>a.still&&k.still
 | .loop a _ _=>a.still
section
variable {d:Nat} {R:Nat→Option Blk} {g g':Sem'}
def shF(d:Nat)(A:Fr):Fr:=A.map λp=>(p.1,sh d p.2)
theorem zl2(A:Fr)(t:Nat):Fr.get (shF d A) t=(Fr.get A t).map (sh d):=by
 induction A with
 | nil=>rfl
 | cons p A ih =>
  obtain⟨k,v⟩:=p;show(if k=t then some (sh d v) else Fr.get (shF d A) t)=(if k=t then some v else Fr.get A t).map (sh d);split
  ·rfl
  ·exact ih
theorem zj8(A:Fr)(o:Option Nat)(v:V):(shF d A).put o (sh d v)=shF d (A.put o v):=by cases o<;>rfl
theorem shF_drop(W:List Nat)(A:Fr):(shF d A).drop W=shF d (A.drop W):=by
 induction A with
 | nil=>rfl
 | cons p A ih =>
  obtain⟨k,v⟩:=p;show(if W.contains k then Fr.drop W (shF d A) else (k,sh d v)::Fr.drop W (shF d A))=shF d (if W.contains k then Fr.drop W A else (k,v)::Fr.drop W A);split
  ·exact ih
  ·rw[ih]; rfl
theorem sh_getD(L:List V)(i:Nat):(shL d L).getD i .undef=sh d (L.getD i .undef):=by
 rw[List.getD_eq_getElem?_getD,List.getD_eq_getElem?_getD,zl1];cases L[i]?<;>rfl
theorem zpM(L:List V):∀(J:List Nat) (i:Nat),zqL (shL d L) i J=shF d (zqL L i J)
 | [],i=>rfl
 | t::ts,i=>by
  simp only[zqL];rw[sh_getD,zpM L ts (i+1)];rfl
theorem zlD(A:Fr)(J W:List Nat)(L:List V):(shF d A).join J W (shL d L)=shF d (A.join J W L):=by
 unfold Fr.join;rw[zpM,shF_drop];unfold shF;rw[List.map_append]
theorem zrx{A:Fr}{x:Arg}(h:x.still=true):x.ev (shF d A)=(x.ev A).map (sh d):=by
 cases x with
 | s t=>exact zl2 A t
 | c v=>show some v=some (sh d v); rw[zon v h]
theorem evs_sh{A:Fr}:∀{xs:List Arg},xs.all Arg.still=true→evs (shF d A) xs=(evs A xs).map (shL d)
 | [],_=>rfl
 | x::xs,h=>by
  simp only[List.all_cons,Bool.and_eq_true]at h;simp only[evs];rw[zrx h.1,evs_sh h.2];cases x.ev A with
  | none=>rfl
  | some v=>simp only[Option.map_some,Option.bind_some,Option.map_map]; rfl
theorem zkA{A:Fr}:∀{ps:List (Nat×Nat×Arg)},ps.all (λp=>p.2.2.still)=true→zbe (shF d A) ps=(zbe A ps).map (λl=>l.map λp=>(p.1,p.2.1,sh d p.2.2))
 | [],_=>rfl
 | (o,s,x)::ps,h=>by
  simp only[List.all_cons,Bool.and_eq_true]at h;simp only[zbe];rw[zrx h.1,zkA h.2];cases x.ev A with
  | none=>rfl
  | some v=>simp only[Option.map_some,Option.bind_some,Option.map_map]; rfl
theorem zpb{A:Fr}{o:Option Arg}(h:zjf o=true):zdn (shF d A) o=(zdn A o).map (Option.map (sh d)):=by
 cases o with
 | none=>rfl
 | some x =>
  simp only[zdn];rw[zrx h];cases x.ev A<;>rfl
theorem zau{A:Fr}{x:Arg}{k k':V→M V}(h:x.still=true) (hk:∀v,ShR d R (sh d) (k v) (k' (sh d v))):ShR d R (sh d) (with1 A x k) (with1 (shF d A) x k'):=by
 unfold with1;rw[zrx h];cases x.ev A with
 | none=>exact zb5
 | some v=>exact hk v
theorem zlA{A:Fr}{xs:List Arg}{k k':List V→M V}(h:xs.all Arg.still=true) (hk:∀v,ShR d R (sh d) (k v) (k' (shL d v))):ShR d R (sh d) (withs A xs k) (withs (shF d A) xs k'):=by
 unfold withs;rw[evs_sh h];cases evs A xs with
 | none=>exact zb5
 | some v=>exact hk v
theorem sr_callv (hg:∀f args,ShR d R (sh d) (g f args) (g' f (shL d args))) (x:V) (args:List V):ShR d R (sh d) (callv g x args) (callv g' (sh d x) (shL d args)):=by
 cases x<;>first|exact zb5|skip
 simp only[callv,sh];rw[←zj7];exact hg _ _
theorem sr_run (hg:∀f args,ShR d R (sh d) (g f args) (g' f (shL d args))) (A:Fr) (i:I) (h:i.still=true):ShR d R (sh d) (i.run g A) (i.run g' (shF d A)):=by
 cases i<;>simp only[I.still,Bool.and_eq_true]at h<;>simp only[I.run]
 case build z ps =>
  rw[zkA h.2];cases zbe A ps with
  | none=>exact zb5
  | some l=>exact zbV (by have:=sh_build (d:=d) z l; rw[zcu z h.1]at this; exact this)
 case slit ty l z ps =>
  rw[zkA h.2];cases zbe A ps with
  | none=>exact zb5
  | some q=>have:=sr_slit (d:=d) (R:=R) ty l z q; rw[zcu z h.1]at this; exact this
 case slice ck e x lo hi mx =>
  refine zau h.1 λv=>?_;rw[zpb h.2.1,zpb h.2.2.1,zpb h.2.2.2];cases zdn A lo with
  | none=>exact zb5
  | some lo =>
  cases zdn A hi with
  | none=>exact zb5
  | some hi =>
  cases zdn A mx with
  | none=>exact zb5
  | some mx=>exact zbV (zuZ ck e v lo hi mx)
 case minmax mx x xs=>exact zau h.1 λv=>zlA h.2 λl=>zbV (zpJ mx l v)
 case call f xs=>exact zlA h λl=>hg f l
 case callv x xs=>exact zau h.1 λv=>zlA h.2 λl=>sr_callv hg v l
 case mkfn f xs=>exact zlA h λl=>zcv (sh d) (V.fn f l)
 case mkmap ty=>exact sr_mkmap ty
 case clear z x=>exact zau h.2 λv=>by have:=sr_clear (d:=d) (R:=R) z v; rw[zcu z h.1]at this; exact this
 case appendz ty b z x y=>exact zau h.2.1 λv=>zau h.2.2 λw=>by have:=zsT (d:=d) (R:=R) ty b z v w; rw[zcu z h.1]at this; exact this
 case mkslice ty b z x y=>exact zau h.2.1 λv=>zau h.2.2 λw=>by have:=zsQ (d:=d) (R:=R) ty b z v w; rw[zcu z h.1]at this; exact this
 case lookup mk z ok x k=>exact zau h.2.1 λv=>zau h.2.2 λw=>by have:=zuK (d:=d) (R:=R) mk z ok v w; rw[zon z h.1]at this; exact this
 case mv x=>exact zau h λv=>zcv (sh d) v
 case pick c a b=>exact zau h.1 λu=>zau h.2.1 λv=>zau h.2.2 λw=>zbV (sh_pick u v w)
 case slice2 e c a b=>exact zau h.1 λu=>zau h.2.1 λv=>zau h.2.2 λw=>zuG e u v w
 case mapset mk c a b=>exact zau h.1 λu=>zau h.2.1 λv=>zau h.2.2 λw=>zuI mk u v w
 case box ty x=>exact zau h λv=>sr_box ty v
 case load n x=>exact zau h λv=>zq0 n v
 case store n p x=>exact zau h.1 λv=>zau h.2 λw=>sr_store n v w
 case nilck x=>exact zau h λv=>zbV (sh_nilck v)
 case bin op x y=>exact zau h.1 λv=>zau h.2 λw=>zbV (sh_bin op v w)
 case eq k n x y=>exact zau h.1 λv=>zau h.2 λw=>zbV (sh_eqr k n v w)
 case un op x=>exact zau h λv=>zbV (sh_un op v)
 case cint k x=>exact zau h λv=>zbV (sh_cint k v)
 case tostr x=>exact zau h λv=>sr_tostr v
 case tobytes ty x=>exact zau h λv=>znF ty v
 case faddr o x=>exact zau h λv=>zbV (sh_faddr o v)
 case iaddr al e x y=>exact zau h.1 λv=>zau h.2 λw=>zbV (sh_iaddr al e v w)
 case index l e n x y=>exact zau h.1 λv=>zau h.2 λw=>zbV (sh_index l e n v w)
 case sindex x y=>exact zau h.1 λv=>zau h.2 λw=>zbV (zu2 v w)
 case field o n x=>exact zau h λv=>zbV (sh_field o n v)
 case ext i x=>exact zau h λv=>zbV (sh_ext i v)
 case len x=>exact zau h λv=>zbV (sh_vlen v)
 case slen x=>exact zau h λv=>zbV (sh_slen v)
 case append ty e b x y=>exact zau h.1 λv=>zau h.2 λw=>zuO ty e b v w
 case copy e x y=>exact zau h.1 λv=>zau h.2 λw=>sr_copy e v w
 case op1 k x=>exact zau h λv=>zbV (sh_op1 k v)
 case mknz ty x=>exact zau h λv=>sr_mknz ty v
 case remark ty x=>exact zau h λv=>zuH ty v
 case maplen x=>exact zau h λv=>zuJ v
 case aload k x=>exact zau h λv=>sr_aload k v
 case aadd k x y=>exact zau h.1 λv=>zau h.2 λw=>sr_aadd k v w
 case mdrop p o x y=>exact zau h.1 λv=>zau h.2 λw=>zsR p o v w
theorem zsS{A:Fr} {gd:Option (Nat×Bool)} {x y:M V} (h:ShR d R (sh d) x y):ShR d R (sh d) (guarded A gd x) (guarded (shF d A) gd y):=by
 unfold guarded;cases gd with
 | none=>exact h
 | some p =>
  dsimp only;rw[zl2];cases Fr.get A p.1 with
  | none=>exact zb5
  | some v =>
   cases v with
   | bool b =>
    simp only[Option.map_some,sh];by_cases hb:b=p.2
    ·rw[if_pos hb,if_pos hb]; exact h
    ·rw[if_neg hb,if_neg hb]; exact zcv (sh d) V.undef
   | tup vs=>cases vs with|nil=>exact zcv (sh d) V.undef|cons _ _=>exact zb5
   | _=>exact zb5
theorem zsU (hg:∀f args,ShR d R (sh d) (g f args) (g' f (shL d args))) (A:Fr) (o:AO) (h:o.still=true):ShR d R (sh d) (o.run g A) (o.run g' (shF d A)):=zsS (sr_run hg A o.ins h)
theorem sr_ops (hg:∀f args,ShR d R (sh d) (g f args) (g' f (shL d args))):∀(l:List AO) (A:Fr),l.all AO.still=true→ShR d R (shF d) (ze2 g l A) (ze2 g' l (shF d A))
 | [],A,_=>zcv (shF d) A
 | o::l,A,h=>by
  simp only[List.all_cons,Bool.and_eq_true]at h;refine zbK (zsU hg A o h.1) λv=>?_;rw[zj8];exact sr_ops hg l _ h.2
theorem sh_pid(v:V):(sh d v).pid=v.pid.map (· + d):=by cases v<;>rfl
theorem zuF(v:V)(h h':Heap):ShR d R (λ_:Unit=>()) (M.unch v h h') (M.unch (sh d v) (h.up d R) (h'.up d R)):=by
 intro H a H' e;unfold M.unch at e ⊢;split at e
 ·rename_i hp;rw[if_pos]
  ·cases e; rfl
  ·intro id hid;rw[sh_pid]at hid;cases hv:v.pid with
   | none=>rw[hv]at hid; cases hid
   | some j =>
    rw[hv]at hid;have hid:j+d=id:=Option.some.inj hid;subst hid;rw[znC,znC,hp j hv]
 ·cases e
def shJ(d:Nat)(R:Nat→Option Blk) (js:List (Nat×Heap×Heap)):List (Nat×Heap×Heap):=js.map λq=>(q.1,q.2.1.up d R,q.2.2.up d R)
theorem zoo (un:List (Nat×Nat)) (j:Nat) (h h':Heap):∀rs,ShR d R (λ_:Unit=>()) (zbl un j h h' rs) (zbl un j (h.up d R) (h'.up d R) (shF d rs))
 | []=>zcv (λ_:Unit=>()) ()
 | (i,a)::rs=>by
  show ShR d R _ (zbl un j h h' ((i,a)::rs)) (zbl un j (h.up d R) (h'.up d R) ((i,sh d a)::shF d rs));unfold zbl;by_cases hc:un.contains (i,j)=true
  ·rw[if_pos hc,if_pos hc]; exact zbK (zuF a h h') λ_=>zoo un j h h' rs
  ·rw[if_neg hc,if_neg hc]; exact zoo un j h h' rs
theorem zop (un:List (Nat×Nat)) (i:Nat) (a:V):∀js,ShR d R (λ_:Unit=>()) (zbh un i a js) (zbh un i (sh d a) (shJ d R js))
 | []=>zcv (λ_:Unit=>()) ()
 | (j,h,h')::js=>by
  show ShR d R _ (zbh un i a ((j,h,h')::js)) (zbh un i (sh d a) ((j,h.up d R,h'.up d R)::shJ d R js));unfold zbh;by_cases hc:un.contains (i,j)=true
  ·rw[if_pos hc,if_pos hc]; exact zbK (zuF a h h') λ_=>zop un i a js
  ·rw[if_neg hc,if_neg hc]; exact zop un i a js
theorem zuM{α β:Type}{f:α→β}{k:Heap→M α}{k':Heap→M β} (h:∀H,ShR d R f (k H) (k' (H.up d R))):ShR d R f (M.getH.bind k) (M.getH.bind k'):=by
 intro H a H' e;exact h H H a H' e
theorem sr_draw (hg:∀f args,ShR d R (sh d) (g f args) (g' f (shL d args))) (un:List (Nat×Nat)):∀(l:List AO) (p:Nat) (rs:List (Nat×V)) (js:List (Nat×Heap×Heap)) (A:Fr),l.all AO.still=true→ShR d R (shF d) (zaY g un p rs js l A) (zaY g' un p (shF d rs) (shJ d R js) l (shF d A)):=by
 intro l
 induction l with
 | nil=>intro p rs js A _; exact zcv (shF d) A
 | cons o l ih =>
  intro p rs js A h;simp only[List.all_cons,Bool.and_eq_true]at h;have hk:∀x,o.ins.kind = .read x→x.still=true:=λx hx=>by
   have h1:=h.1;unfold AO.still at h1;cases hi:o.ins<;>rw[hi]at h1 hx<;>first|(simp only[I.kind,zmo]at hx; done)|(simp only[I.kind]at hx; cases hx; done)|(simp only[I.kind]at hx; cases hx; exact h1)
  unfold zaY;cases hkk:o.ins.kind with
  | read x =>
   dsimp only;unfold zaY.with1';rw[zrx (hk x hkk)];cases x.ev A with
   | none=>refine zbK (zsU hg A o h.1) λv=>?_; rw[zj8]; exact zbK (zop un p V.undef js) λ_=>ih _ ((p,V.undef)::rs) js _ h.2
   | some a=>refine zbK (zsU hg A o h.1) λv=>?_; rw[zj8]; exact zbK (zop un p a js) λ_=>ih _ ((p,a)::rs) js _ h.2
  | act=>exact zuM λh0=>zbK (zsU hg A o h.1) λv=>zuM λh1=>zbK (zoo un p h0 h1 rs) λ_=>by rw[zj8]; exact ih _ rs ((p,h0,h1)::js) _ h.2
  | pure=>refine zbK (zsU hg A o h.1) λv=>?_; rw[zj8]; exact ih _ rs js _ h.2
  | new=>refine zbK (zsU hg A o h.1) λv=>?_; rw[zj8]; exact ih _ rs js _ h.2
def zhJ(d:Nat):Res→Res
 | .nrm L=>.nrm (shL d L)
 | .ex id L=>.ex id (shL d L)
 | .ret L=>.ret (shL d L)
theorem zuL{x y:M Res}{k k':List V→M Res} (h:ShR d R (zhJ d) x y) (hk:∀L,ShR d R (zhJ d) (k L) (k' (shL d L))):ShR d R (zhJ d) (M.join x k) (M.join y k'):=by
 refine zbK h λr=>?_;cases r with
 | nrm L=>exact hk L
 | ex id L=>exact zcv (zhJ d) (.ex id L)
 | ret L=>exact zcv (zhJ d) (.ret L)
theorem sr_iter{body body':List V→M Res} (h:∀L,ShR d R (zhJ d) (body L) (body' (shL d L))) (L:List V):ShR d R (zhJ d) (M.iter body L) (M.iter body' (shL d L)):=by
 intro H a H' e;obtain⟨n,hn⟩:=zfv e;have key:∀(n:Nat) (L:List V),ShR d R (zhJ d) (iterN body n L) (iterN body' n (shL d L)):=by
  intro n
  induction n with
  | zero=>intro L; exact zb5
  | succ n ih=>intro L; exact zuL (h L) ih
 exact zhS (key n L H a H' hn)
theorem zjd(A:Fr):∀J:List Nat,zco (shF d A) J=(zco A J).map (shL d)
 | []=>rfl
 | t::ts=>by
  simp only[zco];rw[zl2,zjd A ts];cases Fr.get A t with
  | none=>rfl
  | some v=>simp only[Option.map_some,Option.bind_some,Option.map_map]; rfl
theorem sr_ite{α β:Type}{f:α→β}(c:V){x x':M α}{y y':M β}(h:ShR d R f x y)(k:ShR d R f x' y'):ShR d R f (M.ite c x x') (M.ite (sh d c) y y'):=by
 cases c<;>first|exact zb5|skip
 rename_i b;cases b
 ·exact k
 ·exact h
theorem zj4(A:Fr):∀rv,ShR d R (shL d) (results A rv) (results (shF d A) rv)
 | []=>zcv (shL d) []
 | .tmp t::rs=>zbK (zbV (zl2 A t)) λv=>zbK (zj4 A rs) λvs=>zcv (shL d) (v::vs)
 | .cell t n::rs=>zbK (zbV (zl2 A t)) λa=>zbK (zq0 n a) λv=>zbK (zj4 A rs) λvs=>zcv (shL d) (v::vs)
theorem sr_exec (hg:∀f args,ShR d R (sh d) (g f args) (g' f (shL d args))) (rv:List RV):∀(c:C) (cx:List (Nat×List Nat)) (J:List Nat) (A:Fr),c.still=true→ShR d R (zhJ d) (exec g rv c cx J A) (exec g' rv c cx J (shF d A)):=by
 intro c
 induction c with
 | done=>intro cx J A _; exact zbK (zbV (zjd A J)) λL=>zcv (zhJ d) (.nrm L)
 | bad=>intro cx J A _; exact zb5
 | ops l k ih=>intro cx J A h; simp only[C.still,Bool.and_eq_true]at h; exact zbK (sr_ops hg l A h.1) λA'=>ih _ _ _ h.2
 | draw l un k ih=>intro cx J A h; simp only[C.still,Bool.and_eq_true]at h; exact zbK (sr_draw hg un l 0 [] [] A h.1) λA'=>ih _ _ _ h.2
 | cond x a b iha ihb =>
  intro cx J A h;simp only[C.still,Bool.and_eq_true]at h;simp only[exec];rw[zrx h.1];cases x.ev A with
  | none=>exact zb5
  | some c=>exact sr_ite c (iha _ _ _ h.2.1) (ihb _ _ _ h.2.2)
 | condJ x a b J' W k iha ihb ihk =>
  intro cx J A h;simp only[C.still,Bool.and_eq_true]at h;simp only[exec];rw[zrx h.1];cases x.ev A with
  | none=>exact zb5
  | some c =>
   refine zuL (sr_ite c (iha _ _ _ h.2.1) (ihb _ _ _ h.2.2.1)) λL=>?_;rw[zlD];exact ihk _ _ _ h.2.2.2
 | blk id a J' W k iha ihk =>
  intro cx J A h;simp only[C.still,Bool.and_eq_true]at h;simp only[exec,M.blk];refine zbK (iha _ _ _ h.1) λr=>?_;cases r with
  | nrm L=>simp only[zhJ]; rw[zlD]; exact ihk _ _ _ h.2
  | ex i L =>
   simp only[zhJ];by_cases e:i=id
   ·simp only[if_pos e]; rw[zlD]; exact ihk _ _ _ h.2
   ·simp only[if_neg e]; exact zcv (zhJ d) (.ex i L)
  | ret L=>exact zcv (zhJ d) (.ret L)
 | loop a K W iha =>
  intro cx J A h;refine zbK (zbV (zjd A K)) λL=>sr_iter (λL=>?_) L;rw[zlD];exact iha _ _ _ h
 | exit id =>
  intro cx J A _;simp only[exec];cases zjU cx id with
  | none=>exact zb5
  | some J=>exact zbK (zbV (zjd A J)) λL=>zcv (zhJ d) (.ex id L)
 | ret=>intro cx J A _; exact zbK (zj4 A rv) λL=>zcv (zhJ d) (.ret L)
theorem zs3(l:List V):∀i,params i (shL d l)=shF d (params i l):=by
 induction l with
 | nil=>intro i; rfl
 | cons v vs ih=>intro i; simp only[shL,params]; rw[ih]; rfl
theorem zu0(L:List V):zc4 (shL d L)=sh d (zc4 L):=by
 rcases L with _|⟨a,_|⟨b,L⟩⟩<;>rfl
theorem sr_fn (hg:∀f args,ShR d R (sh d) (g f args) (g' f (shL d args))) (f:Fn') (args:List V) (h:f.body.still=true):ShR d R (sh d) (f.run g args) (f.run g' (shL d args)):=by
 unfold Fn'.run;rw[zs3];refine zbK (sr_exec hg _ _ _ _ _ h) λr=>?_;cases r with
 | ret L=>simp only[zhJ]; rw[zu0]; exact zcv (sh d) (zc4 L)
 | nrm L=>exact zb5
 | ex id L=>exact zb5
end
theorem zuN{d:Nat}{R:Nat→Option Blk}{T0 T:FuncId→Option Fn'}(hT:∀f ir,T0 f=some ir→T f=some ir∧ir.body.still=true):∀(n:Nat) (f:FuncId) (args:List V),ShR d R (sh d) (deep T0 n f args) (deep T n f (shL d args))
 | 0,f,args=>zb5
 | n+1,f,args=>by
  unfold deep;cases hf:T0 f with
  | none=>exact zb5
  | some ir =>
   rw[(hT f ir hf).1];dsimp only;rw[zb6];split
   ·exact sr_fn (zuN hT n) ir args (hT f ir hf).2
   ·exact zb5
theorem sr_sem{d:Nat}{R:Nat→Option Blk}{T0 T:FuncId→Option Fn'}(hT:∀f ir,T0 f=some ir→T f=some ir∧ir.body.still=true)(f:FuncId)(args:List V):ShR d R (sh d) (sem T0 f args) (sem T f (shL d args)):=by
 intro H a H' e;unfold sem at e;split at e
 ·exact zfs (zuN hT _ f args H a H' e)
 ·cases e
end Go.Ax
/- Ax36 -/
namespace Go.Ax
structure Rsu where
 u:Unit
def Heap.pluc(H:Heap)(G:Rsu):Heap:=H
structure Dcl (H:Heap) (G:Rsu):Prop where
 cl:∀i,H.next≤i→H.get i=none
section
variable {G:Rsu} {H H':Heap}
theorem Dcl.get(h:Dcl H G){id:Nat}{b:Blk}(hb:H.get id=some b):(H.pluc G).get id=some b:=hb
theorem Dcl.lt(h:Dcl H G){id:Nat}{b:Blk}(hb:H.get id=some b):id<H.next:=by
 by_cases hl:id<H.next
 ·exact hl
 ·rw[h.cl id (by omega)]at hb; cases hb
theorem Dcl.set(h:Dcl H G){id:Nat}{b:Blk}(hb:H.get id=some b)(o:Option Blk):(H.pluc G).set id o=(H.set id o).pluc G∧Dcl (H.set id o) G:=by
 have hl:=h.lt hb;refine⟨rfl,⟨λi hi=>?_⟩⟩;have hi:H.next≤i:=hi;rw[zap _ _ (by omega)];exact h.cl i hi
theorem Dcl.new(h:Dcl H G)(b:Blk):(H.pluc G).new b=(H.new b).pluc G∧Dcl (H.new b) G:=by
 refine⟨rfl,⟨λi hi=>?_⟩⟩;rw[zaf]at hi;rw[zaE _ _ (by omega)];exact h.cl i (by omega)
def CfR(G:Rsu){α:Type}(x y:M α):Prop:=∀H a H',Dcl H G→x H=some (a,H')→y (H.pluc G)=some (a,H'.pluc G)∧Dcl H' G
abbrev CfM(G:Rsu){α:Type}(x:M α):Prop:=CfR G x x
section
variable {α β:Type}
theorem zbz(v:α):CfM G (M.pure v):=by
 intro H a H' hd h;simp only[M.pure,Option.some.injEq,Prod.mk.injEq]at h ⊢;obtain⟨rfl,rfl⟩:=h;exact⟨⟨rfl,rfl⟩,hd⟩
theorem zcD{y:M α}:CfR G M.fail y:=by intro H a H' hd h; cases h
theorem zeg(o:Option α):CfM G (M.lift o):=by
 intro H a H' hd h;cases o with
 | none=>cases h
 | some v=>exact zbz v H a H' hd h
theorem zbm{x x':M α}{f g:α→M β}(h:CfR G x x') (k:∀v,CfR G (f v) (g v)):CfR G (x.bind f) (x'.bind g):=by
 intro H a H' hd e;obtain⟨v,H1,h1,h2⟩:=bind_some e;obtain⟨e1,d1⟩:=h H v H1 hd h1;obtain⟨e2,d2⟩:=k v H1 a H' d1 h2;exact⟨by rw[bind_ok e1]; exact e2,d2⟩
theorem zqJ(c:V){x x' y y':M α}(h:CfR G x y)(k:CfR G x' y'):CfR G (M.ite c x x') (M.ite c y y'):=by
 cases c<;>first|exact zcD|skip
 rename_i b;cases b
 ·exact k
 ·exact h
theorem zdO{H:Heap}{a v:α}{H':Heap}(hd:Dcl H G) (h:(v,H)=(a,H')):(some (v,H.pluc G):Option (α×Heap))=some (a,H'.pluc G)∧Dcl H' G:=by
 injection h with h1 h2
 subst h1 h2;exact⟨rfl,hd⟩
theorem zlb{H:Heap}{a v:α}{H':Heap}{id:Nat}{b:Blk}{o:Option Blk}(hd:Dcl H G)(hb:H.get id=some b) (h:(v,H.set id o)=(a,H')):(some (v,(H.pluc G).set id o):Option (α×Heap))=some (a,H'.pluc G)∧Dcl H' G:=by
 injection h with h1 h2
 subst h1 h2;obtain⟨e,d⟩:=hd.set hb o;exact⟨by rw[e],d⟩
theorem zlc{H:Heap}{a v:α}{H':Heap}{b:Blk}(hd:Dcl H G) (h:(v,H.new b)=(a,H')):(some (v,(H.pluc G).new b):Option (α×Heap))=some (a,H'.pluc G)∧Dcl H' G:=by
 injection h with h1 h2
 subst h1 h2;obtain⟨e,d⟩:=hd.new b;exact⟨by rw[e],d⟩
theorem cf_snew{H:Heap}{a v:α}{H':Heap}{id:Nat}{b c:Blk}{o:Option Blk}(hd:Dcl H G)(hb:H.get id=some b) (h:(v,(H.set id o).new c)=(a,H')):(some (v,((H.pluc G).set id o).new c):Option (α×Heap))=some (a,H'.pluc G)∧Dcl H' G:=by
 injection h with h1 h2
 subst h1 h2;obtain⟨e,d⟩:=hd.set hb o;obtain⟨e',d'⟩:=d.new c;exact⟨by rw[e,e'],d'⟩
theorem zex{p:Prop}[Decidable p] {X Y:Option (α×Heap)} {X' Y':Option (α×Heap)} {a:α} {H':Heap} {R:Prop} (h1:X=some (a,H')→X'=some (a,H'.pluc G)∧R) (h2:Y=some (a,H')→Y'=some (a,H'.pluc G)∧R) (h:(if p then X else Y)=some (a,H')):(if p then X' else Y')=some (a,H'.pluc G)∧R:=by
 by_cases hp:p
 ·rw[if_pos hp]at h ⊢; exact h1 h
 ·rw[if_neg hp]at h ⊢; exact h2 h
theorem zaX{a:α}{H':Heap}{X:Prop} (h:(none:Option (α×Heap))=some (a,H')):X:=by cases h
theorem zgK{H:Heap}{id:Nat} {k k':Blk→Option (α×Heap)} {a:α} {H':Heap} (hd:Dcl H G) (h:(H.get id).bind k=some (a,H')) (hk:∀b,H.get id=some b→k b=some (a,H')→k' b=some (a,H'.pluc G)∧Dcl H' G):((H.pluc G).get id).bind k'=some (a,H'.pluc G)∧Dcl H' G:=by
 rw[Option.bind_eq_some_iff]at h;obtain⟨b,hb,h⟩:=h;rw[hd.get hb];exact hk b hb h
theorem zmY{γ:Type}{o:Option γ}{k k':γ→α×Heap}{a:α}{H':Heap}{R:Prop} (h:o.map k=some (a,H')) (hk:∀b,some (k b)=some (a,H')→some (k' b)=some (a,H'.pluc G)∧R):o.map k'=some (a,H'.pluc G)∧R:=by
 cases o with
 | none=>cases h
 | some b=>exact hk b h
end
theorem zba{γ:Type}{x y:γ}(h:some x=some y):x=y:=Option.some.inj h
theorem zrE(n:Option Nat)(p:V):CfM G (mload n p):=by
 intro H a H' hd h;cases p<;>first|exact zaX h|skip
 ·exact zgK hd h λb hb h=>zmY h λv h=>zdO hd (zba h)
 ·exact zmY h λv h=>zdO hd (zba h)
theorem cf_store(n:Nat)(p x:V):CfM G (mstore n p x):=by
 intro H a H' hd h;cases p<;>first|exact zaX h|skip
 exact zgK hd h λb hb h=>zex (λh=>zlb hd hb (zba h)) zaX h
theorem cf_box(ty:TypeId)(x:V):CfM G (mbox ty x):=by
 intro H a H' hd h;exact zex (λh=>zlc hd (zba h)) zaX h
theorem cf_slit(ty:TypeId)(l:Nat)(z:List V) (ps:List (Nat×Nat×V)):CfM G (mslit ty l z ps):=by
 intro H a H' hd h;exact zmY h λcs h=>zlc hd (zba h)
theorem zq6(hd:Dcl H G){e:Nat}{v:V}{q:List V×Nat}(h:rcells e H v=some q):rcells e (H.pluc G) v=some q:=h
theorem zrO(hd:Dcl H G){e:Nat}{v:V}{q:List V×Nat}(h:acells e H v=some q):acells e (H.pluc G) v=some q:=h
theorem cf_ac{α:Type}{H:Heap}{e:Nat}{v:V} {k k':List V×Nat→Option (α×Heap)} {a:α} {H':Heap} (hd:Dcl H G) (h:(acells e H v).bind k=some (a,H')) (hk:∀q,k q=some (a,H')→k' q=some (a,H'.pluc G)∧Dcl H' G):(acells e (H.pluc G) v).bind k'=some (a,H'.pluc G)∧Dcl H' G:=by
 rw[Option.bind_eq_some_iff]at h;obtain⟨q,hq,h⟩:=h;rw[zrO hd hq];exact hk q h
theorem cf_rc{α:Type}{H:Heap}{e:Nat}{v:V} {k k':List V×Nat→Option (α×Heap)} {a:α} {H':Heap} (hd:Dcl H G) (h:(rcells e H v).bind k=some (a,H')) (hk:∀q,k q=some (a,H')→k' q=some (a,H'.pluc G)∧Dcl H' G):(rcells e (H.pluc G) v).bind k'=some (a,H'.pluc G)∧Dcl H' G:=by
 rw[Option.bind_eq_some_iff]at h;obtain⟨q,hq,h⟩:=h;rw[zq6 hd hq];exact hk q h
theorem zob(ty e b:Nat)(q:List V×Nat)(x:V):CfM G (mappendq ty e b q x):=by
 intro H a H' hd h;cases x<;>first|exact zaX h|skip
 ·exact zex (λh=>zdO hd (zba h)) (zex (λh=>zlc hd (zba h)) zaX) h
 ·rename_i id off len cap;refine zgK hd h λb hb h=>zex (λh=>?_) zaX h;cases cap with
  | fix c=>exact zex (zex (λh=>zlb hd hb (zba h)) zaX) (zex (λh=>zlc hd (zba h)) zaX) h
  | opn ee=>exact zex (zex (λh=>zdO hd (zba h)) (zex (λh=>cf_snew hd hb (zba h)) zaX)) (zex (λh=>zdO hd (zba h)) (zex (λh=>zlb hd hb (zba h)) zaX)) h
 ·exact zex (λh=>zdO hd (zba h)) zaX h
theorem zwv(ty e b:Nat)(x y:V):CfM G (mappend ty e b x y):=by
 intro H a H' hd h;exact cf_ac hd h λq h=>zob ty e b q x H a H' hd h
theorem ztV(ty b:Nat)(z:List V)(x y:V):CfM G (mappendz ty b z x y):=by
 intro H a H' hd h;cases y<;>first|exact zaX h|skip
 exact zex (λh=>zob _ _ _ _ _ H a H' hd h) zaX h
theorem cf_copy(e:Nat)(x y:V):CfM G (mcopy e x y):=by
 intro H a H' hd h;refine cf_ac hd h λq h=>?_;cases x<;>first|exact zaX h|skip
 ·exact zdO hd (zba h)
 ·exact zgK hd h λb hb h=>zex (λh=>zlb hd hb (zba h)) zaX h
theorem cf_tostr(x:V):CfM G (mtostr x):=by
 intro H a H' hd h;exact cf_rc hd h λq h=>zmY h λv h=>zdO hd (zba h)
theorem zoa(ty:TypeId)(x:V):CfM G (mtobytes ty x):=by
 intro H a H' hd h;cases x<;>first|exact zaX h|skip
 exact zex (λh=>zlc hd (zba h)) zaX h
theorem zwo(ty:TypeId)(x:V):CfM G (mremark ty x):=by
 intro H a H' hd h;cases x<;>first|exact zaX h|skip
 ·exact zoa ty (.str _) H a H' hd h
 ·exact zgK hd h λb hb h=>zex zaX (λh=>zdO hd (zba h)) h
theorem ztS(ty b:Nat)(z:List V)(l c:V):CfM G (mmkslice ty b z l c):=by
 intro H a H' hd h;unfold mmkslice at h ⊢;split at h
 ·exact zex (λh=>zlc hd (zba h)) zaX h
 ·exact zaX h
theorem cf_mknz(ty:TypeId)(x:V):CfM G (mmknz ty x):=by
 intro H a H' hd h;unfold mmknz at h ⊢;split at h
 ·exact zex (λh=>zlc hd (zba h)) zaX h
 ·exact zaX h
theorem zwn(e:Nat)(x lo hi:V):CfM G (mslice2 e x lo hi):=by
 intro H a H' hd h;unfold mslice2 at h ⊢;split at h
 ·exact zgK hd h λb hb h=>zex (λh=>zdO hd (zba h)) zaX h
 ·exact zaX h
theorem cf_clear(z:List V)(x:V):CfM G (mclear z x):=by
 intro H a H' hd h;cases x<;>first|exact zaX h|skip
 exact zex (λh=>zdO hd (zba h)) (λh=>zgK hd h λb hb h=>zex (λh=>zlb hd hb (zba h)) zaX h) h
theorem cf_mkmap(ty:TypeId):CfM G (mmkmap ty):=by
 intro H a H' hd h;exact zlc hd (zba h)
theorem zwr(mk:MK)(z:V)(ok:Bool)(x k:V):CfM G (mlookup mk z ok x k):=by
 intro H a H' hd h;cases x<;>first|exact zaX h|skip
 exact zgK hd h λb hb h=>zex (λh=>zmY h λv h=>zdO hd (zba h)) zaX h
theorem zwp(mk:MK)(x k v:V):CfM G (mmapset mk x k v):=by
 intro H a H' hd h;cases x<;>first|exact zaX h|skip
 exact zgK hd h λb hb h=>zex (λh=>zmY h λv h=>zlb hd hb (zba h)) zaX h
theorem zwq(x:V):CfM G (mmaplen x):=by
 intro H a H' hd h;cases x<;>first|exact zaX h|skip
 rename_i id;have h':(H.get id).bind (λb=>some (V.int .i64 ((b.cells.length/2:Nat):Int),H))=some (a,H'):=by rw[←h]; simp only[mmaplen]; cases H.get id<;>rfl
 have:=zgK (k':=λb=>some (V.int .i64 ((b.cells.length/2:Nat):Int),H.pluc G)) hd h' λb hb h=>zdO hd (zba h);rw[←this.1];exact⟨by simp only[mmaplen]; cases (H.pluc G).get id<;>rfl,this.2⟩
theorem cf_aload(k:IntKind)(p:V):CfM G (matoload k p):=by
 intro H a H' hd h;unfold matoload at h ⊢;rw[Option.bind_eq_some_iff]at h;obtain⟨⟨v,H1⟩,h1,h⟩:=h;obtain⟨e1,d1⟩:=zrE none p H v H1 hd h1;rw[e1];dsimp only[Option.bind_some]at h ⊢;cases v<;>first|exact zaX h|skip
 exact zex (λh=>zdO d1 (zba h)) zaX h
theorem cf_aadd(k:IntKind)(p y:V):CfM G (matoadd k p y):=by
 intro H a H' hd h;unfold matoadd at h ⊢;split at h
 ·refine zgK hd h λb hb h=>?_;split at h
  ·rename_i hc;exact zex (λh=>zlb hd hb (zba h)) zaX h
  ·exact zaX h
 ·exact zaX h
theorem ztT(p:Bool)(o:Nat)(x n:V):CfM G (mmapdrop p o x n):=by
 intro H a H' hd h;unfold mmapdrop at h ⊢;split at h
 ·refine zgK hd h λb hb h=>?_;split at h
  ·rename_i hc;exact zgK hd h λb hb h=>zmY h λv h=>zlb hd hb (zba h)
  ·exact zaX h
 ·exact zaX h
section
variable {g:Sem'}
theorem zaJ{A:Fr}{x:Arg}{k:V→M V} (h:∀v,CfM G (k v)):CfM G (with1 A x k):=by
 unfold with1;cases x.ev A with
 | none=>exact zcD
 | some v=>exact h v
theorem zlM{A:Fr}{xs:List Arg}{k:List V→M V} (h:∀v,CfM G (k v)):CfM G (withs A xs k):=by
 unfold withs;cases evs A xs with
 | none=>exact zcD
 | some v=>exact h v
theorem cf_run (hg:∀f args,CfM G (g f args)) (A:Fr) (ins:I):CfM G (ins.run g A):=by
 cases ins<;>unfold I.run<;>dsimp only
 case mkmap=>exact cf_mkmap _
 case build zero parts=>cases zbe A parts with|none=>exact zcD|some ps=>exact zeg _
 case slit=>rename_i ps; cases zbe A ps with|none=>exact zcD|some ps=>exact cf_slit _ _ _ _
 case call f args=>exact zlM λv=>hg f v
 case mkfn f caps=>exact zlM λv=>zbz _
 case callv x args=>exact zaJ λv=>zlM λvs=>by cases v<;>first|exact zcD|exact hg _ _
 case slice ck esz x lo hi mx =>
  refine zaJ λv=>?_;split
  ·exact zeg _
  ·exact zcD
 case minmax=>exact zaJ λv=>zlM λvs=>zeg _
 all_goals first
  | exact zaJ λv=>zbz _
  | exact zaJ λv=>zeg _
  | exact zaJ λv=>zaJ λw=>zeg _
  | exact zaJ λv=>zaJ λw=>zaJ λu=>zeg _
  | exact zaJ λv=>cf_box _ _
  | exact zaJ λv=>zrE _ _
  | exact zaJ λv=>cf_tostr _
  | exact zaJ λv=>zoa _ _
  | exact zaJ λv=>zwo _ _
  | exact zaJ λv=>cf_mknz _ _
  | exact zaJ λv=>cf_clear _ _
  | exact zaJ λv=>zwq _
  | exact zaJ λv=>cf_aload _ _
  | exact zaJ λv=>zaJ λw=>cf_store _ _ _
  | exact zaJ λv=>zaJ λw=>zwv _ _ _ _ _
  | exact zaJ λv=>zaJ λw=>ztV _ _ _ _ _
  | exact zaJ λv=>zaJ λw=>cf_copy _ _ _
  | exact zaJ λv=>zaJ λw=>ztS _ _ _ _ _
  | exact zaJ λv=>zaJ λw=>zwr _ _ _ _ _
  | exact zaJ λv=>zaJ λw=>cf_aadd _ _ _
  | exact zaJ λv=>zaJ λw=>ztT _ _ _ _
  | exact zaJ λv=>zaJ λw=>zaJ λu=>zwn _ _ _ _
  | exact zaJ λv=>zaJ λw=>zaJ λu=>zwp _ _ _ _
theorem ztU{A:Fr} {gd:Option (Nat×Bool)} {x:M V} (h:CfM G x):CfM G (guarded A gd x):=by
 unfold guarded;cases gd with
 | none=>exact h
 | some p =>
  dsimp only;cases A.get p.1 with
  | none=>exact zcD
  | some v =>
   cases v with
   | bool b =>
    dsimp only;by_cases hb:b=p.2
    ·rw[if_pos hb]; exact h
    ·rw[if_neg hb]; exact zbz _
   | tup vs=>cases vs with|nil=>exact zbz _|cons _ _=>exact zcD
   | _=>exact zcD
theorem ztW (hg:∀f args,CfM G (g f args)) (A:Fr) (o:AO):CfM G (o.run g A):=ztU (cf_run hg A o.ins)
theorem cf_ops (hg:∀f args,CfM G (g f args)):∀(l:List AO) (A:Fr),CfM G (ze2 g l A)
 | [],A=>zbz A
 | o::l,A=>zbm (ztW hg A o) λv=>cf_ops hg l _
theorem zwm(v:V)(h h':Heap):CfR G (M.unch v h h') (M.unch v (h.pluc G) (h'.pluc G)):=by
 intro H a H' hd e;unfold M.unch at e ⊢;split at e
 ·rename_i hp;rw[if_pos]
  ·exact zdO hd (zba e)
  ·intro id hid;exact hp id hid
 ·exact zaX e
theorem zph (un:List (Nat×Nat)) (j:Nat) (h h':Heap):∀rs,CfR G (zbl un j h h' rs) (zbl un j (h.pluc G) (h'.pluc G) rs)
 | []=>zbz ()
 | (i,a)::rs=>by
  unfold zbl;by_cases hc:un.contains (i,j)=true
  ·rw[if_pos hc,if_pos hc]; exact zbm (zwm a h h') λ_=>zph un j h h' rs
  ·rw[if_neg hc,if_neg hc]; exact zph un j h h' rs
theorem zpj (un:List (Nat×Nat)) (i:Nat) (a:V):∀js,CfR G (zbh un i a js) (zbh un i a (js.map λq=>(q.1,q.2.1.pluc G,q.2.2.pluc G)))
 | []=>zbz ()
 | (j,h,h')::js=>by
  show CfR G (zbh un i a ((j,h,h')::js)) (zbh un i a ((j,h.pluc G,h'.pluc G)::js.map λq=>(q.1,q.2.1.pluc G,q.2.2.pluc G)));unfold zbh;by_cases hc:un.contains (i,j)=true
  ·rw[if_pos hc,if_pos hc]; exact zbm (zwm a h h') λ_=>zpj un i a js
  ·rw[if_neg hc,if_neg hc]; exact zpj un i a js
theorem zws{α:Type}{f f':Heap→M α} (h:∀H,Dcl H G→CfR G (f H) (f' (H.pluc G))):CfR G (M.getH.bind f) (M.getH.bind f'):=by
 intro H a H' hd e;exact h H hd H a H' hd e
theorem cf_draw (hg:∀f args,CfM G (g f args)) (un:List (Nat×Nat)):∀(l:List AO) (p:Nat) (rs:List (Nat×V)) (js:List (Nat×Heap×Heap)) (A:Fr),CfR G (zaY g un p rs js l A) (zaY g un p rs (js.map λq=>(q.1,q.2.1.pluc G,q.2.2.pluc G)) l A):=by
 intro l
 induction l with
 | nil=>intro p rs js A; exact zbz A
 | cons o l ih =>
  intro p rs js A;unfold zaY;cases hk:o.ins.kind with
  | read x =>
   dsimp only;unfold zaY.with1';cases x.ev A with
   | none=>exact zbm (ztW hg A o) λv=>zbm (zpj un p _ js) λ_=>ih _ _ _ _
   | some a=>exact zbm (ztW hg A o) λv=>zbm (zpj un p _ js) λ_=>ih _ _ _ _
  | act=>exact zws λh hd=>zbm (ztW hg A o) λv=>zws λh' hd'=>zbm (zph un p h h' rs) λ_=>ih _ _ ((p,h,h')::js) _
  | pure=>exact zbm (ztW hg A o) λv=>ih _ _ _ _
  | new=>exact zbm (ztW hg A o) λv=>ih _ _ _ _
theorem zpi{body:List V→M Res} (h:∀L,CfM G (body L)) (L:List V):CfM G (M.iter body L):=by
 intro H a H' hd e;obtain⟨n,hn⟩:=zfv e;have key:∀(n:Nat) (L:List V),CfM G (iterN body n L):=by
  intro n
  induction n with
  | zero=>intro L; exact zcD
  | succ n ih =>
   intro L;show CfM G (M.join (body L) (iterN body n));refine zbm (h L) λr=>?_;cases r with
   | nrm L'=>exact ih L'
   | ex id L'=>exact zbz _
   | ret L'=>exact zbz _
 obtain⟨e1,d1⟩:=key n L H a H' hd hn;exact⟨zhS e1,d1⟩
theorem zkE(A:Fr):∀rv,CfM G (results A rv)
 | []=>zbz _
 | .tmp t::rs=>zbm (zeg _) λv=>zbm (zkE A rs) λvs=>zbz _
 | .cell t n::rs=>zbm (zeg _) λa=>zbm (zrE n a) λv=>zbm (zkE A rs) λvs=>zbz _
theorem cf_exec (hg:∀f args,CfM G (g f args)) (rv:List RV):∀(c:C) (cx:List (Nat×List Nat)) (J:List Nat) (A:Fr),CfM G (exec g rv c cx J A):=by
 intro c
 induction c with
 | done=>intro cx J A; exact zbm (zeg _) λL=>zbz _
 | bad=>intro cx J A; exact zcD
 | ops l k ih=>intro cx J A; exact zbm (cf_ops hg l A) λA'=>ih _ _ _
 | draw l un k ih=>intro cx J A; exact zbm (cf_draw hg un l 0 [] [] A) λA'=>ih _ _ _
 | cond x a b iha ihb =>
  intro cx J A;simp only[exec];cases x.ev A with
  | none=>exact zcD
  | some c=>exact zqJ c (iha _ _ _) (ihb _ _ _)
 | condJ x a b J' W k iha ihb ihk =>
  intro cx J A;simp only[exec];cases x.ev A with
  | none=>exact zcD
  | some c =>
   refine zbm (zqJ c (iha _ _ _) (ihb _ _ _)) λr=>?_;cases r with
   | nrm L=>exact ihk _ _ _
   | ex id L=>exact zbz _
   | ret L=>exact zbz _
 | blk id a J' W k iha ihk =>
  intro cx J A;simp only[exec,M.blk];refine zbm (iha _ _ _) λr=>?_;cases r with
  | nrm L=>exact ihk _ _ _
  | ex i L =>
   dsimp only;by_cases e:i=id
   ·simp only[if_pos e]; exact ihk _ _ _
   ·simp only[if_neg e]; exact zbz _
  | ret L=>exact zbz _
 | loop a K W iha =>
  intro cx J A;exact zbm (zeg _) λL=>zpi (λL=>iha _ _ _) L
 | exit id =>
  intro cx J A;simp only[exec];cases zjU cx id with
  | none=>exact zcD
  | some J=>exact zbm (zeg _) λL=>zbz _
 | ret=>intro cx J A; exact zbm (zkE A rv) λL=>zbz _
theorem cf_fn (hg:∀f args,CfM G (g f args)) (f:Fn') (args:List V):CfM G (f.run g args):=zbm (cf_exec hg _ _ _ _ _) λr=>by
 cases r with
 | ret L=>exact zbz _
 | nrm L=>exact zcD
 | ex id L=>exact zcD
end
theorem zwt{T:FuncId→Option Fn'}:∀(n:Nat) (f:FuncId) (args:List V),CfM G (deep T n f args)
 | 0,f,args=>zcD
 | n+1,f,args=>by
  unfold deep;cases T f with
  | none=>exact zcD
  | some ir =>
   dsimp only;split
   ·exact cf_fn (zwt n) ir args
   ·exact zcD
theorem zqI{T:FuncId→Option Fn'}(f:FuncId)(args:List V):CfM G (sem T f args):=by
 intro H a H' hd e;unfold sem at e;split at e
 ·obtain⟨e1,d1⟩:=zwt _ f args H a H' hd e;exact⟨zfs e1,d1⟩
 ·cases e
end
def Heap.Cl(H:Heap):Prop:=∀i,H.next≤i→H.get i=none
theorem cl_0:H0.Cl:=λ_ _=>rfl
theorem zjY{H:Heap}(h:H.Cl)(b:Blk):(H.new b).Cl:=λi hi=>by
 rw[zaf]at hi;rw[zaE _ _ (by omega)];exact h i (by omega)
theorem zmW{H:Heap}(h:H.Cl){id:Nat}(hl:id<H.next)(o:Option Blk):(H.set id o).Cl:=λi hi=>by
 have hi:H.next≤i:=hi;rw[zap _ _ (by omega)];exact h i hi
theorem zlj{T:FuncId→Option Fn'}{f:FuncId}{args:List V}{H:Heap}{Q:V→Heap→Prop}(hc:H.Cl) (h:Ok (sem T f args) H Q):Ok (sem T f args) H λv H'=>Q v H'∧H'.Cl:=by
 obtain⟨v,H',h1,h2⟩:=h;exact⟨v,H',h1,h2,(zqI (G:=⟨()⟩) f args H v H' ⟨hc⟩ h1).2.cl⟩
theorem sem_any{T0 T:FuncId→Option Fn'}(hT:∀f ir,T0 f=some ir→T f=some ir∧ir.body.still=true){f:FuncId}{args:List V}{v:V}{H1 H:Heap}(ha:V.stills args=true) (h:sem T0 f args H0=some (v,H1)) (hc:H.Cl):sem T f args H=some (sh H.next v,H1.up H.next H.get):=by
 have:=sr_sem (d:=H.next) (R:=H.get) hT f args H0 v H1 h;rw[zcu args ha]at this;have e:H0.up H.next H.get=H:=by
  show Heap.mk _ _=H;have:∀i,(if i<H.next then H.get i else (H0.get (i-H.next)).map (shB H.next))=H.get i:=λi=>by
   by_cases hi:i<H.next
   ·rw[if_pos hi]
   ·rw[if_neg hi,hc i (by omega)]; rfl
  cases H with
  | mk g n =>
   congr 1
   ·funext i; exact this i
   ·exact Nat.zero_add n
 rw[e]at this;exact this
end Go.Ax
/- Ax37 -/
namespace Go.Ax
theorem zaz{α β:Type}{o:Option α}{f:α→Option β}{b:β}(h:o.bind f=some b):∃a,o=some a∧f a=some b:=by
 cases o with
 | none=>cases h
 | some a=>exact⟨a,rfl,h⟩
theorem zbn{α β:Type}{o:Option α}{f:α→β}{b:β}(h:o.map f=some b):∃a,o=some a∧f a=b:=by
 cases o with
 | none=>cases h
 | some a=>exact⟨a,rfl,by injection h⟩
theorem zjo{x:Value}{v:V}(h:V.ofValue x=some v):v.still=true:=by
 unfold V.ofValue at h;split at h<;>first|(injection h with h; subst h; rfl)|cases h
theorem zgY:∀{l:List Value} {vs:List V},V.ofCells l=some vs→V.stills vs=true
 | [],_,h=>by injection h with h; subst h; rfl
 | x::xs,_,h=>by
  obtain⟨v,h1,h⟩:=zaz h;obtain⟨vs,h2,h⟩:=zbn h;subst h;simp only[V.stills,zjo h1,zgY h2,Bool.and_true]
theorem zjp{x:Value}{v:V}(h:V.ofConst x=some v):v.still=true:=by
 unfold V.ofConst at h;split at h
 ·obtain⟨vs,h1,h⟩:=zbn h;subst h;exact zgY h1
 ·exact zjo h
theorem zag{x:Operand}{a:Arg}(h:zav x=some a):a.still=true:=by
 unfold zav at h;split at h
 ·injection h with h; subst h; rfl
 ·obtain⟨v,h1,h⟩:=zbn h;subst h;exact zjp h1
 ·injection h with h; subst h; rfl
 ·cases h
theorem zcR:∀{l:List Operand} {vs:List Arg},zb3 l=some vs→vs.all Arg.still=true
 | [],_,h=>by injection h with h; subst h; rfl
 | x::xs,_,h=>by
  obtain⟨v,h1,h⟩:=zaz h;obtain⟨vs,h2,h⟩:=zbn h;subst h;simp only[List.all_cons,zag h1,zcR h2,Bool.and_true]
theorem zhd{x:Option Operand}{a:Option Arg}(h:zhe x=some a):zjf a=true:=by
 unfold zhe at h;split at h
 ·injection h with h; subst h; rfl
 ·obtain⟨v,h1,h⟩:=zbn h;subst h;exact zag h1
theorem zc2{P:Program}{t:TypeId}{z:List V}(h:zeroOf P t=some z):V.stills z=true:=by
 obtain⟨v,h1,h⟩:=zaz h;exact zgY h
theorem zsF{P:Program}{t:TypeId}{z:V}(h:zvOf P t=some z):z.still=true:=by
 obtain⟨v,h1,h⟩:=zaz h;exact zjp h
theorem zhw{P:Program}{fs:Array Field}:∀{l:List (Nat×Operand)} {ps:List (Nat×Nat×Arg)},zfm P fs l=some ps→(ps.all λp=>p.2.2.still)=true
 | [],_,h=>by injection h with h; subst h; rfl
 | (i,x)::xs,_,h=>by
  obtain⟨f,h1,h⟩:=zaz h;obtain⟨s,h2,h⟩:=zaz h;obtain⟨a,h3,h⟩:=zaz h;obtain⟨vs,h4,h⟩:=zbn h;subst h;simp only[List.all_cons,zag h3,zhw h4,Bool.and_true]
theorem zfK{s:Nat}:∀{l:List (Nat×Operand)} {ps:List (Nat×Nat×Arg)},zfL s l=some ps→(ps.all λp=>p.2.2.still)=true
 | [],_,h=>by injection h with h; subst h; rfl
 | (i,x)::xs,_,h=>by
  obtain⟨a,h3,h⟩:=zaz h;obtain⟨vs,h4,h⟩:=zbn h;subst h;simp only[List.all_cons,zag h3,zfK h4,Bool.and_true]
theorem if_s{c:Prop}[Decidable c]{α:Type}{x:Option α}{y:α} (h:(if c then x else none)=some y):x=some y:=by
 by_cases hc:c
 ·rw[if_pos hc]at h; exact h
 ·rw[if_neg hc]at h; cases h
theorem zny{P:Program}{e:TypeId}{i:TypeInfo}{u:TypeId}{x y:Operand}{o:I}(h:zlL P e i u x y=some o):o.still=true:=by
 unfold zlL at h;split at h
 ·obtain⟨z,h1,h⟩:=zaz h;obtain⟨a,h3,h⟩:=zaz (if_s h);obtain⟨b,h4,h⟩:=zbn h;subst h;simp only[I.still,zc2 h1,zag h3,zag h4,Bool.and_true]
 ·cases h
theorem zkD{P:Program}{b:Builtin}{es:List Operand}{ts:List TypeId}{o:I}(h:zhh P b es ts=some o):o.still=true:=by
 unfold zhh at h;split at h
 ·split at h
  ·obtain⟨a,h3,h⟩:=zbn h; subst h; exact zag h3
  ·obtain⟨a,h3,h⟩:=zbn h; subst h; exact zag h3
  ·injection h with h; subst h; rfl
  ·obtain⟨a,h3,h⟩:=zbn h; subst h; exact zag h3
  ·cases h
 ·obtain⟨e,h1,h⟩:=zaz h;obtain⟨i,h2,h⟩:=zaz h;obtain⟨z,h5,h⟩:=zaz h;split at h
  ·obtain⟨a,h3,h⟩:=zaz h;obtain⟨b,h4,h⟩:=zbn h;subst h;simp only[I.still,zag h3,zag h4,Bool.and_true]
  ·exact zny h
 ·obtain⟨e,h1,h⟩:=zaz h;obtain⟨i,h2,h⟩:=zaz h;obtain⟨a,h3,h⟩:=zaz h;obtain⟨b,h4,h⟩:=zbn h;subst h;simp only[I.still,zag h3,zag h4,Bool.and_true]
 ·obtain⟨e,h1,h⟩:=zaz h;obtain⟨z,h2,h⟩:=zaz h;obtain⟨a,h3,h⟩:=zbn (if_s h);subst h;simp only[I.still,zc2 h2,zag h3,Bool.and_true]
 ·obtain⟨a,h3,h⟩:=zaz h;obtain⟨b,h4,h⟩:=zbn h;subst h;simp only[I.still,zag h3,zcR h4,Bool.and_true]
 ·obtain⟨a,h3,h⟩:=zaz h;obtain⟨b,h4,h⟩:=zbn h;subst h;simp only[I.still,zag h3,zcR h4,Bool.and_true]
 ·cases h
theorem zk8{P:Program}{n:Bool}{t:TypeId}{x y:Arg}{o:I}(hx:x.still=true)(hy:y.still=true)(h:zn9 P n t x y=some o):o.still=true:=by
 have key:(x.still&&y.still)=true:=by rw[hx,hy]; rfl
 unfold zn9 at h;split at h
 ·injection h with h; subst h; exact key
 ·injection h with h; subst h; exact key
 ·injection h with h; subst h; exact key
 ·split at h
  ·have h:=if_s h;injection h with h; subst h; exact key
  ·cases h
 ·split at h
  ·injection h with h; subst h; exact key
  ·obtain⟨a,h3,h⟩:=zbn h; subst h; exact key
 ·cases h
theorem zpe{P:Program}{op:BinOp}{t:TypeId}{x y:Arg}{o:I}(hx:x.still=true)(hy:y.still=true)(h:zmU P op t x y=some o):o.still=true:=by
 have key:(x.still&&y.still)=true:=by rw[hx,hy]; rfl
 unfold zmU at h;split at h
 ·injection h with h; subst h; exact key
 ·injection h with h; subst h; exact key
 ·injection h with h; subst h; exact key
 ·split at h
  ·exact zk8 hx hy h
  ·exact zk8 hx hy h
  ·cases h
 ·cases h
theorem zpd{k:Xk}{es:List Arg}{o:I}(ha:es.all Arg.still=true)(h:zib k es=some o):o.still=true:=by
 unfold zib at h;split at h<;>first
  | cases h; done
  | (injection h with h; subst h; simp only[List.all_cons,List.all_nil,Bool.and_true]at ha; exact ha)
theorem znx{P:Program}{f:FuncId}{es:List Arg}{o:I}(ha:es.all Arg.still=true)(h:zlK P f es=some o):o.still=true:=by
 unfold zlK at h;split at h
 ·split at h
  ·obtain⟨k,h1,h⟩:=zaz (if_s h);exact zpd ha h
  ·injection h with h; subst h; exact ha
 ·cases h
theorem zk7{P:Program}{o:Op}{i:I}(h:zn7 P o=some i):i.still=true:=by
 unfold zn7 at h;split at h
 case h_1=>obtain⟨a,h3,h⟩:=zbn h; subst h; exact zag h3
 case h_2=>obtain⟨a,h3,h⟩:=zbn h; subst h; exact zag h3
 case h_3 =>
  obtain⟨a,h1,h⟩:=zaz h;obtain⟨b,h2,h⟩:=zaz h;obtain⟨c,h3,h⟩:=zbn h;subst h;simp only[I.still,zag h1,zag h2,zag h3,Bool.and_true]
 case h_4=>obtain⟨a,h3,h⟩:=zbn h; subst h; exact zc2 h3
 case h_5=>obtain⟨a,h3,h⟩:=zbn h; subst h; exact zag h3
 case h_6 =>
  obtain⟨z,h1,h⟩:=zaz h;split at h
  ·obtain⟨a,h3,h⟩:=zbn (if_s h);subst h;simp only[I.still,zc2 h1,zhw h3,Bool.and_true]
  ·obtain⟨s,h2,h⟩:=zaz h;obtain⟨a,h3,h⟩:=zbn h;subst h;simp only[I.still,zc2 h1,zfK h3,Bool.and_true]
  ·cases h
 case h_7 =>
  obtain⟨e,h1,h⟩:=zaz h;obtain⟨s,h2,h⟩:=zaz h;obtain⟨z,h4,h⟩:=zaz h;obtain⟨a,h3,h⟩:=zbn (if_s h);subst h;simp only[I.still,zc2 h4,zfK h3,Bool.and_true]
 case h_8 =>
  obtain⟨n,h1,h⟩:=zaz h;obtain⟨a,h3,h⟩:=zbn h;subst h;exact zag h3
 case h_9 =>
  obtain⟨n,h1,h⟩:=zaz h;obtain⟨b,h2,h⟩:=zaz h;obtain⟨a,h3,h⟩:=zbn h;subst h;simp only[I.still,zag h2,zag h3,Bool.and_true]
 case h_10=>obtain⟨a,h3,h⟩:=zbn h; subst h; exact zag h3
 case h_11 =>
  obtain⟨a,h1,h⟩:=zaz h;obtain⟨b,h2,h⟩:=zaz h;exact zpe (zag h1) (zag h2) h
 case h_12=>obtain⟨a,h3,h⟩:=zbn h; subst h; exact zag h3
 case h_13 =>
  split at h
  ·obtain⟨a,h3,h⟩:=zbn h; subst h; exact zag h3
  ·obtain⟨a,h3,h⟩:=zbn h; subst h; exact zag h3
  ·split at h
   ·obtain⟨a,h3,h⟩:=zbn h; subst h; exact zag h3
   ·cases h
  ·split at h
   ·obtain⟨a,h3,h⟩:=zbn h; subst h; exact zag h3
   ·cases h
  ·split at h
   ·split at h
    ·obtain⟨a,h3,h⟩:=zbn h; subst h; exact zag h3
    ·obtain⟨a,h3,h⟩:=zbn h; subst h; exact zag h3
   ·cases h
  ·cases h
 case h_14 =>
  split at h
  ·obtain⟨f,h1,h⟩:=zaz h;obtain⟨n,h2,h⟩:=zaz h;obtain⟨a,h3,h⟩:=zbn (if_s h);subst h;exact zag h3
  ·cases h
 case h_15 =>
  split at h
  ·obtain⟨n,h2,h⟩:=zaz h;obtain⟨a,h1,h⟩:=zaz h;obtain⟨b,h3,h⟩:=zbn h;subst h;simp only[I.still,zag h1,zag h3,Bool.and_true]
  ·obtain⟨n,h2,h⟩:=zaz h;obtain⟨a,h1,h⟩:=zaz h;obtain⟨b,h3,h⟩:=zbn h;subst h;simp only[I.still,zag h1,zag h3,Bool.and_true]
  ·cases h
 case h_16 =>
  split at h
  ·obtain⟨n,h2,h⟩:=zaz h;obtain⟨l,h4,h⟩:=zaz h;obtain⟨a,h1,h⟩:=zaz h;obtain⟨b,h3,h⟩:=zbn h;subst h;simp only[I.still,zag h1,zag h3,Bool.and_true]
  ·obtain⟨a,h1,h⟩:=zaz h;obtain⟨b,h3,h⟩:=zbn h;subst h;simp only[I.still,zag h1,zag h3,Bool.and_true]
  ·cases h
 case h_17 =>
  split at h
  ·obtain⟨f,h1,h⟩:=zaz h;obtain⟨n,h2,h⟩:=zaz h;obtain⟨a,h3,h⟩:=zbn h;subst h;exact zag h3
  ·cases h
 case h_18=>obtain⟨a,h3,h⟩:=zbn h; subst h; exact zag h3
 case h_19 =>
  split at h
  ·obtain⟨a,h3,h⟩:=zbn h; subst h; exact zag h3
  ·cases h
 case h_20 =>
  obtain⟨a,h1,h⟩:=zaz h;obtain⟨b,h2,h⟩:=zaz h;obtain⟨c,h3,h⟩:=zaz h;obtain⟨d,h4,h⟩:=zaz h;have e1:=zag h1;have e2:=zhd h2;have e3:=zhd h3;have e4:=zhd h4;have key:(a.still&&(zjf b&&(zjf c&&zjf d)))=true:=by rw[e1,e2,e3,e4]; rfl
  split at h
  ·obtain⟨s,h5,h⟩:=zaz h;split at h
   ·have h:=if_s h;injection h with h; subst h
    simp only[zjf]at e2 e3;simp only[I.still,e1,e2,e3,Bool.and_true]
   ·injection h with h; subst h; exact key
  ·obtain⟨s,h5,h⟩:=zbn h;subst h; exact key
  ·injection h with h; subst h; exact key
  ·cases h
 case h_21 =>
  obtain⟨e,h1,h⟩:=zaz h;obtain⟨i,h2,h⟩:=zaz h;obtain⟨z,h5,h⟩:=zaz h;obtain⟨a,h3,h⟩:=zaz (if_s h);obtain⟨b,h4,h⟩:=zbn h;subst h;simp only[I.still,zc2 h5,zag h3,zag h4,Bool.and_true]
 case h_22 =>
  obtain⟨a,h3,h⟩:=zbn (if_s h);subst h;exact zcR h3
 case h_23 =>
  split at h
  ·injection h with h; subst h; rfl
  ·cases h
 case h_24 =>
  obtain⟨q,h1,h⟩:=zaz h;obtain⟨z,h2,h⟩:=zaz h;obtain⟨a,h3,h⟩:=zaz h;obtain⟨b,h4,h⟩:=zbn h;subst h;simp only[I.still,zsF h2,zag h3,zag h4,Bool.and_true]
 case h_25 =>
  obtain⟨q,h1,h⟩:=zaz h;obtain⟨a,h2,h⟩:=zaz h;obtain⟨b,h3,h⟩:=zaz h;obtain⟨c,h4,h⟩:=zbn h;subst h;simp only[I.still,zag h2,zag h3,zag h4,Bool.and_true]
 case h_26 =>
  obtain⟨q,h1,h⟩:=zaz h;obtain⟨a,h2,h⟩:=zaz h;obtain⟨b,h3,h⟩:=zaz h;obtain⟨c,h4,h⟩:=zbn h;subst h;simp only[I.still,zag h2,zag h3,zag h4,Bool.and_true]
 case h_27 =>
  obtain⟨a,h2,h⟩:=zaz h;exact znx (zcR h2) h
 case h_28 =>
  obtain⟨a,h2,h⟩:=zaz h;obtain⟨b,h3,h⟩:=zbn h;subst h;simp only[I.still,zag h2,zcR h3,Bool.and_true]
 case h_29=>exact zkD h
 case h_30=>cases h
theorem zla{P:Program}{ops:Array Oper}{o:Oper}{a:AO}(h:ziK P ops o=some a):a.still=true:=by
 obtain⟨i,h1,h⟩:=zaz h;split at h
 ·injection h with h; subst h; exact zk7 h1
 ·obtain⟨s,h2,h⟩:=zbn h;subst h;exact zk7 h1
theorem zjW{P:Program}{ops:Array Oper}:∀{l:List Oper} {es:List AO},zhf P ops l=some es→es.all AO.still=true
 | [],_,h=>by injection h with h; subst h; rfl
 | x::xs,_,h=>by
  obtain⟨a,h3,h⟩:=zaz h;obtain⟨vs,h4,h⟩:=zbn h;subst h;simp only[List.all_cons,zla h3,zjW h4,Bool.and_true]
theorem zjX{P:Program}{ops:Array Oper}:∀{l:List Nat} {es:List (Nat×AO)},zi4 P ops l=some es→(es.map (·.2)).all AO.still=true
 | [],_,h=>by injection h with h; subst h; rfl
 | x::xs,_,h=>by
  obtain⟨o,h1,h⟩:=zaz h;obtain⟨a,h3,h⟩:=zaz h;obtain⟨vs,h4,h⟩:=zbn h;subst h;simp only[List.map_cons,List.all_cons,zla h3,zjX h4,Bool.and_true]
theorem znw{P:Program}{ops:Array Oper}{ord:List Nat} {r:List AO×List (Nat×Nat)} (h:zhg P ops ord=some r):r.1.all AO.still=true:=by
 unfold zhg at h;obtain⟨l,h1,h⟩:=zaz h;have h:=if_s h;injection h with h; subst h
 exact zjX h1
theorem ztR{P:Program}:∀{c:Code} {k:C} {h:List (List Nat)} {r:C×List (List Nat)},k.still=true→comp P c k h=some r→r.1.still=true:=by
 intro c
 induction c with
 | skip=>intro k h r hk e; injection e with e; subst e; exact hk
 | region _ ops d =>
  intro k h r hk e;unfold comp at e;split at e
  ·injection e with e; subst e; rfl
  ·split at e
   ·obtain⟨l,h1,e⟩:=zbn e;subst e;simp only[C.still,zjW h1,hk,Bool.and_true]
   ·split at e
    ·obtain⟨l,h1,e⟩:=zbn (if_s e);subst e;simp only[C.still,znw h1,hk,Bool.and_true]
    ·cases e
 | seq a b iha ihb =>
  intro k h r hk e;unfold comp at e;obtain⟨s,h1,e⟩:=zaz e;exact iha (ihb hk h1) e
 | cond x a b iha ihb =>
  intro k h r hk e;unfold comp at e;obtain⟨x',hx,e⟩:=zaz e;split at e
  ·obtain⟨s,h1,e⟩:=zaz e;obtain⟨t,h2,e⟩:=zbn e;subst e;have e1:=iha rfl h1;have e2:=ihb hk h2;simp only[C.still,zag hx,e1,e2,Bool.and_true]
  ·split at e
   ·obtain⟨s,h1,e⟩:=zaz e;obtain⟨t,h2,e⟩:=zbn e;subst e;have e1:=iha hk h1;have e2:=ihb rfl h2;simp only[C.still,zag hx,e1,e2,Bool.and_true]
   ·split at e
    ·obtain⟨s,h1,e⟩:=zaz e;obtain⟨t,h2,e⟩:=zbn e;subst e;have e1:=iha rfl h1;have e2:=ihb rfl h2;simp only[C.still,zag hx,e1,e2,hk,Bool.and_true]
    ·cases e
 | block id a iha =>
  intro k h r hk e;unfold comp at e;split at e
  ·obtain⟨s,h1,e⟩:=zbn e;subst e;have e1:=iha rfl h1;simp only[C.still,e1,hk,Bool.and_true]
  ·cases e
 | loop a iha =>
  intro k h r hk e;unfold comp at e;split at e
  ·obtain⟨s,h1,e⟩:=zbn e;subst e;have e1:=iha (k:=.done) rfl h1;exact e1
  ·cases e
 | exit id=>intro k h r hk e; injection e with e; subst e; rfl
 | ret=>intro k h r hk e; injection e with e; subst e; rfl
 | _=>intros; rename_i e; cases e
theorem zqD{P:Program}{fn:Func} {h:List (List Nat)} {ir:Fn'} (e:zn8 P fn h=some ir):ir.body.still=true:=by
 unfold zn8 at e;obtain⟨b,h1,e⟩:=zaz e;obtain⟨r,h2,e⟩:=zaz e;obtain⟨rv,h3,e⟩:=zaz e;have e:=if_s e;injection e with e; subst e
 exact ztR (k:=.ret) rfl h2
theorem zqZ{P:Program} {h:FuncId→List (List Nat)} {f:FuncId} {ir:Fn'} (e:table P h f=some ir):ir.body.still=true:=by
 obtain⟨fn,h1,e⟩:=zaz e;exact zqD e
end Go.Ax
/- Ax21 -/
namespace Go.Ax.Cc
inductive CT where
 | lf (v:V)
 | nd (l r:CT)
def CT.get:Nat→CT→Nat→V
 | 0,.lf v,_=>v
 | 0,.nd _ _,_=>.undef
 | _+1,.lf _,_=>.undef
 | d+1,.nd l r,i=>if i<2 ^ d then CT.get d l i else CT.get d r (i-2 ^ d)
def CT.set{α:Type}:Nat→CT→Nat→V→(CT→α)→α
 | 0,.lf _,_,v,k=>k (.lf v)
 | 0,.nd _ _,_,v,k=>k (.lf v)
 | d+1,.lf _,i,v,k=>if i<2 ^ d then CT.set d (.lf .undef) i v λl'=>k (.nd l' (.lf .undef)) else CT.set d (.lf .undef) (i-2 ^ d) v λr'=>k (.nd (.lf .undef) r')
 | d+1,.nd l r,i,v,k=>if i<2 ^ d then CT.set d l i v λl'=>k (.nd l' r) else CT.set d r (i-2 ^ d) v λr'=>k (.nd l r')
def CT.sets{α:Type}(d:Nat):CT→Nat→List V→(CT→α)→α
 | t,_,[],k=>k t
 | t,i,v::vs,k=>CT.set d t i v λt'=>CT.sets d t' (i+1) vs k
def CT.abs:Nat→CT→List V
 | 0,.lf v=>[v]
 | 0,.nd _ _=>[.undef]
 | d+1,.lf _=>List.replicate (2 ^ (d+1)) .undef
 | d+1,.nd l r=>CT.abs d l++CT.abs d r
def CT.mk{α:Type}:Nat→List V→(CT→List V→α)→α
 | 0,[],k=>k (.lf .undef) []
 | 0,v::vs,k=>k (.lf v) vs
 | d+1,vs,k=>CT.mk d vs λl r=>CT.mk d r λl' r'=>k (.nd l l') r'
def CT.rng(d:Nat)(t:CT):Nat→Nat→List V
 | _,0=>[]
 | i,m+1=>CT.get d t i::CT.rng d t (i+1) m
theorem CT.abs_len:∀(d:Nat) (t:CT),(CT.abs d t).length=2 ^ d
 | 0,.lf _=>rfl
 | 0,.nd _ _=>rfl
 | d+1,.lf _=>by simp[CT.abs]
 | d+1,.nd l r=>by simp only[CT.abs,List.length_append,CT.abs_len d l,CT.abs_len d r,Nat.pow_succ]; omega
theorem CT.get_abs : ∀ (d : Nat) (t : CT) (i : Nat), i < 2 ^ d → (CT.abs d t)[i]? = some (CT.get d t i)
  | 0, .lf v, i, h => by have : i = 0 := by simpa using h
                         subst this; rfl
  | 0, .nd _ _, i, h => by have : i = 0 := by simpa using h
                           subst this; rfl
  | d + 1, .lf _, i, h => by simp only [CT.abs, CT.get, List.getElem?_replicate]; rw [if_pos h]
  | d + 1, .nd l r, i, h => by
    simp only [CT.abs, CT.get]
    rw [List.getElem?_append, CT.abs_len]
    by_cases hi : i < 2 ^ d
    · rw [if_pos hi, if_pos hi, CT.get_abs d l i hi]
    · rw [if_neg hi, if_neg hi, CT.get_abs d r _ (by rw [Nat.pow_succ] at h; omega)]
theorem CT.rng_abs(d:Nat)(t:CT):∀(m i:Nat),i+m≤2 ^ d→CT.rng d t i m=((CT.abs d t).drop i).take m
 | 0,i,_=>by simp[CT.rng]
 | m+1,i,h=>by
  have hi:i<(CT.abs d t).length:=by rw[CT.abs_len]; omega
  rw[CT.rng,CT.rng_abs d t m (i+1) (by omega),List.drop_eq_getElem_cons hi,List.take_succ_cons];have:=CT.get_abs d t i (by omega);rw[List.getElem?_eq_getElem hi]at this;injection this with this
  rw[this]
theorem CT.abs_blank(d:Nat):CT.abs d (.lf .undef)=List.replicate (2 ^ d) .undef:=by cases d<;>rfl
theorem CT.set_abs{α:Type}:∀(d:Nat) (t:CT) (i:Nat) (v:V) (k:CT→α),i<2 ^ d→∃t',CT.set d t i v k=k t'∧CT.abs d t'=(CT.abs d t).set i v:=by
 intro d
 induction d with
 | zero =>
  intro t i v k h;have:i=0:=by simpa using h
  subst this;cases t<;>exact⟨_,rfl,rfl⟩
 | succ d ih =>
  have key:∀(l r:CT) (i:Nat) (v:V) (k:CT→α),i<2 ^ (d+1)→(∃t',(if i<2 ^ d then CT.set d l i v λl'=>k (.nd l' r) else CT.set d r (i-2 ^ d) v λr'=>k (.nd l r'))=k t'∧CT.abs (d+1) t'=(CT.abs d l++CT.abs d r).set i v):=by
   intro l r i v k h;by_cases hi:i<2 ^ d
   ·rw[if_pos hi];obtain⟨t',h1,h3⟩:=ih l i v (λl'=>k (.nd l' r)) hi;refine⟨.nd t' r,h1,?_⟩;simp only[CT.abs,h3];rw[List.set_append_left _ _ (by rw[CT.abs_len]; exact hi)]
   ·rw[if_neg hi];obtain⟨t',h1,h3⟩:=ih r (i-2 ^ d) v (λr'=>k (.nd l r')) (by rw[Nat.pow_succ]at h; omega);refine⟨.nd l t',h1,?_⟩;simp only[CT.abs,h3];rw[List.set_append_right _ _ (by rw[CT.abs_len]; omega),CT.abs_len]
  intro t i v k h;cases t with
  | nd l r=>exact key l r i v k h
  | lf u =>
   obtain⟨t',h1,h2⟩:=key (.lf .undef) (.lf .undef) i v k h;refine⟨t',h1,?_⟩;rw[h2,CT.abs_blank];show _=(List.replicate (2 ^ (d+1)) .undef).set i v;rw[List.replicate_append_replicate,Nat.pow_succ];congr 2;omega
theorem zpF(cs:List V)(i:Nat)(v:V)(vs:List V) (h:i+(v::vs).length≤cs.length):splice cs i (v::vs)=splice (cs.set i v) (i+1) vs:=by
 simp only[List.length_cons]at h;apply List.ext_getElem?;intro j;rw[zdQ _ _ _ (by simpa using h),zdQ _ _ _ (by rw[List.length_set]; omega)];simp only[List.length_cons];by_cases h1:j=i
 ·subst h1;rw[if_pos (by omega),if_neg (by omega),Nat.sub_self,List.getElem?_cons_zero,List.getElem?_set_self (by omega)]
 ·by_cases h2:i≤j∧j<i+(vs.length+1)
  ·rw[if_pos h2,if_pos (by omega),show j-i=(j-(i+1))+1 by omega,List.getElem?_cons_succ]
  ·rw[if_neg h2,if_neg (by omega),List.getElem?_set_ne (by omega)]
theorem CT.sets_abs{α:Type}(d:Nat):∀(vs:List V) (t:CT) (i:Nat) (k:CT→α),i+vs.length≤2 ^ d→∃t',CT.sets d t i vs k=k t'∧CT.abs d t'=splice (CT.abs d t) i vs
 | [],t,i,k,h=>⟨t,rfl,by simp[splice]⟩
 | v::vs,t,i,k,h=>by
  simp only[List.length_cons]at h;obtain⟨t1,h1,h3⟩:=CT.set_abs d t i v (λt'=>CT.sets d t' (i+1) vs k) (by omega);obtain⟨t2,g1,g3⟩:=CT.sets_abs d vs t1 (i+1) k (by omega);refine⟨t2,by rw[CT.sets,h1,g1],?_⟩;rw[g3,h3,zpF _ _ _ _ (by rw[CT.abs_len,List.length_cons]; omega)]
theorem CT.mk_abs{α:Type}:∀(d:Nat) (vs:List V) (k:CT→List V→α),∃t,CT.mk d vs k=k t (vs.drop (2 ^ d))∧∀j,j<vs.length→j<2 ^ d→(CT.abs d t)[j]?=vs[j]?
 | 0,[],k=>⟨_,rfl,λj h=>by simp at h⟩
 | 0,v::vs,k=>⟨_,rfl,λj _ h=>(by
  have:j=0:=by simpa using h
  subst this;rfl)⟩
 | d+1,vs,k=>by
  obtain⟨t,h1,h3⟩:=CT.mk_abs d vs (λl r=>CT.mk d r λl' r'=>k (.nd l l') r');obtain⟨t',g1,g3⟩:=CT.mk_abs d (vs.drop (2 ^ d)) (λl' r'=>k (.nd t l') r');refine⟨.nd t t',?_,λj hj hj2=>?_⟩
  ·rw[CT.mk,h1,g1,List.drop_drop,Nat.pow_succ];rw[show 2 ^ d+2 ^ d=2 ^ d*2 by omega]
  ·simp only[CT.abs];rw[List.getElem?_append,CT.abs_len];by_cases h:j<2 ^ d
   ·rw[if_pos h,h3 j hj h]
   ·rw[if_neg h,g3 _ (by rw[List.length_drop]; omega) (by rw[Nat.pow_succ]at hj2; omega),List.getElem?_drop];congr 1;omega
structure Bk where
 ty:TypeId
 n:Nat
 d:Nat
 t:CT
 opn:Option Nat
def Bk.abs(b:Bk):Blk:=⟨b.ty,(CT.abs b.d b.t).take b.n,b.opn⟩
def dep:Nat→Nat→Nat→Nat
 | 0,d,_=>d
 | f+1,d,n=>if n≤2 ^ d then d else dep f (d+1) n
theorem dep_le:∀(f d n:Nat),n≤d+f→n≤2 ^ (dep f d n)
 | 0,d,n,h=>by
  rw[dep];have:d<2 ^ d:=Nat.lt_two_pow_self;omega
 | f+1,d,n,h=>by
  rw[dep];split
  ·assumption
  ·exact dep_le f (d+1) n (by omega)
def ofB{α:Type}(b:Blk)(k:Bk→α):α:=CT.mk (dep b.cells.length 0 b.cells.length) b.cells λt _=>k ⟨b.ty,b.cells.length,dep b.cells.length 0 b.cells.length,t,b.opn⟩
theorem zvx{α:Type}(b:Blk)(k:Bk→α):∃b',ofB b k=k b'∧b'.abs=b:=by
 obtain⟨t,h1,h3⟩:=CT.mk_abs (dep b.cells.length 0 b.cells.length) b.cells (λt _=>k ⟨b.ty,b.cells.length,dep b.cells.length 0 b.cells.length,t,b.opn⟩);refine⟨_,h1,?_⟩;have hle:=dep_le b.cells.length 0 b.cells.length (by omega);show(⟨b.ty,(CT.abs (dep b.cells.length 0 b.cells.length) t).take b.cells.length,b.opn⟩:Blk)=b;have:(CT.abs (dep b.cells.length 0 b.cells.length) t).take b.cells.length=b.cells:=by
  apply List.ext_getElem?;intro j;by_cases hj:j<b.cells.length
  ·rw[List.getElem?_take_of_lt hj,h3 j hj (by omega)]
  ·rw[List.getElem?_eq_none (by rw[List.length_take]; omega),List.getElem?_eq_none (by omega)]
 rw[this]
inductive Tr where
 | e
 | n (v:Option Bk) (l r:Tr)
def Tr.get:Tr→Nat→Option Bk
 | .e,_=>none
 | .n v l r,k=>if k=0 then v else if (k-1)%2=0 then l.get ((k-1)/2) else r.get ((k-1)/2)
def Tr.val:Tr→Option Bk
 | .e=>none
 | .n v _ _=>v
def Tr.left:Tr→Tr
 | .e=>.e
 | .n _ l _=>l
def Tr.right:Tr→Tr
 | .e=>.e
 | .n _ _ r=>r
def Tr.put:Nat→Tr→Nat→Option Bk→Tr
 | 0,t,_,_=>t
 | f+1,t,k,b=>if k=0 then .n b t.left t.right else if (k-1)%2=0 then .n t.val (Tr.put f t.left ((k-1)/2) b) t.right else .n t.val t.left (Tr.put f t.right ((k-1)/2) b)
theorem Tr.get_node(t:Tr)(k:Nat):t.get k=if k=0 then t.val else if (k-1)%2=0 then t.left.get ((k-1)/2) else t.right.get ((k-1)/2):=by
 cases t with
 | e=>simp[Tr.get,Tr.val,Tr.left,Tr.right]
 | n v l r=>simp[Tr.get,Tr.val,Tr.left,Tr.right]
theorem Tr.get_put:∀(f:Nat) (t:Tr) (k:Nat) (b:Option Bk),k<f→∀j,(Tr.put f t k b).get j=if j=k then b else t.get j:=by
 intro f
 induction f with
 | zero=>intro t k b h; omega
 | succ f ih =>
  intro t k b h j;simp only[Tr.put];by_cases hk:k=0
  ·subst hk;rw[if_pos rfl];simp only[Tr.get];by_cases hj:j=0
   ·rw[if_pos hj,if_pos hj]
   ·rw[if_neg hj,if_neg hj,Tr.get_node t j,if_neg hj]
  ·rw[if_neg hk];by_cases hp:(k-1)%2=0
   ·rw[if_pos hp];simp only[Tr.get];rw[Tr.get_node t j];by_cases hj:j=0
    ·rw[if_pos hj,if_pos hj,if_neg (by omega)]
    ·rw[if_neg hj,if_neg hj];by_cases hq:(j-1)%2=0
     ·rw[if_pos hq,if_pos hq,ih _ _ _ (by omega)];by_cases e:j=k
      ·subst e; rw[if_pos rfl,if_pos rfl]
      ·rw[if_neg (by omega),if_neg e]
     ·rw[if_neg hq,if_neg hq,if_neg (by rintro rfl; exact hq hp)]
   ·rw[if_neg hp];simp only[Tr.get];rw[Tr.get_node t j];by_cases hj:j=0
    ·rw[if_pos hj,if_pos hj,if_neg (by omega)]
    ·rw[if_neg hj,if_neg hj];by_cases hq:(j-1)%2=0
     ·rw[if_pos hq,if_pos hq,if_neg (by rintro rfl; exact hp hq)]
     ·rw[if_neg hq,if_neg hq,ih _ _ _ (by omega)];by_cases e:j=k
      ·subst e; rw[if_pos rfl,if_pos rfl]
      ·rw[if_neg (by omega),if_neg e]
structure Heap where
 t:Tr
 next:Nat
def Heap.getB(H:Heap)(id:Nat):Option Bk:=H.t.get id
def Heap.get(H:Heap)(id:Nat):Option Blk:=(H.t.get id).map Bk.abs
def Heap.setB(H:Heap)(id:Nat)(b:Option Bk):Heap:={ H with t:=Tr.put (id+1) H.t id b }
def Heap.set(H:Heap)(id:Nat)(b:Option Blk):Heap:=match b with|none=>H.setB id none|some b=>ofB b λb=>H.setB id (some b)
def Heap.new(H:Heap)(b:Blk):Heap:=ofB b λb=>{ t:=Tr.put (H.next+1) H.t H.next (some b),next:=H.next+1 }
def Heap.abs(H:Heap):Ax.Heap:=⟨H.get,H.next⟩
theorem ze1(H:Heap)(id:Nat):H.abs.get id=H.get id:=rfl
theorem zlQ(H:Heap):H.abs.next=H.next:=rfl
theorem zpr(H:Heap)(id:Nat)(b:Option Bk):(H.setB id b).abs=H.abs.set id (b.map Bk.abs):=by
 simp only[Heap.abs,Heap.setB,Ax.Heap.set,Ax.Heap.mk.injEq,and_true];funext i;simp only[Heap.get,Tr.get_put _ _ _ _ (Nat.lt_succ_self id)];by_cases h:i=id
 ·rw[if_pos h,if_pos h]
 ·rw[if_neg h,if_neg h]
theorem zie(H:Heap)(id:Nat)(b:Option Blk):(H.set id b).abs=H.abs.set id b:=by
 cases b with
 | none=>exact zpr H id none
 | some b =>
  obtain⟨b',h1,h2⟩:=zvx b (λb=>H.setB id (some b));simp only[Heap.set];rw[h1,zpr,Option.map_some,h2]
theorem zhk(H:Heap)(b:Blk):(H.new b).abs=H.abs.new b:=by
 obtain⟨b',h1,h2⟩:=zvx b (λb=>({ t:=Tr.put (H.next+1) H.t H.next (some b),next:=H.next+1 }:Heap));unfold Heap.new;rw[h1];simp only[Heap.abs,Ax.Heap.new,Ax.Heap.mk.injEq,and_true];funext i;simp only[Heap.get,Tr.get_put _ _ _ _ (Nat.lt_succ_self H.next)];by_cases h:i=H.next
 ·subst h;simp only[if_true,Option.map_some,h2]
 ·simp only[h,if_false]
abbrev M(α:Type):Type:=Heap→Option (α×Heap)
abbrev Sem':Type:=FuncId→List V→M V
def zso{α:Type}(n:Nat)(k:Nat→α):α:=Nat.rec (k 0) (λm _=>k (Nat.succ m)) n
theorem zv6{α:Type}(n:Nat)(k:Nat→α):zso n k=k n:=by cases n<;>rfl
def zv5{α:Type}(v:V)(k:V→α):α :=
 match v with
 | .int kk (.ofNat n)=>zso n λn=>k (.int kk (.ofNat n))
 | .int kk (.negSucc n)=>zso n λn=>k (.int kk (.negSucc n))
 | .lit (.float kk b)=>zso b λb=>k (.lit (.float kk b))
 | .bool true=>k (.bool true)
 | .bool false=>k (.bool false)
 | v=>k v
theorem zv4{α:Type}(v:V)(k:V→α):zv5 v k=k v:=by
 unfold zv5;split<;>first|rfl|exact zv6 ..
namespace M
def pure{α:Type}(a:α):M α:=λH=>some (a,H)
def fail{α:Type}:M α:=λ_=>none
def bind{α β:Type}(x:M α)(f:α→M β):M β:=λH=>match x H with|some r=>f r.1 r.2|none=>none
def lift(o:Option V):M V:=λH=>match o with|some a=>zv5 a λa=>some (a,H)|none=>none
def getH:M Heap:=λH=>some (H,H)
def ite{α:Type}(c:V)(x y:M α):M α:=match c with
 | .bool b=>if b then x else y
 | _=>fail
end M
def ldt(n:Option Nat)(b:Bk)(off:Nat):Option V :=
 match n with
 | none=>if off<b.n then (if off<2 ^ b.d then some (CT.get b.d b.t off) else none) else none
 | some n=>if off+n≤b.n then (if off+n≤2 ^ b.d then some (.agg (CT.rng b.d b.t off n)) else none) else none
def mload(n:Option Nat)(p:V):M V:=λH =>
 match p with
 | .ptr id off=>match H.getB id with|some b=>(match ldt n b off with|some v=>some (v,H)|none=>none)|none=>none
 | .rp cells off=>(ldc n cells off).map λv=>(v,H)
 | _=>none
def mstore(size:Nat)(p x:V):M V:=λH =>
 match p with
 | .ptr id off=>match H.getB id with
  | some b=>if x.cells.length=size∧off+size≤b.n∧off+size≤2 ^ b.d∧x.okc=true then CT.sets b.d b.t off x.cells λt=>some (.undef,H.setB id (some { b with t:=t })) else none
  | none=>none
 | _=>none
def mbox(ty:TypeId)(x:V):M V:=λH=>if x.okc=true then some (.ptr H.next 0,H.new ⟨ty,x.cells,none⟩) else none
def mslit(ty:TypeId)(len:Nat)(zero:List V) (parts:List (Nat×Nat×V)):M V:=λH =>
 (fill (zeros zero len) parts).map λcs=>(.sl H.next 0 len (.fix len),H.new ⟨ty,cs,none⟩)
def rcells(esz:Nat)(H:Heap):V→Option (List V×Nat)
 | .nils=>some ([],0)
 | .sl id off len _=>(H.get id).bind λb=>if off+len*esz≤b.cells.length then some ((b.cells.drop off).take (len*esz),len) else none
 | .rs cells len=>if len*esz≤cells.length then some (cells.take (len*esz),len) else none
 | _=>none
def acells(esz:Nat)(H:Heap):V→Option (List V×Nat)
 | .str s=>if esz=1 then some (strCells s,s.size) else none
 | v=>rcells esz H v
def mappendq(ty esz bytes:Nat)(q:List V×Nat)(x:V):M V:=λH =>
  match x with
  | .nils=>if q.2=0 then some (.nils,H) else if q.2*bytes≤140737488355328∧q.2≤maxLen then some (.sl H.next 0 q.2 (.opn esz),H.new ⟨ty,q.1,some esz⟩) else none
  | .sl id off len cap=>(H.get id).bind λb =>
   if off+len*esz≤b.cells.length∧b.ty=ty then
    match cap with
    | .fix c =>
     if len+q.2≤c then
      if off+(len+q.2)*esz≤b.cells.length then some (.sl id off (len+q.2) (.fix c),H.set id (some { b with cells:=splice b.cells (off+len*esz) q.1 })) else none
     else if (len+q.2)*bytes≤140737488355328∧len+q.2≤maxLen then
      some (.sl H.next 0 (len+q.2) (.opn esz),H.new ⟨ty,(b.cells.drop off).take (len*esz)++q.1,some esz⟩)
     else none
    | .opn e =>
     if e=esz∧b.opn=some esz∧b.cells.length=off+len*esz then
      if q.2=0 then some (.sl id off len (.opn e),H)
      else if (len+q.2)*bytes≤140737488355328∧len+q.2≤maxLen then
       some (.sl H.next 0 (len+q.2) (.opn esz),(H.set id none).new ⟨ty,b.cells.drop off++q.1,some esz⟩)
      else none
     else if e=esz∧q.2=0 then some (.sl id off len (.opn e),H)
     else if e=esz∧b.opn=some esz∧off+(len+q.2)*esz≤b.cells.length then
      some (.sl id off (len+q.2) (.opn e),H.set id (some { b with cells:=splice b.cells (off+len*esz) q.1 }))
     else none
   else none
  | .rs cells len=>if q.2=0 then some (.rs cells len,H) else none
  | _=>none
def mappend(ty esz bytes:Nat)(x y:V):M V:=λH=>(acells esz H y).bind λq=>mappendq ty esz bytes q x H
def mappendz(ty bytes:Nat)(zero:List V)(x n:V):M V:=λH =>
 match n with
 | .int _ l =>
  if 0≤IntKind.i64.wrap l∧IntKind.i64.wrap l*bytes≤281474976710656 then mappendq ty zero.length bytes (zeros zero (IntKind.i64.wrap l).toNat,(IntKind.i64.wrap l).toNat) x H else none
 | _=>none
def mcopy(esz:Nat)(d s:V):M V:=λH =>
 (acells esz H s).bind λq =>
  match d with
  | .nils=>some (.int .i64 0,H)
  | .sl id off len _=>(H.get id).bind λb =>
   if off+len*esz≤b.cells.length then
    some (.int .i64 ((min q.2 len:Nat):Int),H.set id (some { b with cells:=splice b.cells off (q.1.take (min q.2 len*esz)) }))
   else none
  | _=>none
def mslice2(esz:Nat)(x lo hi:V):M V:=λH =>
 match x,lo,hi with
 | .sl id off len (.opn e),.int _ l,.int _ h=>(H.get id).bind λb =>
  if e=esz∧b.opn=some esz∧0≤l∧l≤h∧off+h.toNat*esz≤b.cells.length then some (.sl id (off+l.toNat*esz) (h.toNat-l.toNat) (.opn e),H) else none
 | _,_,_=>none
def mclear(zero:List V)(x:V):M V:=λH =>
 match x with
 | .sl id off len _=>if len=0 then some (.undef,H) else (H.get id).bind λb =>
  if off+len*zero.length≤b.cells.length then some (.undef,H.set id (some { b with cells:=splice b.cells off (zeros zero len) })) else none
 | _=>none
def mmknz(ty:TypeId)(n:V):M V:=λH =>
 match n with
 | .int .i64 n=>if 0≤n∧n≤281474976710656 then some (.sl H.next 0 n.toNat (.opn 1),H.new ⟨ty,List.replicate n.toNat .any,some 1⟩) else none
 | _=>none
def mtostr(x:V):M V:=λH=>(rcells 1 H x).bind λq=>(zhH q.1).map λl=>(.str ⟨l.toArray⟩,H)
def mtobytes(ty:TypeId)(x:V):M V:=λH =>
 match x with
 | .str s=>if s.size≤maxLen then some (.sl H.next 0 s.size (.opn 1),H.new ⟨ty,strCells s,some 1⟩) else none
 | _=>none
def mremark(ty:TypeId)(x:V):M V:=λH =>
 match x with
 | .str s=>mtobytes ty (.str s) H
 | .sl id off len cap=>(H.get id).bind λ_=>if len=0 then none else some (.sl id off len cap,H)
 | _=>none
def mmkslice(ty bytes:Nat)(zero:List V)(len cap:V):M V:=λH =>
 match len,cap with
 | .int .i64 l,.int .i64 c =>
  if 0≤l∧l≤c∧c*bytes≤281474976710656∧c≤281474976710656 then
   some (.sl H.next 0 l.toNat (.fix c.toNat),H.new ⟨ty,zeros zero c.toNat,none⟩)
  else none
 | _,_=>none
def same1:V→V→Bool
 | .bool a,.bool b=>a==b
 | .int k a,.int k' b=>decide (k=k')&&decide (a=b)
 | .nilp,.nilp=>true
 | .nils,.nils=>true
 | .ptr a b,.ptr c d=>decide (a=c)&&decide (b=d)
 | .mp a,.mp b=>decide (a=b)
 | .sl a b c (.fix d),.sl a' b' c' (.fix d')=>decide (a=a')&&decide (b=b')&&decide (c=c')&&decide (d=d')
 | .sl a b c (.opn d),.sl a' b' c' (.opn d')=>decide (a=a')&&decide (b=b')&&decide (c=c')&&decide (d=d')
 | _,_=>false
def sames:List V→List V→Bool
 | [],[]=>true
 | v::vs,u::us=>same1 v u&&sames vs us
 | _,_=>false
def zvd:Option Blk→Option Blk→Bool
 | none,none=>true
 | some a,some b=>decide (a.ty=b.ty)&&decide (a.opn=b.opn)&&sames a.cells b.cells
 | _,_=>false
theorem same1_eq{a b:V}(h:same1 a b=true):a=b:=by
 unfold same1 at h;split at h<;>simp_all
theorem sames_eq:∀{a b:List V},sames a b=true→a=b:=by
 intro a
 induction a with
 | nil=>intro b h; cases b<;>simp_all [sames]
 | cons v a ih =>
  intro b h;cases b with
  | nil=>simp[sames]at h
  | cons u b =>
   simp only[sames,Bool.and_eq_true]at h;rw[same1_eq h.1,ih h.2]
theorem sameB_eq{a b:Option Blk}(h:zvd a b=true):a=b:=by
 cases a with
 | none=>cases b<;>simp_all [zvd]
 | some a =>
  cases b with
  | none=>simp[zvd]at h
  | some b =>
   obtain⟨t,c,o⟩:=a;obtain⟨t',c',o'⟩:=b;simp only[zvd,Bool.and_eq_true,decide_eq_true_eq]at h;obtain⟨⟨rfl,rfl⟩,h⟩:=h;rw[sames_eq h]
def mmkmap(ty:TypeId):M V:=λH=>some (.mp H.next,H.new ⟨ty,[],none⟩)
def mlookup(mk:MK)(zero:V)(ok:Bool)(x k:V):M V:=λH =>
 match x with
 | .mp id=>(H.get id).bind λb=>if kok mk k=true then (mget mk k b.cells).map λr=>(if ok then .tup [r.getD zero,.bool r.isSome] else r.getD zero,H) else none
 | _=>none
def mmapset(mk:MK)(x k v:V):M V:=λH =>
 match x with
 | .mp id=>(H.get id).bind λb=>if kok mk k=true then (mset mk k v b.cells).map λcs=>(.undef,H.set id (some { b with cells:=cs })) else none
 | _=>none
def mmapdrop(p:Bool)(o:Nat)(x n:V):M V:=λH =>
 match x,n with
 | .ptr id off,.int .i64 n=>(H.get id).bind λb0 =>
  match b0.cells[off+o]? with
  | some (.mp i)=>(H.get i).bind λb=>(mfil p n b.cells).map λcs=>(.undef,H.set i (some { b with cells:=cs }))
  | _=>none
 | _,_=>none
def matoload(k:IntKind)(p:V):M V:=λH=>(mload none p H).bind λr =>
 match r.1 with
 | .int k' n=>if k'=k then some (.int k n,r.2) else none
 | _=>none
def matoadd(k:IntKind)(p y:V):M V:=λH =>
 match p,y with
 | .ptr id off,.int _ j=>(H.get id).bind λb =>
  match b.cells[off]? with
  | some (.int k' n)=>if k'=k then some (.int k (k.wrap (n+j)),H.set id (some { b with cells:=splice b.cells off [.int k (k.wrap (n+j))] })) else none
  | _=>none
 | _,_=>none
def mmaplen(x:V):M V:=λH =>
 match x with
 | .mp id=>(H.get id).map λb=>(.int .i64 ((b.cells.length/2:Nat):Int),H)
 | _=>none
def M.unch(v:V)(h h':Heap):M Unit:=λH =>
 match v.pid with
 | none=>some ((),H)
 | some id=>if zvd (h'.get id) (h.get id) then some ((),H) else none
def callv(G:Sem')(x:V)(args:List V):M V :=
 match x with
 | .fn f caps=>G f (args++caps)
 | _=>M.fail
def with1{α:Type}(A:Fr)(x:Arg)(k:V→M α):M α:=match x.ev A with|some v=>k v|none=>M.fail
def withs{α:Type}(A:Fr)(xs:List Arg)(k:List V→M α):M α:=match evs A xs with|some v=>k v|none=>M.fail
def I.run(G:Sem')(A:Fr):I→M V
 | .mv x=>with1 A x M.pure
 | .pick c a b=>with1 A c λc=>with1 A a λa=>with1 A b λb=>M.lift (Ax.pick c a b)
 | .box ty x=>with1 A x λx=>mbox ty x
 | .build zero parts=>match zbe A parts with|some ps=>M.lift (Ax.build zero ps)|none=>M.fail
 | .slit ty l zero parts=>match zbe A parts with|some ps=>mslit ty l zero ps|none=>M.fail
 | .load n x=>with1 A x λx=>mload n x
 | .store size p x=>with1 A p λp=>with1 A x λx=>mstore size p x
 | .nilck x=>with1 A x λx=>M.lift (Ax.nilck x)
 | .bin op x y=>with1 A x λx=>with1 A y λy=>M.lift (Ax.bin op x y)
 | .eq k neg x y=>with1 A x λx=>with1 A y λy=>M.lift (eqr k neg x y)
 | .un op x=>with1 A x λx=>M.lift (Ax.un op x)
 | .cint k x=>with1 A x λx=>M.lift (Ax.cint k x)
 | .tostr x=>with1 A x λx=>mtostr x
 | .tobytes ty x=>with1 A x λx=>mtobytes ty x
 | .faddr o x=>with1 A x λx=>M.lift (Ax.faddr o x)
 | .iaddr alen esz x i=>with1 A x λx=>with1 A i λi=>M.lift (Ax.iaddr alen esz x i)
 | .index l esz n x i=>with1 A x λx=>with1 A i λi=>M.lift (Ax.index l esz n x i)
 | .sindex x i=>with1 A x λx=>with1 A i λi=>M.lift (Ax.sindex x i)
 | .field off n x=>with1 A x λx=>M.lift (Ax.field off n x)
 | .ext i x=>with1 A x λx=>M.lift (Ax.ext i x)
 | .len x=>with1 A x λx=>M.lift (vlen x)
 | .slen x=>with1 A x λx=>M.lift (Ax.slen x)
 | .slice ck esz x lo hi mx=>with1 A x λx =>
  match zdn A lo,zdn A hi,zdn A mx with|some lo,some hi,some mx=>M.lift (zaU ck esz x lo hi mx) | _,_,_=>M.fail
 | .append ty esz bytes x y=>with1 A x λx=>with1 A y λy=>mappend ty esz bytes x y
 | .appendz ty bytes zero x y=>with1 A x λx=>with1 A y λy=>mappendz ty bytes zero x y
 | .slice2 esz x lo hi=>with1 A x λx=>with1 A lo λlo=>with1 A hi λhi=>mslice2 esz x lo hi
 | .clear zero x=>with1 A x λx=>mclear zero x
 | .op1 k x=>with1 A x λx=>M.lift (Ax.op1 k x)
 | .mknz ty x=>with1 A x λx=>mmknz ty x
 | .remark ty x=>with1 A x λx=>mremark ty x
 | .copy esz x y=>with1 A x λx=>with1 A y λy=>mcopy esz x y
 | .mkslice ty bytes zero l c=>with1 A l λl=>with1 A c λc=>mmkslice ty bytes zero l c
 | .minmax mx x xs=>with1 A x λx=>withs A xs λxs=>M.lift (Ax.minmax mx x xs)
 | .call f args=>withs A args λargs=>G f args
 | .callv x args=>with1 A x λx=>withs A args λargs=>callv G x args
 | .mkfn f caps=>withs A caps λcaps=>M.pure (.fn f caps)
 | .mkmap ty=>mmkmap ty
 | .lookup mk zero ok x k=>with1 A x λx=>with1 A k λk=>mlookup mk zero ok x k
 | .mapset mk x k v=>with1 A x λx=>with1 A k λk=>with1 A v λv=>mmapset mk x k v
 | .maplen x=>with1 A x λx=>mmaplen x
 | .aload k x=>with1 A x λx=>matoload k x
 | .aadd k x y=>with1 A x λx=>with1 A y λy=>matoadd k x y
 | .mdrop p o x n=>with1 A x λx=>with1 A n λn=>mmapdrop p o x n
def guarded(A:Fr) (gd:Option (Nat×Bool)) (x:M V):M V :=
 match gd with
 | none=>x
 | some (s,want)=>match A.get s with
  | some (.bool b)=>if b=want then x else M.pure .undef
  | some (.tup [])=>M.pure .undef
  | _=>M.fail
def AO.run(G:Sem')(A:Fr)(o:AO):M V:=guarded A o.gd (I.run G A o.ins)
def step{α:Type}(G:Sem')(o:AO)(A:Fr)(k:V→M α):M α :=
 match o.gd,o.ins with
 | none,.mv x=>(match x.ev A with|some v=>k v|none=>M.fail)
 | _,_=>M.bind (AO.run G A o) k
def opsK{α:Type}(G:Sem'):List AO→Fr→(Fr→M α)→M α
 | [],A,k=>k A
 | o::os,A,k=>step G o A λv=>opsK G os (A.put o.dst v) k
def actsK{α:Type} (un:List (Nat×Nat)) (i:Nat) (a:V):List (Nat×Heap×Heap)→M α→M α
 | [],k=>k
 | (j,h,h')::js,k=>if un.contains (i,j) then M.bind (M.unch a h h') λ_=>actsK un i a js k else actsK un i a js k
def readsK{α:Type} (un:List (Nat×Nat)) (j:Nat) (h h':Heap):List (Nat×V)→M α→M α
 | [],k=>k
 | (i,a)::rs,k=>if un.contains (i,j) then M.bind (M.unch a h h') λ_=>readsK un j h h' rs k else readsK un j h h' rs k
def with1'{α:Type}(A:Fr)(x:Arg)(k:V→M α):M α:=match x.ev A with|some v=>k v|none=>k .undef
def drawK{α:Type}(G:Sem') (un:List (Nat×Nat)):Nat→List (Nat×V)→List (Nat×Heap×Heap)→List AO→Fr→(Fr→M α)→M α
 | _,_,_,[],A,k=>k A
 | p,rs,js,o::os,A,k =>
  match o.ins.kind with
  | .read x =>
   if un.any (λq=>q.1==p) then
    with1' A x λa=>step G o A λv=>actsK un p a js (drawK G un (p+1) ((p,a)::rs) js os (A.put o.dst v) k)
   else step G o A λv=>drawK G un (p+1) rs js os (A.put o.dst v) k
  | .act =>
   if un.any (λq=>q.2==p) then
    M.bind M.getH λh=>step G o A λv=>M.bind M.getH λh'=>readsK un p h h' rs (drawK G un (p+1) rs ((p,h,h')::js) os (A.put o.dst v) k)
   else step G o A λv=>drawK G un (p+1) rs js os (A.put o.dst v) k
  | _=>step G o A λv=>drawK G un (p+1) rs js os (A.put o.dst v) k
def M.join(x:M Res)(k:List V→M Res):M Res:=M.bind x λr =>
 match r with
 | .nrm L=>k L
 | .ex id L=>M.pure (.ex id L)
 | .ret L=>M.pure (.ret L)
def M.blk(id:Nat)(x:M Res)(k:List V→M Res):M Res:=M.bind x λr =>
 match r with
 | .nrm L=>k L
 | .ex i L=>if i=id then k L else M.pure (.ex i L)
 | .ret L=>M.pure (.ret L)
def iterN(body:List V→M Res):Nat→List V→M Res
 | 0,_=>M.fail
 | n+1,L=>M.join (body L) (iterN body n)
def M.iter(body:List V→M Res)(L:List V):M Res:=iterN body 1000000000 L
def resK{α:Type}(A:Fr):List RV→(List V→M α)→M α
 | [],k=>k []
 | .tmp t::rs,k=>match A.get t with|some v=>resK A rs λvs=>k (v::vs)|none=>M.fail
 | .cell t n::rs,k=>match A.get t with|some a=>M.bind (mload n a) λv=>resK A rs λvs=>k (v::vs)|none=>M.fail
def execK(G:Sem')(rv:List RV):C→List (Nat×List Nat)→List Nat→Fr→M Res
 | .done,_,J,A=>match zco A J with|some L=>M.pure (.nrm L)|none=>M.fail
 | .bad,_,_,_=>M.fail
 | .ops l k,cx,J,A=>opsK G l A λA'=>execK G rv k cx J A'
 | .draw l un k,cx,J,A=>drawK G un 0 [] [] l A λA'=>execK G rv k cx J A'
 | .cond x a b,cx,J,A=>match x.ev A with|some c=>M.ite c (execK G rv a cx J A) (execK G rv b cx J A)|none=>M.fail
 | .condJ x a b J' W k,cx,J,A=>match x.ev A with
  | some c=>M.join (M.ite c (execK G rv a cx J' A) (execK G rv b cx J' A)) λL=>execK G rv k cx J (A.join J' W L)
  | none=>M.fail
 | .blk id a J' W k,cx,J,A=>M.blk id (execK G rv a ((id,J')::cx) J' A) λL=>execK G rv k cx J (A.join J' W L)
 | .loop a K W,cx,_,A=>match zco A K with|some L=>M.iter (λL=>execK G rv a cx K (A.join K W L)) L|none=>M.fail
 | .exit id,cx,_,A=>match zjU cx id with|some J=>(match zco A J with|some L=>M.pure (.ex id L)|none=>M.fail)|none=>M.fail
 | .ret,_,_,A=>resK A rv λL=>M.pure (.ret L)
def fin(x:M Res):M V:=M.bind x λr =>
 match r with
 | .ret L=>M.pure (zc4 L)
 | _=>M.fail
/-! It does what the abstract machine does. -/
def Sim{α:Type}(x:M α)(y:Ax.M α):Prop:=∀c v c',x c=some (v,c')→y c.abs=some (v,c'.abs)
def Sims(g:Sem')(G:Ax.Sem'):Prop:=∀f args,Sim (g f args) (G f args)
section
variable {α β:Type}
theorem zdC(v:α):Sim (M.pure v) (Ax.M.pure v):=by
 intro c u c' h;simp only[M.pure,Option.some.injEq,Prod.mk.injEq]at h;obtain⟨rfl,rfl⟩:=h;rfl
theorem zbf{y:Ax.M α}:Sim M.fail y:=by intro c v c' h; cases h
theorem zbZ(o:Option V):Sim (M.lift o) (Ax.M.lift o):=by
 intro c u c' h;cases o with
 | none=>cases h
 | some a =>
  simp only[M.lift,zv4,Option.some.injEq,Prod.mk.injEq]at h;obtain⟨rfl,rfl⟩:=h;rfl
theorem zt1{x:M α}{f:α→M β}{c:Heap}{r:β×Heap}(h:M.bind x f c=some r):∃v c1,x c=some (v,c1)∧f v c1=some r:=by
 simp only[M.bind]at h;cases hx:x c with
 | none=>rw[hx]at h; cases h
 | some q=>rw[hx]at h; exact⟨q.1,q.2,rfl,h⟩
theorem zgS{x:M α}{y:Ax.M α}{f:α→M β}{g:α→Ax.M β}(h:Sim x y) (k:∀v,Sim (f v) (g v)):Sim (M.bind x f) (y.bind g):=by
 intro c v c' e;obtain⟨u,c1,h1,h2⟩:=zt1 e;rw[bind_ok (h c u c1 h1)];exact k u c1 v c' h2
theorem zuV(c:V){x x':M α}{y y':Ax.M α}(h:Sim x y)(k:Sim x' y'):Sim (M.ite c x x') (Ax.M.ite c y y'):=by
 cases c<;>first|exact zbf|skip
 rename_i b;cases b
 ·exact k
 ·exact h
theorem ldt_eq{n:Option Nat}{b:Bk}{off:Nat}{v:V}(h:ldt n b off=some v):ldc n b.abs.cells off=some v:=by
 cases n with
 | none =>
  simp only[ldt]at h;split at h
  ·rename_i h1;split at h
   ·rename_i h2;injection h with h
    subst h;simp only[ldc,Bk.abs];rw[List.getElem?_take_of_lt h1,CT.get_abs _ _ _ h2]
   ·cases h
  ·cases h
 | some n =>
  simp only[ldt]at h;split at h
  ·rename_i h1;split at h
   ·rename_i h2;injection h with h
    subst h;have hl:off+n≤((CT.abs b.d b.t).take b.n).length:=by rw[List.length_take,CT.abs_len]; omega
    show(if off+n≤((CT.abs b.d b.t).take b.n).length then some (V.agg ((((CT.abs b.d b.t).take b.n).drop off).take n)) else none) = _;rw[if_pos hl,CT.rng_abs _ _ _ _ h2,List.drop_take,List.take_take,Nat.min_eq_left (by omega)]
   ·cases h
  ·cases h
theorem zos(n:Option Nat)(p:V):Sim (mload n p) (Ax.mload n p):=by
 intro c v c' h;cases p<;>simp only[mload,Ax.mload,Option.bind_eq_some_iff,Option.map_eq_some_iff,Prod.mk.injEq,reduceCtorEq,ze1]at h ⊢
 ·split at h
  ·rename_i b hb;split at h
   ·rename_i u hu;simp only[Option.some.injEq,Prod.mk.injEq]at h;obtain⟨rfl,rfl⟩:=h;exact⟨b.abs,by simp only[Heap.get]; rw[show c.t.get _=some b from hb]; rfl,u,ldt_eq hu,rfl,rfl⟩
   ·cases h
  ·cases h
 ·obtain⟨u,hu,rfl,rfl⟩:=h; exact⟨u,hu,rfl,rfl⟩
theorem zuR(n:Nat)(p x:V):Sim (mstore n p x) (Ax.mstore n p x):=by
 intro c v c' h;cases p<;>simp only[mstore,Ax.mstore,Option.bind_eq_some_iff,reduceCtorEq,ze1]at h ⊢
 rename_i id off;split at h
 ·rename_i b hb;split at h
  ·rename_i hc;obtain⟨h1,h2,h3,h4⟩:=hc;obtain⟨t',g1,g2⟩:=CT.sets_abs b.d x.cells b.t off (λt=>some (V.undef,c.setB id (some { b with t:=t }))) (by omega);rw[g1]at h;simp only[Option.some.injEq,Prod.mk.injEq]at h;obtain⟨rfl,rfl⟩:=h;have hl:(b.abs.cells).length=min b.n (2 ^ b.d):=by simp only[Bk.abs,List.length_take,CT.abs_len]
   refine⟨b.abs,by simp only[Heap.get]; rw[show c.t.get _=some b from hb]; rfl,?_⟩;rw[if_pos ⟨h1,by omega,h4⟩,zpr];have e:(({ b with t:=t' }:Bk).abs) = { b.abs with cells:=splice b.abs.cells off x.cells }:=by
    simp only[Bk.abs,g2,Blk.mk.injEq,true_and,and_true];apply List.ext_getElem?;intro j;rw[zdQ _ _ _ (by rw[List.length_take,CT.abs_len]; omega)];by_cases hj:j<b.n
    ·rw[List.getElem?_take_of_lt hj,zdQ _ _ _ (by rw[CT.abs_len]; omega),List.getElem?_take_of_lt hj]
    ·rw[List.getElem?_eq_none (by rw[List.length_take]; omega),if_neg (by omega),List.getElem?_eq_none (by rw[List.length_take]; omega)]
   rw[Option.map_some,e]
  ·cases h
 ·cases h
theorem sim_box(ty:TypeId)(x:V):Sim (mbox ty x) (Ax.mbox ty x):=by
 intro c v c' h;simp only[mbox,Ax.mbox,zlQ]at h ⊢;split at h
 ·rename_i hc;rw[if_pos hc];simp only[Option.some.injEq,Prod.mk.injEq]at h ⊢;obtain⟨rfl,rfl⟩:=h;exact⟨rfl,(zhk ..).symm⟩
 ·cases h
theorem sim_slit(ty:TypeId)(l:Nat)(z:List V) (ps:List (Nat×Nat×V)):Sim (mslit ty l z ps) (Ax.mslit ty l z ps):=by
 intro c v c' h;simp only[mslit,Ax.mslit,Option.map_eq_some_iff,Prod.mk.injEq,zlQ]at h ⊢;obtain⟨cs,hcs,rfl,rfl⟩:=h;exact⟨cs,hcs,rfl,(zhk ..).symm⟩
theorem znI(e:Nat)(c:Heap)(v:V):Ax.rcells e c.abs v=rcells e c v:=by cases v<;>rfl
theorem zof(e:Nat)(c:Heap)(v:V):Ax.acells e c.abs v=acells e c v:=by cases v<;>first|rfl|exact znI ..
theorem zlW(ty e b:Nat)(q:List V×Nat)(x:V):Sim (mappendq ty e b q x) (Ax.mappendq ty e b q x):=by
 intro c v c' h;simp only[mappendq,Ax.mappendq]at h ⊢;cases x with
 | nils =>
  dsimp only at h ⊢;split at h
  ·rename_i h0;rw[if_pos h0];simp only[Option.some.injEq,Prod.mk.injEq]at h ⊢;exact⟨h.1,by rw[h.2]⟩
  ·rename_i h0;rw[if_neg h0];split at h
   ·rename_i h1;rw[if_pos h1];simp only[Option.some.injEq,Prod.mk.injEq]at h ⊢;obtain⟨rfl,rfl⟩:=h;exact⟨rfl,(zhk ..).symm⟩
   ·cases h
 | rs cells len =>
  dsimp only at h ⊢;split at h
  ·rename_i h0;rw[if_pos h0];simp only[Option.some.injEq,Prod.mk.injEq]at h ⊢;exact⟨h.1,by rw[h.2]⟩
  ·cases h
 | sl id off len cap =>
  simp only[Option.bind_eq_some_iff,ze1]at h ⊢;obtain⟨bl,hb,h⟩:=h;refine⟨bl,hb,?_⟩;split at h
  ·rename_i h0;rw[if_pos h0];cases cap with
   | fix cc =>
    dsimp only at h ⊢;split at h
    ·rename_i h1;rw[if_pos h1];split at h
     ·rename_i h2;rw[if_pos h2];simp only[Option.some.injEq,Prod.mk.injEq]at h ⊢;obtain⟨rfl,rfl⟩:=h;exact⟨rfl,(zie ..).symm⟩
     ·cases h
    ·rename_i h1;rw[if_neg h1];split at h
     ·rename_i h2;rw[if_pos h2];simp only[Option.some.injEq,Prod.mk.injEq]at h ⊢;obtain⟨rfl,rfl⟩:=h;exact⟨rfl,(zhk ..).symm⟩
     ·cases h
   | opn ee =>
    dsimp only at h ⊢;split at h
    ·rename_i h1;rw[if_pos h1];split at h
     ·rename_i h2;rw[if_pos h2];simp only[Option.some.injEq,Prod.mk.injEq]at h ⊢;exact⟨h.1,by rw[h.2]⟩
     ·rename_i h2;rw[if_neg h2];split at h
      ·rename_i h3;rw[if_pos h3];simp only[Option.some.injEq,Prod.mk.injEq]at h ⊢;obtain⟨rfl,rfl⟩:=h;exact⟨rfl,by rw[zhk,zie]⟩
      ·cases h
    ·rename_i h1;rw[if_neg h1];split at h
     ·rename_i h2;rw[if_pos h2];simp only[Option.some.injEq,Prod.mk.injEq]at h ⊢;exact⟨h.1,by rw[h.2]⟩
     ·rename_i h2;rw[if_neg h2];split at h
      ·rename_i h3;rw[if_pos h3];simp only[Option.some.injEq,Prod.mk.injEq]at h ⊢;obtain⟨rfl,rfl⟩:=h;exact⟨rfl,(zie ..).symm⟩
      ·cases h
  ·cases h
 | _=>cases h
theorem zs2(ty e b:Nat)(x y:V):Sim (mappend ty e b x y) (Ax.mappend ty e b x y):=by
 intro c v c' h;simp only[mappend,Ax.mappend,Option.bind_eq_some_iff,zof]at h ⊢;obtain⟨q,hq,h⟩:=h;exact⟨q,hq,zlW _ _ _ _ _ _ _ _ h⟩
theorem zq3(ty b:Nat)(z:List V)(x y:V):Sim (mappendz ty b z x y) (Ax.mappendz ty b z x y):=by
 intro c v c' h;unfold mappendz at h;unfold Ax.mappendz;split at h
 ·dsimp only at h ⊢;split at h
  ·rename_i h0;rw[if_pos h0];exact zlW _ _ _ _ _ _ _ _ h
  ·cases h
 ·cases h
theorem zsX(e:Nat)(x lo hi:V):Sim (mslice2 e x lo hi) (Ax.mslice2 e x lo hi):=by
 intro c v c' h;unfold mslice2 at h;unfold Ax.mslice2;split at h
 ·simp only[Option.bind_eq_some_iff,ze1]at h ⊢;obtain⟨bl,hb,h⟩:=h;refine⟨bl,hb,?_⟩;split at h
  ·rename_i h0;rw[if_pos h0];simp only[Option.some.injEq,Prod.mk.injEq]at h ⊢;exact⟨h.1,by rw[h.2]⟩
  ·cases h
 ·cases h
theorem zuW(z:List V)(x:V):Sim (mclear z x) (Ax.mclear z x):=by
 intro c v c' h;unfold mclear at h;unfold Ax.mclear;split at h
 ·dsimp only at h ⊢;split at h
  ·rename_i h0;rw[if_pos h0];simp only[Option.some.injEq,Prod.mk.injEq]at h ⊢;exact⟨h.1,by rw[h.2]⟩
  ·rename_i h0;rw[if_neg h0];simp only[Option.bind_eq_some_iff,ze1]at h ⊢;obtain⟨bl,hb,h⟩:=h;refine⟨bl,hb,?_⟩;split at h
   ·rename_i h1;rw[if_pos h1];simp only[Option.some.injEq,Prod.mk.injEq]at h ⊢;obtain⟨rfl,rfl⟩:=h;exact⟨rfl,(zie ..).symm⟩
   ·cases h
 ·cases h
theorem sim_mknz(ty:TypeId)(x:V):Sim (mmknz ty x) (Ax.mmknz ty x):=by
 intro c v c' h;unfold mmknz at h;unfold Ax.mmknz;split at h
 ·split at h
  ·rename_i hc;simp only[Option.some.injEq,Prod.mk.injEq]at h;obtain⟨rfl,rfl⟩:=h;simp only[if_pos hc,zhk,zlQ]
  ·cases h
 ·cases h
theorem sim_copy(e:Nat)(x y:V):Sim (mcopy e x y) (Ax.mcopy e x y):=by
 intro c v c' h;simp only[mcopy,Ax.mcopy,Option.bind_eq_some_iff,zof]at h ⊢;obtain⟨q,hq,h⟩:=h;refine⟨q,hq,?_⟩;cases x with
 | nils =>
  simp only[Option.some.injEq,Prod.mk.injEq]at h ⊢;exact⟨h.1,by rw[h.2]⟩
 | sl id off len cap =>
  simp only[Option.bind_eq_some_iff,ze1]at h ⊢;obtain⟨bl,hb,h⟩:=h;refine⟨bl,hb,?_⟩;split at h
  ·rename_i h0;rw[if_pos h0];simp only[Option.some.injEq,Prod.mk.injEq]at h ⊢;obtain⟨rfl,rfl⟩:=h;exact⟨rfl,(zie ..).symm⟩
  ·cases h
 | _=>cases h
theorem zuQ(x:V):Sim (mtostr x) (Ax.mtostr x):=by
 intro c v c' h;simp only[mtostr,Ax.mtostr,Option.bind_eq_some_iff,Option.map_eq_some_iff,Prod.mk.injEq,znI]at h ⊢;obtain⟨q,hq,l,hl,rfl,rfl⟩:=h;exact⟨q,hq,l,hl,rfl,rfl⟩
theorem zlV(ty:TypeId)(x:V):Sim (mtobytes ty x) (Ax.mtobytes ty x):=by
 intro c v c' h;unfold mtobytes at h;unfold Ax.mtobytes;split at h
 ·dsimp only at h ⊢;split at h
  ·rename_i h0;rw[if_pos h0];simp only[Option.some.injEq,Prod.mk.injEq]at h ⊢;obtain⟨rfl,rfl⟩:=h;exact⟨rfl,(zhk _ _).symm⟩
  ·cases h
 ·cases h
theorem zq1(ty b:Nat)(z:List V)(l k:V):Sim (mmkslice ty b z l k) (Ax.mmkslice ty b z l k):=by
 intro c v c' h;unfold mmkslice at h;unfold Ax.mmkslice;split at h
 ·rename_i a b';dsimp only at h ⊢;split at h
  ·rename_i h0;rw[if_pos h0];simp only[Option.some.injEq,Prod.mk.injEq]at h ⊢;obtain⟨rfl,rfl⟩:=h;exact⟨rfl,(zhk ..).symm⟩
  ·cases h
 ·cases h
theorem zrU(v:V)(h h':Heap):Sim (M.unch v h h') (Ax.M.unch v h.abs h'.abs):=by
 intro c u c' e;unfold M.unch at e;unfold Ax.M.unch;cases hp:v.pid with
 | none =>
  rw[hp]at e;simp only[Option.some.injEq,Prod.mk.injEq]at e;obtain⟨_,rfl⟩:=e;rw[if_pos (by intro id h; cases h)]
 | some id =>
  rw[hp]at e;dsimp only at e;split at e
  ·rename_i hs;simp only[Option.some.injEq,Prod.mk.injEq]at e;obtain⟨_,rfl⟩:=e;rw[if_pos];intro i hi;simp only[Option.some.injEq]at hi;subst hi;exact sameB_eq hs
  ·cases e
theorem zsY(ty:TypeId)(x:V):Sim (mremark ty x) (Ax.mremark ty x):=by
 intro c v c' h;unfold mremark at h;unfold Ax.mremark;split at h
 ·exact zlV _ _ _ _ _ h
 ·simp only[Option.bind_eq_some_iff,ze1]at h ⊢;obtain⟨bl,hb,h⟩:=h;refine⟨bl,hb,?_⟩;split at h
  ·cases h
  ·rename_i h0;rw[if_neg h0];simp only[Option.some.injEq,Prod.mk.injEq]at h ⊢;exact⟨h.1,by rw[h.2]⟩
 ·cases h
theorem zuU(ty:TypeId):Sim (mmkmap ty) (Ax.mmkmap ty):=by
 intro c v c' h;simp only[mmkmap,Ax.mmkmap,Option.some.injEq,Prod.mk.injEq,zlQ]at h ⊢;obtain⟨rfl,rfl⟩:=h;exact⟨rfl,(zhk ..).symm⟩
theorem zs1(mk:MK)(z:V)(ok:Bool)(x k:V):Sim (mlookup mk z ok x k) (Ax.mlookup mk z ok x k):=by
 intro c v c' h;cases x<;>simp only[mlookup,Ax.mlookup,Option.bind_eq_some_iff,reduceCtorEq,ze1]at h ⊢
 obtain⟨b,hb,h⟩:=h;refine⟨b,hb,?_⟩;split at h
 ·rename_i hc;rw[if_pos hc];simp only[Option.map_eq_some_iff,Prod.mk.injEq]at h ⊢;obtain⟨u,hu,h1,rfl⟩:=h;exact⟨u,hu,h1,rfl⟩
 ·cases h
theorem zsZ(mk:MK)(x k u:V):Sim (mmapset mk x k u) (Ax.mmapset mk x k u):=by
 intro c v c' h;cases x<;>simp only[mmapset,Ax.mmapset,Option.bind_eq_some_iff,reduceCtorEq,ze1]at h ⊢
 obtain⟨b,hb,h⟩:=h;refine⟨b,hb,?_⟩;split at h
 ·rename_i hc;rw[if_pos hc];simp only[Option.map_eq_some_iff,Prod.mk.injEq]at h ⊢;obtain⟨cs,hcs,rfl,rfl⟩:=h;exact⟨cs,hcs,rfl,(zie ..).symm⟩
 ·cases h
theorem zq2(p:Bool)(o:Nat)(x n:V):Sim (mmapdrop p o x n) (Ax.mmapdrop p o x n):=by
 intro c v c' h;unfold mmapdrop at h;unfold Ax.mmapdrop;split at h
 ·rename_i id off n;simp only[Option.bind_eq_some_iff]at h;obtain⟨b0,hb0,h⟩:=h;simp only[ze1,hb0,Option.bind_some];split at h
  ·rename_i i hi;simp only[Option.bind_eq_some_iff,Option.map_eq_some_iff,Prod.mk.injEq]at h;obtain⟨b,hb,cs,hcs,rfl,rfl⟩:=h;rw[hi];simp only[hb,hcs,Option.bind_some,Option.map_some,zie]
  ·cases h
 ·cases h
theorem zs0(x:V):Sim (mmaplen x) (Ax.mmaplen x):=by
 intro c v c' h;cases x<;>simp only[mmaplen,Ax.mmaplen,Option.map_eq_some_iff,Prod.mk.injEq,reduceCtorEq,ze1]at h ⊢
 obtain⟨b,hb,rfl,rfl⟩:=h;exact⟨b,hb,rfl,rfl⟩
theorem zuX(k:IntKind)(x:V):Sim (matoload k x) (Ax.matoload k x):=by
 intro c v c' h;unfold matoload at h;unfold Ax.matoload;simp only[Option.bind_eq_some_iff]at h ⊢;obtain⟨⟨u,c1⟩,h1,h⟩:=h;refine⟨_,zos _ _ _ _ _ h1,?_⟩;cases u<;>simp only[reduceCtorEq]at h
 dsimp only;split at h
 ·rename_i hk;rw[if_pos hk];simp only[Option.some.injEq,Prod.mk.injEq]at h ⊢;exact⟨h.1,by rw[h.2]⟩
 ·cases h
theorem sim_aadd(k:IntKind)(x y:V):Sim (matoadd k x y) (Ax.matoadd k x y):=by
 intro c v c' h;unfold matoadd at h;unfold Ax.matoadd;split at h
 ·simp only[Option.bind_eq_some_iff,ze1]at h ⊢;obtain⟨b,hb,h⟩:=h;refine⟨b,hb,?_⟩;split at h
  ·rename_i k2 n hc;rw[hc];dsimp only;split at h
   ·rename_i hk;rw[if_pos hk];simp only[Option.some.injEq,Prod.mk.injEq]at h ⊢;obtain⟨rfl,rfl⟩:=h;exact⟨rfl,(zie ..).symm⟩
   ·cases h
  ·cases h
 ·cases h
theorem zuS{g:Sem'}{G:Ax.Sem'}(hg:Sims g G)(A:Fr)(ins:I):Sim (I.run g A ins) (ins.run G A):=by
 have w1:∀(x:Arg) {k:V→M V} {k':V→Ax.M V},(∀v,Sim (k v) (k' v))→Sim (with1 A x k) (Ax.with1 A x k'):=by
  intro x k k' h;unfold with1 Ax.with1;cases x.ev A with
  | none=>exact zbf
  | some v=>exact h v
 have ws:∀(x:List Arg) {k:List V→M V} {k':List V→Ax.M V},(∀v,Sim (k v) (k' v))→Sim (withs A x k) (Ax.withs A x k'):=by
  intro x k k' h;unfold withs Ax.withs;cases evs A x with
  | none=>exact zbf
  | some v=>exact h v
 cases ins<;>simp only[I.run,Ax.I.run]
 case mv x=>exact w1 x zdC
 case pick c a b=>exact w1 _ λ_=>w1 _ λ_=>w1 _ λ_=>zbZ _
 case box=>exact w1 _ λ_=>sim_box _ _
 case build z ps=>cases zbe A ps<;>first|exact zbf|exact zbZ _
 case slit z ps=>cases zbe A ps<;>first|exact zbf|exact sim_slit _ _ _ _
 case load=>exact w1 _ λ_=>zos _ _
 case store=>exact w1 _ λ_=>w1 _ λ_=>zuR _ _ _
 case nilck=>exact w1 _ λ_=>zbZ _
 case bin=>exact w1 _ λ_=>w1 _ λ_=>zbZ _
 case eq=>exact w1 _ λ_=>w1 _ λ_=>zbZ _
 case un=>exact w1 _ λ_=>zbZ _
 case cint=>exact w1 _ λ_=>zbZ _
 case tostr=>exact w1 _ λ_=>zuQ _
 case tobytes=>exact w1 _ λ_=>zlV _ _
 case faddr=>exact w1 _ λ_=>zbZ _
 case iaddr=>exact w1 _ λ_=>w1 _ λ_=>zbZ _
 case index=>exact w1 _ λ_=>w1 _ λ_=>zbZ _
 case sindex=>exact w1 _ λ_=>w1 _ λ_=>zbZ _
 case field=>exact w1 _ λ_=>zbZ _
 case ext=>exact w1 _ λ_=>zbZ _
 case len=>exact w1 _ λ_=>zbZ _
 case slen=>exact w1 _ λ_=>zbZ _
 case slice ck e x lo hi mx =>
  refine w1 _ λ_=>?_;cases zdn A lo<;>cases zdn A hi<;>cases zdn A mx<;>first|exact zbf|exact zbZ _
 case append=>exact w1 _ λ_=>w1 _ λ_=>zs2 _ _ _ _ _
 case appendz=>exact w1 _ λ_=>w1 _ λ_=>zq3 _ _ _ _ _
 case copy=>exact w1 _ λ_=>w1 _ λ_=>sim_copy _ _ _
 case mkslice=>exact w1 _ λ_=>w1 _ λ_=>zq1 _ _ _ _ _
 case slice2=>exact w1 _ λ_=>w1 _ λ_=>w1 _ λ_=>zsX _ _ _ _
 case clear=>exact w1 _ λ_=>zuW _ _
 case op1=>exact w1 _ λ_=>zbZ _
 case mknz=>exact w1 _ λ_=>sim_mknz _ _
 case remark=>exact w1 _ λ_=>zsY _ _
 case minmax=>exact w1 _ λ_=>ws _ λ_=>zbZ _
 case call=>exact ws _ λ_=>hg _ _
 case callv =>
  refine w1 _ λv=>ws _ λ_=>?_;cases v<;>first|exact zbf|exact hg _ _
 case mkfn=>exact ws _ λ_=>zdC _
 case mkmap=>exact zuU _
 case lookup=>exact w1 _ λ_=>w1 _ λ_=>zs1 _ _ _ _ _
 case mapset=>exact w1 _ λ_=>w1 _ λ_=>w1 _ λ_=>zsZ _ _ _ _
 case mdrop=>exact w1 _ λ_=>w1 _ λ_=>zq2 _ _ _ _
 case maplen=>exact w1 _ λ_=>zs0 _
 case aload=>exact w1 _ λ_=>zuX _ _
 case aadd=>exact w1 _ λ_=>w1 _ λ_=>sim_aadd _ _ _
theorem sim_ao{g:Sem'}{G:Ax.Sem'}(hg:Sims g G)(A:Fr)(o:AO):Sim (AO.run g A o) (o.run G A):=by
 unfold AO.run Ax.AO.run guarded Ax.guarded;cases o.gd with
 | none=>exact zuS hg A o.ins
 | some p =>
  obtain⟨s,want⟩:=p;dsimp only;cases A.get s with
  | none=>exact zbf
  | some v =>
   cases v with
   | bool b =>
    dsimp only;by_cases hb:b=want
    ·simp only[if_pos hb]; exact zuS hg A o.ins
    ·simp only[if_neg hb]; exact zdC _
   | tup vs =>
    cases vs with
    | nil=>exact zdC _
    | cons _ _=>exact zbf
   | _=>exact zbf
theorem zfS{g:Sem'}{G:Ax.Sem'}(hg:Sims g G)(A:Fr)(o:AO){k:V→M α}{k':V→Ax.M α} (h:∀v,Sim (k v) (k' v)):Sim (step g o A k) (Ax.step G o A k'):=by
 have hr:=zgS (sim_ao hg A o) h;obtain⟨d,gd,ins⟩:=o;cases gd with
 | some _=>exact hr
 | none =>
  cases ins<;>first|exact hr|skip
  rename_i x;show Sim (match x.ev A with|some v=>k v|none=>M.fail) (match x.ev A with|some v=>k' v|none=>Ax.M.fail);cases x.ev A with
  | none=>exact zbf
  | some v=>exact h v
theorem sim_ops{g:Sem'}{G:Ax.Sem'}(hg:Sims g G){k:Fr→M α}{k':Fr→Ax.M α} (h:∀A,Sim (k A) (k' A)):∀(l:List AO) (A:Fr),Sim (opsK g l A k) (Ax.opsK G l A k'):=by
 intro l
 induction l with
 | nil=>intro A; exact h A
 | cons o l ih=>intro A; exact zfS hg A o λv=>ih _
def absJ (js:List (Nat×Heap×Heap)):List (Nat×Ax.Heap×Ax.Heap):=js.map λq=>(q.1,q.2.1.abs,q.2.2.abs)
theorem zrX {un:List (Nat×Nat)} {i:Nat} {a:V} {k:M α} {k':Ax.M α} (h:Sim k k'):∀js,Sim (actsK un i a js k) (Ax.actsK un i a (absJ js) k'):=by
 intro js
 induction js with
 | nil=>exact h
 | cons q js ih =>
  obtain⟨j,h1,h2⟩:=q;show Sim (if un.contains (i,j) then M.bind (M.unch a h1 h2) λ_=>actsK un i a js k else actsK un i a js k)
   (if un.contains (i,j) then (Ax.M.unch a h1.abs h2.abs).bind λ_=>Ax.actsK un i a (absJ js) k' else Ax.actsK un i a (absJ js) k')
  split
  ·exact zgS (zrU _ _ _) λ_=>ih
  ·exact ih
theorem zuT {un:List (Nat×Nat)} {j:Nat} {h1 h2:Heap} {k:M α} {k':Ax.M α} (h:Sim k k'):∀rs,Sim (readsK un j h1 h2 rs k) (Ax.readsK un j h1.abs h2.abs rs k'):=by
 intro rs
 induction rs with
 | nil=>exact h
 | cons q rs ih =>
  obtain⟨i,a⟩:=q;show Sim (if un.contains (i,j) then M.bind (M.unch a h1 h2) λ_=>readsK un j h1 h2 rs k else readsK un j h1 h2 rs k)
   (if un.contains (i,j) then (Ax.M.unch a h1.abs h2.abs).bind λ_=>Ax.readsK un j h1.abs h2.abs rs k' else Ax.readsK un j h1.abs h2.abs rs k')
  split
  ·exact zgS (zrU _ _ _) λ_=>ih
  ·exact ih
theorem zrW{f:Heap→M α}{f':Ax.Heap→Ax.M α} (h:∀c,Sim (f c) (f' c.abs)):Sim (M.bind M.getH f) (Ax.M.getH.bind f'):=by
 intro c v c' e;exact h c c v c' e
theorem sim_draw{g:Sem'}{G:Ax.Sem'}(hg:Sims g G) {un:List (Nat×Nat)} {k:Fr→M α} {k':Fr→Ax.M α} (h:∀A,Sim (k A) (k' A)):∀(l:List AO) (p:Nat) (rs:List (Nat×V)) (js:List (Nat×Heap×Heap)) (A:Fr),
  Sim (drawK g un p rs js l A k) (Ax.drawK G un p rs (absJ js) l A k'):=by
 intro l
 induction l with
 | nil=>intro p rs js A; exact h A
 | cons o l ih =>
  intro p rs js A;unfold drawK Ax.drawK;cases hk:o.ins.kind with
  | read x =>
   dsimp only;split
   ·unfold with1' zaY.with1';cases x.ev A with
    | none=>exact zfS hg A o λv=>zrX (ih _ _ _ _) js
    | some a=>exact zfS hg A o λv=>zrX (ih _ _ _ _) js
   ·exact zfS hg A o λv=>ih _ _ _ _
  | act =>
   dsimp only;split
   ·exact zrW λh1=>zfS hg A o λv=>zrW λh2=>zuT (ih _ _ ((p,h1,h2)::js) _) rs
   ·exact zfS hg A o λv=>ih _ _ _ _
  | pure=>exact zfS hg A o λv=>ih _ _ _ _
  | new=>exact zfS hg A o λv=>ih _ _ _ _
theorem zrV{x:M Res}{y:Ax.M Res}{k:List V→M Res}{k':List V→Ax.M Res}(h:Sim x y) (hk:∀L,Sim (k L) (k' L)):Sim (M.join x k) (Ax.M.join y k'):=by
 refine zgS h λr=>?_;cases r with
 | nrm L=>exact hk L
 | ex id L=>exact zdC _
 | ret L=>exact zdC _
theorem sim_blk{id:Nat}{x:M Res}{y:Ax.M Res}{k:List V→M Res}{k':List V→Ax.M Res}(h:Sim x y) (hk:∀L,Sim (k L) (k' L)):Sim (M.blk id x k) (Ax.M.blk id y k'):=by
 refine zgS h λr=>?_;cases r with
 | nrm L=>exact hk L
 | ex i L =>
  dsimp only;by_cases e:i=id
  ·simp only[if_pos e]; exact hk L
  ·simp only[if_neg e]; exact zdC _
 | ret L=>exact zdC _
theorem sim_iter{body:List V→M Res}{b:List V→Ax.M Res} (h:∀L,Sim (body L) (b L)) (L:List V):Sim (M.iter body L) (Ax.M.iter b L):=by
 have key:∀(n:Nat) (L:List V),Sim (iterN body n L) (Ax.iterN b n L):=by
  intro n
  induction n with
  | zero=>intro L; exact zbf
  | succ n ih=>intro L; exact zrV (h L) ih
 intro c v c' e;exact zhS (key _ L c v c' e)
theorem sim_res{A:Fr}:∀(rv:List RV) {k:List V→M α} {k':List V→Ax.M α},(∀L,Sim (k L) (k' L))→Sim (resK A rv k) (Ax.resK A rv k'):=by
 intro rv
 induction rv with
 | nil=>intro k k' h; exact h []
 | cons x rv ih =>
  intro k k' h;cases x with
  | tmp t =>
   simp only[resK,Ax.resK];cases A.get t with
   | none=>exact zbf
   | some v=>exact ih λvs=>h _
  | cell t n =>
   simp only[resK,Ax.resK];cases A.get t with
   | none=>exact zbf
   | some v=>exact zgS (zos _ _) λu=>ih λvs=>h _
theorem sim_exec{g:Sem'}{G:Ax.Sem'}(hg:Sims g G)(rv:List RV):∀(c:C) (cx:List (Nat×List Nat)) (J:List Nat) (A:Fr),Sim (execK g rv c cx J A) (Ax.execK G rv c cx J A):=by
 intro c
 induction c with
 | done=>intro cx J A; simp only[execK,Ax.execK]; cases zco A J<;>first|exact zbf|exact zdC _
 | bad=>intro cx J A; exact zbf
 | ops l k ih=>intro cx J A; exact sim_ops hg (λA'=>ih _ _ _) l A
 | draw l un k ih=>intro cx J A; exact sim_draw hg (λA'=>ih _ _ _) l 0 [] [] A
 | cond x a b iha ihb =>
  intro cx J A;simp only[execK,Ax.execK];cases x.ev A with
  | none=>exact zbf
  | some c=>exact zuV c (iha _ _ _) (ihb _ _ _)
 | condJ x a b J' W k iha ihb ihk =>
  intro cx J A;simp only[execK,Ax.execK];cases x.ev A with
  | none=>exact zbf
  | some c=>exact zrV (zuV c (iha _ _ _) (ihb _ _ _)) λL=>ihk _ _ _
 | blk id a J' W k iha ihk=>intro cx J A; exact sim_blk (iha _ _ _) λL=>ihk _ _ _
 | loop a K W iha =>
  intro cx J A;simp only[execK,Ax.execK];cases zco A K with
  | none=>exact zbf
  | some L=>exact sim_iter (λL=>iha _ _ _) L
 | exit id =>
  intro cx J A;simp only[execK,Ax.execK];cases zjU cx id with
  | none=>exact zbf
  | some J=>dsimp only; cases zco A J<;>first|exact zbf|exact zdC _
 | ret=>intro cx J A; exact sim_res rv λL=>zdC _
theorem sim_fin{x:M Res}{y:Ax.M Res}(h:Sim x y):Sim (fin x) (Ax.fin y):=by
 refine zgS h λr=>?_;cases r with
 | ret L=>exact zdC _
 | _=>exact zbf
end
theorem sim_fn{T:FuncId→Option Fn'}{f:FuncId}{ir:Fn'}(hT:T f=some ir){args:List V}(hl:args.length≤ir.ntmps){g:Sem'} (hg:Sims g (sem T)) {x:M Res} (hx:execK g ir.rv ir.body [] [] (params 0 args)=x):Sim (fin x) (sem T f args):=by
 intro c v c' h;refine zr0 hT hl rfl ?_;exact sim_fin (hx ▸ sim_exec hg ir.rv ir.body [] [] (params 0 args)) c v c' h
def yes(x:M V):Bool:=match x ⟨.e,0⟩with|some (.bool b,_)=>b | _=>false
end Go.Ax.Cc
/- Ax22 -/
namespace Go.Ax
class Kn (α:Type) where
 k:α
def OkB{α β:Type}(x:M α)(H:Heap) [f:Kn (α→M β)] [Q:Kn (β→Heap→Prop)]:Prop:=Ok (x.bind f.k) H Q.k
def OkI{α:Type}(c:V)(H:Heap) [x:Kn (M α)] [y:Kn (M α)] [Q:Kn (α→Heap→Prop)]:Prop:=Ok (M.ite c x.k y.k) H Q.k
def OkS{α:Type}(x:M α)(H:Heap) [Q:Kn (α→Heap→Prop)]:Prop:=Ok x H Q.k
def StK{β:Type}(o:Option Blk)(size id off:Nat)(x:V)(H:Heap) [f:Kn (V→M β)] [Q:Kn (β→Heap→Prop)]:Prop :=
 match o with
 | none=>False
 | some b=>(x.cells.length=size∧off+size≤b.cells.length∧x.okc=true)∧Ok (f.k .undef) (H.set id (some ⟨b.ty,splice b.cells off x.cells,b.opn⟩)) Q.k
def SlK{β:Type} (o:Option (List V)) (ty:TypeId) (len:Nat) (H:Heap) [f:Kn (V→M β)] [Q:Kn (β→Heap→Prop)]:Prop :=
 match o with
 | none=>False
 | some cs=>Ok (f.k (.sl H.next 0 len (.fix len))) (H.new ⟨ty,cs,none⟩) Q.k
section
variable {α β:Type} {H:Heap}
theorem d_bind{x:M α}{f:α→M β}{Q:β→Heap→Prop}:Ok (x.bind f) H Q = @OkB α β x H ⟨f⟩ ⟨Q⟩:=rfl
theorem d_ite{c:V}{x y:M α}{Q:α→Heap→Prop}:Ok (M.ite c x y) H Q = @OkI α c H ⟨x⟩ ⟨y⟩ ⟨Q⟩:=rfl
theorem d_iter{b:List V→M Res}{L:List V}{Q:Res→Heap→Prop}:Ok (M.iter b L) H Q = @OkS Res (M.iter b L) H ⟨Q⟩:=rfl
end
section
variable {α β γ:Type} {H:Heap}
theorem zrc{v:α}{Q:α→Heap→Prop}:Ok (M.pure v) H Q↔Q v H:=⟨λ⟨w,H',h,hq⟩=>by simp only[M.pure,Option.some.injEq,Prod.mk.injEq]at h; obtain⟨rfl,rfl⟩:=h; exact hq,zhO⟩
theorem zmi{x:M α}{f:α→M β}{Q:β→Heap→Prop}:Ok (x.bind f) H Q↔Ok x H λv H1=>Ok (f v) H1 Q:=by
 refine⟨λ⟨v,H',h,hq⟩=>?_,zao⟩;simp only[M.bind,Option.bind_eq_some_iff]at h;obtain⟨⟨w,H1⟩,h1,h2⟩:=h;exact⟨w,H1,h1,v,H',h2,hq⟩
theorem zox{v:α}{f:α→M β}{Q:β→Heap→Prop}:Ok ((M.pure v).bind f) H Q↔Ok (f v) H Q:=Iff.rfl
theorem okb_lift{v:α}{f:α→M β}{Q:β→Heap→Prop}:Ok ((M.lift (some v)).bind f) H Q↔Ok (f v) H Q:=Iff.rfl
theorem zvs{x:M α}{g:α→M β}{f:β→M γ}{Q:γ→Heap→Prop}:Ok ((x.bind g).bind f) H Q↔Ok (x.bind λv=>(g v).bind f) H Q:=by rw[M.bind_assoc]
theorem okb_getH{f:Heap→M β}{Q:β→Heap→Prop}:Ok (M.getH.bind f) H Q↔Ok (f H) H Q:=Iff.rfl
theorem zpW{id off:Nat}{h h':Heap}{f:Unit→M β}{Q:β→Heap→Prop}:Ok ((M.unch (.ptr id off) h h').bind f) H Q↔h'.get id=h.get id∧Ok (f ()) H Q:=by
 by_cases e:h'.get id=h.get id
 ·have hp:∀i,(V.ptr id off).pid=some i→h'.get i=h.get i:=by intro i hi; simp only[V.pid,Option.some.injEq]at hi; subst hi; exact e
  have:M.unch (.ptr id off) h h'=M.pure ():=by funext H; unfold M.unch; rw[if_pos hp]; rfl
  rw[this,zox]; simp[e]
 ·have hp:¬∀i,(V.ptr id off).pid=some i→h'.get i=h.get i:=λk=>e (k id rfl);constructor
  ·rintro⟨v,H',h1,_⟩;simp only[M.bind,M.unch]at h1;rw[if_neg hp]at h1;cases h1
  ·intro k; exact absurd k.1 e
theorem zq8{cells:List V}{off:Nat}{h h':Heap}{f:Unit→M β}{Q:β→Heap→Prop}:Ok ((M.unch (.rp cells off) h h').bind f) H Q↔Ok (f ()) H Q:=by
 have:M.unch (.rp cells off) h h'=M.pure ():=by funext H; unfold M.unch; rw[if_pos (by intro id h; cases h)]; rfl
 rw[this,zox]
theorem zrd{x:M Res}{k:List V→M Res}{Q:Res→Heap→Prop}:Ok (M.join x k) H Q↔Ok x H (Then k Q):=by
 refine⟨λ⟨r,H',h,hq⟩=>?_,ok_join⟩;simp only[M.join,M.bind,Option.bind_eq_some_iff]at h;obtain⟨⟨w,H1⟩,h1,h2⟩:=h;refine⟨w,H1,h1,?_⟩;cases w with
 | nrm L=>exact⟨r,H',h2,hq⟩
 | ex id L=>simp only[M.pure,Option.some.injEq,Prod.mk.injEq]at h2; obtain⟨rfl,rfl⟩:=h2; exact hq
 | ret L=>simp only[M.pure,Option.some.injEq,Prod.mk.injEq]at h2; obtain⟨rfl,rfl⟩:=h2; exact hq
theorem then_nrm{k:List V→M Res}{Q:Res→Heap→Prop}{L:List V}:Then k Q (.nrm L) H=Ok (k L) H Q:=rfl
theorem then_ex{k:List V→M Res}{Q:Res→Heap→Prop}{id:Nat}{L:List V}:Then k Q (.ex id L) H=Q (.ex id L) H:=rfl
theorem then_ret{k:List V→M Res}{Q:Res→Heap→Prop}{L:List V}:Then k Q (.ret L) H=Q (.ret L) H:=rfl
theorem ztk{id:Nat}{x:M Res}{k:List V→M Res}{Q:Res→Heap→Prop}:Ok (M.blk id x k) H Q↔Ok x H (Out id k Q):=by
 refine⟨λ⟨r,H',h,hq⟩=>?_,ok_blk⟩;simp only[M.blk,M.bind,Option.bind_eq_some_iff]at h;obtain⟨⟨w,H1⟩,h1,h2⟩:=h;refine⟨w,H1,h1,?_⟩;cases w with
 | nrm L=>exact⟨r,H',h2,hq⟩
 | ex i L =>
  simp only[Out];dsimp only at h2;by_cases e:i=id
  ·rw[if_pos e]at h2 ⊢; exact⟨r,H',h2,hq⟩
  ·rw[if_neg e]at h2 ⊢;simp only[M.pure,Option.some.injEq,Prod.mk.injEq]at h2; obtain⟨rfl,rfl⟩:=h2; exact hq
 | ret L=>simp only[M.pure,Option.some.injEq,Prod.mk.injEq]at h2; obtain⟨rfl,rfl⟩:=h2; exact hq
theorem out_nrm{id:Nat}{k:List V→M Res}{Q:Res→Heap→Prop}{L:List V}:Out id k Q (.nrm L) H=Ok (k L) H Q:=rfl
theorem out_ret{id:Nat}{k:List V→M Res}{Q:Res→Heap→Prop}{L:List V}:Out id k Q (.ret L) H=Q (.ret L) H:=rfl
theorem out_same{id:Nat}{k:List V→M Res}{Q:Res→Heap→Prop}{L:List V}:Out id k Q (.ex id L) H=Ok (k L) H Q:=by simp only[Out,if_true]
theorem out_ne{id i:Nat}{k:List V→M Res}{Q:Res→Heap→Prop}{L:List V}(h:i≠id):Out id k Q (.ex i L) H=Q (.ex i L) H:=by
 simp only[Out]; rw[if_neg h]
theorem ztr{x:M V}:guarded [(0,.bool true)] (some (0,true)) x=x:=rfl
theorem ztu{x:M V}:guarded [(0,.bool false)] (some (0,false)) x=x:=rfl
theorem zts{x:M V}:guarded [(0,.bool true)] (some (0,false)) x=M.pure .undef:=rfl
theorem ztt{x:M V}:guarded [(0,.bool false)] (some (0,true)) x=M.pure .undef:=rfl
theorem zvL{x:M V}{w:Bool}:guarded [(0,.undef)] (some (0,w)) x=M.pure .undef:=rfl
theorem pick_t{a b:V}:Ax.pick (.bool true) a b=some a:=rfl
theorem pick_f{a b:V}:Ax.pick (.bool false) a b=some b:=rfl
theorem zvn{c:Bool}{a:V}:Ax.pick (.bool c) a a=some a:=by cases c<;>rfl
/-! Memory. -/
theorem okb_load{n:Option Nat}{id off:Nat}{f:V→M β}{Q:β→Heap→Prop}:Ok ((mload n (.ptr id off)).bind f) H Q↔Ok ((M.lift ((H.get id).bind λb=>ldc n b.cells off)).bind f) H Q:=by
 rw[zmi,zmi];have:∀Q',Ok (mload n (.ptr id off)) H Q'↔Ok (M.lift ((H.get id).bind λb=>ldc n b.cells off)) H Q':=by
  intro Q';unfold Ok;have e:mload n (.ptr id off) H=M.lift ((H.get id).bind λb=>ldc n b.cells off) H:=by
   simp only[mload,M.lift];cases H.get id with
   | none=>rfl
   | some b=>rfl
  rw[e]
 exact this _
theorem zvr{n:Option Nat}{cells:List V}{off:Nat}{f:V→M β}{Q:β→Heap→Prop}:Ok ((mload n (.rp cells off)).bind f) H Q↔Ok ((M.lift (ldc n cells off)).bind f) H Q:=Iff.rfl
theorem zvq{size id off:Nat}{x:V}{f:V→M β}{Q:β→Heap→Prop}:Ok ((mstore size (.ptr id off) x).bind f) H Q↔@StK β (H.get id) size id off x H ⟨f⟩ ⟨Q⟩:=by
 unfold StK;cases hb:H.get id with
 | none =>
  constructor
  ·rintro⟨v,H',h,_⟩;simp only[M.bind,mstore,hb,Option.bind_none]at h;cases h
  ·intro h; exact h.elim
 | some b =>
  by_cases hc:x.cells.length=size∧off+size≤b.cells.length∧x.okc=true
  ·have e:mstore size (.ptr id off) x H=some (.undef,H.set id (some ⟨b.ty,splice b.cells off x.cells,b.opn⟩)):=by
    simp only[mstore,hb,Option.bind_some]; rw[if_pos hc]
   constructor
   ·rintro⟨v,H',h,hq⟩;simp only[M.bind,e,Option.bind_some]at h;exact⟨hc,v,H',h,hq⟩
   ·rintro⟨_,v,H',h,hq⟩;exact⟨v,H',by simp only[M.bind,e,Option.bind_some]; exact h,hq⟩
  ·constructor
   ·rintro⟨v,H',h,hq⟩;simp only[M.bind,mstore,hb,Option.bind_some,if_neg hc]at h;cases h
   ·rintro⟨k,_⟩; exact absurd k hc
theorem stk_some{size id off:Nat}{x:V}{f:V→M β}{Q:β→Heap→Prop}{ty:TypeId}{cells:List V}{o:Option Nat} :
  @StK β (some ⟨ty,cells,o⟩) size id off x H ⟨f⟩ ⟨Q⟩↔(x.cells.length=size∧off+size≤cells.length∧x.okc=true)∧Ok (f .undef) (H.set id (some ⟨ty,splice cells off x.cells,o⟩)) Q:=Iff.rfl
theorem okb_box{ty:TypeId}{x:V}{f:V→M β}{Q:β→Heap→Prop}:Ok ((mbox ty x).bind f) H Q↔x.okc=true∧Ok (f (.ptr H.next 0)) (H.new ⟨ty,x.cells,none⟩) Q:=by
 by_cases hc:x.okc=true
 ·have e:mbox ty x H=some (.ptr H.next 0,H.new ⟨ty,x.cells,none⟩):=by simp only[mbox]; rw[if_pos hc]
  constructor
  ·rintro⟨v,H',h,hq⟩;simp only[M.bind,e,Option.bind_some]at h;exact⟨hc,v,H',h,hq⟩
  ·rintro⟨_,v,H',h,hq⟩;exact⟨v,H',by simp only[M.bind,e,Option.bind_some]; exact h,hq⟩
 ·constructor
  ·rintro⟨v,H',h,hq⟩;simp only[M.bind,mbox,if_neg hc,Option.bind_none]at h;cases h
  ·rintro⟨k,_⟩; exact absurd k hc
theorem okb_slit{ty:TypeId}{len:Nat}{zero:List V} {parts:List (Nat×Nat×V)} {f:V→M β} {Q:β→Heap→Prop} :
  Ok ((mslit ty len zero parts).bind f) H Q↔∃cs,fill (zeros zero len) parts=some cs∧Ok (f (.sl H.next 0 len (.fix len))) (H.new ⟨ty,cs,none⟩) Q:=by
 cases hc:fill (zeros zero len) parts with
 | none =>
  constructor
  ·rintro⟨v,H',h,hq⟩;simp only[M.bind,mslit,hc,Option.map_none,Option.bind_none]at h;cases h
  ·rintro⟨cs,h,_⟩; cases h
 | some cs =>
  have e:mslit ty len zero parts H=some (.sl H.next 0 len (.fix len),H.new ⟨ty,cs,none⟩):=by simp only[mslit,hc,Option.map_some]
  constructor
  ·rintro⟨v,H',h,hq⟩;simp only[M.bind,e,Option.bind_some]at h;exact⟨cs,rfl,v,H',h,hq⟩
  ·rintro⟨_,h0,v,H',h,hq⟩;cases h0;exact⟨v,H',by simp only[M.bind,e,Option.bind_some]; exact h,hq⟩
end
/-! Heaps. -/
theorem zvQ(H:Heap){id:Nat}(b:Option Blk):(H.set id b).get id=b:=zan H id b
theorem zvR(H:Heap){id i:Nat}(b:Option Blk)(h:i≠id):(H.set id b).get i=H.get i:=zap H b h
theorem zvS(H:Heap)(b:Blk):(H.new b).get H.next=some b:=zac H b
theorem nx_new(H:Heap)(b:Blk):(H.new b).next=H.next+1:=by simp[Heap.new]
theorem nx_set(H:Heap)(id:Nat)(b:Option Blk):(H.set id b).next=H.next:=by simp[Heap.set]
theorem zvU(H:Heap){i:Nat}(b:Blk)(h:i=H.next):(H.new b).get i=some b:=by subst h; exact zac H b
theorem zvT(H:Heap){i:Nat}(b:Blk)(h:i≠H.next):(H.new b).get i=H.get i:=zaE H b h
/-! Operations on numbers. -/
section
variable {k k':IntKind} {a b:Int}
theorem bin_add:Ax.bin .add (.int k a) (.int k b)=some (.int k (k.wrap (a+b))):=by simp[Ax.bin,zcF]
theorem bin_sub:Ax.bin .sub (.int k a) (.int k b)=some (.int k (k.wrap (a-b))):=by simp[Ax.bin,zcF]
theorem bin_mul:Ax.bin .mul (.int k a) (.int k b)=some (.int k (k.wrap (a*b))):=by simp[Ax.bin,zcF]
theorem bin_quo(hb:b≠0):Ax.bin .quo (.int k a) (.int k b)=some (.int k (k.wrap (a.tdiv b))):=by simp[Ax.bin,zcF,hb]
theorem bin_rem(hb:b≠0):Ax.bin .rem (.int k a) (.int k b)=some (.int k (a.tmod b)):=by simp[Ax.bin,zcF,hb]
theorem zm5:Ax.bin .and (.int k a) (.int k b)=some (.int k (Go.bits .and k a b)):=by simp[Ax.bin,zcF]
theorem zoc:Ax.bin .or (.int k a) (.int k b)=some (.int k (Go.bits .or k a b)):=by simp[Ax.bin,zcF]
theorem zpn:Ax.bin .xor (.int k a) (.int k b)=some (.int k (Go.bits .xor k a b)):=by simp[Ax.bin,zcF]
theorem zey:Ax.bin .andNot (.int k a) (.int k b)=some (.int k (Go.bits .andNot k a b)):=by simp[Ax.bin,zcF]
theorem bin_eql:Ax.bin .eql (.int k a) (.int k b)=some (.bool (a==b)):=by simp[Ax.bin,zcF]
theorem bin_neq:Ax.bin .neq (.int k a) (.int k b)=some (.bool (!(a==b))):=by simp[Ax.bin,zcF]; rfl
theorem bin_lss:Ax.bin .lss (.int k a) (.int k b)=some (.bool (decide (a<b))):=by simp[Ax.bin,zcF]
theorem bin_leq:Ax.bin .leq (.int k a) (.int k b)=some (.bool (decide (a≤b))):=by simp[Ax.bin,zcF]
theorem bin_gtr:Ax.bin .gtr (.int k a) (.int k b)=some (.bool (decide (b<a))):=by simp[Ax.bin,zcF]
theorem bin_geq:Ax.bin .geq (.int k a) (.int k b)=some (.bool (decide (b≤a))):=by simp[Ax.bin,zcF]
theorem zm4(hb:0≤b):Ax.bin .shr (.int k a) (.int k' b)=some (.int k (a.fdiv (2 ^ min b.toNat k.bits))):=by simp only[Ax.bin]; rw[if_neg (by omega)]
theorem zi7(hb:0≤b):Ax.bin .shl (.int k a) (.int k' b)=some (.int k (k.wrap (a*2 ^ min b.toNat k.bits))):=by simp only[Ax.bin]; rw[if_neg (by omega)]
theorem bin_seql{s t:ByteArray}:Ax.bin .eql (.str s) (.str t)=some (.bool (s.toList==t.toList)):=rfl
theorem bin_sneq{s t:ByteArray}:Ax.bin .neq (.str s) (.str t)=some (.bool (!(s.toList==t.toList))):=rfl
theorem un_not{c:Bool}:Ax.un .not (.bool c)=some (.bool !c):=rfl
theorem un_neg:Ax.un .neg (.int k a)=some (.int k (k.wrap (0-a))):=rfl
theorem cint_int:Ax.cint k' (.int k a)=some (.int k' (k'.wrap a)):=rfl
theorem zvA{id off:Nat}:Ax.nilck (.ptr id off)=some (.ptr id off):=rfl
theorem nilck_rp{c:List V}{off:Nat}:Ax.nilck (.rp c off)=some (.rp c off):=rfl
theorem nilck_fn{f:FuncId}{c:List V}:Ax.nilck (.fn f c)=some (.fn f c):=rfl
theorem nilck_sl{id off len:Nat}{c:Cap}:Ax.nilck (.sl id off len c)=some (.sl id off len c):=rfl
theorem zwd{o id off:Nat}:Ax.faddr o (.ptr id off)=some (.ptr id (off+o)):=rfl
theorem faddr_rp{o off:Nat}{c:List V}:Ax.faddr o (.rp c off)=some (.rp c (off+o)):=rfl
theorem zut:vlen .nils=some (.int .i64 0):=rfl
theorem vlen_sl{id off len:Nat}{c:Cap}:vlen (.sl id off len c)=some (.int .i64 (len:Int)):=rfl
theorem vlen_rs{cells:List V}{len:Nat}:vlen (.rs cells len)=some (.int .i64 (len:Int)):=rfl
theorem slen_str{s:ByteArray}:Ax.slen (.str s)=some (.int .i64 (s.size:Int)):=rfl
theorem ext_tup{i:Nat}{vs:List V}:Ax.ext i (.tup vs)=vs[i]?:=rfl
theorem zwb{o:Nat}{n:Option Nat}{cs:List V}:Ax.field o n (.agg cs)=ldc n cs o:=rfl
theorem zfW{e id off len:Nat}{c:Cap}{i:Int}(h0:0≤i)(h1:i<len):Ax.iaddr none e (.sl id off len c) (.int k i)=some (.ptr id (off+i.toNat*e)):=by simp only[Ax.iaddr]; rw[if_pos ⟨h0,h1⟩]
theorem zoW{e len:Nat}{cells:List V}{i:Int}(h0:0≤i)(h1:i<len):Ax.iaddr none e (.rs cells len) (.int k i)=some (.rp cells (i.toNat*e)):=by simp only[Ax.iaddr]; rw[if_pos ⟨h0,h1⟩]
theorem iaddr_ap{n e id off:Nat}{i:Int}(h0:0≤i)(h1:i<n):Ax.iaddr (some n) e (.ptr id off) (.int k i)=some (.ptr id (off+i.toNat*e)):=by simp only[Ax.iaddr]; rw[if_pos ⟨h0,h1⟩]
theorem zvK{n e off:Nat}{cells:List V}{i:Int}(h0:0≤i)(h1:i<n):Ax.iaddr (some n) e (.rp cells off) (.int k i)=some (.rp cells (off+i.toNat*e)):=by simp only[Ax.iaddr]; rw[if_pos ⟨h0,h1⟩]
theorem zvI{len e:Nat}{n:Option Nat}{cs:List V}{i:Int}(h0:0≤i)(h1:i<len):Ax.index len e n (.agg cs) (.int k i)=ldc n cs (i.toNat*e):=by simp only[Ax.index]; rw[if_pos ⟨h0,h1⟩]
theorem eqr_nilp{n:Bool}:eqr .ptr n .nilp .nilp=some (.bool (if n then false else true)):=by cases n<;>rfl
theorem eqr_ptr{n:Bool}{id off:Nat}:eqr .ptr n (.ptr id off) .nilp=some (.bool (if n then true else false)):=by cases n<;>rfl
theorem eqr_rp{n:Bool}{c:List V}{off:Nat}:eqr .ptr n (.rp c off) .nilp=some (.bool (if n then true else false)):=by cases n<;>rfl
theorem eqr_nils{n:Bool}:eqr .sl n .nils .nils=some (.bool (if n then false else true)):=by cases n<;>rfl
theorem eqr_sl{n:Bool}{id off len:Nat}{c:Cap}:eqr .sl n (.sl id off len c) .nils=some (.bool (if n then true else false)):=by cases n<;>rfl
theorem eqr_rs{n:Bool}{cs:List V}{len:Nat}:eqr .sl n (.rs cs len) .nils=some (.bool (if n then true else false)):=by cases n<;>rfl
theorem eqr_bool{n a b:Bool}:eqr .bool n (.bool a) (.bool b)=some (.bool (if n then !(a==b) else a==b)):=by cases n<;>rfl
theorem ldc_none{cs:List V}{o:Nat}:ldc none cs o=cs[o]?:=rfl
theorem ldc_some{cs:List V}{n o:Nat}(h:o+n≤cs.length):ldc (some n) cs o=some (.agg ((cs.drop o).take n)):=by simp only[ldc]; rw[if_pos h]
theorem min2_min{a b:Int}:min2 false (.int k a) (.int k b)=some (.int k (min a b)):=by simp only[min2]; congr 2; simp; omega
theorem min2_max{a b:Int}:min2 true (.int k a) (.int k b)=some (.int k (max a b)):=by simp only[min2]; congr 2; simp; omega
theorem dec_lt_t{a b:Int}(h:a<b):decide (a<b)=true:=decide_eq_true h
theorem dec_lt_f{a b:Int}(h:b≤a):decide (a<b)=false:=decide_eq_false (by omega)
theorem dec_le_t{a b:Int}(h:a≤b):decide (a≤b)=true:=decide_eq_true h
theorem dec_le_f{a b:Int}(h:b<a):decide (a≤b)=false:=decide_eq_false (by omega)
theorem beq_t{a b:Int}(h:a=b):(a==b)=true:=by simp[h]
theorem beq_f{a b:Int}(h:a≠b):(a==b)=false:=by simp[h]
end
def shr(a b:Nat):Nat:=a >>> b
def shl(a b:Nat):Nat:=a <<< b
theorem zhI(a b:Nat):shr a b=a >>> b:=rfl
theorem zrY(a b:Nat):shl a b=a*2 ^ b:=Nat.shiftLeft_eq a b
theorem shr_1(a:Nat):shr a 1=a/2:=Nat.shiftRight_eq_div_pow a 1
theorem shl_1(a:Nat):shl a 1=a*2:=Nat.shiftLeft_eq a 1
theorem shr_2(a:Nat):shr a 2=a/4:=Nat.shiftRight_eq_div_pow a 2
theorem shl_2(a:Nat):shl a 2=a*4:=Nat.shiftLeft_eq a 2
theorem shr_3(a:Nat):shr a 3=a/8:=Nat.shiftRight_eq_div_pow a 3
theorem shl_3(a:Nat):shl a 3=a*8:=Nat.shiftLeft_eq a 3
theorem shr_4(a:Nat):shr a 4=a/16:=Nat.shiftRight_eq_div_pow a 4
theorem shl_4(a:Nat):shl a 4=a*16:=Nat.shiftLeft_eq a 4
theorem shr_5(a:Nat):shr a 5=a/32:=Nat.shiftRight_eq_div_pow a 5
theorem shl_5(a:Nat):shl a 5=a*32:=Nat.shiftLeft_eq a 5
theorem shr_6(a:Nat):shr a 6=a/64:=Nat.shiftRight_eq_div_pow a 6
theorem shl_6(a:Nat):shl a 6=a*64:=Nat.shiftLeft_eq a 6
theorem shr_7(a:Nat):shr a 7=a/128:=Nat.shiftRight_eq_div_pow a 7
theorem shl_7(a:Nat):shl a 7=a*128:=Nat.shiftLeft_eq a 7
theorem shr_8(a:Nat):shr a 8=a/256:=Nat.shiftRight_eq_div_pow a 8
theorem shl_8(a:Nat):shl a 8=a*256:=Nat.shiftLeft_eq a 8
theorem shr_9(a:Nat):shr a 9=a/512:=Nat.shiftRight_eq_div_pow a 9
theorem shl_9(a:Nat):shl a 9=a*512:=Nat.shiftLeft_eq a 9
theorem shr_10(a:Nat):shr a 10=a/1024:=Nat.shiftRight_eq_div_pow a 10
theorem shl_10(a:Nat):shl a 10=a*1024:=Nat.shiftLeft_eq a 10
theorem shr_11(a:Nat):shr a 11=a/2048:=Nat.shiftRight_eq_div_pow a 11
theorem shl_11(a:Nat):shl a 11=a*2048:=Nat.shiftLeft_eq a 11
theorem shr_12(a:Nat):shr a 12=a/4096:=Nat.shiftRight_eq_div_pow a 12
theorem shl_12(a:Nat):shl a 12=a*4096:=Nat.shiftLeft_eq a 12
theorem shr_13(a:Nat):shr a 13=a/8192:=Nat.shiftRight_eq_div_pow a 13
theorem shl_13(a:Nat):shl a 13=a*8192:=Nat.shiftLeft_eq a 13
theorem shr_14(a:Nat):shr a 14=a/16384:=Nat.shiftRight_eq_div_pow a 14
theorem shl_14(a:Nat):shl a 14=a*16384:=Nat.shiftLeft_eq a 14
theorem shr_15(a:Nat):shr a 15=a/32768:=Nat.shiftRight_eq_div_pow a 15
theorem shl_15(a:Nat):shl a 15=a*32768:=Nat.shiftLeft_eq a 15
theorem shr_16(a:Nat):shr a 16=a/65536:=Nat.shiftRight_eq_div_pow a 16
theorem shl_16(a:Nat):shl a 16=a*65536:=Nat.shiftLeft_eq a 16
theorem shr_17(a:Nat):shr a 17=a/131072:=Nat.shiftRight_eq_div_pow a 17
theorem shl_17(a:Nat):shl a 17=a*131072:=Nat.shiftLeft_eq a 17
theorem shr_18(a:Nat):shr a 18=a/262144:=Nat.shiftRight_eq_div_pow a 18
theorem shl_18(a:Nat):shl a 18=a*262144:=Nat.shiftLeft_eq a 18
theorem shr_19(a:Nat):shr a 19=a/524288:=Nat.shiftRight_eq_div_pow a 19
theorem shl_19(a:Nat):shl a 19=a*524288:=Nat.shiftLeft_eq a 19
theorem shr_20(a:Nat):shr a 20=a/1048576:=Nat.shiftRight_eq_div_pow a 20
theorem shl_20(a:Nat):shl a 20=a*1048576:=Nat.shiftLeft_eq a 20
theorem shr_21(a:Nat):shr a 21=a/2097152:=Nat.shiftRight_eq_div_pow a 21
theorem shl_21(a:Nat):shl a 21=a*2097152:=Nat.shiftLeft_eq a 21
theorem shr_22(a:Nat):shr a 22=a/4194304:=Nat.shiftRight_eq_div_pow a 22
theorem shl_22(a:Nat):shl a 22=a*4194304:=Nat.shiftLeft_eq a 22
theorem shr_23(a:Nat):shr a 23=a/8388608:=Nat.shiftRight_eq_div_pow a 23
theorem shl_23(a:Nat):shl a 23=a*8388608:=Nat.shiftLeft_eq a 23
theorem shr_24(a:Nat):shr a 24=a/16777216:=Nat.shiftRight_eq_div_pow a 24
theorem shl_24(a:Nat):shl a 24=a*16777216:=Nat.shiftLeft_eq a 24
theorem shr_25(a:Nat):shr a 25=a/33554432:=Nat.shiftRight_eq_div_pow a 25
theorem shl_25(a:Nat):shl a 25=a*33554432:=Nat.shiftLeft_eq a 25
theorem shr_26(a:Nat):shr a 26=a/67108864:=Nat.shiftRight_eq_div_pow a 26
theorem shl_26(a:Nat):shl a 26=a*67108864:=Nat.shiftLeft_eq a 26
theorem shr_27(a:Nat):shr a 27=a/134217728:=Nat.shiftRight_eq_div_pow a 27
theorem shl_27(a:Nat):shl a 27=a*134217728:=Nat.shiftLeft_eq a 27
theorem shr_28(a:Nat):shr a 28=a/268435456:=Nat.shiftRight_eq_div_pow a 28
theorem shl_28(a:Nat):shl a 28=a*268435456:=Nat.shiftLeft_eq a 28
theorem shr_29(a:Nat):shr a 29=a/536870912:=Nat.shiftRight_eq_div_pow a 29
theorem shl_29(a:Nat):shl a 29=a*536870912:=Nat.shiftLeft_eq a 29
theorem shr_30(a:Nat):shr a 30=a/1073741824:=Nat.shiftRight_eq_div_pow a 30
theorem shl_30(a:Nat):shl a 30=a*1073741824:=Nat.shiftLeft_eq a 30
theorem shr_31(a:Nat):shr a 31=a/2147483648:=Nat.shiftRight_eq_div_pow a 31
theorem shl_31(a:Nat):shl a 31=a*2147483648:=Nat.shiftLeft_eq a 31
theorem shr_32(a:Nat):shr a 32=a/4294967296:=Nat.shiftRight_eq_div_pow a 32
theorem shl_32(a:Nat):shl a 32=a*4294967296:=Nat.shiftLeft_eq a 32
theorem shr_33(a:Nat):shr a 33=a/8589934592:=Nat.shiftRight_eq_div_pow a 33
theorem shl_33(a:Nat):shl a 33=a*8589934592:=Nat.shiftLeft_eq a 33
theorem shr_34(a:Nat):shr a 34=a/17179869184:=Nat.shiftRight_eq_div_pow a 34
theorem shl_34(a:Nat):shl a 34=a*17179869184:=Nat.shiftLeft_eq a 34
theorem shr_35(a:Nat):shr a 35=a/34359738368:=Nat.shiftRight_eq_div_pow a 35
theorem shl_35(a:Nat):shl a 35=a*34359738368:=Nat.shiftLeft_eq a 35
theorem shr_36(a:Nat):shr a 36=a/68719476736:=Nat.shiftRight_eq_div_pow a 36
theorem shl_36(a:Nat):shl a 36=a*68719476736:=Nat.shiftLeft_eq a 36
theorem shr_37(a:Nat):shr a 37=a/137438953472:=Nat.shiftRight_eq_div_pow a 37
theorem shl_37(a:Nat):shl a 37=a*137438953472:=Nat.shiftLeft_eq a 37
theorem shr_38(a:Nat):shr a 38=a/274877906944:=Nat.shiftRight_eq_div_pow a 38
theorem shl_38(a:Nat):shl a 38=a*274877906944:=Nat.shiftLeft_eq a 38
theorem shr_39(a:Nat):shr a 39=a/549755813888:=Nat.shiftRight_eq_div_pow a 39
theorem shl_39(a:Nat):shl a 39=a*549755813888:=Nat.shiftLeft_eq a 39
theorem shr_40(a:Nat):shr a 40=a/1099511627776:=Nat.shiftRight_eq_div_pow a 40
theorem shl_40(a:Nat):shl a 40=a*1099511627776:=Nat.shiftLeft_eq a 40
theorem shr_41(a:Nat):shr a 41=a/2199023255552:=Nat.shiftRight_eq_div_pow a 41
theorem shl_41(a:Nat):shl a 41=a*2199023255552:=Nat.shiftLeft_eq a 41
theorem shr_42(a:Nat):shr a 42=a/4398046511104:=Nat.shiftRight_eq_div_pow a 42
theorem shl_42(a:Nat):shl a 42=a*4398046511104:=Nat.shiftLeft_eq a 42
theorem shr_43(a:Nat):shr a 43=a/8796093022208:=Nat.shiftRight_eq_div_pow a 43
theorem shl_43(a:Nat):shl a 43=a*8796093022208:=Nat.shiftLeft_eq a 43
theorem shr_44(a:Nat):shr a 44=a/17592186044416:=Nat.shiftRight_eq_div_pow a 44
theorem shl_44(a:Nat):shl a 44=a*17592186044416:=Nat.shiftLeft_eq a 44
theorem shr_45(a:Nat):shr a 45=a/35184372088832:=Nat.shiftRight_eq_div_pow a 45
theorem shl_45(a:Nat):shl a 45=a*35184372088832:=Nat.shiftLeft_eq a 45
theorem shr_46(a:Nat):shr a 46=a/70368744177664:=Nat.shiftRight_eq_div_pow a 46
theorem shl_46(a:Nat):shl a 46=a*70368744177664:=Nat.shiftLeft_eq a 46
theorem shr_47(a:Nat):shr a 47=a/140737488355328:=Nat.shiftRight_eq_div_pow a 47
theorem shl_47(a:Nat):shl a 47=a*140737488355328:=Nat.shiftLeft_eq a 47
theorem shr_48(a:Nat):shr a 48=a/281474976710656:=Nat.shiftRight_eq_div_pow a 48
theorem shl_48(a:Nat):shl a 48=a*281474976710656:=Nat.shiftLeft_eq a 48
theorem shr_49(a:Nat):shr a 49=a/562949953421312:=Nat.shiftRight_eq_div_pow a 49
theorem shl_49(a:Nat):shl a 49=a*562949953421312:=Nat.shiftLeft_eq a 49
theorem shr_50(a:Nat):shr a 50=a/1125899906842624:=Nat.shiftRight_eq_div_pow a 50
theorem shl_50(a:Nat):shl a 50=a*1125899906842624:=Nat.shiftLeft_eq a 50
theorem shr_51(a:Nat):shr a 51=a/2251799813685248:=Nat.shiftRight_eq_div_pow a 51
theorem shl_51(a:Nat):shl a 51=a*2251799813685248:=Nat.shiftLeft_eq a 51
theorem shr_52(a:Nat):shr a 52=a/4503599627370496:=Nat.shiftRight_eq_div_pow a 52
theorem shl_52(a:Nat):shl a 52=a*4503599627370496:=Nat.shiftLeft_eq a 52
theorem shr_53(a:Nat):shr a 53=a/9007199254740992:=Nat.shiftRight_eq_div_pow a 53
theorem shl_53(a:Nat):shl a 53=a*9007199254740992:=Nat.shiftLeft_eq a 53
theorem shr_54(a:Nat):shr a 54=a/18014398509481984:=Nat.shiftRight_eq_div_pow a 54
theorem shl_54(a:Nat):shl a 54=a*18014398509481984:=Nat.shiftLeft_eq a 54
theorem shr_55(a:Nat):shr a 55=a/36028797018963968:=Nat.shiftRight_eq_div_pow a 55
theorem shl_55(a:Nat):shl a 55=a*36028797018963968:=Nat.shiftLeft_eq a 55
theorem shr_56(a:Nat):shr a 56=a/72057594037927936:=Nat.shiftRight_eq_div_pow a 56
theorem shl_56(a:Nat):shl a 56=a*72057594037927936:=Nat.shiftLeft_eq a 56
theorem shr_57(a:Nat):shr a 57=a/144115188075855872:=Nat.shiftRight_eq_div_pow a 57
theorem shl_57(a:Nat):shl a 57=a*144115188075855872:=Nat.shiftLeft_eq a 57
theorem shr_58(a:Nat):shr a 58=a/288230376151711744:=Nat.shiftRight_eq_div_pow a 58
theorem shl_58(a:Nat):shl a 58=a*288230376151711744:=Nat.shiftLeft_eq a 58
theorem shr_59(a:Nat):shr a 59=a/576460752303423488:=Nat.shiftRight_eq_div_pow a 59
theorem shl_59(a:Nat):shl a 59=a*576460752303423488:=Nat.shiftLeft_eq a 59
theorem shr_60(a:Nat):shr a 60=a/1152921504606846976:=Nat.shiftRight_eq_div_pow a 60
theorem shl_60(a:Nat):shl a 60=a*1152921504606846976:=Nat.shiftLeft_eq a 60
theorem shr_61(a:Nat):shr a 61=a/2305843009213693952:=Nat.shiftRight_eq_div_pow a 61
theorem shl_61(a:Nat):shl a 61=a*2305843009213693952:=Nat.shiftLeft_eq a 61
theorem shr_62(a:Nat):shr a 62=a/4611686018427387904:=Nat.shiftRight_eq_div_pow a 62
theorem shl_62(a:Nat):shl a 62=a*4611686018427387904:=Nat.shiftLeft_eq a 62
theorem shr_63(a:Nat):shr a 63=a/9223372036854775808:=Nat.shiftRight_eq_div_pow a 63
theorem shl_63(a:Nat):shl a 63=a*9223372036854775808:=Nat.shiftLeft_eq a 63
theorem shr_0(a:Nat):shr a 0=a:=rfl
theorem shl_0(a:Nat):shl a 0=a:=rfl
theorem zjL(a:Int)(w n:Nat)(h0:0≤a)(h1:a.toNat<2 ^ w):a.fdiv (2 ^ min n w)=((a.toNat >>> n:Nat):Int):=by
 obtain⟨m,rfl⟩:=Int.eq_ofNat_of_zero_le h0;simp only[Int.toNat_natCast]at h1 ⊢;rw[Int.fdiv_eq_ediv_of_nonneg _ (Int.pow_nonneg (by decide)),Nat.shiftRight_eq_div_pow];have e:((2:Int) ^ min n w)=((2 ^ min n w:Nat):Int):=by rw[Int.natCast_pow]; rfl
 rw[e,←Int.natCast_ediv];congr 1;by_cases h:n≤w
 ·rw[Nat.min_eq_left h]
 ·rw[Nat.min_eq_right (by omega),Nat.div_eq_of_lt h1,Nat.div_eq_of_lt (Nat.lt_of_lt_of_le h1 (Nat.pow_le_pow_right (by decide) (by omega)))]
theorem zlX(a:Int)(w n:Nat)(h0:0≤a):(a*2 ^ min n w)%((2 ^ w:Nat):Int)=(((a.toNat <<< n)%2 ^ w:Nat):Int):=by
 obtain⟨m,rfl⟩:=Int.eq_ofNat_of_zero_le h0;simp only[Int.toNat_natCast];have e:((2:Int) ^ min n w)=((2 ^ min n w:Nat):Int):=by rw[Int.natCast_pow]; rfl
 rw[e,←Int.natCast_mul,←Int.natCast_emod,Nat.shiftLeft_eq];congr 1;by_cases h:n≤w
 ·rw[Nat.min_eq_left h]
 ·rw[Nat.min_eq_right (by omega),Nat.mul_mod_left];obtain⟨d,rfl⟩:∃d,n=w+d:=⟨n-w,by omega⟩;rw[Nat.pow_add,←Nat.mul_assoc,Nat.mul_right_comm,Nat.mul_mod_left]
theorem zdv(w:Nat)(a:Int)(h:0≤a):BitVec.ofInt w a=BitVec.ofNat w a.toNat:=by
 obtain⟨m,rfl⟩:=Int.eq_ofNat_of_zero_le h;simp
section
variable {a b:Int} {k':IntKind}
theorem wrap_u8(n:Int):IntKind.u8.wrap n=n%256:=by simp[IntKind.wrap,IntKind.bits,IntKind.signed]
theorem zur{n:Int}(h0:0≤n)(h1:n<256):IntKind.u8.wrap n=n:=by rw[wrap_u8]; omega
theorem shr_u8(h0:0≤a)(h1:a<256)(hb:0≤b):Ax.bin .shr (.int .u8 a) (.int k' b)=some (.int .u8 ((shr a.toNat b.toNat:Nat):Int)):=by
 rw[zm4 hb]; simp only[IntKind.bits]; rw[zjL a 8 _ h0 (by omega)]; rfl
theorem shl_u8(h0:0≤a)(hb:0≤b):Ax.bin .shl (.int .u8 a) (.int k' b)=some (.int .u8 ((shl a.toNat b.toNat%256:Nat):Int)):=by
 rw[zi7 hb]; simp only[IntKind.bits];have:=zlX a 8 b.toNat h0;rw[wrap_u8];congr 2
theorem zpm(op:BinOp)(h0:0≤a)(h1:a<256)(g0:0≤b)(g1:b<256):Go.bits op .u8 a b=((match op with | .and=>BitVec.ofNat 8 a.toNat &&& BitVec.ofNat 8 b.toNat | .or=>BitVec.ofNat 8 a.toNat ||| BitVec.ofNat 8 b.toNat | .xor=>BitVec.ofNat 8 a.toNat ^^^ BitVec.ofNat 8 b.toNat | _=>BitVec.ofNat 8 a.toNat &&& ~~~BitVec.ofNat 8 b.toNat).toNat:Int):=by
 unfold Go.bits;simp only[IntKind.bits];rw[zdv _ a h0,zdv _ b g0,wrap_u8];apply Int.emod_eq_of_lt
 ·omega
 ·have:=(match op with | .and=>BitVec.ofNat 8 a.toNat &&& BitVec.ofNat 8 b.toNat | .or=>BitVec.ofNat 8 a.toNat ||| BitVec.ofNat 8 b.toNat | .xor=>BitVec.ofNat 8 a.toNat ^^^ BitVec.ofNat 8 b.toNat | _=>BitVec.ofNat 8 a.toNat &&& ~~~BitVec.ofNat 8 b.toNat).isLt;omega
theorem and_u8(h0:0≤a)(h1:a<256)(g0:0≤b)(g1:b<256):Ax.bin .and (.int .u8 a) (.int .u8 b)=some (.int .u8 ((a.toNat &&& b.toNat:Nat):Int)):=by
 rw[zm5,zpm _ h0 h1 g0 g1];simp only[BitVec.toNat_and,BitVec.toNat_ofNat];rw[Nat.mod_eq_of_lt (show a.toNat<2 ^ 8 by omega),Nat.mod_eq_of_lt (show b.toNat<2 ^ 8 by omega)]
theorem or_u8(h0:0≤a)(h1:a<256)(g0:0≤b)(g1:b<256):Ax.bin .or (.int .u8 a) (.int .u8 b)=some (.int .u8 ((a.toNat ||| b.toNat:Nat):Int)):=by
 rw[zoc,zpm _ h0 h1 g0 g1];simp only[BitVec.toNat_or,BitVec.toNat_ofNat];rw[Nat.mod_eq_of_lt (show a.toNat<2 ^ 8 by omega),Nat.mod_eq_of_lt (show b.toNat<2 ^ 8 by omega)]
theorem xor_u8(h0:0≤a)(h1:a<256)(g0:0≤b)(g1:b<256):Ax.bin .xor (.int .u8 a) (.int .u8 b)=some (.int .u8 ((a.toNat ^^^ b.toNat:Nat):Int)):=by
 rw[zpn,zpm _ h0 h1 g0 g1];simp only[BitVec.toNat_xor,BitVec.toNat_ofNat];rw[Nat.mod_eq_of_lt (show a.toNat<2 ^ 8 by omega),Nat.mod_eq_of_lt (show b.toNat<2 ^ 8 by omega)]
theorem zwK(h0:0≤a)(h1:a<256)(g0:0≤b)(g1:b<256):Ax.bin .andNot (.int .u8 a) (.int .u8 b)=some (.int .u8 ((a.toNat &&& (255-b.toNat):Nat):Int)):=by
 rw[zey,zpm _ h0 h1 g0 g1];simp only[BitVec.toNat_and,BitVec.toNat_not,BitVec.toNat_ofNat];rw[Nat.mod_eq_of_lt (show a.toNat<2 ^ 8 by omega),Nat.mod_eq_of_lt (show b.toNat<2 ^ 8 by omega)]
end
section
variable {a b:Int} {k':IntKind}
theorem wrap_u16(n:Int):IntKind.u16.wrap n=n%65536:=by simp[IntKind.wrap,IntKind.bits,IntKind.signed]
theorem zsI{n:Int}(h0:0≤n)(h1:n<65536):IntKind.u16.wrap n=n:=by rw[wrap_u16]; omega
theorem shr_u16(h0:0≤a)(h1:a<65536)(hb:0≤b):Ax.bin .shr (.int .u16 a) (.int k' b)=some (.int .u16 ((shr a.toNat b.toNat:Nat):Int)):=by
 rw[zm4 hb]; simp only[IntKind.bits]; rw[zjL a 16 _ h0 (by omega)]; rfl
theorem shl_u16(h0:0≤a)(hb:0≤b):Ax.bin .shl (.int .u16 a) (.int k' b)=some (.int .u16 ((shl a.toNat b.toNat%65536:Nat):Int)):=by
 rw[zi7 hb]; simp only[IntKind.bits];have:=zlX a 16 b.toNat h0;rw[wrap_u16];congr 2
theorem zlP(op:BinOp)(h0:0≤a)(h1:a<65536)(g0:0≤b)(g1:b<65536):Go.bits op .u16 a b=((match op with | .and=>BitVec.ofNat 16 a.toNat &&& BitVec.ofNat 16 b.toNat | .or=>BitVec.ofNat 16 a.toNat ||| BitVec.ofNat 16 b.toNat | .xor=>BitVec.ofNat 16 a.toNat ^^^ BitVec.ofNat 16 b.toNat | _=>BitVec.ofNat 16 a.toNat &&& ~~~BitVec.ofNat 16 b.toNat).toNat:Int):=by
 unfold Go.bits;simp only[IntKind.bits];rw[zdv _ a h0,zdv _ b g0,wrap_u16];apply Int.emod_eq_of_lt
 ·omega
 ·have:=(match op with | .and=>BitVec.ofNat 16 a.toNat &&& BitVec.ofNat 16 b.toNat | .or=>BitVec.ofNat 16 a.toNat ||| BitVec.ofNat 16 b.toNat | .xor=>BitVec.ofNat 16 a.toNat ^^^ BitVec.ofNat 16 b.toNat | _=>BitVec.ofNat 16 a.toNat &&& ~~~BitVec.ofNat 16 b.toNat).isLt;omega
theorem and_u16(h0:0≤a)(h1:a<65536)(g0:0≤b)(g1:b<65536):Ax.bin .and (.int .u16 a) (.int .u16 b)=some (.int .u16 ((a.toNat &&& b.toNat:Nat):Int)):=by
 rw[zm5,zlP _ h0 h1 g0 g1];simp only[BitVec.toNat_and,BitVec.toNat_ofNat];rw[Nat.mod_eq_of_lt (show a.toNat<2 ^ 16 by omega),Nat.mod_eq_of_lt (show b.toNat<2 ^ 16 by omega)]
theorem or_u16(h0:0≤a)(h1:a<65536)(g0:0≤b)(g1:b<65536):Ax.bin .or (.int .u16 a) (.int .u16 b)=some (.int .u16 ((a.toNat ||| b.toNat:Nat):Int)):=by
 rw[zoc,zlP _ h0 h1 g0 g1];simp only[BitVec.toNat_or,BitVec.toNat_ofNat];rw[Nat.mod_eq_of_lt (show a.toNat<2 ^ 16 by omega),Nat.mod_eq_of_lt (show b.toNat<2 ^ 16 by omega)]
theorem xor_u16(h0:0≤a)(h1:a<65536)(g0:0≤b)(g1:b<65536):Ax.bin .xor (.int .u16 a) (.int .u16 b)=some (.int .u16 ((a.toNat ^^^ b.toNat:Nat):Int)):=by
 rw[zpn,zlP _ h0 h1 g0 g1];simp only[BitVec.toNat_xor,BitVec.toNat_ofNat];rw[Nat.mod_eq_of_lt (show a.toNat<2 ^ 16 by omega),Nat.mod_eq_of_lt (show b.toNat<2 ^ 16 by omega)]
theorem zub(h0:0≤a)(h1:a<65536)(g0:0≤b)(g1:b<65536):Ax.bin .andNot (.int .u16 a) (.int .u16 b)=some (.int .u16 ((a.toNat &&& (65535-b.toNat):Nat):Int)):=by
 rw[zey,zlP _ h0 h1 g0 g1];simp only[BitVec.toNat_and,BitVec.toNat_not,BitVec.toNat_ofNat];rw[Nat.mod_eq_of_lt (show a.toNat<2 ^ 16 by omega),Nat.mod_eq_of_lt (show b.toNat<2 ^ 16 by omega)]
end
section
variable {a b:Int} {k':IntKind}
theorem wrap_u32(n:Int):IntKind.u32.wrap n=n%4294967296:=by simp[IntKind.wrap,IntKind.bits,IntKind.signed]
theorem zsH{n:Int}(h0:0≤n)(h1:n<4294967296):IntKind.u32.wrap n=n:=by rw[wrap_u32]; omega
theorem shr_u32(h0:0≤a)(h1:a<4294967296)(hb:0≤b):Ax.bin .shr (.int .u32 a) (.int k' b)=some (.int .u32 ((shr a.toNat b.toNat:Nat):Int)):=by
 rw[zm4 hb]; simp only[IntKind.bits]; rw[zjL a 32 _ h0 (by omega)]; rfl
theorem shl_u32(h0:0≤a)(hb:0≤b):Ax.bin .shl (.int .u32 a) (.int k' b)=some (.int .u32 ((shl a.toNat b.toNat%4294967296:Nat):Int)):=by
 rw[zi7 hb]; simp only[IntKind.bits];have:=zlX a 32 b.toNat h0;rw[wrap_u32];congr 2
theorem zlO(op:BinOp)(h0:0≤a)(h1:a<4294967296)(g0:0≤b)(g1:b<4294967296):Go.bits op .u32 a b=((match op with | .and=>BitVec.ofNat 32 a.toNat &&& BitVec.ofNat 32 b.toNat | .or=>BitVec.ofNat 32 a.toNat ||| BitVec.ofNat 32 b.toNat | .xor=>BitVec.ofNat 32 a.toNat ^^^ BitVec.ofNat 32 b.toNat | _=>BitVec.ofNat 32 a.toNat &&& ~~~BitVec.ofNat 32 b.toNat).toNat:Int):=by
 unfold Go.bits;simp only[IntKind.bits];rw[zdv _ a h0,zdv _ b g0,wrap_u32];apply Int.emod_eq_of_lt
 ·omega
 ·have:=(match op with | .and=>BitVec.ofNat 32 a.toNat &&& BitVec.ofNat 32 b.toNat | .or=>BitVec.ofNat 32 a.toNat ||| BitVec.ofNat 32 b.toNat | .xor=>BitVec.ofNat 32 a.toNat ^^^ BitVec.ofNat 32 b.toNat | _=>BitVec.ofNat 32 a.toNat &&& ~~~BitVec.ofNat 32 b.toNat).isLt;omega
theorem and_u32(h0:0≤a)(h1:a<4294967296)(g0:0≤b)(g1:b<4294967296):Ax.bin .and (.int .u32 a) (.int .u32 b)=some (.int .u32 ((a.toNat &&& b.toNat:Nat):Int)):=by
 rw[zm5,zlO _ h0 h1 g0 g1];simp only[BitVec.toNat_and,BitVec.toNat_ofNat];rw[Nat.mod_eq_of_lt (show a.toNat<2 ^ 32 by omega),Nat.mod_eq_of_lt (show b.toNat<2 ^ 32 by omega)]
theorem or_u32(h0:0≤a)(h1:a<4294967296)(g0:0≤b)(g1:b<4294967296):Ax.bin .or (.int .u32 a) (.int .u32 b)=some (.int .u32 ((a.toNat ||| b.toNat:Nat):Int)):=by
 rw[zoc,zlO _ h0 h1 g0 g1];simp only[BitVec.toNat_or,BitVec.toNat_ofNat];rw[Nat.mod_eq_of_lt (show a.toNat<2 ^ 32 by omega),Nat.mod_eq_of_lt (show b.toNat<2 ^ 32 by omega)]
theorem xor_u32(h0:0≤a)(h1:a<4294967296)(g0:0≤b)(g1:b<4294967296):Ax.bin .xor (.int .u32 a) (.int .u32 b)=some (.int .u32 ((a.toNat ^^^ b.toNat:Nat):Int)):=by
 rw[zpn,zlO _ h0 h1 g0 g1];simp only[BitVec.toNat_xor,BitVec.toNat_ofNat];rw[Nat.mod_eq_of_lt (show a.toNat<2 ^ 32 by omega),Nat.mod_eq_of_lt (show b.toNat<2 ^ 32 by omega)]
theorem zua(h0:0≤a)(h1:a<4294967296)(g0:0≤b)(g1:b<4294967296):Ax.bin .andNot (.int .u32 a) (.int .u32 b)=some (.int .u32 ((a.toNat &&& (4294967295-b.toNat):Nat):Int)):=by
 rw[zey,zlO _ h0 h1 g0 g1];simp only[BitVec.toNat_and,BitVec.toNat_not,BitVec.toNat_ofNat];rw[Nat.mod_eq_of_lt (show a.toNat<2 ^ 32 by omega),Nat.mod_eq_of_lt (show b.toNat<2 ^ 32 by omega)]
end
section
variable {a b:Int} {k':IntKind}
theorem wrap_u64(n:Int):IntKind.u64.wrap n=n%18446744073709551616:=by simp[IntKind.wrap,IntKind.bits,IntKind.signed]
theorem zsG{n:Int}(h0:0≤n)(h1:n<18446744073709551616):IntKind.u64.wrap n=n:=by rw[wrap_u64]; omega
theorem shr_u64(h0:0≤a)(h1:a<18446744073709551616)(hb:0≤b):Ax.bin .shr (.int .u64 a) (.int k' b)=some (.int .u64 ((shr a.toNat b.toNat:Nat):Int)):=by
 rw[zm4 hb]; simp only[IntKind.bits]; rw[zjL a 64 _ h0 (by omega)]; rfl
theorem shl_u64(h0:0≤a)(hb:0≤b):Ax.bin .shl (.int .u64 a) (.int k' b)=some (.int .u64 ((shl a.toNat b.toNat%18446744073709551616:Nat):Int)):=by
 rw[zi7 hb]; simp only[IntKind.bits];have:=zlX a 64 b.toNat h0;rw[wrap_u64];congr 2
theorem zlN(op:BinOp)(h0:0≤a)(h1:a<18446744073709551616)(g0:0≤b)(g1:b<18446744073709551616):Go.bits op .u64 a b=((match op with | .and=>BitVec.ofNat 64 a.toNat &&& BitVec.ofNat 64 b.toNat | .or=>BitVec.ofNat 64 a.toNat ||| BitVec.ofNat 64 b.toNat | .xor=>BitVec.ofNat 64 a.toNat ^^^ BitVec.ofNat 64 b.toNat | _=>BitVec.ofNat 64 a.toNat &&& ~~~BitVec.ofNat 64 b.toNat).toNat:Int):=by
 unfold Go.bits;simp only[IntKind.bits];rw[zdv _ a h0,zdv _ b g0,wrap_u64];apply Int.emod_eq_of_lt
 ·omega
 ·have:=(match op with | .and=>BitVec.ofNat 64 a.toNat &&& BitVec.ofNat 64 b.toNat | .or=>BitVec.ofNat 64 a.toNat ||| BitVec.ofNat 64 b.toNat | .xor=>BitVec.ofNat 64 a.toNat ^^^ BitVec.ofNat 64 b.toNat | _=>BitVec.ofNat 64 a.toNat &&& ~~~BitVec.ofNat 64 b.toNat).isLt;omega
theorem and_u64(h0:0≤a)(h1:a<18446744073709551616)(g0:0≤b)(g1:b<18446744073709551616):Ax.bin .and (.int .u64 a) (.int .u64 b)=some (.int .u64 ((a.toNat &&& b.toNat:Nat):Int)):=by
 rw[zm5,zlN _ h0 h1 g0 g1];simp only[BitVec.toNat_and,BitVec.toNat_ofNat];rw[Nat.mod_eq_of_lt (show a.toNat<2 ^ 64 by omega),Nat.mod_eq_of_lt (show b.toNat<2 ^ 64 by omega)]
theorem or_u64(h0:0≤a)(h1:a<18446744073709551616)(g0:0≤b)(g1:b<18446744073709551616):Ax.bin .or (.int .u64 a) (.int .u64 b)=some (.int .u64 ((a.toNat ||| b.toNat:Nat):Int)):=by
 rw[zoc,zlN _ h0 h1 g0 g1];simp only[BitVec.toNat_or,BitVec.toNat_ofNat];rw[Nat.mod_eq_of_lt (show a.toNat<2 ^ 64 by omega),Nat.mod_eq_of_lt (show b.toNat<2 ^ 64 by omega)]
theorem xor_u64(h0:0≤a)(h1:a<18446744073709551616)(g0:0≤b)(g1:b<18446744073709551616):Ax.bin .xor (.int .u64 a) (.int .u64 b)=some (.int .u64 ((a.toNat ^^^ b.toNat:Nat):Int)):=by
 rw[zpn,zlN _ h0 h1 g0 g1];simp only[BitVec.toNat_xor,BitVec.toNat_ofNat];rw[Nat.mod_eq_of_lt (show a.toNat<2 ^ 64 by omega),Nat.mod_eq_of_lt (show b.toNat<2 ^ 64 by omega)]
theorem zt9(h0:0≤a)(h1:a<18446744073709551616)(g0:0≤b)(g1:b<18446744073709551616):Ax.bin .andNot (.int .u64 a) (.int .u64 b)=some (.int .u64 ((a.toNat &&& (18446744073709551615-b.toNat):Nat):Int)):=by
 rw[zey,zlN _ h0 h1 g0 g1];simp only[BitVec.toNat_and,BitVec.toNat_not,BitVec.toNat_ofNat];rw[Nat.mod_eq_of_lt (show a.toNat<2 ^ 64 by omega),Nat.mod_eq_of_lt (show b.toNat<2 ^ 64 by omega)]
end
section
variable {a b:Int} {k':IntKind}
theorem wrap_i64{n:Int}(h0:-9223372036854775808≤n)(h1:n≤9223372036854775807):IntKind.i64.wrap n=n:=Go.IntWalk.i64_in n ⟨h0,h1⟩
theorem wrap_i32{n:Int}(h0:-2147483648≤n)(h1:n≤2147483647):IntKind.i32.wrap n=n:=Go.IntWalk.i32_in n ⟨h0,h1⟩
theorem shr_i64(h0:0≤a)(h1:a<9223372036854775808)(hb:0≤b):Ax.bin .shr (.int .i64 a) (.int k' b)=some (.int .i64 ((shr a.toNat b.toNat:Nat):Int)):=by
 rw[zm4 hb]; simp only[IntKind.bits]; rw[zjL a 64 _ h0 (by omega)]; rfl
theorem quo_i64(h0:0≤a)(h1:a<9223372036854775808)(hb:0<b):Ax.bin .quo (.int .i64 a) (.int .i64 b)=some (.int .i64 (a/b)):=by
 rw[bin_quo (by omega),Go.IntWalk.i64_quo _ _ ⟨h0,by omega,by omega⟩]
theorem rem_i64(h0:0≤a)(hb:0<b):Ax.bin .rem (.int .i64 a) (.int .i64 b)=some (.int .i64 (a%b)):=by
 rw[bin_rem (by omega),Go.IntWalk.rem_in _ _ h0]
theorem zsz(op:BinOp)(r:Nat)(h0:0≤a)(g0:0≤b) (hr:(match op with | .and=>BitVec.ofNat 64 a.toNat &&& BitVec.ofNat 64 b.toNat | .or=>BitVec.ofNat 64 a.toNat ||| BitVec.ofNat 64 b.toNat | .xor=>BitVec.ofNat 64 a.toNat ^^^ BitVec.ofNat 64 b.toNat | _=>BitVec.ofNat 64 a.toNat &&& ~~~BitVec.ofNat 64 b.toNat).toNat=r) (hl:r<9223372036854775808):Go.bits op .i64 a b=(r:Int):=by
 unfold Go.bits;simp only[IntKind.bits];rw[zdv _ a h0,zdv _ b g0];exact(congrArg (λn:Nat=>IntKind.i64.wrap (n:Int)) hr).trans (wrap_i64 (by omega) (by omega))
theorem zpp(h0:0≤a)(h1:a<9223372036854775808)(g0:0≤b)(g1:b<9223372036854775808):Ax.bin .and (.int .i64 a) (.int .i64 b)=some (.int .i64 ((a.toNat &&& b.toNat:Nat):Int)):=by
 rw[zm5,zsz .and (a.toNat &&& b.toNat) h0 g0]
 ·simp only[BitVec.toNat_and,BitVec.toNat_ofNat];rw[Nat.mod_eq_of_lt (show a.toNat<2 ^ 64 by omega),Nat.mod_eq_of_lt (show b.toNat<2 ^ 64 by omega)]
 ·exact Nat.and_lt_two_pow _ (show b.toNat<2 ^ 63 by omega)
theorem zpV(h0:0≤a)(h1:a<9223372036854775808)(g0:0≤b)(g1:b<9223372036854775808):Ax.bin .or (.int .i64 a) (.int .i64 b)=some (.int .i64 ((a.toNat ||| b.toNat:Nat):Int)):=by
 rw[zoc,zsz .or (a.toNat ||| b.toNat) h0 g0]
 ·simp only[BitVec.toNat_or,BitVec.toNat_ofNat];rw[Nat.mod_eq_of_lt (show a.toNat<2 ^ 64 by omega),Nat.mod_eq_of_lt (show b.toNat<2 ^ 64 by omega)]
 ·exact Nat.or_lt_two_pow (show a.toNat<2 ^ 63 by omega) (show b.toNat<2 ^ 63 by omega)
theorem zuY(h0:0≤a)(hb:0≤b)(hl':shl a.toNat b.toNat<9223372036854775808):Ax.bin .shl (.int .i64 a) (.int k' b)=some (.int .i64 ((shl a.toNat b.toNat:Nat):Int)):=by
 have hl:a.toNat <<< b.toNat<9223372036854775808:=hl';show _=some (V.int IntKind.i64 ((a.toNat <<< b.toNat:Nat):Int));rw[zi7 hb]; simp only[IntKind.bits];have h:=zlX a 64 b.toNat h0;rw[Nat.mod_eq_of_lt (show a.toNat <<< b.toNat<2 ^ 64 by omega)]at h;have e:IntKind.i64.wrap (a*2 ^ min b.toNat 64)=((a.toNat <<< b.toNat:Nat):Int):=by
  have h':(a*2 ^ min b.toNat 64)%18446744073709551616=((a.toNat <<< b.toNat:Nat):Int):=h;generalize a*2 ^ min b.toNat 64=x at h';generalize a.toNat <<< b.toNat=y at h' hl;rw[Go.IntWalk.i64_left];unfold Go.RowKit.wrap64;omega
 rw[e]
end
/-! A loop that counts. -/
def LQ(J:List V→Heap→Prop)(Q:Res→Heap→Prop):Res→Heap→Prop
 | .nrm L,H=>J L H
 | r,H=>Q r H
theorem lq_nrm{J:List V→Heap→Prop}{Q:Res→Heap→Prop}{L:List V}{H:Heap}:LQ J Q (.nrm L) H=J L H:=rfl
theorem lq_ex{J:List V→Heap→Prop}{Q:Res→Heap→Prop}{L:List V}{id:Nat}{H:Heap}:LQ J Q (.ex id L) H=Q (.ex id L) H:=rfl
theorem lq_ret{J:List V→Heap→Prop}{Q:Res→Heap→Prop}{L:List V}{H:Heap}:LQ J Q (.ret L) H=Q (.ret L) H:=rfl
theorem za3{body:List V→M Res}{L:List V}{H:Heap}{Q:Res→Heap→Prop}(I:Nat→List V→Heap→Prop)(n:Nat)(h0:I 0 L H)
  (hs:∀k L H,k<n→I k L H→Ok (body L) H (LQ (I (k+1)) Q)) (he:∀L H,I n L H→Ok (body L) H (LQ (λ_ _=>False) Q)):Ok (M.iter body L) H Q:=by
 refine zvu (λL H m=>∃k,k≤n∧m=n-k∧I k L H) n ⟨0,Nat.zero_le _,rfl,h0⟩ ?_;rintro L H m ⟨k,hk,rfl,hI⟩;by_cases e:k<n
 ·refine zaw (hs k L H e hI) λr H' h=>?_;cases r with
  | nrm L'=>exact⟨n-(k+1),by omega,k+1,by omega,rfl,h⟩
  | ex id L'=>exact h
  | ret L'=>exact h
 ·have:k=n:=by omega
  subst this;refine zaw (he L H hI) λr H' h=>?_;cases r with
  | nrm L'=>exact h.elim
  | ex id L'=>exact h
  | ret L'=>exact h
theorem zoz{body:List V→M Res}{L:List V}{H:Heap}{Q:Res→Heap→Prop}(I:List V→Heap→Nat→Prop)(n:Nat)(h0:I L H n)
  (hb:∀L H n,I L H n→Ok (body L) H (LQ (λL' H'=>∃n',n'<n∧I L' H' n') Q)):Ok (M.iter body L) H Q:=by
 refine zvu I n h0 λL H n h=>zaw (hb L H n h) λr H' h=>?_;cases r<;>exact h
/-! What is done,all rules together. -/
theorem znJ{x:M V}{a:V}(h:∀H,Ok x H λv H'=>v=a∧H'=H):x=M.pure a:=by
 funext H;obtain⟨v,H',h1,rfl,rfl⟩:=h H;exact h1
theorem sp_set(xs:List V)(o:Nat)(y:V)(h:o<xs.length):splice xs o [y]=xs.set o y:=by
 simp only[splice,List.length_singleton];rw[List.set_eq_take_append_cons_drop,if_pos h]; simp
theorem zoP{α:Type}{H:Heap}{a b:Int}{x y:M α}{Q:α→Heap→Prop}(h1:a=b→Ok x H Q)(h2:a≠b→Ok y H Q):Ok (M.ite (.bool (a==b)) x y) H Q :=
 ok_ite (λh=>h1 (by simpa using h)) λh=>h2 (by simpa using h)
/-! Plain rules,at types of the lowest universe. -/
section
variable {α β:Type}
theorem r_bind(a:α)(f:α→Option β):(some a).bind f=f a:=rfl
theorem r_map(a:α)(f:α→β):Option.map f (some a)=some (f a):=rfl
theorem r_get0{a:α}{l:List α}:(a::l)[0]?=some a:=rfl
theorem r_getS{a:α}{l:List α}{i:Nat}:(a::l)[i+1]?=l[i]?:=rfl
theorem r_getD0{a d:α}{l:List α}:(a::l).getD 0 d=a:=rfl
theorem r_getDS{a d:α}{l:List α}{i:Nat}:(a::l).getD (i+1) d=l.getD i d:=rfl
theorem r_ift{x:Decidable True}(t e:α):(if True then t else e)=t:=if_pos trivial
theorem r_iff{x:Decidable False}(t e:α):(if False then t else e)=e:=if_neg id
theorem r_dt{h:Decidable True}:@decide True h=true:=by simp
theorem r_df{h:Decidable False}:@decide False h=false:=by simp
theorem r_lenS{a:α}{l:List α}:(a::l).length=l.length+1:=rfl
theorem r_capp{a:α}{l m:List α}:(a::l)++m=a::(l++m):=rfl
theorem r_napp{l:List α}:[]++l=l:=rfl
theorem r_dropS{a:α}{l:List α}{n:Nat}:(a::l).drop (n+1)=l.drop n:=rfl
theorem r_drop0{l:List α}:l.drop 0=l:=rfl
theorem r_takeS{a:α}{l:List α}{n:Nat}:(a::l).take (n+1)=a::l.take n:=rfl
theorem r_take0{l:List α}:l.take 0=[]:=by simp
theorem r_len0:([]:List α).length=0:=rfl
end
/-! Cells. -/
theorem okc_bool(b:Bool):V.okc (V.bool b)=true:=rfl
theorem ztZ(b:Bool):V.cells (V.bool b)=[V.bool b]:=rfl
theorem okc_int(k:IntKind)(n:Int):V.okc (V.int k n)=true:=rfl
theorem zwy(k:IntKind)(n:Int):V.cells (V.int k n)=[V.int k n]:=rfl
theorem okc_str(s:ByteArray):V.okc (V.str s)=true:=rfl
theorem zww(s:ByteArray):V.cells (V.str s)=[V.str s]:=rfl
theorem okc_nilp :V.okc (V.nilp )=true:=rfl
theorem ztY :V.cells (V.nilp )=[V.nilp ]:=rfl
theorem okc_nils :V.okc (V.nils )=true:=rfl
theorem ztX :V.cells (V.nils )=[V.nils ]:=rfl
theorem okc_ptr(i o:Nat):V.okc (V.ptr i o)=true:=rfl
theorem zwx(i o:Nat):V.cells (V.ptr i o)=[V.ptr i o]:=rfl
theorem okc_sl(i o l:Nat)(c:Cap):V.okc (V.sl i o l c)=true:=rfl
theorem cells_sl(i o l:Nat)(c:Cap):V.cells (V.sl i o l c)=[V.sl i o l c]:=rfl
theorem okc_rs(cs:List V)(l:Nat):V.okc (V.rs cs l)=true:=rfl
theorem cells_rs(cs:List V)(l:Nat):V.cells (V.rs cs l)=[V.rs cs l]:=rfl
theorem okc_rp(cs:List V)(l:Nat):V.okc (V.rp cs l)=true:=rfl
theorem cells_rp(cs:List V)(l:Nat):V.cells (V.rp cs l)=[V.rp cs l]:=rfl
theorem okc_fn(f:FuncId)(c:List V):V.okc (V.fn f c)=true:=rfl
theorem cells_fn(f:FuncId)(c:List V):V.cells (V.fn f c)=[V.fn f c]:=rfl
theorem okc_agg(cs:List V):V.okc (V.agg cs)=true:=rfl
theorem zwz(cs:List V):V.cells (V.agg cs)=cs:=rfl
theorem sp_S{x:V}{xs ys:List V}{o:Nat}:splice (x::xs) (o+1) ys=x::splice xs o ys:=by simp[splice,Nat.add_right_comm]
theorem sp_0{xs:List V}:splice xs 0 []=xs:=by simp[splice]
theorem sp_0S{x y:V}{xs ys:List V}:splice (x::xs) 0 (y::ys)=y::splice xs 0 ys:=by simp[splice]
theorem zt3{z:List V} {ps:List (Nat×Nat×V)}:Ax.build z ps=(fill z ps).map V.agg:=rfl
theorem fill_n{z:List V}:fill z []=some z:=rfl
theorem fill_c{z:List V}{o n:Nat}{v:V} {r:List (Nat×Nat×V)}:fill z ((o,n,v)::r)=if v.cells.length=n∧o+n≤z.length∧v.okc=true then fill (splice z o v.cells) r else none:=rfl
theorem zeros_0{z:List V}:zeros z 0=[]:=rfl
theorem zeros_S{z:List V}{n:Nat}:zeros z (n+1)=z++zeros z n:=rfl
theorem tupled1{v:V}:zc4 [v]=v:=rfl
theorem tupled2{v w:V}{vs:List V}:zc4 (v::w::vs) = .tup (v::w::vs):=rfl
theorem zmc{β:Type}{H:Heap}{ty bytes:Nat}{zero:List V}{l c:Int}{f:V→M β}{Q:β→Heap→Prop} :
  Ok ((mmkslice ty bytes zero (.int .i64 l) (.int .i64 c)).bind f) H Q↔(0≤l∧l≤c∧c*bytes≤281474976710656∧c≤281474976710656)∧Ok (f (.sl H.next 0 l.toNat (.fix c.toNat))) (H.new ⟨ty,zeros zero c.toNat,none⟩) Q:=by
 by_cases hc:0≤l∧l≤c∧c*bytes≤281474976710656∧c≤281474976710656
 ·have e:mmkslice ty bytes zero (.int .i64 l) (.int .i64 c) H=some (.sl H.next 0 l.toNat (.fix c.toNat),H.new ⟨ty,zeros zero c.toNat,none⟩):=by simp only[mmkslice]; rw[if_pos hc]
  constructor
  ·rintro⟨v,H',h,hq⟩;simp only[M.bind,e,Option.bind_some]at h;exact⟨hc,v,H',h,hq⟩
  ·rintro⟨_,v,H',h,hq⟩;exact⟨v,H',by simp only[M.bind,e,Option.bind_some]; exact h,hq⟩
 ·constructor
  ·rintro⟨v,H',h,hq⟩;simp only[M.bind,mmkslice,if_neg hc,Option.bind_none]at h;cases h
  ·rintro⟨k,_⟩; exact absurd k hc
theorem ret_ex{L:List V}{P:List V→Prop}:(∃L',Res.ret L=Res.ret L'∧P L')↔P L:=⟨λ⟨_,h,hp⟩=>by cases h; exact hp,λh=>⟨L,rfl,h⟩⟩
/-! The same,as simp meets it. -/
section
variable {α β γ:Type} {H:Heap} {Q:β→Heap→Prop}
theorem b_pure{v:α}{f:α→M β}:@OkB α β (M.pure v) H ⟨f⟩ ⟨Q⟩↔Ok (f v) H Q:=zox
theorem zod{v:α}{f:α→M β}:@OkB α β (M.lift (some v)) H ⟨f⟩ ⟨Q⟩↔Ok (f v) H Q:=okb_lift
theorem b_assoc{x:M γ}{g:γ→M α}{f:α→M β}:@OkB α β (x.bind g) H ⟨f⟩ ⟨Q⟩↔@OkB γ β x H ⟨λv=>(g v).bind f⟩ ⟨Q⟩:=zvs
theorem b_getH{f:Heap→M β}:@OkB Heap β M.getH H ⟨f⟩ ⟨Q⟩↔Ok (f H) H Q:=okb_getH
theorem zt4{id off:Nat}{h h':Heap}{f:Unit→M β}:@OkB Unit β (M.unch (.ptr id off) h h') H ⟨f⟩ ⟨Q⟩↔h'.get id=h.get id∧Ok (f ()) H Q:=zpW
theorem zwD{cells:List V}{off:Nat}{h h':Heap}{f:Unit→M β}:@OkB Unit β (M.unch (.rp cells off) h h') H ⟨f⟩ ⟨Q⟩↔Ok (f ()) H Q:=zq8
theorem zrH{v:V}{h:Heap}{f:Unit→M β}:@OkB Unit β (M.unch v h h) H ⟨f⟩ ⟨Q⟩↔Ok (f ()) H Q:=by
 have:M.unch v h h=M.pure ():=by funext H; unfold M.unch; rw[if_pos (λ_ _=>rfl)]; rfl
 rw[this]; exact b_pure
theorem i_t{x y:M β}:@OkI β (.bool true) H ⟨x⟩ ⟨y⟩ ⟨Q⟩↔Ok x H Q:=Iff.rfl
theorem i_f{x y:M β}:@OkI β (.bool false) H ⟨x⟩ ⟨y⟩ ⟨Q⟩↔Ok y H Q:=Iff.rfl
theorem b_load{n:Option Nat}{id off:Nat}{f:V→M β}:@OkB V β (mload n (.ptr id off)) H ⟨f⟩ ⟨Q⟩↔@OkB V β (M.lift ((H.get id).bind λb=>ldc n b.cells off)) H ⟨f⟩ ⟨Q⟩:=okb_load
theorem b_loadr{n:Option Nat}{cells:List V}{off:Nat}{f:V→M β}:@OkB V β (mload n (.rp cells off)) H ⟨f⟩ ⟨Q⟩↔@OkB V β (M.lift (ldc n cells off)) H ⟨f⟩ ⟨Q⟩:=zvr
theorem b_store{size id off:Nat}{x:V}{f:V→M β}:@OkB V β (mstore size (.ptr id off) x) H ⟨f⟩ ⟨Q⟩↔@StK β (H.get id) size id off x H ⟨f⟩ ⟨Q⟩:=zvq
theorem b_box{ty:TypeId}{x:V}{f:V→M β}:@OkB V β (mbox ty x) H ⟨f⟩ ⟨Q⟩↔x.okc=true∧Ok (f (.ptr H.next 0)) (H.new ⟨ty,x.cells,none⟩) Q:=okb_box
theorem b_slit{ty:TypeId}{len:Nat}{zero:List V} {parts:List (Nat×Nat×V)} {f:V→M β}:@OkB V β (mslit ty len zero parts) H ⟨f⟩ ⟨Q⟩↔@SlK β (fill (zeros zero len) parts) ty len H ⟨f⟩ ⟨Q⟩:=by
 show Ok ((mslit ty len zero parts).bind f) H Q↔_;rw[okb_slit];unfold SlK;cases fill (zeros zero len) parts<;>simp
theorem slk_some{ty:TypeId}{len:Nat}{cs:List V}{f:V→M β}:@SlK β (some cs) ty len H ⟨f⟩ ⟨Q⟩↔Ok (f (.sl H.next 0 len (.fix len))) (H.new ⟨ty,cs,none⟩) Q:=Iff.rfl
theorem zwE{ty bytes:Nat}{zero:List V}{l c:Int}{f:V→M β}:@OkB V β (mmkslice ty bytes zero (.int .i64 l) (.int .i64 c)) H ⟨f⟩ ⟨Q⟩↔(0≤l∧l≤c∧c*bytes≤281474976710656∧c≤281474976710656)∧Ok (f (.sl H.next 0 l.toNat (.fix c.toNat))) (H.new ⟨ty,zeros zero c.toNat,none⟩) Q:=zmc
end
theorem bb_tt:(true==true)=true:=rfl
theorem bb_ff:(false==false)=true:=rfl
theorem bb_tf:(true==false)=false:=rfl
theorem bb_ft:(false==true)=false:=rfl
theorem zaQ{α:Type}{x:M α}{H:Heap}{a:α}(h:Ok x H λv H'=>v=a∧H'=H){f:α→M Res}{Q:Res→Heap→Prop}:@OkB α Res x H ⟨f⟩ ⟨Q⟩↔Ok (f a) H Q:=by
 obtain⟨v,H',h1,rfl,rfl⟩:=h;show Ok (x.bind f) _ Q↔_;unfold Ok;rw[bind_ok h1]
theorem and_m1(x:Nat):x &&& 1=x%2:=Nat.and_two_pow_sub_one_eq_mod x 1
theorem and_m3(x:Nat):x &&& 3=x%4:=Nat.and_two_pow_sub_one_eq_mod x 2
theorem and_m7(x:Nat):x &&& 7=x%8:=Nat.and_two_pow_sub_one_eq_mod x 3
theorem and_m15(x:Nat):x &&& 15=x%16:=Nat.and_two_pow_sub_one_eq_mod x 4
theorem and_m31(x:Nat):x &&& 31=x%32:=Nat.and_two_pow_sub_one_eq_mod x 5
theorem and_m63(x:Nat):x &&& 63=x%64:=Nat.and_two_pow_sub_one_eq_mod x 6
theorem and_m127(x:Nat):x &&& 127=x%128:=Nat.and_two_pow_sub_one_eq_mod x 7
theorem and_m255(x:Nat):x &&& 255=x%256:=Nat.and_two_pow_sub_one_eq_mod x 8
theorem and_m511(x:Nat):x &&& 511=x%512:=Nat.and_two_pow_sub_one_eq_mod x 9
theorem zwJ(x:Nat):x &&& 1023=x%1024:=Nat.and_two_pow_sub_one_eq_mod x 10
theorem zwI(x:Nat):x &&& 2047=x%2048:=Nat.and_two_pow_sub_one_eq_mod x 11
theorem zwH(x:Nat):x &&& 4095=x%4096:=Nat.and_two_pow_sub_one_eq_mod x 12
theorem zwG(x:Nat):x &&& 8191=x%8192:=Nat.and_two_pow_sub_one_eq_mod x 13
theorem zt8(x:Nat):x &&& 16383=x%16384:=Nat.and_two_pow_sub_one_eq_mod x 14
theorem zt7(x:Nat):x &&& 32767=x%32768:=Nat.and_two_pow_sub_one_eq_mod x 15
theorem zt6(x:Nat):x &&& 65535=x%65536:=Nat.and_two_pow_sub_one_eq_mod x 16
theorem zi8(x k:Nat):x &&& 2 ^ k=x/2 ^ k%2*2 ^ k:=by
 rw[←Nat.toNat_testBit];refine Nat.eq_of_testBit_eq λj=>?_;rw[Nat.testBit_and,Nat.testBit_two_pow];cases h:x.testBit k
 ·by_cases e:k=j
  ·subst e; simp[h]
  ·simp[e]
 ·by_cases e:k=j
  ·subst e; simp[h]
  ·simp[e]
theorem and_b2(x:Nat):x &&& 2=x/2%2*2:=zi8 x 1
theorem and_b4(x:Nat):x &&& 4=x/4%2*4:=zi8 x 2
theorem and_b8(x:Nat):x &&& 8=x/8%2*8:=zi8 x 3
theorem and_b16(x:Nat):x &&& 16=x/16%2*16:=zi8 x 4
theorem and_b32(x:Nat):x &&& 32=x/32%2*32:=zi8 x 5
theorem and_b64(x:Nat):x &&& 64=x/64%2*64:=zi8 x 6
theorem and_b128(x:Nat):x &&& 128=x/128%2*128:=zi8 x 7
/-! The rules,in bundles. -/
def RD :=
 And.intro @d_bind<|And.intro @d_ite<|And.intro @d_iter<|And.intro @zrc<|And.intro @zrd<|And.intro @then_nrm<|And.intro @then_ex<|And.intro @then_ret<|And.intro @ztk<|And.intro @out_nrm<|And.intro @out_ret<|And.intro @out_same<|And.intro @out_ne<|And.intro @lq_nrm<|And.intro @lq_ex<|And.intro @lq_ret @b_assoc
def RC :=
 And.intro @b_pure<|And.intro @zod<|And.intro @b_getH<|And.intro @zrH<|And.intro @zt4<|And.intro @zwD<|And.intro @i_t<|And.intro @i_f<|And.intro @ztr<|And.intro @ztu<|And.intro @zts<|And.intro @ztt<|And.intro @zvL<|And.intro @pick_t<|And.intro @pick_f<|And.intro @zvn<|And.intro @b_load<|And.intro @b_loadr<|And.intro @b_store<|And.intro @stk_some<|And.intro @b_box<|And.intro @b_slit<|And.intro @slk_some @zwE
def RH :=
 And.intro @zvQ<|And.intro @zvR<|And.intro @zvS<|And.intro @zvU<|And.intro @zvT<|And.intro @nx_set @nx_new
def RO :=
 And.intro @bin_add<|And.intro @bin_sub<|And.intro @bin_mul<|And.intro @bin_eql<|And.intro @bin_neq<|And.intro @bin_lss<|And.intro @bin_leq<|And.intro @bin_gtr<|And.intro @bin_geq<|And.intro @bin_seql<|And.intro @bin_sneq<|And.intro @un_not<|And.intro @un_neg<|And.intro @cint_int<|And.intro @zvA<|And.intro @nilck_rp<|And.intro @nilck_fn<|And.intro @nilck_sl<|And.intro @zwd<|And.intro @faddr_rp<|And.intro @zut<|And.intro @vlen_sl<|And.intro @vlen_rs<|And.intro @slen_str<|And.intro @ext_tup<|And.intro @zwb<|And.intro @zfW<|And.intro @zoW<|And.intro @iaddr_ap<|And.intro @zvK<|And.intro @zvI<|And.intro @eqr_nilp<|And.intro @eqr_ptr<|And.intro @eqr_rp<|And.intro @eqr_nils<|And.intro @eqr_sl<|And.intro @eqr_rs<|And.intro @eqr_bool<|And.intro @ldc_none<|And.intro @ldc_some<|And.intro @min2_min<|And.intro @min2_max<|And.intro @dec_lt_t<|And.intro @dec_lt_f<|And.intro @dec_le_t<|And.intro @dec_le_f<|And.intro @beq_t @beq_f
def RN :=
 And.intro @zur<|And.intro @shr_u8<|And.intro @shl_u8<|And.intro @and_u8<|And.intro @or_u8<|And.intro @xor_u8<|And.intro @zwK<|And.intro @zsI<|And.intro @shr_u16<|And.intro @shl_u16<|And.intro @and_u16<|And.intro @or_u16<|And.intro @xor_u16<|And.intro @zub<|And.intro @zsH<|And.intro @shr_u32<|And.intro @shl_u32<|And.intro @and_u32<|And.intro @or_u32<|And.intro @xor_u32<|And.intro @zua<|And.intro @zsG<|And.intro @shr_u64<|And.intro @shl_u64<|And.intro @and_u64<|And.intro @or_u64<|And.intro @xor_u64<|And.intro @zt9<|And.intro @wrap_i64<|And.intro @wrap_i32<|And.intro @shr_i64<|And.intro @quo_i64<|And.intro @rem_i64<|And.intro @zpp<|And.intro @zpV @zuY
def RL :=
 And.intro @r_bind<|And.intro @r_map<|And.intro @Bool.not_true<|And.intro @Bool.not_false<|And.intro @Bool.false_eq_true<|And.intro @true_and<|And.intro @and_true<|And.intro @r_get0<|And.intro @r_getS<|And.intro @r_getD0<|And.intro @r_getDS<|And.intro @Nat.zero_add<|And.intro @Nat.add_zero<|And.intro @r_ift<|And.intro @r_iff<|And.intro @Int.toNat_natCast<|And.intro @Int.mul_one<|And.intro @Nat.mul_one<|And.intro @r_dt<|And.intro @r_df<|And.intro @r_capp<|And.intro @r_napp<|And.intro @r_dropS<|And.intro @r_drop0<|And.intro @r_takeS<|And.intro @r_take0<|And.intro @r_lenS @r_len0
def RX :=
 And.intro @bb_tt<|And.intro @bb_ff<|And.intro @bb_tf<|And.intro @bb_ft<|And.intro @okc_bool<|And.intro @ztZ<|And.intro @okc_int<|And.intro @zwy<|And.intro @okc_str<|And.intro @zww<|And.intro @okc_nilp<|And.intro @ztY<|And.intro @okc_nils<|And.intro @ztX<|And.intro @okc_ptr<|And.intro @zwx<|And.intro @okc_sl<|And.intro @cells_sl<|And.intro @okc_rs<|And.intro @cells_rs<|And.intro @okc_rp<|And.intro @cells_rp<|And.intro @okc_fn<|And.intro @cells_fn<|And.intro @okc_agg<|And.intro @zwz<|And.intro @sp_S<|And.intro @sp_0<|And.intro @sp_0S<|And.intro @zt3<|And.intro @fill_n<|And.intro @fill_c<|And.intro @zeros_0<|And.intro @zeros_S<|And.intro @tupled1<|And.intro @tupled2<|And.intro @zmc @ret_ex
def RS :=
 And.intro @shr_1<|And.intro @shr_2<|And.intro @shr_3<|And.intro @shr_4<|And.intro @shr_5<|And.intro @shr_6<|And.intro @shr_7<|And.intro @shr_8<|And.intro @shr_9<|And.intro @shr_10<|And.intro @shr_11<|And.intro @shr_12<|And.intro @shr_13<|And.intro @shr_14<|And.intro @shr_15<|And.intro @shr_16<|And.intro @shr_17<|And.intro @shr_18<|And.intro @shr_19<|And.intro @shr_20<|And.intro @shr_21<|And.intro @shr_22<|And.intro @shr_23<|And.intro @shr_24<|And.intro @shr_25<|And.intro @shr_26<|And.intro @shr_27<|And.intro @shr_28<|And.intro @shr_29<|And.intro @shr_30<|And.intro @shr_31<|And.intro @shr_32<|And.intro @shr_33<|And.intro @shr_34<|And.intro @shr_35<|And.intro @shr_36<|And.intro @shr_37<|And.intro @shr_38<|And.intro @shr_39<|And.intro @shr_40<|And.intro @shr_41<|And.intro @shr_42<|And.intro @shr_43<|And.intro @shr_44<|And.intro @shr_45<|And.intro @shr_46<|And.intro @shr_47<|And.intro @shr_48<|And.intro @shr_49<|And.intro @shr_50<|And.intro @shr_51<|And.intro @shr_52<|And.intro @shr_53<|And.intro @shr_54<|And.intro @shr_55<|And.intro @shr_56<|And.intro @shr_57<|And.intro @shr_58<|And.intro @shr_59<|And.intro @shr_60<|And.intro @shr_61<|And.intro @shr_62<|And.intro @shr_63<|And.intro @shl_1<|And.intro @shl_2<|And.intro @shl_3<|And.intro @shl_4<|And.intro @shl_5<|And.intro @shl_6<|And.intro @shl_7<|And.intro @shl_8<|And.intro @shl_9<|And.intro @shl_10<|And.intro @shl_11<|And.intro @shl_12<|And.intro @shl_13<|And.intro @shl_14<|And.intro @shl_15<|And.intro @shl_16<|And.intro @shl_17<|And.intro @shl_18<|And.intro @shl_19<|And.intro @shl_20<|And.intro @shl_21<|And.intro @shl_22<|And.intro @shl_23<|And.intro @shl_24<|And.intro @shl_25<|And.intro @shl_26<|And.intro @shl_27<|And.intro @shl_28<|And.intro @shl_29<|And.intro @shl_30<|And.intro @shl_31<|And.intro @shl_32<|And.intro @shl_33<|And.intro @shl_34<|And.intro @shl_35<|And.intro @shl_36<|And.intro @shl_37<|And.intro @shl_38<|And.intro @shl_39<|And.intro @shl_40<|And.intro @shl_41<|And.intro @shl_42<|And.intro @shl_43<|And.intro @shl_44<|And.intro @shl_45<|And.intro @shl_46<|And.intro @shl_47<|And.intro @shl_48<|And.intro @shl_49<|And.intro @shl_50<|And.intro @shl_51<|And.intro @shl_52<|And.intro @shl_53<|And.intro @shl_54<|And.intro @shl_55<|And.intro @shl_56<|And.intro @shl_57<|And.intro @shl_58<|And.intro @shl_59<|And.intro @shl_60<|And.intro @shl_61<|And.intro @shl_62<|And.intro @shl_63<|And.intro @shr_0 @shl_0
def RM :=
 And.intro @and_m1<|And.intro @and_m3<|And.intro @and_m7<|And.intro @and_m15<|And.intro @and_m31<|And.intro @and_m63<|And.intro @and_m127<|And.intro @and_m255<|And.intro @and_m511<|And.intro @zwJ<|And.intro @zwI<|And.intro @zwH<|And.intro @zwG<|And.intro @zt8<|And.intro @zt7<|And.intro @zt6<|And.intro @and_b2<|And.intro @and_b4<|And.intro @and_b8<|And.intro @and_b16<|And.intro @and_b32<|And.intro @and_b64 @and_b128
def RZ:=And.intro RC<|And.intro RH<|And.intro RO<|And.intro RN<|And.intro RL<|And.intro RX<|And.intro RS RM
def RY:=And.intro @nx_new<|And.intro @nx_set<|And.intro @r_lenS @r_len0
end Go.Ax
/- Ax23 -/
namespace Go.Ax
def by8(n:Nat):V:=.int .u8 n
theorem zgL:(140737488355328:Nat)≤maxLen:=by decide
def Opn(ty e:Nat)(H:Heap)(v:V)(cells:List V)(n:Nat):Prop :=
 (v = .nils∧cells=[]∧n=0)∨∃id,v = .sl id 0 n (.opn e)∧H.get id=some ⟨ty,cells,some e⟩∧cells.length=n*e
theorem Opn.nil{ty e:Nat}{H:Heap}:Opn ty e H .nils [] 0:=.inl ⟨rfl,rfl,rfl⟩
theorem Opn.len{ty e:Nat}{H:Heap}{v:V}{cells:List V}{n:Nat}(h:Opn ty e H v cells n):cells.length=n*e:=by
 rcases h with⟨_,rfl,rfl⟩|⟨id,_,_,h⟩
 ·simp
 ·exact h
theorem Opn.vlen{ty e:Nat}{H:Heap}{v:V}{cells:List V}{n:Nat}(h:Opn ty e H v cells n):Ax.vlen v=some (.int .i64 (n:Int)):=by
 rcases h with⟨rfl,_,rfl⟩|⟨id,rfl,_,h⟩
 ·rfl
 ·rfl
theorem Opn.rc{ty e:Nat}{H:Heap}{v:V}{cells:List V}{n:Nat}(h:Opn ty e H v cells n):rcells e H v=some (cells,n):=by
 rcases h with⟨rfl,rfl,rfl⟩|⟨id,rfl,hg,hl⟩
 ·rfl
 ·simp only[rcells,hg,Option.bind_some];rw[if_pos (by omega),List.drop_zero,←hl,List.take_length]
theorem Opn.okc{ty e:Nat}{H:Heap}{v:V}{cells:List V}{n:Nat}(h:Opn ty e H v cells n):v.okc=true:=by
 rcases h with⟨rfl,_⟩|⟨id,rfl,_⟩<;>rfl
theorem Opn.cells1{ty e:Nat}{H:Heap}{v:V}{cells:List V}{n:Nat}(h:Opn ty e H v cells n):v.cells=[v]:=by
 rcases h with⟨rfl,_⟩|⟨id,rfl,_⟩<;>rfl
theorem Opn.to{ty e:Nat}{H H':Heap}{v:V}{cells:List V}{n:Nat}(h:Opn ty e H v cells n)(hs:∀i,v.pid=some i→H'.get i=H.get i):Opn ty e H' v cells n:=by
 rcases h with h|⟨id,rfl,hg,hl⟩
 ·exact .inl h
 ·exact .inr ⟨id,rfl,by rw[hs id rfl,hg],hl⟩
theorem zbL{e:Nat}{H H':Heap}{v:V}(hs:∀i,v.pid=some i→H'.get i=H.get i):rcells e H' v=rcells e H v:=by
 cases v<;>first|rfl|skip
 rename_i id off len cap;simp only[rcells];rw[hs id rfl]
theorem zm8{e:Nat}{H H':Heap}{v:V}(hs:∀i,v.pid=some i→H'.get i=H.get i):acells e H' v=acells e H v:=by
 cases v<;>first|rfl|skip
 exact zbL hs
theorem zwO{e:Nat}{H:Heap}{v:V}{q:List V×Nat}(h:rcells e H v=some q):acells e H v=some q:=by
 cases v<;>first|exact h|(simp only[rcells,reduceCtorEq]at h)
theorem ztg{β:Type}{ty e bytes n m:Nat}{H:Heap}{x y:V}{cells q:List V}{f:V→M β}{Q:β→Heap→Prop}(hx:Opn ty e H x cells n) (hy:acells e H y=some (q,m)) (hq:q.length=m*e)
  (hb:(n+m)*bytes≤140737488355328) (hm:n+m≤140737488355328)
  (k:∀x' H',Opn ty e H' x' (cells++q) (n+m)→Step H H' x.pid.toList x'.pid.toList→(x = .nils∨0<m→∀i,x'.pid=some i→H.next≤i)→Ok (f x') H' Q):Ok ((mappend ty e bytes x y).bind f) H Q:=by
 have hml:n+m≤maxLen:=Nat.le_trans hm zgL;refine zao ?_;rcases hx with⟨rfl,rfl,rfl⟩|⟨id,rfl,hg,hl⟩
 ·refine ztl hy (λh0=>?_) λh0=>⟨by simpa using hb,by simpa using hml,?_⟩
  ·have h0:m=0:=h0;subst h0;have:q=[]:=List.eq_nil_of_length_eq_zero (by omega);subst this;exact k _ _ .nil ⟨Nat.le_refl _,λ_ _ _=>rfl,λ_ h=>.inl h⟩ (λ_ i h=>by cases h)
  ·refine k (.sl H.next 0 m (.opn e)) _ (.inr ⟨H.next,by simp,by rw[zac]; simp,by simpa using hq⟩) ⟨by rw[zaf]; omega,λi hi _=>zaE _ _ (by omega),λi hi=>.inr ?_⟩ ?_
   ·simp only[V.pid,Option.toList_some,List.mem_singleton]at hi;subst hi;exact⟨Nat.le_refl _,by rw[zaf]; omega⟩
   ·intro _ i hi;simp only[V.pid,Option.some.injEq]at hi;omega
 ·refine zvw hy hg rfl rfl hl (λh0=>?_) λh0=>⟨hb,hml,?_⟩
  ·have h0:m=0:=h0;subst h0;have:q=[]:=List.eq_nil_of_length_eq_zero (by omega);subst this;exact k _ _ (.inr ⟨id,by simp,by rw[hg]; simp,by simp[hl]⟩) ⟨Nat.le_refl _,λ_ _ _=>rfl,λ_ h=>.inl h⟩ (λh=>by
    rcases h with h|h
    ·cases h
    ·exact absurd h (by omega))
  ·refine k _ _ (.inr ⟨_,rfl,(zac (H.set id none) _),by simp[hl,hq,Nat.add_mul]⟩) ⟨by rw[zaf,zbg]; omega,λi hi hF=>?_,λi hi=>.inr ?_⟩ ?_
   ·rw[zaE _ _ (by rw[zbg]; omega),zap];simp only[V.pid,Option.toList_some,List.mem_singleton]at hF;exact hF
   ·simp only[V.pid,Option.toList_some,List.mem_singleton]at hi;subst hi;exact⟨Nat.le_refl _,by rw[zaf,zbg]; omega⟩
   ·intro _ i hi;simp only[V.pid,Option.some.injEq]at hi;omega
theorem Opn.at{ty e:Nat}{H:Heap}{v:V}{cells:List V}{n:Nat}(h:Opn ty e H v cells n){k:IntKind}{i:Int}(h0:0≤i)(h1:i<n):∃id,v = .sl id 0 n (.opn e)∧H.get id=some ⟨ty,cells,some e⟩∧Ax.iaddr none e v (.int k i)=some (.ptr id (i.toNat*e)):=by
 rcases h with⟨_,_,rfl⟩|⟨id,rfl,hg,hl⟩
 ·omega
 ·exact⟨id,rfl,hg,by rw[zfW h0 h1]; simp⟩
theorem zoU{a b:List Nat}(ha:∀x∈a,x<256)(hb:∀x∈b,x<256)(h:a.map UInt8.ofNat=b.map UInt8.ofNat):a=b:=by
 induction a generalizing b with
 | nil=>cases b with
  | nil=>rfl
  | cons=>simp at h
 | cons x a ih=>cases b with
  | nil=>simp at h
  | cons y b =>
   simp only[List.map_cons,List.cons.injEq]at h;have hx:=ha x (List.mem_cons_self ..);have hy:=hb y (List.mem_cons_self ..);have e:=congrArg UInt8.toNat h.1;simp only[UInt8.toNat_ofNat']at e;have:x=y:=by omega
   rw[this,ih (λz hz=>ha z (List.mem_cons_of_mem _ hz)) (λz hz=>hb z (List.mem_cons_of_mem _ hz)) h.2]
theorem bytes_eq{a b:List Nat}(ha:∀x∈a,x<256)(hb:∀x∈b,x<256):((⟨(a.map UInt8.ofNat).toArray⟩:ByteArray).toList==(⟨(b.map UInt8.ofNat).toArray⟩:ByteArray).toList)=decide (a=b):=by
 simp only[ByteArray.toList_eq];by_cases h:a=b
 ·subst h; simp
 ·rw[decide_eq_false h,beq_eq_false_iff_ne];intro e;exact h (zoU ha hb e)
theorem zbS{H:Heap}{ty:TypeId}{cs:List V}{o:Option Nat}{n e:Nat}{cap:Cap}(h:cs.length=n*e):acells e (H.new ⟨ty,cs,o⟩) (.sl H.next 0 n cap)=some (cs,n):=by
 simp only[acells,rcells,zac,Option.bind_some];rw[if_pos (by simp; omega),List.drop_zero,←h,List.take_length]
theorem Step.new(H:Heap)(b:Blk)(F:List Nat):Step H (H.new b) F F:=⟨by rw[zaf]; omega,λi hi _=>zaE _ _ (by omega),λi hi=>.inl hi⟩
theorem Step.set{H:Heap}{w:Nat}(b:Option Blk){F:List Nat}(h:w∈F):Step H (H.set w b) F F:=⟨Nat.le_refl _,λi hi hF=>zap _ _ (λe=>hF (e ▸ h)),λi hi=>.inl hi⟩
theorem Step.more{H H':Heap}{F F':List Nat}(h:Step H H' F F')(G:List Nat):Step H H' (G++F) (G++F'):=by
 refine⟨h.next,λi hi hF=>h.same i hi λk=>hF (by simp[k]),λi hi=>?_⟩;rcases List.mem_append.1 hi with k|k
 ·exact .inl (by simp[k])
 ·rcases h.own i k with k|k
  ·exact .inl (by simp[k])
  ·exact .inr k
theorem Step.cons{H H':Heap}{F F':List Nat}(h:Step H H' F F')(w:Nat):Step H H' (w::F) (w::F'):=h.more [w]
theorem Step.ne{H H':Heap}{F F':List Nat}(h:Step H H' F F'){w:Nat}(hw:w<H.next)(hF:w∉F):w∉F':=λk=>by
 rcases h.own w k with k|k
 ·exact hF k
 ·omega
theorem Below.cons{H:Heap}{w:Nat}{F:List Nat}(h:w<H.next)(k:Below F H):Below (w::F) H:=λi hi=>by
 rcases List.mem_cons.1 hi with rfl|hi
 ·exact h
 ·exact k i hi
theorem zb7{v:V}{i:Nat}:i∈v.pid.toList↔v.pid=some i:=by cases v.pid<;>simp[eq_comm]
theorem flat_at{α:Type}{k:Nat}:∀(es:List (List α)),(∀x∈es,x.length=k)→∀(i:Nat) (x:List α),es[i]?=some x→(es.flatten.drop (i*k)).take k=x∧i*k+k≤es.flatten.length:=by
 intro es
 induction es with
 | nil=>intro _ i x h; simp at h
 | cons y es ih =>
  intro hk i x h;have hy:=hk y (List.mem_cons_self ..);cases i with
  | zero =>
   simp only[List.getElem?_cons_zero,Option.some.injEq]at h;subst h;simp[←hy]
  | succ i =>
   obtain⟨h1,h2⟩:=ih (λz hz=>hk z (List.mem_cons_of_mem _ hz)) i x (by simpa using h);rw[Nat.succ_mul];simp only[List.flatten_cons,List.length_append];refine⟨?_,by omega⟩;rw[List.drop_append,List.drop_of_length_le (by omega),List.nil_append];have:i*k+k-y.length=i*k:=by omega
   rw[this,h1]
theorem zeros1(x:V)(n:Nat):zeros [x] n=List.replicate n x:=by
 induction n with
 | zero=>rfl
 | succ n ih=>simp[zeros,ih,List.replicate_succ]
end Go.Ax
/- Ax24 -/
namespace Go.Ax
theorem sh_u8{vs:List V} (h:Sh.Ty (.int .u8) vs):∃n:Nat,vs=[.int .u8 n]∧n<256:=by
 obtain⟨n,rfl,h1,h2⟩:=h;simp only[IntKind.min,IntKind.max,IntKind.signed,IntKind.bits]at h1 h2;obtain⟨m,rfl⟩:=Int.eq_ofNat_of_zero_le (show 0≤n by simpa using h1);exact⟨m,rfl,by simp at h2; omega⟩
def Ar{α:Type}(f:α→V)(v:V)(l:List α):Prop:=(v = .nils∧l=[])∨v = .rs (l.map f) l.length
theorem Ar.vlen{α:Type}{f:α→V}{v:V}{l:List α}(h:Ar f v l):Ax.vlen v=some (.int .i64 (l.length:Nat)):=by
 rcases h with⟨rfl,rfl⟩|rfl<;>rfl
theorem Ar.rc{α:Type}{f:α→V}{v:V}{l:List α}{H:Heap}(h:Ar f v l):rcells 1 H v=some (l.map f,l.length):=by
 rcases h with⟨rfl,rfl⟩|rfl
 ·rfl
 ·simp only[rcells]; rw[if_pos (by simp),List.take_of_length_le (by simp)]
theorem Ar.cells1{α:Type}{f:α→V}{v:V}{l:List α}(h:Ar f v l):v.cells=[v]:=by
 rcases h with⟨rfl,rfl⟩|rfl<;>rfl
theorem Ar.okc{α:Type}{f:α→V}{v:V}{l:List α}(h:Ar f v l):v.okc=true:=by
 rcases h with⟨rfl,rfl⟩|rfl<;>rfl
theorem Ar.pid{α:Type}{f:α→V}{v:V}{l:List α}(h:Ar f v l):v.pid=none:=by
 rcases h with⟨rfl,rfl⟩|rfl<;>rfl
theorem Ar.at{α:Type}{f:α→V}{v:V}{l:List α}(h:Ar f v l){k:IntKind}{i:Int}(h0:0≤i)(h1:i<l.length):v = .rs (l.map f) l.length∧Ax.iaddr none 1 v (.int k i)=some (.rp (l.map f) i.toNat):=by
 rcases h with⟨rfl,rfl⟩|rfl
 ·simp at h1; omega
 ·exact⟨rfl,by rw[zoW h0 h1]; simp⟩
theorem blks_map{α:Type}(f:α→V) (h:∀x,1≤(f x).blk) (l:List α):l.length≤V.blks (l.map f):=by
 induction l with
 | nil=>simp
 | cons x l ih=>simp only[List.map_cons,List.length_cons,V.blks]; have:=h x; omega
theorem Ar.blk{α:Type}{f:α→V}{v:V}{l:List α}(h:Ar f v l) (hf:∀x,1≤(f x).blk):l.length≤v.blk:=by
 rcases h with⟨rfl,rfl⟩|rfl
 ·simp
 ·simp only[V.blk]; have:=blks_map f hf l; omega
end Go.Ax
/- Ax25 -/
namespace Go.Ax
structure Grow (H H':Heap):Prop where
 next:H.next≤H'.next
 same:∀i,i<H.next→H'.get i=H.get i
theorem Grow.refl(H:Heap):Grow H H:=⟨Nat.le_refl _,λ_ _=>rfl⟩
theorem Grow.trans{H H1 H2:Heap}(h:Grow H H1)(k:Grow H1 H2):Grow H H2:=⟨Nat.le_trans h.next k.next,λi hi=>by rw[k.same i (Nat.lt_of_lt_of_le hi h.next),h.same i hi]⟩
theorem Grow.new(H:Heap)(b:Blk):Grow H (H.new b):=⟨by rw[zaf]; omega,λi hi=>zaE _ _ (by omega)⟩
theorem Grow.set{H H1:Heap}(h:Grow H H1){w:Nat}(hw:H.next≤w)(b:Option Blk):Grow H (H1.set w b):=⟨by rw[zbg]; exact h.next,λi hi=>by rw[zap _ _ (by omega),h.same i hi]⟩
theorem Step.ext{H H':Heap}{F:List Nat} (h:Step H H' [] F):Grow H H':=⟨h.next,λi hi=>h.same i hi (by simp)⟩
theorem Grow.step{H H':Heap}(h:Grow H H')(F:List Nat):Step H H' F F:=⟨h.next,λi hi _=>h.same i hi,λi hi=>.inl hi⟩
structure Keep (lo:Nat) (H H':Heap):Prop where
 next:H.next≤H'.next
 same:∀i,lo≤i→i<H.next→H'.get i=H.get i
theorem Grow.keep{H H':Heap}(h:Grow H H')(lo:Nat):Keep lo H H':=⟨h.next,λi _ hi=>h.same i hi⟩
theorem Keep.refl(lo:Nat)(H:Heap):Keep lo H H:=⟨Nat.le_refl _,λ_ _ _=>rfl⟩
theorem Keep.trans{lo:Nat}{H H1 H2:Heap}(h:Keep lo H H1)(k:Keep lo H1 H2):Keep lo H H2:=⟨Nat.le_trans h.next k.next,λi hl hi=>by rw[k.same i hl (Nat.lt_of_lt_of_le hi h.next),h.same i hl hi]⟩
theorem Keep.set{lo:Nat}(H:Heap){w:Nat}(hw:w<lo)(b:Option Blk):Keep lo H (H.set w b):=⟨Nat.le_refl _,λi hl _=>zap _ _ (by omega)⟩
def V.capOk(e:Nat):V→Prop
 | .sl _ _ len (.fix c)=>len≤c
 | .sl _ _ _ (.opn e')=>e'=e
 | _=>True
structure Lc (e lo:Nat) (H:Heap) (v:V) (cells:List V) (n:Nat):Prop where
 rc:rcells e H v=some (cells,n)
 own:∀id,v.pid=some id→lo≤id∧id<H.next
 cap:V.capOk e v
section
variable {e lo n:Nat} {H H':Heap} {v:V} {cells:List V}
theorem Lc.nil:Lc e lo H .nils [] 0:=⟨rfl,λ_ h=>(by cases h),trivial⟩
theorem Lc.keep(h:Lc e lo H v cells n)(k:Keep lo H H'):Lc e lo H' v cells n :=
 ⟨by rw[zbL λi hi=>k.same i (h.own i hi).1 (h.own i hi).2]; exact h.rc,λi hi=>⟨(h.own i hi).1,Nat.lt_of_lt_of_le (h.own i hi).2 k.next⟩,h.cap⟩
theorem Lc.ext(h:Lc e lo H v cells n)(k:Grow H H'):Lc e lo H' v cells n:=h.keep (k.keep lo)
theorem Lc.low{lo':Nat}(h:Lc e lo H v cells n)(hl:lo'≤lo):Lc e lo' H v cells n:=⟨h.rc,λi hi=>⟨Nat.le_trans hl (h.own i hi).1,(h.own i hi).2⟩,h.cap⟩
theorem Lc.cases(h:Lc e lo H v cells n):(v = .nils∧cells=[]∧n=0)∨(∃id off cap b,v = .sl id off n cap∧H.get id=some b∧off+n*e≤b.cells.length∧cells=(b.cells.drop off).take (n*e))∨(∃cs,v = .rs cs n∧n*e≤cs.length∧cells=cs.take (n*e)):=by
 have hr:=h.rc;cases v<;>simp only[rcells,reduceCtorEq,Option.some.injEq,Prod.mk.injEq,Option.bind_eq_some_iff]at hr
 ·obtain⟨rfl,rfl⟩:=hr; exact .inl ⟨rfl,rfl,rfl⟩
 ·rename_i id off len cap;obtain⟨b,hb,hr⟩:=hr;split at hr
  ·rename_i hle;simp only[Option.some.injEq,Prod.mk.injEq]at hr;obtain⟨rfl,rfl⟩:=hr;exact .inr (.inl ⟨id,off,cap,b,rfl,hb,hle,rfl⟩)
  ·cases hr
 ·rename_i cs len;split at hr
  ·rename_i hle;simp only[Option.some.injEq,Prod.mk.injEq]at hr;obtain⟨rfl,rfl⟩:=hr;exact .inr (.inr ⟨cs,rfl,hle,rfl⟩)
  ·cases hr
theorem Lc.len(h:Lc e lo H v cells n):cells.length=n*e:=by
 rcases h.cases with⟨_,rfl,rfl⟩|⟨_,_,_,_,_,_,hl,rfl⟩|⟨_,_,hl,rfl⟩
 ·simp
 ·rw[List.length_take,List.length_drop]; omega
 ·rw[List.length_take]; omega
theorem Lc.vlen(h:Lc e lo H v cells n):Ax.vlen v=some (.int .i64 (n:Int)):=by
 rcases h.cases with⟨rfl,_,rfl⟩|⟨_,_,_,_,rfl,_⟩|⟨_,rfl,_⟩<;>rfl
theorem Lc.cells1(h:Lc e lo H v cells n):v.cells=[v]:=by
 rcases h.cases with⟨rfl,_,rfl⟩|⟨_,_,_,_,rfl,_⟩|⟨_,rfl,_⟩<;>rfl
theorem Lc.okc(h:Lc e lo H v cells n):v.okc=true:=by
 rcases h.cases with⟨rfl,_,rfl⟩|⟨_,_,_,_,rfl,_⟩|⟨_,rfl,_⟩<;>rfl
theorem Lc.ac(h:Lc e lo H v cells n):acells e H v=some (cells,n):=zwO h.rc
def fa(p:V)(o:Nat):V:=match p with
 | .ptr id off=>.ptr id (off+o)
 | .rp cs off=>.rp cs (off+o)
 | v=>v
abbrev LdR(n:Option Nat)(H:Heap)(p c:V):Prop:=∀(f:V→M Res) (Q:Res→Heap→Prop),@OkB V Res (mload n p) H ⟨f⟩ ⟨Q⟩↔Ok (f c) H Q
structure Pl (H:Heap) (p:V) (cs:List V) (own:Option Nat):Prop where
 fa:∀{o:Nat},Ax.faddr o p=some (Ax.fa p o)
 ld:∀{o:Nat},o<cs.length→∀{f:V→M Res} {Q:Res→Heap→Prop},@OkB V Res (mload none (Ax.fa p o)) H ⟨f⟩ ⟨Q⟩↔@OkB V Res (M.lift cs[o]?) H ⟨f⟩ ⟨Q⟩
 ld0:0<cs.length→∀{f:V→M Res} {Q:Res→Heap→Prop},@OkB V Res (mload none p) H ⟨f⟩ ⟨Q⟩↔@OkB V Res (M.lift cs[0]?) H ⟨f⟩ ⟨Q⟩
 all:LdR (some cs.length) H p (.agg cs)
 pid:p.pid=own∧∀o,(Ax.fa p o).pid=own
theorem zlG{α:Type}{x:M α}{o:Option α}{H:Heap} (h:x H=o.map λv=>(v,H)) {f:α→M Res} {Q:Res→Heap→Prop}:@OkB α Res x H ⟨f⟩ ⟨Q⟩↔@OkB α Res (M.lift o) H ⟨f⟩ ⟨Q⟩:=by
 show Ok (x.bind f) H Q↔Ok ((M.lift o).bind f) H Q;have e:(x.bind f) H=((M.lift o).bind f) H:=by simp only[M.bind,M.lift,h]
 unfold Ok;rw[e]
theorem pl_ptr{id off m:Nat}{b:Blk}(hb:H.get id=some b)(hm:off+m≤b.cells.length):Pl H (.ptr id off) ((b.cells.drop off).take m) (some id):=by
 have hlen:((b.cells.drop off).take m).length=m:=by rw[List.length_take,List.length_drop]; omega
 refine⟨rfl,λ{o} ho f Q=>zlG ?_,λh0 f Q=>zlG ?_,λf Q=>?_,rfl,λo=>rfl⟩
 ·rw[hlen]at ho;simp only[fa,mload,hb,Option.bind_some,ldc];rw[List.getElem?_take_of_lt ho,List.getElem?_drop]
 ·rw[hlen]at h0;simp only[mload,hb,Option.bind_some,ldc];rw[List.getElem?_take_of_lt h0,List.getElem?_drop]; rfl
 ·rw[hlen];refine zaQ ⟨_,_,?_,rfl,rfl⟩;simp only[mload,hb,Option.bind_some,ldc];rw[if_pos hm]; rfl
theorem pl_rp{cs:List V}{off m:Nat}(hm:off+m≤cs.length):Pl H (.rp cs off) ((cs.drop off).take m) none:=by
 have hlen:((cs.drop off).take m).length=m:=by rw[List.length_take,List.length_drop]; omega
 refine⟨rfl,λ{o} ho f Q=>zlG ?_,λh0 f Q=>zlG ?_,λf Q=>?_,rfl,λo=>rfl⟩
 ·rw[hlen]at ho;simp only[fa,mload,ldc];rw[List.getElem?_take_of_lt ho,List.getElem?_drop]
 ·rw[hlen]at h0;simp only[mload,ldc];rw[List.getElem?_take_of_lt h0,List.getElem?_drop]; rfl
 ·rw[hlen];refine zaQ ⟨_,_,?_,rfl,rfl⟩;simp only[mload,ldc];rw[if_pos hm]; rfl
theorem Lc.at(h:Lc e lo H v cells n){i:Int}(h0:0≤i)(h1:i<n):∃p,(∀{k:IntKind},Ax.iaddr none e v (.int k i)=some p)∧Pl H p ((cells.drop (i.toNat*e)).take e) v.pid:=by
 have hi:i.toNat*e+e≤n*e:=by
  have:(i.toNat+1)*e≤n*e:=Nat.mul_le_mul_right e (by omega);rw[Nat.add_mul]at this; omega
 rcases h.cases with⟨_,_,rfl⟩|⟨id,off,cap,b,rfl,hb,hl,rfl⟩|⟨cs,rfl,hl,rfl⟩
 ·omega
 ·refine⟨.ptr id (off+i.toNat*e),zfW h0 h1,?_⟩;have:=pl_ptr (H:=H) (off:=off+i.toNat*e) (m:=e) hb (by omega);rw[List.drop_take,List.take_take,List.drop_drop,Nat.min_eq_left (by omega)];exact this
 ·refine⟨.rp cs (i.toNat*e),zoW h0 h1,?_⟩;have:=pl_rp (H:=H) (cs:=cs) (off:=i.toNat*e) (m:=e) (by omega);rw[List.drop_take,List.take_take,Nat.min_eq_left (by omega)];exact this
theorem Lc.slice(h:Lc e lo H v cells n){x y:Int}(h0:0≤x)(h1:x≤y)(h2:y≤n) :
  ∃v',(∀{k k':IntKind},zaU .sl e v (some (.int k x)) (some (.int k' y)) none=some v')∧(x=0→∀{k':IntKind},zaU .sl e v none (some (.int k' y)) none=some v')∧(y=n→∀{k:IntKind},zaU .sl e v (some (.int k x)) none none=some v') ∧
   Lc e lo H v' ((cells.drop (x.toNat*e)).take ((y.toNat-x.toNat)*e)) (y.toNat-x.toNat)∧v'.pid=v.pid:=by
 have hxy:x.toNat*e+(y.toNat-x.toNat)*e≤n*e:=by
  rw[←Nat.add_mul]; exact Nat.mul_le_mul_right e (by omega)
 rcases h.cases with⟨rfl,rfl,rfl⟩|⟨id,off,cap,b,rfl,hb,hl,rfl⟩|⟨cs,rfl,hl,rfl⟩
 ·have hx:x=0:=by omega
  have hy:y=0:=by omega
  subst hx hy;refine⟨.nils,rfl,λ_=>rfl,λ_=>rfl,by simpa using Lc.nil,rfl⟩
 ·have hcap:=h.cap;cases cap with
  | fix c =>
   have hcap:n≤c:=hcap;refine⟨.sl id (off+x.toNat*e) (y.toNat-x.toNat) (.fix (((c:Int)).toNat-x.toNat)),λ{k k'}=>?_,λhx k'=>?_,λhy k=>?_,⟨?_,h.own,?_⟩,rfl⟩
   ·simp only[zaU,zdo,vint,Option.map_some,Option.bind_some,Option.getD_some,Option.getD_none];rw[if_neg (by simp),if_pos (by omega)]
   ·subst hx;simp only[zaU,zdo,vint,Option.map_some,Option.bind_some,Option.getD_some,Option.getD_none];rw[if_neg (by simp),if_pos (by omega)]
   ·subst hy;simp only[zaU,zdo,vint,Option.map_some,Option.bind_some,Option.getD_some,Option.getD_none];rw[if_neg (by simp),if_pos (by omega)]
   ·simp only[rcells,hb,Option.bind_some];rw[if_pos (by omega),List.drop_take,List.take_take,List.drop_drop,Nat.min_eq_left (by omega)]
   ·show y.toNat-x.toNat≤_;omega
  | opn e' =>
   have hcap:e'=e:=hcap;subst hcap;refine⟨.sl id (off+x.toNat*e') (y.toNat-x.toNat) (.opn e'),λ{k k'}=>?_,λhx k'=>?_,λhy k=>?_,⟨?_,h.own,rfl⟩,rfl⟩
   ·simp only[zaU,zdo,vint,Option.map_some,Option.bind_some,Option.getD_some];rw[if_neg (by simp),if_pos ⟨trivial,by omega,by omega,by omega⟩]
   ·subst hx;simp only[zaU,zdo,vint,Option.map_some,Option.bind_some,Option.getD_some,Option.getD_none];rw[if_neg (by simp),if_pos ⟨trivial,by omega,by omega,by omega⟩]
   ·subst hy;simp only[zaU,zdo,vint,Option.map_some,Option.bind_some,Option.getD_some,Option.getD_none];rw[if_neg (by simp),if_pos ⟨trivial,by omega,by omega,by omega⟩]
   ·simp only[rcells,hb,Option.bind_some];rw[if_pos (by omega),List.drop_take,List.take_take,List.drop_drop,Nat.min_eq_left (by omega)]
 ·refine⟨.rs (cs.drop (x.toNat*e)) (y.toNat-x.toNat),λ{k k'}=>?_,λhx k'=>?_,λhy k=>?_,⟨?_,λid h=>(by cases h),trivial⟩,rfl⟩
  ·simp only[zaU,zdo,vint,Option.map_some,Option.bind_some,Option.getD_some];rw[if_neg (by simp),if_pos (by simp; omega)]
  ·subst hx;simp only[zaU,zdo,vint,Option.map_some,Option.bind_some,Option.getD_some,Option.getD_none];rw[if_neg (by simp),if_pos (by simp; omega)]
  ·subst hy;simp only[zaU,zdo,vint,Option.map_some,Option.bind_some,Option.getD_some,Option.getD_none];rw[if_neg (by simp),if_pos (by simp; omega)]
  ·simp only[rcells];rw[if_pos (by rw[List.length_drop]; omega),List.drop_take,List.take_take,Nat.min_eq_left (by omega)]
end
theorem Opn.lc{ty e lo n:Nat}{H:Heap}{v:V}{cells:List V}(h:Opn ty e H v cells n)(ho:∀id,v.pid=some id→lo≤id∧id<H.next):Lc e lo H v cells n:=by
 refine⟨h.rc,ho,?_⟩;rcases h with⟨rfl,_⟩|⟨_,rfl,_⟩
 ·trivial
 ·rfl
theorem Ar.lc{α:Type}{f:α→V}{v:V}{l:List α}{H:Heap}(h:Ar f v l)(lo:Nat):Lc 1 lo H v (l.map f) l.length:=by
 refine⟨h.rc,λid hi=>(by rw[h.pid]at hi; cases hi),?_⟩;rcases h with⟨rfl,_⟩|rfl<;>trivial
inductive App (ty e lo:Nat) (H:Heap):V→List V→Nat→Prop
 | opn {v:V} {cells:List V} {n:Nat} (h:Opn ty e H v cells n) (ho:∀id,v.pid=some id→lo≤id∧id<H.next):App ty e lo H v cells n
 | lit {id:Nat} (h:H.get id=some ⟨ty,[],none⟩) (h0:lo≤id) (h1:id<H.next):App ty e lo H (.sl id 0 0 (.fix 0)) [] 0
theorem App.lc{ty e lo n:Nat}{H:Heap}{v:V}{cells:List V}(h:App ty e lo H v cells n):Lc e lo H v cells n:=by
 cases h with
 | opn h ho=>exact h.lc ho
 | lit h h0 h1 =>
  refine⟨?_,λid hi=>by simp only[V.pid,Option.some.injEq]at hi; subst hi; exact⟨h0,h1⟩,Nat.le_refl _⟩;simp only[rcells,h,Option.bind_some];rw[if_pos (by simp)]; simp
theorem App.nil{ty e lo:Nat}{H:Heap}:App ty e lo H .nils [] 0:=.opn .nil λ_ h=>by cases h
theorem zgc{β:Type}{ty e bytes lo n m:Nat}{H:Heap}{x y:V}{cells q:List V}{f:V→M β}{Q:β→Heap→Prop}(hx:App ty e lo H x cells n)(hlo:lo≤H.next) (hy:acells e H y=some (q,m)) (hq:q.length=m*e)
  (hb:(n+m)*bytes≤140737488355328) (hm:n+m≤140737488355328)
  (k:∀x' H',App ty e lo H' x' (cells++q) (n+m)→Step H H' x.pid.toList x'.pid.toList→Ok (f x') H' Q):Ok ((mappend ty e bytes x y).bind f) H Q:=by
 cases hx with
 | opn h ho =>
  refine ztg h hy hq hb hm λx' H' h1 hs _=>k x' H' (.opn h1 λid hi=>?_) hs;rcases hs.own id (by simp[hi]) with h2|h2
  ·obtain⟨h3,h4⟩:=ho id (by simpa [zb7]using h2);exact⟨h3,Nat.lt_of_lt_of_le h4 hs.next⟩
  ·exact⟨Nat.le_trans hlo h2.1,h2.2⟩
 | lit h h0 h1 =>
  rename_i id;have hml:m≤maxLen:=Nat.le_trans (by omega:m≤140737488355328) zgL;have hp:((V.sl id 0 0 (.fix 0)).pid).toList=[id]:=rfl;by_cases hz:m=0
  ·subst hz;have hq0:q=[]:=List.eq_nil_of_length_eq_zero (by omega);subst hq0;refine zao ⟨.sl id 0 0 (.fix 0),H.set id (some ⟨ty,[],none⟩),?_,k _ _ ?_ (Step.set _ (by simp[hp]))⟩
   ·simp only[mappend,hy,Option.bind_some,mappendq,h];rw[if_pos ⟨by simp,trivial⟩];simp[splice]
   ·exact .lit (zan _ _ _) h0 h1
  ·refine zao ⟨.sl H.next 0 m (.opn e),H.new ⟨ty,q,some e⟩,?_,?_⟩
   ·simp only[mappend,hy,Option.bind_some,mappendq,h];rw[if_pos ⟨by simp,trivial⟩];simp only[Nat.zero_add,List.length_nil,Nat.zero_mul];rw[if_neg (by omega),if_pos ⟨by simpa using hb,hml⟩];simp
   ·have hr:App ty e lo (H.new ⟨ty,q,some e⟩) (.sl H.next 0 m (.opn e)) ([]++q) (0+m):=by
     refine .opn (.inr ⟨H.next,by simp,by rw[zac]; simp,by simpa using hq⟩) λi hi=>?_;simp only[V.pid,Option.some.injEq]at hi;subst hi;exact⟨hlo,by rw[zaf]; omega⟩
    refine k _ _ hr ⟨by rw[zaf]; omega,λi hi _=>zaE _ _ (by omega),λi hi=>.inr ?_⟩;simp only[V.pid,Option.toList_some,List.mem_singleton]at hi;subst hi;exact⟨Nat.le_refl _,by rw[zaf]; omega⟩
theorem zfM{H:Heap}{ty:TypeId}{cs:List V}{o:Option Nat}{n e id:Nat}{cap:Cap}(hi:id=H.next)(h:cs.length=n*e):acells e (H.new ⟨ty,cs,o⟩) (.sl id 0 n cap)=some (cs,n):=by
 subst hi; exact zbS h
structure At1 (k:Nat) (H H':Heap):Prop where
 next:H.next≤H'.next
 same:∀i,i<H.next→i≠k→H'.get i=H.get i
theorem At1.refl(k:Nat)(H:Heap):At1 k H H:=⟨Nat.le_refl _,λ_ _ _=>rfl⟩
theorem At1.trans{k:Nat}{H H1 H2:Heap}(h:At1 k H H1)(g:At1 k H1 H2):At1 k H H2:=⟨Nat.le_trans h.next g.next,λi hi hk=>by rw[g.same i (Nat.lt_of_lt_of_le hi h.next) hk,h.same i hi hk]⟩
theorem Grow.at1{H H':Heap}(h:Grow H H')(k:Nat):At1 k H H':=⟨h.next,λi hi _=>h.same i hi⟩
theorem At1.set(k:Nat)(H:Heap)(b:Option Blk):At1 k H (H.set k b):=⟨Nat.le_refl _,λi _ hk=>zap _ _ hk⟩
theorem Lc.at1{e lo n k:Nat}{H H':Heap}{v:V}{cells:List V}(h:Lc e lo H v cells n)(s:At1 k H H')(hk:v.pid≠some k):Lc e lo H' v cells n :=
 ⟨by rw[zbL λi hi=>s.same i (h.own i hi).2 λe=>hk (e ▸ hi)]; exact h.rc,λi hi=>⟨(h.own i hi).1,Nat.lt_of_lt_of_le (h.own i hi).2 s.next⟩,h.cap⟩
end Go.Ax
/- Ax38 -/
namespace Go.Ax.Cc
def cd(T:FuncId→Option Fn'):Nat→Sem'
 | 0=>λ_ _=>M.fail
 | n+1=>λf args=>match T f with
  | some ir=>if Nat.ble args.length ir.ntmps=true then fin (execK (cd T n) ir.rv ir.body [] [] (params 0 args)) else M.fail
  | none=>M.fail
theorem sims_cd{T:FuncId→Option Fn'}:∀n,Sims (cd T n) (sem T)
 | 0=>λ_ _=>zbf
 | n+1=>λf args=>by
  unfold cd;cases hT:T f with
  | none=>exact zbf
  | some ir =>
   dsimp only;by_cases h:Nat.ble args.length ir.ntmps=true
   ·rw[if_pos h]; exact sim_fn hT (Nat.le_of_ble_eq_true h) (sims_cd n) rfl
   ·rw[if_neg h]; exact zbf
end Go.Ax.Cc
namespace Go.Ax
theorem zrL{T:FuncId→Option Fn'}(hT:∀f ir,T f=some ir→ir.body.still=true){f:FuncId}{args:List V}{n:Nat}{v:V}{c:Cc.Heap} (h:Cc.cd T n f args ⟨.e,0⟩=some (v,c)) (ha:V.stills args=true) {H:Heap} (hc:H.Cl) :
  Ok (sem T f args) H λr H'=>r=sh H.next v∧H'=c.abs.up H.next H.get∧Grow H H'∧H'.Cl:=by
 have h1:sem T f args H0=some (v,c.abs):=Cc.sims_cd n f args _ _ _ h;have h2:=sem_any (T0:=T) (T:=T) (λf ir h=>⟨h,hT f ir h⟩) ha h1 hc;refine⟨_,_,h2,rfl,rfl,⟨?_,λi hi=>?_⟩,(zqI (G:=⟨()⟩) f args H _ _ ⟨hc⟩ h2).2.cl⟩
 ·show H.next≤c.abs.next+H.next; omega
 ·show(if i<H.next then H.get i else _) = _;rw[if_pos hi]
theorem ok_cm{α:Type}{x:M α}{H:Heap}{Q:α→Heap→Prop} (hx:CfM ⟨()⟩ x) (hc:H.Cl) (h:Ok x H Q):Ok x H λr H'=>Q r H'∧H'.Cl:=by
 obtain⟨v,H',h1,h2⟩:=h;exact⟨v,H',h1,h2,(hx H v H' ⟨hc⟩ h1).2.cl⟩
def zrF(e:Nat)(c:Cc.Heap)(v:V)(cells:List V)(n:Nat):Bool :=
 match v with
 | .sl id _ len cap=>(match Cc.rcells e c v with|some q=>Cc.sames q.1 cells&&decide (q.2=n)|none=>false)&&decide (id<c.next)&&(match cap with | .fix k=>decide (len≤k) | .opn k=>decide (k=e))
 | .nils=>(match cells with|[]=>decide (n=0) | _=>false)
 | _=>false
theorem zt0{e:Nat}{c:Cc.Heap}{v:V}{cells:List V}{n d:Nat}{R:Nat→Option Blk}(h:zrF e c v cells n=true)(hs:V.stills cells=true):Lc e d (c.abs.up d R) (sh d v) cells n:=by
 unfold zrF at h;cases v<;>try (cases h; done)
 ·cases cells with
  | nil =>
   have h:=of_decide_eq_true h;subst h;exact Lc.nil
  | cons _ _=>cases h
 ·rename_i id off len cap;simp only[Bool.and_eq_true]at h;obtain⟨⟨h1,h2⟩,h3⟩:=h;have h2:=of_decide_eq_true h2;cases hr:Cc.rcells e c (.sl id off len cap) with
  | none=>rw[hr]at h1; cases h1
  | some q =>
   rw[hr]at h1;simp only[Bool.and_eq_true,decide_eq_true_eq]at h1;obtain⟨h4,h5⟩:=h1;have h4:=Cc.sames_eq h4;obtain⟨qc,qn⟩:=q;dsimp only at h4 h5;subst h4 h5;have hr':rcells e c.abs (.sl id off len cap)=some (qc,qn):=hr;have:=zja (d:=d) (R:=R) hr';rw[zcu qc hs]at this;refine⟨this,λi hi=>?_,?_⟩
   ·injection hi with hi
    subst hi;refine⟨by omega,?_⟩;show id+d<c.abs.next+d;have:c.abs.next=c.next:=rfl;omega
   ·cases cap with
    | fix k=>have h3:=of_decide_eq_true h3; exact h3
    | opn k=>have h3:=of_decide_eq_true h3; exact h3.symm ▸ rfl
end Go.Ax
