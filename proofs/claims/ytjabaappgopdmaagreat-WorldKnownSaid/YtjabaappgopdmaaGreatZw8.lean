/-
  Texts of mine, put together by program (wip/slim.py), for law_worldKnown: part 8.
-/
import Derived.Test.YtjabaappgopdmaaGreatZw7
import Derived.Maps.RangeWalk
noncomputable section
set_option linter.unusedVariables false
set_option linter.unusedSimpArgs false
set_option linter.defProp false
set_option maxRecDepth 100000
/- Ax31 -/
namespace Go.Ax
open Go.ChangeMaps (setBlock)
structure Drp (w0:World) (bm r clock:Nat) (cur:List MapEntry) (seen:Array Nat) (c0:Nat) (w:World):Prop where
 it:w.heap[r]?=some (.mapIter (some bm) clock seen c0)
 since:clock<=c0
 map:w.heap[bm]?=some (.map cur.toArray clock)
 old:∀k,k<w0.heap.size->k≠bm->w.heap[k]?=w0.heap[k]?
 size:w0.heap.size<=r
 os:w.os=w0.os
 tape:w.tape=w0.tape
 output:w.output=w0.output
def stay(keep:MapEntry->Bool)(seen:Array Nat)(e:MapEntry):Bool:=!seen.contains e.born||keep e
section
variable {P:Program} {w0 w:World} {bm r clock c0:Nat} {cur es0:List MapEntry} {seen:Array Nat} {keep:MapEntry->Bool}
def Drp.lt(d:Drp w0 bm r clock cur seen c0 w):r<w.heap.size:=(yaG.1 d.it).1
def Drp.ne(d:Drp w0 bm r clock cur seen c0 w):bm≠r:=by
 intro e;have h1:=d.it;rw[<-e,d.map]at h1;cases h1
def stay_nil(e:MapEntry):stay keep #[] e=true:=by simp[stay]
def Drp.start{es:Array MapEntry} (h:w0.heap[bm]?=some (.map es clock)):Drp w0 bm w0.heap.size clock (es.toList.filter (stay keep #[])) #[] clock (w0.alloc (.mapIter (some bm) clock #[] clock)):=by
 have e:es.toList.filter (stay keep #[])=es.toList:=List.filter_eq_self.2 λx _=>stay_nil x;have hlt:bm<w0.heap.size:=(yaG.1 h).1;refine⟨heap_alloc_new _ _,yaj _,?_,λk hk _=>heap_alloc_old _ _ hk,yaj _,rfl,rfl,rfl⟩;rw[e,heap_alloc_old _ _ hlt,h]
def Drp.drew(d:Drp w0 bm r clock cur seen c0 w):Drp w0 bm r clock cur seen c0 w.drew:=⟨d.it,d.since,d.map,d.old,d.size,d.os,d.tape,d.output⟩
def Drp.alloc(d:Drp w0 bm r clock cur seen c0 w)(o:Obj):Drp w0 bm r clock cur seen c0 (w.alloc o):=by
 have hb:bm<w.heap.size:=(yaG.1 d.map).1;refine⟨by rw[heap_alloc_old _ _ d.lt];exact d.it,d.since,by rw[heap_alloc_old _ _ hb];exact d.map,λk hk hne=>?_,d.size,d.os,d.tape,d.output⟩;rw[heap_alloc_old _ _ (Nat.lt_trans (yaq hk d.size) d.lt)];exact d.old k hk hne
def zld(es0:List MapEntry)(keep:MapEntry->Bool)(seen:Array Nat):(leftOf (es0.filter (stay keep seen)).toArray seen).toList=es0.filter λe=>!seen.contains e.born:=by
 unfold leftOf;simp only[Array.toList_filter,List.filter_filter];refine ych λe _=>?_;unfold stay;cases seen.contains e.born<;>simp
def Drp.left (d:Drp w0 bm r clock (es0.filter (stay keep seen)) seen c0 w):w.rangeLeft bm r=(es0.filter λe=>!seen.contains e.born).length:=by
 simp only[World.rangeLeft,d.map,d.it,<-yca,zld]
def zdH(seen:Array Nat)(a b:Nat):(seen.push a).contains b=(seen.contains b||a==b):=by
 rw[Bool.eq_iff_iff];simp only[Array.contains_iff_mem,Array.mem_push,ybA,beq_iff_eq];exact⟨λh=>h.imp id Eq.symm,λh=>h.imp id Eq.symm⟩
def zeN{e:MapEntry}(he:e∈es0)(hs:seen.contains e.born=false):(es0.filter λx=>!(seen.push e.born).contains x.born).length<(es0.filter λx=>!seen.contains x.born).length:=
 filter_lt (λx=>!seen.contains x.born) (λx=>!(seen.push e.born).contains x.born) (λx hx=>by
  rw[zdH]at hx;cases h:seen.contains x.born<;>simp_all) e (by simp only[hs,ya9]) (by simp only[zdH,beq_self_eq_true,Bool.or_true,ybj]) es0 he
def Drp.next{ty:TypeId} (d:Drp w0 bm r clock (es0.filter (stay keep seen)) seen c0 w) (hb:∀e∈es0,e.born<clock) (hn:(es0.map (·.born)).Nodup) :
  ((∀e∈es0,seen.contains e.born=true)/\(Instr.next (.pointer (some ⟨r,0,none⟩)) false ty).run P w = .ok (.tuple #[.bool false]) w) \/
  ∃e w',e∈es0/\seen.contains e.born=false/\(Instr.next (.pointer (some ⟨r,0,none⟩)) false ty).run P w = .ok (.tuple #[.bool true,e.key,e.val]) w' /\
   Drp w0 bm r clock (es0.filter (stay keep seen)) (seen.push e.born) clock w'/\(Instr.entry (.pointer (some ⟨r,0,none⟩))).run P w' = .ok (.tuple #[e.key,e.val]) w':=by
 have hold:∀x∈(es0.filter (stay keep seen)).toArray.toList,x.born<clock:=λx hx=>hb x (ybn.1 (by simpa using hx)).1;rcases run_next_at (P:=P) w ty r bm clock c0 seen _ clock d.it d.map hold d.since with⟨h0,hrun⟩|⟨e,he,w1,hal,hrun⟩
 ·refine .inl ⟨λe he=>?_,hrun⟩;rw[<-yca,zld]at h0;cases hc:seen.contains e.born with
  | true=>rfl
  | false=>
   have:e∈es0.filter λe=>!seen.contains e.born:=ybn.2 ⟨he,by simp only[hc,ya9]⟩;rw[yc9.1 h0]at this;cases this
 ·rw[zld]at he;obtain⟨he1,he2⟩:=ybn.1 he;have hc:seen.contains e.born=false:=by simpa using he2
  have hw1:w1.heap=w.heap:=by rcases hal with rfl|rfl<;>rfl
  have hne:=d.ne;have hlt:=d.lt;have d':Drp w0 bm r clock (es0.filter (stay keep seen)) (seen.push e.born) clock (setBlock w1 r (.mapIter (some bm) clock (seen.push e.born) clock)):=by
   refine⟨?_,yaj _,?_,λk hk hkb=>?_,d.size,?_,?_,?_⟩
   ·simp only[setBlock,hw1];rw[ybL hlt]
   ·simp only[setBlock,hw1];rw[yaV (ybV hne)];exact d.map
   ·simp only[setBlock,hw1];have:=d.size;rw[yaV (by omega)];exact d.old k hk hkb
   ·rcases hal with rfl|rfl<;>exact d.os
   ·rcases hal with rfl|rfl<;>exact d.tape
   ·rcases hal with rfl|rfl<;>exact d.output
  refine .inr ⟨e,_,he1,hc,hrun,d',?_⟩;refine run_entry_at _ r bm clock seen _ clock e d'.it d'.map ?_ ?_
  ·exact ybn.2 ⟨he1,by simp only[stay,hc,ya9,ycT]⟩
  ·exact List.Nodup.sublist ((List.filter_sublist).map _) hn
structure AllSeen (es0:List MapEntry) (seen:Array Nat):Prop where
 all:∀e∈es0,seen.contains e.born=true
structure OneMore (es0:List MapEntry) (seen:Array Nat) (e:MapEntry):Prop where
 mem:e∈es0
 new:seen.contains e.born=false
def zdP{ops:Array Oper}{rest:List Oper}{o:Oper}{a:Act}{Q:Exit->Act->World->Prop}(hg:o.guard=none)(it:Operand)(hop:o.op=Op.next it false)
  (hit:a.eval it = .pointer (some ⟨r,0,none⟩)) (d:Drp w0 bm r clock (es0.filter (stay keep seen)) seen c0 w) (hb:∀e∈es0,e.born<clock) (hn:(es0.map (·.born)).Nodup)
  (hDone:AllSeen es0 seen->wpList P ops Q rest (a.put o.dst (.tuple #[.bool false])) w)
  (hMore:∀(e:MapEntry) (w':World),OneMore es0 seen e->Drp w0 bm r clock (es0.filter (stay keep seen)) (seen.push e.born) clock w' ->
   (Instr.entry (.pointer (some ⟨r,0,none⟩))).run P w' = .ok (.tuple #[e.key,e.val]) w'->wpList P ops Q rest (a.put o.dst (.tuple #[.bool true,e.key,e.val])) w') :
  wpList P ops Q (o::rest) a w:=by
 refine wpList_plain hg λK' hK'=>?_;unfold Oper.wp;rcases d.next (P:=P) (ty:=o.type) hb hn with⟨h0,hrun⟩|⟨e,w',he,hs,hrun,d',hen⟩
 ·simp[execOp,hop,hit,hrun,Result.andThen];exact hK' _ _ (hDone ⟨h0⟩)
 ·simp[execOp,hop,hit,hrun,Result.andThen];exact hK' _ _ (hMore e w' ⟨he,hs⟩ d' hen)
/-! ### striking -/
def KRep(k:V)(K:Value):Prop:=∀m Z w,Rep m Z w k K
def Apart(mk:MK)(e e':MapEntry):Prop:=∃k k',KRep k e.key/\KRep k' e'.key/\keq mk k' k=some false
def zv9(mk:MK)(e:MapEntry):Prop:=∃k,KRep k e.key/\kok mk k=true/\keq mk k k=some true
def zjE{kt:TypeId}{mk:MK}(hk:mkOf P kt=some mk){e:MapEntry}(ha:zv9 mk e):∀{es:List MapEntry} {i:Nat},es.Pairwise (Apart mk)->(∀x∈es,x.born=e.born->x=e)->e∈es ->
  ∃j,Finds (zv8 P w kt mk e.key) es i (some (i+j,e.val))/\es.eraseIdx j=es.filter (λx=>x.born != e.born)
 | [],_,_,_,h=>by cases h
 | x::es,i,hp,hu,he=>by
  obtain⟨k,hkr,_,hkk⟩:=ha;obtain⟨hp1,hp2⟩:=List.pairwise_cons.1 hp;have hcmp:Cmp (λ_=>none) (λ_=>False) w mk k e.key (zv8 P w kt mk e.key):=zqa hk (hkr _ _ _);by_cases hx:x.born=e.born
  ·have:=hu x (by simp) hx;subst this;refine⟨0,.hit _ _ _ (hcmp _ _ _ hkk (hkr _ _ _)).1,?_⟩;simp only[List.eraseIdx_cons_zero,ycX,bne_self_eq_false,yaK,if_false]
   symm
   refine List.filter_eq_self.2 λy hy=>?_;simp only[bne_iff_ne,ne_eq];intro hyb;have hyx:=hu y (by simp[hy]) hyb;subst hyx;obtain⟨k1,k2,h1,h2,h3⟩:=hp1 _ hy
   -- a key is not apart from itself
   have hc:=hcmp _ _ _ hkk (hkr _ _ _);have hc2:=(zqa (P:=P) (w:=w) (m:=λ_=>none) (Z:=λ_=>False) hk (h2 _ _ _)) _ _ _ h3 (h1 _ _ _);have e1:=hc.1;have e2:=hc2.1;unfold zv8 at e1 e2;unfold mkOf at hk;split at hk
   ·rename_i q hu';injection hk with hk
    subst hk;have:=(e1 _ hu').symm.trans (e2 _ hu');cases this
   ·rename_i fs hu';simp only[yac]at hk;obtain⟨ks,_,rfl⟩:=hk;have:=e1.symm.trans e2;cases this
   ·cases hk
  ·have he':e∈es:=by
    rcases yaD.1 he with rfl|h
    ·exact absurd rfl hx
    ·exact h
   obtain⟨j,hj1,hj2⟩:=zjE hk ⟨k,hkr,‹_›,hkk⟩ (i:=i+1) hp2 (λy hy=>hu y (by simp[hy])) he';obtain⟨k1,k2,h1,h2,h3⟩:=hp1 _ he';refine⟨j+1,.miss _ _ _ _ ?_ (by rw[show i+(j+1)=i+1+j from by omega];exact hj1),?_⟩
   ·exact((zqa (P:=P) (w:=w) (m:=λ_=>none) (Z:=λ_=>False) hk (h2 _ _ _)) _ _ _ h3 (h1 _ _ _)).1
   ·rw[List.eraseIdx_cons_succ,hj2,ycX,if_pos (by simpa using hx)]
def Drp.strike{ty t kt et:TypeId}{mk:MK} (hu:P.underlying t=some (.map kt et)) (hk:mkOf P kt=some mk) {e:MapEntry} (d:Drp w0 bm r clock cur seen c0 w) (ha:zv9 mk e) (hp:cur.Pairwise (Apart mk)) (hb:∀x∈cur,x.born=e.born->x=e) (he:e∈cur) :
  (Builtin.delete_ #[t,kt] ty #[.map (some bm),e.key]).run P w = .ok (.tuple #[]) (setBlock w bm (.map (cur.filter λx=>x.born != e.born).toArray clock))/\Drp w0 bm r clock (cur.filter λx=>x.born != e.born) seen c0 (setBlock w bm (.map (cur.filter λx=>x.born != e.born).toArray clock)):=by
 obtain⟨j,hj,hje⟩:=zjE (w:=w) hk ha (i:=0) hp hb he;obtain⟨k,hkr,hko,_⟩:=ha;have hf:=zil hk hj;have hlt:bm<w.heap.size:=(yaG.1 d.map).1;refine⟨?_,?_⟩
 ·unfold Builtin.delete_;simp only[Sem.run_bind,List.getElem?_toArray,yaC,ybo,run_underlying hu,Result.andThen_ok,MapKept.run_getObj_map d.map,zeo hk hko (hkr (λ_=>none) (λ_=>False) w),hf,ya6,MapKept.run_setObj_map _ d.map,Sem.run_pure];have:(cur.toArray.eraseIdxIfInBounds j)=(cur.filter λx=>x.born != e.born).toArray:=by
   rw[<-hje];simp
  rw[this];rfl
 ·have hne:=d.ne;refine⟨?_,d.since,?_,λi hi hib=>?_,d.size,d.os,d.tape,d.output⟩
  ·simp only[setBlock];rw[yaV hne];exact d.it
  ·simp only[setBlock];rw[ybL hlt]
  ·simp only[setBlock];rw[yaV (ybV hib)];exact d.old i hi hib
def Drp.strikes{ty t kt et:TypeId}{mk:MK} (hu:P.underlying t=some (.map kt et)) (hk:mkOf P kt=some mk) {e:MapEntry} (d:Drp w0 bm r clock cur seen c0 w) (ha:zv9 mk e) (hp:cur.Pairwise (Apart mk)) (hb:∀x∈cur,x.born=e.born->x=e) (he:e∈cur) :
  ∃w2:World,(Builtin.delete_ #[t,kt] ty #[.map (some bm),e.key]).run P w = .ok (.tuple #[]) w2/\(Builtin.delete_ #[t,kt] ty #[.map (some bm),e.key]).run P w.drew = .ok (.tuple #[]) w2.drew /\
   (Builtin.delete_ #[t,kt] ty #[.map (some bm),e.key]).run P w.drew.drew = .ok (.tuple #[]) w2.drew.drew/\(Builtin.delete_ #[t,kt] ty #[.map (some bm),e.key]).run P w.drew.drew.drew = .ok (.tuple #[]) w2.drew.drew.drew /\
   Drp w0 bm r clock (cur.filter λx=>x.born != e.born) seen c0 w2:=
 ⟨_,(d.strike hu hk ha hp hb he).1,(d.drew.strike hu hk ha hp hb he).1,(d.drew.drew.strike hu hk ha hp hb he).1,(d.drew.drew.drew.strike hu hk ha hp hb he).1,(d.strike (ty:=ty) hu hk ha hp hb he).2⟩
def zg1{e:MapEntry}(hn:∀x∈es0,x.born=e.born->x=e)(hk:keep e=false):(es0.filter (stay keep seen)).filter (λx=>x.born != e.born)=es0.filter (stay keep (seen.push e.born)):=by
 rw[List.filter_filter];refine ych λx hx=>?_;unfold stay;rw[zdH];by_cases hb:x.born=e.born
 ·have:=hn x hx hb;subst this;simp[hk]
 ·have h1:(e.born==x.born)=false:=by simpa using ybV hb
  have h2:(x.born != e.born)=true:=by simpa using hb
  simp[h1,h2]
def zkE{e:MapEntry}(hn:∀x∈es0,x.born=e.born->x=e)(hk:keep e=true):es0.filter (stay keep seen)=es0.filter (stay keep (seen.push e.born)):=by
 refine ych λx hx=>?_;unfold stay;rw[zdH];by_cases hb:x.born=e.born
 ·have:=hn x hx hb;subst this;simp[hk]
 ·have h1:(e.born==x.born)=false:=by simpa using ybV hb
  simp[h1]
def znt(h:∀e∈es0,seen.contains e.born=true):es0.filter (stay keep seen)=es0.filter keep:=by
 refine ych λx hx=>?_;have hm:=h x hx;simp only[stay,hm,ybj,ycI]
end
/-! ### the abstract side -/
def zaI(p:Bool)(n:Int)(K:Value):Bool:=
 match p,K with
 | true,.agg xs=>match xs.toList with
  | [.int .i64 a,_]=>!decide (a<n)
  | _=>true
 | false,.int .u64 k=>!decide (zlJ k<n)
 | _,_=>true
structure Goes (p:Bool) (es:List MapEntry) (clock:Nat):Prop where
 born:∀e∈es,e.born<clock
 nodup:(es.map (·.born)).Nodup
 apart:es.Pairwise (Apart (if p then .st [.int,.int] else .int))
 alone:∀e∈es,zv9 (if p then .st [.int,.int] else .int) e
 keyP:p=true->∀e∈es,∃a b,e.key = .agg #[.int .i64 a,.int .i64 b]
 keyK:p=false->∀e∈es,∃k,e.key = .int .u64 k
def Goes.uniq{p:Bool}{es:List MapEntry}{clock:Nat}(g:Goes p es clock){e:MapEntry}(he:e∈es):∀x∈es,x.born=e.born->x=e:=by
 have h:=g.nodup;clear g
 induction es with
 | nil=>cases he
 | cons y l ih=>
  simp only[ya5,List.nodup_cons,ybp,not_exists,not_and]at h;intro x hx hb;rcases yaD.1 he with rfl|he
  ·rcases yaD.1 hx with rfl|hx
   ·rfl
   ·exact absurd hb (h.1 x hx)
  ·rcases yaD.1 hx with rfl|hx
   ·exact absurd hb.symm (h.1 e ‹_›)
   ·exact ih he h.2 x hx hb
section
variable {P:Program} {m:Map} {Z:Nat->Prop} {H H':Heap} {w w':World}
def zuU{p:Bool}{n:Int}{k:V}{K:Value}{b:Bool}(h:zqQ p n k=some b)(hr:Rep m Z w k K) :
  KRep k K/\kok (znJ p) k=true/\keq (znJ p) k k=some true/\zaI p n K=b/\(p=true->∃a b,K = .agg #[.int .i64 a,.int .i64 b])/\(p=false->∃k,K = .int .u64 k):=by
 unfold zqQ at h;split at h
 ·rename_i a c;cases p<;>simp only[if_true,yaK,if_false,reduceCtorEq,yab]at h
  cases hr;rename_i XS h1 h2 h3;have hsz:XS.size=2:=by simpa using h1
  obtain⟨x,y,hxy⟩:∃x y,XS = #[x,y]:=by
   obtain⟨l⟩:=XS
   match l,hsz with
   | [x,y],_=>exact⟨x,y,rfl⟩
  subst hxy;have e0:=(h3 0 _ x rfl rfl).inv_int;have e1:=(h3 1 _ y rfl rfl).inv_int;subst e0 e1;refine⟨λm' Z' w'=>?_,rfl,by simp[znJ,keq,zaG],by simp only[zaI];exact h,λ_=>⟨a,c,rfl⟩,λh=>by cases h⟩;refine .agg h1 h2 λj v x hj hx=>?_
  match j with
  | 0=>simp at hj hx;subst hj;subst hx;exact .int _ _
  | 1=>simp at hj hx;subst hj;subst hx;exact .int _ _
  | j+2=>simp at hj
 ·rename_i q;cases p<;>simp only[if_true,yaK,if_false,reduceCtorEq,yab]at h
  have e:=hr.inv_int;subst e;exact⟨λ_ _ _=>.int _ _,rfl,by simp[znJ,keq],by simp only[zaI];exact h,(λh=>by cases h),λ_=>⟨q,rfl⟩⟩
 ·cases h
def zpp{p:Bool}{n:Int}:∀{cs cs':List V} {es:List MapEntry},Ents m Z w cs es->mfil p n cs=some cs' ->
  Ents m Z w cs' (es.filter λe=>zaI p n e.key)/\es.Pairwise (Apart (znJ p))/\(∀e∈es,zv9 (znJ p) e) /\
   (p=true->∀e∈es,∃a b,e.key = .agg #[.int .i64 a,.int .i64 b])/\(p=false->∀e∈es,∃k,e.key = .int .u64 k) /\
   (∀k0 K0,KRep k0 K0->zlc (znJ p) k0 cs=true->∀e∈es,∃k',KRep k' e.key/\keq (znJ p) k' k0=some false)
 | [],cs',[],_,h=>by
  simp only[mfil,yab]at h;subst h;exact⟨trivial,.nil,λ_ h=>(yaX h).elim,λ_ _ h=>(yaX h).elim,λ_ _ h=>(yaX h).elim,λ_ _ _ _ _ h=>(yaX h).elim⟩
 | [],_,_ :: _,h,_=>h.elim
 | [_],_,es,h,_=>by cases es<;>exact h.elim
 | _ :: _ :: _,_,[],h,_=>h.elim
 | k::v::r,cs',e::es,⟨h1,h2,h3⟩,h=>by
  simp only[mfil]at h;split at h
  ·rename_i hap;simp only[yaa,yac]at h;obtain⟨b,hb,r',hr',hcs⟩:=h;obtain⟨g1,g2,g3,g4,g5,g6⟩:=zpp h3 hr';obtain⟨hkr,hko,hkk,hke,hp,hq⟩:=zuU hb h1;refine⟨?_,List.pairwise_cons.2 ⟨λe' he'=>?_,g2⟩,λx hx=>?_,λhpt x hx=>?_,λhpf x hx=>?_,λk0 K0 hk0 hm x hx=>?_⟩
   ·rw[ycX];cases b with
    | true=>
     rw[if_pos hke];simp only[if_true]at hcs;subst hcs;exact⟨h1,h2,g1⟩
    | false=>
     rw[if_neg (by rw[hke];decide)];simp only[yaK,if_false]at hcs;subst hcs;exact g1
   ·obtain⟨k',a1,a2⟩:=g6 k e.key hkr hap e' he';exact⟨k,k',hkr,a1,a2⟩
   ·rcases yaD.1 hx with rfl|hx
    ·exact⟨k,hkr,hko,hkk⟩
    ·exact g3 x hx
   ·rcases yaD.1 hx with rfl|hx
    ·exact hp hpt
    ·exact g4 hpt x hx
   ·rcases yaD.1 hx with rfl|hx
    ·exact hq hpf
    ·exact g5 hpf x hx
   ·simp only[zlc,yal]at hm;rcases yaD.1 hx with rfl|hx
    ·refine⟨k,hkr,?_⟩;have:=hm.1;split at this
     ·assumption
     ·cases this
    ·exact g6 k0 K0 hk0 hm.2 x hx
  ·cases h
def zsM:∀{es:List MapEntry},es.Pairwise (λa b=>a.born<b.born)->(es.map (·.born)).Nodup:=by
 intro es h;rw[List.Nodup,ycg];exact h.imp λhab=>Nat.ne_of_lt hab
def goes_of{p:Bool}{n:Int}{b:Blk}{l:Loc}{es:Array MapEntry}{clock:Nat}{cs':List V}(L:LiesM m Z w b l es clock)(h:mfil p n b.cells=some cs'):Goes p es.toList clock/\Ents m Z w cs' (es.toList.filter λe=>zaI p n e.key):=by
 obtain⟨g1,g2,g3,g4,g5,_⟩:=zpp L.ents h;exact⟨⟨L.born,zsM L.rise,g2,g3,g4,g5⟩,g1⟩
def rel_grow(r:RelH m Z H w) (hh:∀k,k<w.heap.size->w'.heap[k]?=w.heap[k]?) (hs:w.heap.size<=w'.heap.size) (h1:w'.os=w.os) (h2:w'.tape=w.tape) (h3:w'.output=w.output):RelH m Z H w'/\Ext m Z H w m Z H w':=by
 refine⟨⟨λid b hb=>?_,r.inj,r.dead,λb hb=>yaq (r.zlt b hb) hs⟩,⟨λ_ _ h=>h,yaj _,λ_ _=>rfl,λ_ h=>h,hs,h1,h2,h3,λk hk _=>hh k hk,λid b l h hm=>.inr ⟨id,b,l,h,hm,rfl⟩,λ_ h=>.inl h⟩⟩;obtain⟨l,hm,h⟩:=r.live id b hb;exact⟨l,hm,h.mono (λ_ _ h=>h) (λ_ h=>h) (λk hk=>hh k (r.zlt k hk)) (hh _ h.lt) h.out⟩
def drp_rel{id:Nat}{b:Blk}{l:Loc}{es:Array MapEntry}{clock rr c0:Nat}{seen:Array Nat}{es':List MapEntry}{cs':List V}(r:RelH m Z H w)(hb:H.get id=some b)(hm:m id=some l/\l.mp=true)(L:LiesM m Z w b l es clock)
  (hes:es'.Sublist es.toList) (he:Ents m Z w cs' es') (d:Drp w l.blk rr clock es' seen c0 w') :
  RelH m Z (H.set id (some { b with cells:=cs' })) w'/\Ext m Z H w m Z (H.set id (some { b with cells:=cs' })) w':=by
 have hlt:l.blk<w.heap.size:=(yaG.1 L.heap).1;obtain⟨r1,e1⟩:=zuV (es':=es'.toArray) (clock':=clock) r hb hm L (by simpa using he) (λx hx=>by
  simp only[ybp]at hx;obtain⟨e,he,rfl⟩:=hx;exact L.born e (hes.mem (by simpa using he))) (ycg.2 (L.rise.sublist (by simpa using hes)))
 have hh:∀k,k<(w.heap.setIfInBounds l.blk (.map es'.toArray clock)).size->w'.heap[k]?=(w.heap.setIfInBounds l.blk (.map es'.toArray clock))[k]?:=λk hk=>by
  have hk':k<w.heap.size:=by simpa using hk
  by_cases hkb:k=l.blk
  ·subst hkb;rw[d.map,ybL hlt]
  ·rw[d.old k hk' hkb,yaV (ybV hkb)]
 obtain⟨r2,e2⟩:=rel_grow (w':=w') r1 hh (by have:=d.size;have:=d.lt;simp;omega) d.os d.tape d.output;exact⟨r2,e1.trans e2⟩
/-! ### what the abstract machine answers -/
def f_drop(G:Sem')(t0 t1:V):M Res:=(mmapdrop true 1 t0 t1).bind λ_=> (mmapdrop false 2 t0 t1).bind λ_=> (mmapdrop false 3 t0 t1).bind λ_=> M.pure (.ret [])
def eq_drop(G:Sem')(t0 t1:V):execK G zjK.rv zjK.body [] [] (params 0 [t0,t1])=f_drop G t0 t1:=rfl
def znk(p:Bool)(id off:Nat)(n:Int)(H H':Heap):Prop:=
 ∃b0 i b cs,H.get id=some b0/\b0.cells[off]?=some (.mp i)/\H.get i=some b/\mfil p n b.cells=some cs/\H'=H.set i (some { b with cells:=cs })
def drop_run{G:Sem'}{args:List V}{v:V}(hl:args.length<=2) (h:zjK.run G args H=some (v,H')) :
  ∃id off n H1 H2,args=[.ptr id off,.int .i64 n]/\v = .tup []/\znk true id (off+1) n H H1/\znk false id (off+2) n H1 H2/\znk false id (off+3) n H2 H':=by
 rw[zrD]at h;obtain⟨p,g,rfl⟩:∃p g,args=[p,g]:=by
  cases args with
  | nil=>
   replace h:=bind_some h;obtain⟨_,_,h1,_⟩:=h;cases h1
  | cons p args=>
   cases args with
   | nil=>
    replace h:=bind_some h;obtain⟨_,_,h1,_⟩:=h;cases h1
   | cons g args=>
    cases args with
    | nil=>exact⟨p,g,rfl⟩
    | cons _ _=>simp at hl
 rw[eq_drop]at h;replace h:=bind_some h;obtain⟨r,H9,h,hfin⟩:=h;unfold f_drop at h;replace h:=bind_some h;obtain⟨_,H1,h1,h⟩:=h;replace h:=bind_some h;obtain⟨_,H2,h2,h⟩:=h;replace h:=bind_some h;obtain⟨_,H3,h3,h⟩:=h;have:=zar h;simp only[yae]at this;obtain⟨rfl,rfl⟩:=this;have:=zar hfin;simp only[yae]at this;obtain⟨rfl,rfl⟩:=this;obtain⟨id,off,n,b0,i,b,cs,rfl,rfl,a1,a2,a3,a4,_,rfl⟩:=zdI h1;obtain⟨_,_,_,c0,j,c,ds,e1,e2,d1,d2,d3,d4,_,rfl⟩:=zdI h2;injection e1 with e1 e1'
 injection e2 with _ e2
 subst e1 e1' e2;obtain⟨_,_,_,g0,q,g,gs,e1,e2,q1,q2,q3,q4,_,rfl⟩:=zdI h3;injection e1 with e1 e1'
 injection e2 with _ e2
 subst e1 e1' e2;exact⟨_,_,_,_,_,rfl,rfl,⟨b0,i,b,cs,a1,a2,a3,a4,rfl⟩,⟨c0,j,c,ds,d1,d2,d3,d4,rfl⟩,⟨g0,q,g,gs,q1,q2,q3,q4,rfl⟩⟩
def znk.le{p:Bool}{id off:Nat}{n:Int}(s:znk p id off n H H'):H.le H':=by
 obtain⟨b0,i,b,cs,_,_,hb,_,rfl⟩:=s;exact zft hb _
end
end Go.Ax
