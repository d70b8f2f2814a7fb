/-
  Texts of mine, put together by program (wip/slim.py), for law_deskDrops: part 7.
-/
import Derived.Test.YthghlbdejdideaaGreatZp6
import Derived.Test.YthghlbdejdideaaGreatRows
import Derived.ProofKit
import Derived.OpenShut
import Derived.JoinedCond
import Derived.Below
import Derived.ChangeSame
import Derived.ReadAgain
import Derived.ChangeOld
import Derived.Deep.Slices
noncomputable section
set_option linter.unusedVariables false
set_option linter.unusedSimpArgs false
set_option linter.defProp false
set_option maxRecDepth 100000
/- Ax18 -/
namespace Go.Ax
open Go.ChangeShapes Go.WideShapes Go.Deep Go.RowKit
inductive Sh where
 | bool
 | int (k:IntKind)
 | str
 | sl (e:Sh)
 | st (fs:List Sh)
 | ar (n:Nat) (e:Sh)
mutual
def Sh.size:Sh → Nat
 | .bool=>1
 | .int _=>1
 | .str=>1
 | .sl _=>1
 | .st fs=>Sh.sizes fs
 | .ar n e=>n * Sh.size e
def Sh.sizes:List Sh → Nat
 | []=>0
 | s :: ss=>Sh.size s + Sh.sizes ss
end
mutual
def Sh.Ty:Sh → List V → Prop
 | .bool,vs=>∃ b,vs = [.bool b]
 | .int k,vs=>∃ n,vs = [.int k n] ∧ k.min ≤ n ∧ n ≤ k.max
 | .str,vs=>∃ s:ByteArray,vs = [.str s] ∧ s.size ≤ maxLen
 | .sl e,vs=>vs = [.nils] ∨ ∃ es:List (List V),vs = [.rs es.flatten es.length] ∧ es.length ≤ maxLen ∧ ∀ x ∈ es,Sh.Ty e x
 | .st fs,vs=>Sh.Tys fs vs
 | .ar n e,vs=>∃ es:List (List V),vs = es.flatten ∧ es.length = n ∧ ∀ x ∈ es,Sh.Ty e x
def Sh.Tys:List Sh → List V → Prop
 | [],vs=>vs = []
 | s :: ss,vs=>∃ a b,vs = a ++ b ∧ Sh.Ty s a ∧ Sh.Tys ss b
end
mutual
def V.blk:V → Nat
 | .str s=>s.size + 1
 | .rs cells _=>V.blks cells + 1
 | .agg cs=>V.blks cs
 | _=>1
def V.blks:List V → Nat
 | []=>0
 | v :: vs=>V.blk v + V.blks vs
end
theorem zh2 (a b:List V):V.blks (a ++ b) = V.blks a + V.blks b:=by
 induction a with
 | nil=>simp [V.blks]
 | cons v a ih=>simp [V.blks,ih,Nat.add_assoc]
mutual
theorem zs5:∀ (s:Sh) (vs:List V),Sh.Ty s vs → vs.length = Sh.size s
 | .bool,vs,h=>by obtain ⟨b,rfl⟩:=h; rfl
 | .int k,vs,h=>by obtain ⟨n,rfl,_⟩:=h; rfl
 | .str,vs,h=>by obtain ⟨s,rfl,_⟩:=h; rfl
 | .sl e,vs,h=>by
  rcases h with rfl | ⟨es,rfl,_⟩
  ·rfl
  ·rfl
 | .st fs,vs,h=>by simpa [Sh.size] using zs4 fs vs h
 | .ar n e,vs,h=>by
  obtain ⟨es,rfl,hn,he⟩:=h;simp only [Sh.size,List.length_flatten];subst hn;have:∀ (l:List (List V)),(∀ x ∈ l,x.length = Sh.size e) → (l.map List.length).sum = l.length * Sh.size e:=by
   intro l hl
   induction l with
   | nil=>simp
   | cons x l ih=>simp only [List.map_cons,List.sum_cons,List.length_cons,ih fun y hy=>hl y (List.mem_cons_of_mem _ hy),hl x (List.mem_cons_self ..)]; rw [Nat.add_mul]; omega
  exact this es fun x hx=>zs5 e x (he x hx)
theorem zs4:∀ (ss:List Sh) (vs:List V),Sh.Tys ss vs → vs.length = Sh.sizes ss
 | [],vs,h=>by have:vs = []:=h; subst this; rfl
 | s :: ss,vs,h=>by
  obtain ⟨a,b,rfl,ha,hb⟩:=h;simp [Sh.sizes,zs5 s a ha,zs4 ss b hb]
end
mutual
theorem zpY:∀ (s:Sh) (vs:List V),Sh.Ty s vs → ∀ v ∈ vs,v.one = true
 | .bool,vs,h=>by obtain ⟨b,rfl⟩:=h; simp [V.one]
 | .int k,vs,h=>by obtain ⟨n,rfl,_⟩:=h; simp [V.one]
 | .str,vs,h=>by obtain ⟨s,rfl,_⟩:=h; simp [V.one]
 | .sl e,vs,h=>by
  rcases h with rfl | ⟨es,rfl,_⟩
  ·simp [V.one]
  ·simp [V.one]
 | .st fs,vs,h=>zs3 fs vs h
 | .ar n e,vs,h=>by
  obtain ⟨es,rfl,hn,he⟩:=h;intro v hv;obtain ⟨x,hx,hvx⟩:=List.mem_flatten.1 hv;exact zpY e x (he x hx) v hvx
theorem zs3:∀ (ss:List Sh) (vs:List V),Sh.Tys ss vs → ∀ v ∈ vs,v.one = true
 | [],vs,h=>by have:vs = []:=h; subst this; simp
 | s :: ss,vs,h=>by
  obtain ⟨a,b,rfl,ha,hb⟩:=h;intro v hv;rcases List.mem_append.1 hv with hv | hv
  ·exact zpY s a ha v hv
  ·exact zs3 ss b hb v hv
end
/-! The shapes of a program's types. -/
def offs (P:Program):Nat → List Field → List Sh → Bool
 | _,[],[]=>true
 | o,f :: fs,s :: ss=>decide (f.offset = o ∧ P.cellsOf f.type = Sh.size s) && offs P (o + Sh.size s) fs ss
 | _,_,_=>false
def znk (g:TypeId → Option Sh):List TypeId → Option (List Sh)
 | []=>some []
 | t :: ts=>(g t).bind fun s=>(znk g ts).map (s :: ·)
def shOf (P:Program):Nat → TypeId → Option Sh
 | 0,_=>none
 | n + 1,t =>
  match P.underlying t with
  | some .bool=>some .bool
  | some (.int k)=>some (.int k)
  | some .string=>some .str
  | some (.slice e)=>(shOf P n e).bind fun s=>if P.cellsOf e = Sh.size s ∧ 0 < Sh.size s then some (.sl s) else none
  | some (.struct fs)=>(znk (shOf P n) (fs.toList.map (·.type))).bind fun ss=>if offs P 0 fs.toList ss = true ∧ P.cellsOf t = Sh.sizes ss then some (.st ss) else none
  | some (.array m e)=>(shOf P n e).bind fun s=>if P.cellsOf e = Sh.size s ∧ P.cellsOf t = m * Sh.size s then some (.ar m s) else none
  | _=>none
theorem zo2 {α:Type} {k:Nat} (hk:0 < k):∀ (es:List (List α)),(∀ x ∈ es,x.length = k) → ∀ j:Nat,es.flatten[j]? = (es[j / k]?).bind fun x=>x[j % k]?:=by
 intro es
 induction es with
 | nil=>intro _ j; simp
 | cons x es ih =>
  intro h j;have hx:=h x (List.mem_cons_self ..);have hes:=fun y hy=>h y (List.mem_cons_of_mem _ hy);simp only [List.flatten_cons,List.getElem?_append,hx];by_cases hj:j < k
  ·rw [if_pos hj,Nat.div_eq_of_lt hj,Nat.mod_eq_of_lt hj]; simp
  ·rw [if_neg hj,ih hes (j - k)];have e1:j / k = (j - k) / k + 1:=by
    have:j = (j - k) + k:=by omega
    conv=>lhs; rw [this]
    exact Nat.add_div_right _ hk
   have e2:j % k = (j - k) % k:=by
    have:j = (j - k) + k:=by omega
    conv=>lhs; rw [this]
    exact Nat.add_mod_right _ _
   rw [e1,e2]; simp
theorem zlc {H:Type} (f:Nat → List V) (D:Nat → DataW H):∀ (l:List Nat),(∀ i ∈ l,V.blks (f i) ≤ Proofs.YthghlbdejdideaaGreat.Rows.uptoBulk (D i)) → V.blks (l.map f).flatten ≤ Proofs.YthghlbdejdideaaGreat.Rows.uptoBulkAll (l.map D):=by
 intro l
 induction l with
 | nil=>intro _; simp [V.blks]
 | cons i l ih =>
  intro h;simp only [List.map_cons,List.flatten_cons,zh2,Proofs.YthghlbdejdideaaGreat.Rows.uptoBulkAll];have:=ih fun j hj=>h j (List.mem_cons_of_mem _ hj);have:=h i (List.mem_cons_self ..);omega
section
variable {H:Type} {enc:TypeId × Value → H} {P:Program} {w:World} {spare:Nat → Bool} {held:Bool}
def RepC (w:World) (vs:List V) (cs:List Value):Prop :=
 vs.length = cs.length ∧ ∀ (j:Nat) (v:V) (x:Value),vs[j]? = some v → cs[j]? = some x → Rep (fun _=>none) (fun b=>b < w.heap.size) w v x
theorem RepC.append {a b:List V} {c d:List Value} (h:RepC w a c) (k:RepC w b d):RepC w (a ++ b) (c ++ d):=by
 refine ⟨by simp [h.1,k.1],fun j v x hv hx=>?_⟩;rw [List.getElem?_append] at hv hx;rw [← h.1] at hx;split at hv
 ·rename_i hj;rw [if_pos hj] at hx;exact h.2 j v x hv hx
 ·rename_i hj;rw [if_neg hj] at hx;exact k.2 _ v x hv hx
theorem zk4 {α:Type} (cs:List α) (o n:Nat):cs.drop o = (cs.drop o).take n ++ cs.drop (o + n):=by
 rw [← List.drop_drop,List.take_append_drop]
theorem zsJ {a:Addr} {v:Value} (h:w.cell? a = some v):a.block < w.heap.size ∧ a.spot = none:=by
 unfold World.cell? at h;cases hb:w.heap[a.block]? with
 | none=>rw [hb] at h; cases h
 | some o =>
  refine ⟨(Array.getElem?_eq_some_iff.1 hb).1,?_⟩;rw [hb] at h;cases o with
  | cells c t f =>
   dsimp only at h;cases hs:a.spot with
   | none=>rfl
   | some _=>rw [hs] at h; simp at h
  | _=>cases h
theorem zqa {g:TypeId → Option Sh}:∀ {ts:List TypeId} {ss:List Sh},znk g ts = some ss → ss.length = ts.length ∧ ∀ (i:Nat) (t:TypeId) (s:Sh),ts[i]? = some t → ss[i]? = some s → g t = some s:=by
 intro ts
 induction ts with
 | nil=>intro ss h; simp only [znk,Option.some.injEq] at h; subst h; simp
 | cons t ts ih =>
  intro ss h;simp only [znk,Option.bind_eq_some_iff,Option.map_eq_some_iff] at h;obtain ⟨s,hs,ss',hss,rfl⟩:=h;obtain ⟨h1,h2⟩:=ih hss;refine ⟨by simp [h1],fun i t' s' ht hs'=>?_⟩;cases i with
  | zero=>simp only [List.getElem?_cons_zero,Option.some.injEq] at ht hs'; subst ht hs'; exact hs
  | succ i=>exact h2 i t' s' (by simpa using ht) (by simpa using hs')
theorem trod_sh:∀ (n:Nat) (t:TypeId) (s:Sh) (fuel:Nat) (cs:List Value) (x:DataW H × List MemPlace),shOf P n t = some s → DataW.trod enc P w 0 spare held fuel t cs = some x →
  ∃ vs,Sh.Ty s vs ∧ RepC w vs cs ∧ V.blks vs ≤ Proofs.YthghlbdejdideaaGreat.Rows.uptoBulk x.1:=by
 intro n
 induction n with
 | zero=>intro t s fuel cs x h; cases h
 | succ n ih =>
  intro t s fuel cs x hs h;have one:∀ {v:V} {c:Value},Rep (fun _=>none) (fun b=>b < w.heap.size) w v c → RepC w [v] [c]:=by
   intro v c hr;refine ⟨rfl,fun j u y hu hy=>?_⟩;cases j with
   | zero=>simp only [List.getElem?_cons_zero,Option.some.injEq] at hu hy; subst hu hy; exact hr
   | succ j=>simp at hu
  cases hu:P.underlying t with
  | none=>simp only [shOf,hu,reduceCtorEq] at hs
  | some d =>
   cases d <;> simp only [shOf,hu,reduceCtorEq,Option.some.injEq] at hs
   case bool =>
    subst hs;obtain ⟨b,rfl,rfl⟩:=DataW.trod_bool hu h;exact ⟨[.bool b],⟨b,rfl⟩,one (.bool b),by simp [V.blks,V.blk,Proofs.YthghlbdejdideaaGreat.Rows.uptoBulk]⟩
   case int k =>
    subst hs;obtain ⟨i,rfl,rfl,hw⟩:=DataW.trod_int hu h;simp only [Lit.wf,Bool.and_eq_true,decide_eq_true_eq] at hw;exact ⟨[.int k i],⟨i,rfl,hw⟩,one (.int k i),by simp [V.blks,V.blk,Proofs.YthghlbdejdideaaGreat.Rows.uptoBulk]⟩
   case string =>
    subst hs;obtain ⟨b,rfl,rfl,hw⟩:=DataW.trod_string hu h;exact ⟨[.str b],⟨b,rfl,hw⟩,one (.str b),by
     simp only [V.blks,V.blk,Proofs.YthghlbdejdideaaGreat.Rows.uptoBulk];have:b.data.toList.length = b.size:=rfl;omega⟩
   case slice e =>
    simp only [Option.bind_eq_some_iff] at hs;obtain ⟨se,hse,hs⟩:=hs;split at hs
    ·rename_i hsz;simp only [Option.some.injEq] at hs;subst hs;rcases open_slice hu h with ⟨rfl,rfl⟩ | ⟨a,len,cap,m,k,D,Pl,rfl,_,hlc,hcm,hm,rfl,hi⟩
     ·exact ⟨[.nils],.inl rfl,one .nils,by simp [V.blks,V.blk,Proofs.YthghlbdejdideaaGreat.Rows.uptoBulk]⟩
     ·have hlm:len ≤ m:=by rw [hm]; split <;> omega
      have hex:∀ i,i < len → ∃ vs,Sh.Ty se vs ∧ (∃ cs',w.cells? 0 (a.add (i * P.cellsOf e)) (P.cellsOf e) = some cs' ∧ RepC w vs cs') ∧ V.blks vs ≤ Proofs.YthghlbdejdideaaGreat.Rows.uptoBulk (D i):=by
       intro i hil;obtain ⟨cs',hc,ht⟩:=hi i (by omega);obtain ⟨vs,h1,h2,h3⟩:=ih e se k cs' (D i,Pl i) hse ht;exact ⟨vs,h1,⟨cs',hc,h2⟩,h3⟩
      obtain ⟨f,hf⟩:=choose_lt hex;have hlen:∀ y ∈ (List.range len).map f,y.length = Sh.size se:=by
       intro y hy;obtain ⟨i,hir,rfl⟩:=List.mem_map.1 hy;exact zs5 _ _ (hf i (List.mem_range.1 hir)).1
      have hty:∀ y ∈ (List.range len).map f,Sh.Ty se y:=by
       intro y hy;obtain ⟨i,hir,rfl⟩:=List.mem_map.1 hy;exact (hf i (List.mem_range.1 hir)).1
      -- cell by cell
      have cell:∀ (j:Nat) (v:V),((List.range len).map f).flatten[j]? = some v → a.spot = none ∧ a.block < w.heap.size ∧ ∃ y,w.cell? ⟨a.block,a.off + j,none⟩ = some y ∧ Rep (fun _=>none) (fun b=>b < w.heap.size) w v y:=by
       intro j v hj;rw [zo2 hsz.2 _ hlen] at hj;simp only [Option.bind_eq_some_iff,List.getElem?_map,Option.map_eq_some_iff] at hj;obtain ⟨vs,⟨i,hir,rfl⟩,hv⟩:=hj;have hil:i < len ∧ i = j / Sh.size se:=by
        rw [List.getElem?_eq_some_iff] at hir;obtain ⟨h1,h2⟩:=hir;simp only [List.length_range] at h1;simp only [List.getElem_range] at h2;omega
       obtain ⟨hil,rfl⟩:=hil;obtain ⟨_,⟨cs',hc,hr⟩,_⟩:=hf _ hil;obtain ⟨_,hcl,hat⟩:=World.cells?_some hc;have hmod:j % Sh.size se < Sh.size se:=Nat.mod_lt _ hsz.2;obtain ⟨y,hcs⟩:∃ y,cs'[j % Sh.size se]? = some y:=⟨_,List.getElem?_eq_getElem (by rw [hcl,hsz.1]; exact hmod)⟩;have hcell:=hat (j % Sh.size se) (by rw [hsz.1]; exact hmod);rw [hcs,Go.Deep.add_add,hsz.1] at hcell;have hdm:j / Sh.size se * Sh.size se + j % Sh.size se = j:=by
        have:=Nat.div_add_mod j (Sh.size se);rw [Nat.mul_comm] at this; exact this
       rw [hdm] at hcell;have h0:=(zsJ hcell).1;have hspot:a.spot = none:=by
        obtain ⟨_,⟨cs0,hc0,hr0⟩,_⟩:=hf 0 (Nat.lt_of_le_of_lt (Nat.zero_le _) hil);obtain ⟨_,hcl0,hat0⟩:=World.cells?_some hc0;have h00:=hat0 0 (by rw [hsz.1]; exact hsz.2);obtain ⟨y0,hcs0⟩:∃ y,cs0[0]? = some y:=⟨_,List.getElem?_eq_getElem (by rw [hcl0,hsz.1]; exact hsz.2)⟩;rw [hcs0,Go.Deep.add_add] at h00;have:=(zsJ h00).2;simpa [Addr.add] using this
       have hadd:a.add j = ⟨a.block,a.off + j,none⟩:=by
        obtain ⟨ab,ao,asp⟩:=a;dsimp only at hspot;subst hspot;exact zpX ab ao j
       rw [hadd] at hcell h0;exact ⟨hspot,h0,_,hcell,hr.2 _ v _ hv hcs⟩
      refine ⟨[.rs ((List.range len).map f).flatten len],.inr ⟨(List.range len).map f,by simp,by simp; omega,hty⟩,one ?_,?_⟩
      ·refine .rs a.block a.off (fun j=>(w.cell? ⟨a.block,a.off + j,none⟩).getD Go.undef) hlc ?_ (fun j v hj=>?_) fun j v hj=>?_
       ·by_cases hl0:len = 0
        ·exact .inl hl0
        ·right;have h0:0 < ((List.range len).map f).flatten.length:=by
          obtain ⟨l0,hl0'⟩:∃ l0,len = l0 + 1:=⟨len - 1,by omega⟩;have hm0:f 0 ∈ (List.range len).map f:=List.mem_map.2 ⟨0,List.mem_range.2 (by omega),rfl⟩;have:=hlen _ hm0;have hsub:(f 0).length ≤ ((List.range len).map f).flatten.length:=by
           rw [hl0',List.range_succ_eq_map]; simp
          omega
         obtain ⟨h1,h2,_⟩:=cell 0 _ (List.getElem?_eq_getElem h0);refine ⟨by cases a; simp_all,h2,fun j v hj=>?_⟩;obtain ⟨_,_,y,hy,_⟩:=cell j v hj;rw [hy]; rfl
       ·have hm:=List.mem_of_getElem? hj;obtain ⟨y,hy,hvy⟩:=List.mem_flatten.1 hm;exact zpY se y (hty y hy) v hvy
       ·obtain ⟨_,_,y,hy,hr⟩:=cell j v hj;rw [hy]; exact hr
      ·simp only [V.blks,V.blk,Proofs.YthghlbdejdideaaGreat.Rows.uptoBulk];have:=zlc f D (List.range len) fun i hir=>(hf i (List.mem_range.1 hir)).2.2;omega
    ·cases hs
   case struct fs =>
    simp only [Option.bind_eq_some_iff] at hs;obtain ⟨ss,hss,hs⟩:=hs;split at hs
    ·rename_i hof;simp only [Option.some.injEq] at hs;subst hs;obtain ⟨xs,k,_,rfl,hcl,hxl,hf⟩:=DataW.trod_struct hu h;obtain ⟨hsl,hsg⟩:=zqa hss;have key:∀ (fl:List Field) (ss:List Sh) (o:Nat) (ys:List (DataW H × List MemPlace)),offs P o fl ss = true → (∀ (i:Nat) (f:Field) (s:Sh),fl[i]? = some f → ss[i]? = some s → shOf P n f.type = some s) → ys.length = fl.length →
       (∀ (i:Nat) (f:Field),fl[i]? = some f → DataW.trod enc P w 0 spare held k f.type ((cs.drop f.offset).take (P.cellsOf f.type)) = ys[i]?) → o + Sh.sizes ss = cs.length →
       ∃ vs,Sh.Tys ss vs ∧ RepC w vs (cs.drop o) ∧ V.blks vs ≤ Proofs.YthghlbdejdideaaGreat.Rows.uptoBulkAll (ys.map (·.1)):=by
      intro fl
      induction fl with
      | nil =>
       intro ss o ys ho _ hyl _ hlen;cases ss with
       | cons s ss=>simp [offs] at ho
       | nil =>
        simp only [Sh.sizes,Nat.add_zero] at hlen;refine ⟨[],rfl,⟨by simp [hlen],by simp⟩,by simp [V.blks]⟩
      | cons f fl ihf =>
       intro ss o ys ho hg hyl hfy hlen;cases ss with
       | nil=>simp [offs] at ho
       | cons s ss =>
        simp only [offs,Bool.and_eq_true,decide_eq_true_eq] at ho;obtain ⟨⟨ho1,ho2⟩,ho3⟩:=ho;cases ys with
        | nil=>simp at hyl
        | cons y ys =>
         have h0:=hfy 0 f rfl;simp only [List.getElem?_cons_zero] at h0;obtain ⟨va,ha1,ha2,ha3⟩:=ih f.type s k _ y (hg 0 f s rfl rfl) h0;obtain ⟨vb,hb1,hb2,hb3⟩:=ihf ss (o + Sh.size s) ys ho3 (fun i f' s' h1 h2=>hg (i + 1) f' s' (by simpa using h1) (by simpa using h2)) (by simpa using hyl) (fun i f' h1=>by simpa using hfy (i + 1) f' (by simpa using h1)) (by simp only [Sh.sizes] at hlen; omega);refine ⟨va ++ vb,⟨va,vb,rfl,ha1,hb1⟩,?_,?_⟩
         ·rw [zk4 cs o (Sh.size s)];rw [ho1,ho2] at ha2;exact ha2.append hb2
         ·simp only [zh2,List.map_cons,Proofs.YthghlbdejdideaaGreat.Rows.uptoBulkAll];omega
     obtain ⟨vs,h1,h2,h3⟩:=key fs.toList ss 0 xs hof.1 (fun i f s h1 h2=>hsg i f.type s (by simp [h1]) h2) (by simpa using hxl) (fun i f h1=>hf i f (by simpa using h1)) (by rw [Nat.zero_add,hcl,hof.2]);refine ⟨vs,h1,by simpa using h2,?_⟩;simp only [Proofs.YthghlbdejdideaaGreat.Rows.uptoBulk];omega
    ·cases hs
   case array mm e =>
    simp only [Option.bind_eq_some_iff] at hs;obtain ⟨se,hse,hs⟩:=hs;split at hs
    ·rename_i hsz;simp only [Option.some.injEq] at hs;subst hs;obtain ⟨xs,k,_,rfl,hcl,hxl,hf⟩:=DataW.trod_array hu h;have key:∀ (i:Nat),i ≤ mm → ∃ es:List (List V),es.length = i ∧ (∀ y ∈ es,Sh.Ty se y) ∧ RepC w es.flatten (cs.take (i * Sh.size se)) ∧ V.blks es.flatten ≤ Proofs.YthghlbdejdideaaGreat.Rows.uptoBulkAll ((xs.take i).map (·.1)):=by
      intro i
      induction i with
      | zero=>intro _; exact ⟨[],rfl,by simp,⟨by simp,by simp⟩,by simp [V.blks]⟩
      | succ i ihi =>
       intro hi;obtain ⟨es,h1,h2,h3,h4⟩:=ihi (by omega);have hxi:xs[i]? = some (xs[i]'(by omega)):=List.getElem?_eq_getElem _;have ht:=(hf i (by omega)).trans hxi;obtain ⟨va,ha1,ha2,ha3⟩:=ih e se k _ _ hse ht;refine ⟨es ++ [va],by simp [h1],fun y hy=>?_,?_,?_⟩
       ·rcases List.mem_append.1 hy with hy | hy
        ·exact h2 y hy
        ·rw [List.mem_singleton.1 hy]; exact ha1
       ·have:cs.take ((i + 1) * Sh.size se) = cs.take (i * Sh.size se) ++ (cs.drop (i * Sh.size se)).take (Sh.size se):=by
         rw [Nat.add_mul,Nat.one_mul,List.take_add]
        rw [this];simp only [List.flatten_append,List.flatten_cons,List.flatten_nil,List.append_nil];rw [hsz.1] at ha2;exact h3.append ha2
       ·have hbulk:∀ (a b:List (DataW H)),Proofs.YthghlbdejdideaaGreat.Rows.uptoBulkAll (a ++ b) = Proofs.YthghlbdejdideaaGreat.Rows.uptoBulkAll a + Proofs.YthghlbdejdideaaGreat.Rows.uptoBulkAll b:=by
         intro a b
         induction a with
         | nil=>simp [Proofs.YthghlbdejdideaaGreat.Rows.uptoBulkAll]
         | cons d a iha=>simp [Proofs.YthghlbdejdideaaGreat.Rows.uptoBulkAll,iha,Nat.add_assoc]
        rw [List.take_add_one,hxi];simp only [List.flatten_append,List.flatten_cons,List.flatten_nil,List.append_nil,zh2,Option.toList_some,List.map_append,List.map_cons,List.map_nil,hbulk,Proofs.YthghlbdejdideaaGreat.Rows.uptoBulkAll,Nat.add_zero];omega
     obtain ⟨es,h1,h2,h3,h4⟩:=key mm (Nat.le_refl _);refine ⟨es.flatten,⟨es,rfl,h1,h2⟩,?_,?_⟩
     ·rw [List.take_of_length_le (by rw [hcl,hsz.2]; exact Nat.le_refl _)] at h3;exact h3
     ·rw [List.take_of_length_le (by omega)] at h4;simp only [Proofs.YthghlbdejdideaaGreat.Rows.uptoBulk];omega
    ·cases hs
def Sh.TyV:Sh → V → Prop
 | .st fs,v=>∃ vs,v = .agg vs ∧ Sh.Tys fs vs
 | .ar n e,v=>∃ vs,v = .agg vs ∧ Sh.Ty (.ar n e) vs
 | s,v=>Sh.Ty s [v]
def zs6:List Sh → List V → Prop
 | [],[]=>True
 | s :: ss,v :: vs=>Sh.TyV s v ∧ zs6 ss vs
 | _,_=>False
theorem znH {r:Reach} {base:Nat} {t e:TypeId} {n:Nat} {v:Value} (ht:P.underlying t = some (.array n e)) (h:Value.okWide P w r base t v):∃ cs,v = .agg cs ∧ cs.size = P.cellsOf t:=by
 simp only [Value.okWide,ht] at h;obtain ⟨cs,h1,h2,_⟩:=h;exact ⟨cs,h1,h2⟩
theorem arg_sh {n:Nat} {t:TypeId} {s:Sh} {v:Value} {d:DataW H} {ps:List MemPlace} {r:Reach} {base:Nat} (hs:shOf P n t = some s) (hv:Value.okWide P w r base t v) (h:DataW.Trod enc P w 0 spare held t v d ps) :
  ∃ u,Sh.TyV s u ∧ Rep (fun _=>none) (fun b=>b < w.heap.size) w u v ∧ V.blk u ≤ Proofs.YthghlbdejdideaaGreat.Rows.uptoBulk d:=by
 obtain ⟨fuel,hf⟩:=h;obtain ⟨vs,h1,h2,h3⟩:=trod_sh n t s fuel _ (d,ps) hs hf;have single:∀ {x:Value},v = x → x.cells = #[x] → (∀ u,Sh.Ty s [u] → Sh.TyV s u) → ∃ u,Sh.TyV s u ∧ Rep (fun _=>none) (fun b=>b < w.heap.size) w u v ∧ V.blk u ≤ Proofs.YthghlbdejdideaaGreat.Rows.uptoBulk d:=by
  intro x hx hc hty;subst hx;rw [hc] at h2;obtain ⟨u,rfl⟩:∃ u,vs = [u]:=List.length_eq_one_iff.1 (by simpa using h2.1);exact ⟨u,hty u h1,h2.2 0 u v rfl rfl,by simpa [V.blks] using h3⟩
 have whole:∀ {cs:Array Value},v = .agg cs → (Sh.TyV s (.agg vs)) → ∃ u,Sh.TyV s u ∧ Rep (fun _=>none) (fun b=>b < w.heap.size) w u v ∧ V.blk u ≤ Proofs.YthghlbdejdideaaGreat.Rows.uptoBulk d:=by
  intro cs hx hty;subst hx;refine ⟨.agg vs,hty,.agg (by simpa [Value.cells] using h2.1.symm) (zpY s vs h1) (fun j u x hu hx=>h2.2 j u x hu (by simpa [Value.cells] using hx)),by simpa [V.blk] using h3⟩
 cases n with
 | zero=>cases hs
 | succ n =>
  cases hu:P.underlying t with
  | none=>simp only [shOf,hu,reduceCtorEq] at hs
  | some dd =>
   cases dd <;> simp only [shOf,hu,reduceCtorEq,Option.some.injEq] at hs
   case bool=>subst hs; obtain ⟨b,hb⟩:=okWide_bool hu hv; exact single hb rfl fun u h=>h
   case int k=>subst hs; obtain ⟨b,hb⟩:=okWide_int hu hv; exact single hb rfl fun u h=>h
   case string=>subst hs; obtain ⟨b,hb⟩:=okWide_string hu hv; exact single hb rfl fun u h=>h
   case slice e =>
    simp only [Option.bind_eq_some_iff] at hs;obtain ⟨se,hse,hs⟩:=hs;split at hs
    ·simp only [Option.some.injEq] at hs;subst hs;obtain ⟨a,len,cap,hb⟩:=okWide_slice hu hv;exact single hb rfl fun u h=>h
    ·cases hs
   case struct fs =>
    simp only [Option.bind_eq_some_iff] at hs;obtain ⟨ss,hss,hs⟩:=hs;split at hs
    ·simp only [Option.some.injEq] at hs;subst hs;obtain ⟨cs,hb,_⟩:=okWide_struct hu hv;exact whole hb ⟨vs,rfl,h1⟩
    ·cases hs
   case array mm e =>
    simp only [Option.bind_eq_some_iff] at hs;obtain ⟨se,hse,hs⟩:=hs;split at hs
    ·simp only [Option.some.injEq] at hs;subst hs;obtain ⟨cs,hb,_⟩:=znH hu hv;exact whole hb ⟨vs,rfl,h1⟩
    ·cases hs
theorem args_sh {n:Nat} {r:Reach} {base:Nat}:∀ (ts:List TypeId) (ss:List Sh) (vs:List Value) (ds:List (DataW H)) (ps:List MemPlace),znk (shOf P n) ts = some ss → DataW.TrodAll enc P w 0 spare held ts vs ds ps →
  (∀ (j:Nat) (t:TypeId) (v:Value),ts[j]? = some t → vs[j]? = some v → Value.okWide P w r base t v) → ∃ us,zs6 ss us ∧ Reps (fun _=>none) (fun b=>b < w.heap.size) w us vs ∧ V.blks us ≤ Proofs.YthghlbdejdideaaGreat.Rows.uptoBulkAll ds:=by
 intro ts
 induction ts with
 | nil =>
  intro ss vs ds ps hs h _;simp only [znk,Option.some.injEq] at hs;subst hs;obtain ⟨rfl,rfl,_⟩:=trodAll_nil h;exact ⟨[],trivial,⟨rfl,by simp⟩,by simp [V.blks]⟩
 | cons t ts ih =>
  intro ss vs ds ps hs h hv;simp only [znk,Option.bind_eq_some_iff,Option.map_eq_some_iff] at hs;obtain ⟨s,hs1,ss',hss,rfl⟩:=hs;obtain ⟨v,vs',d,ds',p,q,rfl,rfl,rfl,h1,h2⟩:=trodAll_cons h;obtain ⟨u,hu1,hu2,hu3⟩:=arg_sh hs1 (hv 0 t v rfl rfl) h1;obtain ⟨us,hs1,hs2,hs3⟩:=ih ss' vs' ds' q hss h2 fun j t' v' ht hv'=>hv (j + 1) t' v' (by simpa using ht) (by simpa using hv');refine ⟨u :: us,⟨hu1,hs1⟩,⟨by simp [hs2.1],fun j a x ha hx=>?_⟩,by simp only [V.blks,Proofs.YthghlbdejdideaaGreat.Rows.uptoBulkAll]; omega⟩;cases j with
  | zero=>simp only [List.getElem?_cons_zero,Option.some.injEq] at ha hx; subst ha hx; exact hu2
  | succ j=>exact hs2.2 j a x (by simpa using ha) (by simpa using hx)
end
def H0:Heap:=⟨fun _=>none,0⟩
theorem relH_H0 (w:World):RelH (fun _=>none) (fun b=>b < w.heap.size) H0 w :=
 ⟨fun id b h=>(by cases h),fun id id' b b' l l' h=>(by cases h),fun _ _=>rfl,fun _ h=>h⟩
theorem call_true {P:Program} {G:Sem'} (hG:zhv P G) {F:FuncId} {W:World} {args:Array Value} {us:List V} {H':Heap} (h:G F us H0 = some (.bool true,H')) (hr:Reps (fun _=>none) (fun b=>b < W.heap.size) W us args.toList) :
  Calls P F args W fun e W'=>e = .returned (.bool true) ∧ Below W.heap.size W W':=by
 have:=(hG F us H0 _ H' h).2.1 (fun _=>none) (fun b=>b < W.heap.size) W args.toList (relH_H0 W) (fun _ _ _=>rfl) hr;refine Calls.mono this fun e W' ⟨m',Z',x,he,hx,_,hext⟩=>?_;cases hx;exact ⟨he,hext.os,hext.tape,hext.output,hext.size,fun k hk=>hext.same k hk fun id b l hb=>by cases hb⟩
section
variable {H:Type} {enc:TypeId × Value → H} {P:Program}
theorem trodAll_len {w:World} {base:Nat} {sp:Nat → Bool} {held:Bool}:∀ {ts:List TypeId} {vs:List Value} {ds:List (DataW H)} {ps:List MemPlace},DataW.TrodAll enc P w base sp held ts vs ds ps → ds.length = ts.length:=by
 intro ts
 induction ts with
 | nil=>intro vs ds ps h; obtain ⟨_,rfl,_⟩:=trodAll_nil h; rfl
 | cons t ts ih =>
  intro vs ds ps h;obtain ⟨v,vs',d,ds',p,q,rfl,rfl,rfl,_,h2⟩:=trodAll_cons h;simp [ih h2]
theorem post_below {f:Func} {s:ChangeSpec} {apart fresh handsOn again:Bool} {W W':World} {args:Array Value} {ds gs:List (DataW H)} {before:List MemPlace}
  (hW:DataW.Whole enc P f.params.toList s.vars apart W args.toList ds gs before) (hvars:s.vars = []) (hfn:s.fn H ds = { results:=[.lit (.bool true)],args:=ds }) (hlay:laidOutB P = true) (hmr:mapsRowed P = true)
  (hfull:((List.range P.types.size).all fun t=>match P.underlying t with | some (.slice e)=>decide (0 < P.cellsOf e) | _=>true) = true) (hpt:(f.params.toList.all fun t=>decide (t < P.types.size)) = true)
  {tb:TypeId} (hres:f.resultTypes = #[tb]) (htb:P.underlying tb = some .bool) (hb:Below W.heap.size W W') :
  s.post enc P f apart fresh handsOn again W args (.bool true) W':=by
 have hlt:∀ p ∈ before,p.block < W.heap.size:=fun p hp=>hW.lt p hp;have hW0:=hW;obtain ⟨p,q,hA,hV,hbe,hz,hn⟩:=hW;rw [hvars] at hV;obtain ⟨rfl,rfl⟩:=trodVars_none hV;simp only [List.append_nil] at hbe;subst hbe;have hA':DataW.TrodAll enc P W' 0 (fun _=>true) true f.params.toList args.toList ds before:=by
  have go:∀ {ts:List TypeId} {vs:List Value} {ds:List (DataW H)} {ps:List MemPlace},DataW.TrodAll enc P W 0 (fun _=>true) true ts vs ds ps → (∀ p ∈ ps,W.sameAt W' p) → DataW.TrodAll enc P W' 0 (fun _=>true) true ts vs ds ps:=by
   intro ts
   induction ts with
   | nil =>
    intro vs ds ps h _;obtain ⟨rfl,rfl,rfl⟩:=trodAll_nil h;rfl
   | cons t ts ih =>
    intro vs ds ps h hs;obtain ⟨v,vs',d,ds',p,q,rfl,rfl,rfl,⟨k,h1⟩,h2⟩:=trodAll_cons h;exact ⟨p,q,⟨k,DataW.trod_carry k _ _ _ h1 fun x hx=>hs x (List.mem_append_left _ hx)⟩,ih h2 fun x hx=>hs x (List.mem_append_right _ hx),rfl⟩
  refine go hA fun p hp=>?_;have:=hb.block p.block (hlt p hp);cases p with
  | cell b o=>simp only [World.sameAt,World.cell?]; dsimp only [MemPlace.block] at this; rw [this]
  | map b=>simp only [World.sameAt]; dsimp only [MemPlace.block] at this; rw [this]
 have hres':∀ (b:Nat) (sp:Nat → Bool) (hd:Bool),DataW.TrodAll enc P W' b sp hd f.resultTypes.toList ((Value.bool true).resultList f.resultTypes.size) [.lit (.bool true)] []:=by
  intro b sp hd;rw [hres];exact trodAll_cons_mk (shut_bool htb _) trodAll_mk0
 have hargs:∀ sp:Nat → Bool,(∀ p ∈ before,sp p.block = true) → DataW.TrodAll enc P W' 0 sp true f.params.toList args.toList ds before:=by
  intro sp hsp;refine DataW.TrodAll.respare (T:=(· < P.types.size)) (kids_rows hlay hmr) (slices_full_of P hfull) (fun t ht=>?_) hA' hsp;have:=List.all_eq_true.1 hpt t ht;simpa using this
 have hvr:∀ sp:Nat → Bool,DataW.TrodVars enc P W' sp s.vars ([]:List (DataW H)) []:=by
  intro sp; rw [hvars]; rfl
 have hok:∀ (j:Nat) (t:TypeId) (r:Value),f.resultTypes[j]? = some t → ((Value.bool true).resultList f.resultTypes.size)[j]? = some r → Value.okWide P W' .any 0 t r:=by
  exact ok_one hres rfl (okWide_bool_mk htb _)
 have hold:∀ p ∈ before,(fun b=>decide (b < W.heap.size)) p.block = true:=fun p hp=>by simpa using hlt p hp
 refine ⟨ds,[],before,[],before,[],hW0,?_,?_,?_,World.keptBut_mono (fun p hp=>⟨hp,?_⟩) (hb.frame (· ∈ before)),fun _=>?_⟩
 ·simp only [List.append_nil,hfn]; exact hres' _ _ _
 ·simp only [List.append_nil,hfn]; exact hargs _ hold
 ·simp only [List.append_nil,hfn]; exact hvr _
 ·exact .inr (.inl hp)
 ·refine ⟨hok,_,_,([] ++ before) ++ [],⟨[] ++ before,[],trodAll_append (hargs _ (fun _ _=>rfl)) (hres' _ _ _),hvr _,rfl,?_,?_⟩,?_⟩
  ·intro b off hp;have hin:MemPlace.cell b off ∈ before:=by simpa using hp
   rw [hb.frozen (hlt _ hin)];exact hz b off hin
  ·intro ha;have:=hn ha;simpa using this
  ·intro p hp _;simpa using hp
end
end Go.Ax
/- Ax19 -/
namespace Go.Ax
theorem M.bind_assoc {α β γ:Type} (x:M α) (f:α → M β) (g:β → M γ):(x.bind f).bind g = x.bind fun v=>(f v).bind g:=by
 funext H;simp only [M.bind];cases x H with
 | none=>rfl
 | some r=>rfl
theorem M.pure_bind {α β:Type} (v:α) (f:α → M β):(M.pure v).bind f = f v:=rfl
def step {α:Type} (G:Sem') (o:AO) (A:Fr) (k:V → M α):M α :=
 match o.gd,o.ins with
 | none,.mv x=>(match x.ev A with | some v=>k v | none=>M.fail)
 | _,_=>(o.run G A).bind k
theorem zru {α:Type} (G:Sem') (o:AO) (A:Fr) (k:V → M α):step G o A k = (o.run G A).bind k:=by
 obtain ⟨d,gd,ins⟩:=o;cases gd with
 | some _=>rfl
 | none =>
  cases ins <;> first | rfl | skip
  rename_i x;show (match x.ev A with | some v=>k v | none=>M.fail) = _;simp only [AO.run,zcr,I.run,zaI];cases x.ev A <;> rfl
def opsK {α:Type} (G:Sem'):List AO → Fr → (Fr → M α) → M α
 | [],A,k=>k A
 | o :: os,A,k=>step G o A fun v=>opsK G os (A.put o.dst v) k
theorem opsK_eq {α:Type} (G:Sem') (k:Fr → M α):∀ (l:List AO) (A:Fr),opsK G l A k = (zfH G l A).bind k:=by
 intro l
 induction l with
 | nil=>intro A; rfl
 | cons o l ih =>
  intro A;simp only [opsK,zfH,M.bind_assoc,zru];congr 1;funext v;exact ih _
def zq5 {α:Type} (un:List (Nat × Nat)) (i:Nat) (a:V):List (Nat × Heap × Heap) → M α → M α
 | [],k=>k
 | (j,h,h') :: js,k=>if un.contains (i,j) then (M.unch a h h').bind fun _=>zq5 un i a js k else zq5 un i a js k
def znr {α:Type} (un:List (Nat × Nat)) (j:Nat) (h h':Heap):List (Nat × V) → M α → M α
 | [],k=>k
 | (i,a) :: rs,k=>if un.contains (i,j) then (M.unch a h h').bind fun _=>znr un j h h' rs k else znr un j h h' rs k
def zlF {α:Type} (G:Sem') (un:List (Nat × Nat)):Nat → List (Nat × V) → List (Nat × Heap × Heap) → List AO → Fr → (Fr → M α) → M α
 | _,_,_,[],A,k=>k A
 | p,rs,js,o :: os,A,k =>
  match o.ins.kind with
  | .read x =>
   if un.any (fun q=>q.1 == p) then
    za3.with1' A x fun a=>step G o A fun v=>zq5 un p a js (zlF G un (p + 1) ((p,a) :: rs) js os (A.put o.dst v) k)
   else step G o A fun v=>zlF G un (p + 1) rs js os (A.put o.dst v) k
  | .act =>
   if un.any (fun q=>q.2 == p) then
    M.getH.bind fun h=>step G o A fun v=>M.getH.bind fun h'=>znr un p h h' rs (zlF G un (p + 1) rs ((p,h,h') :: js) os (A.put o.dst v) k)
   else step G o A fun v=>zlF G un (p + 1) rs js os (A.put o.dst v) k
  | _=>step G o A fun v=>zlF G un (p + 1) rs js os (A.put o.dst v) k
section
variable {α:Type} {un:List (Nat × Nat)}
theorem actsK_eq (i:Nat) (a:V) (k:M α):∀ js,zq5 un i a js k = (zb7 un i a js).bind fun _=>k:=by
 intro js
 induction js with
 | nil=>rfl
 | cons q js ih =>
  obtain ⟨j,h,h'⟩:=q;simp only [zq5,zb7];split
  ·rw [M.bind_assoc]; congr 1; funext _; exact ih
  ·exact ih
theorem zrI (j:Nat) (h h':Heap) (k:M α):∀ rs,znr un j h h' rs k = (zcd un j h h' rs).bind fun _=>k:=by
 intro rs
 induction rs with
 | nil=>rfl
 | cons q rs ih =>
  obtain ⟨i,a⟩:=q;simp only [znr,zcd];split
  ·rw [M.bind_assoc]; congr 1; funext _; exact ih
  ·exact ih
def relR (un:List (Nat × Nat)) (q:Nat × V):Bool:=un.any fun x=>x.1 == q.1
def relA (un:List (Nat × Nat)) (q:Nat × Heap × Heap):Bool:=un.any fun x=>x.2 == q.1
theorem zlH (i:Nat) (a:V):∀ js,zb7 un i a (js.filter (relA un)) = zb7 un i a js:=by
 intro js
 induction js with
 | nil=>rfl
 | cons q js ih =>
  obtain ⟨j,h,h'⟩:=q;by_cases hr:relA un (j,h,h') = true
  ·rw [List.filter_cons_of_pos hr];simp only [zb7,ih]
  ·rw [List.filter_cons_of_neg hr,ih];simp only [zb7];rw [if_neg];intro hc;refine hr ?_;simp only [relA,List.any_eq_true,beq_iff_eq];exact ⟨(i,j),by simpa using hc,rfl⟩
theorem zk8 (j:Nat) (h h':Heap):∀ rs,zcd un j h h' (rs.filter (relR un)) = zcd un j h h' rs:=by
 intro rs
 induction rs with
 | nil=>rfl
 | cons q rs ih =>
  obtain ⟨i,a⟩:=q;by_cases hr:relR un (i,a) = true
  ·rw [List.filter_cons_of_pos hr];simp only [zcd,ih]
  ·rw [List.filter_cons_of_neg hr,ih];simp only [zcd];rw [if_neg];intro hc;refine hr ?_;simp only [relR,List.any_eq_true,beq_iff_eq];exact ⟨(i,j),by simpa using hc,rfl⟩
theorem zok {i:Nat} (a:V) (h:(un.any fun q=>q.1 == i) = false):∀ js,zb7 un i a js = M.pure ():=by
 intro js
 induction js with
 | nil=>rfl
 | cons q js ih =>
  obtain ⟨j,h1,h2⟩:=q;simp only [zb7];rw [if_neg,ih];intro hc;have:(un.any fun q=>q.1 == i) = true:=by
   simp only [List.any_eq_true,beq_iff_eq];exact ⟨(i,j),by simpa using hc,rfl⟩
  rw [h] at this;cases this
theorem zm3 {j:Nat} (h1 h2:Heap) (h:(un.any fun q=>q.2 == j) = false):∀ rs,zcd un j h1 h2 rs = M.pure ():=by
 intro rs
 induction rs with
 | nil=>rfl
 | cons q rs ih =>
  obtain ⟨i,a⟩:=q;simp only [zcd];rw [if_neg,ih];intro hc;have:(un.any fun q=>q.2 == j) = true:=by
   simp only [List.any_eq_true,beq_iff_eq];exact ⟨(i,j),by simpa using hc,rfl⟩
  rw [h] at this;cases this
theorem drawK_eq (G:Sem') (k:Fr → M α):∀ (l:List AO) (p:Nat) (rs:List (Nat × V)) (js:List (Nat × Heap × Heap)) (A:Fr),
  zlF G un p (rs.filter (relR un)) (js.filter (relA un)) l A k = (za3 G un p rs js l A).bind k:=by
 intro l
 induction l with
 | nil=>intro p rs js A; rfl
 | cons o l ih =>
  intro p rs js A;unfold zlF za3;simp only [zru];cases hk:o.ins.kind with
  | read x =>
   dsimp only;have go:∀ a,(un.any fun q=>q.1 == p) = true → (fun v=>zq5 un p a (js.filter (relA un)) (zlF G un (p + 1) ((p,a) :: rs.filter (relR un)) (js.filter (relA un)) l (A.put o.dst v) k)) =
     fun v=>((zb7 un p a js).bind fun _=>za3 G un (p + 1) ((p,a) :: rs) js l (A.put o.dst v)).bind k:=by
    intro a hu;funext v;rw [actsK_eq,zlH,M.bind_assoc];congr 1;funext _;have:=ih (p + 1) ((p,a) :: rs) js (A.put o.dst v);rw [List.filter_cons_of_pos (by exact hu)] at this;exact this
   cases hu:un.any fun q=>q.1 == p with
   | true =>
    rw [if_pos rfl];cases hx:x.ev A with
    | some a=>simp only [za3.with1',hx,M.bind_assoc]; rw [go a hu]; simp only [M.bind_assoc]
    | none=>simp only [za3.with1',hx,M.bind_assoc]; rw [go .undef hu]; simp only [M.bind_assoc]
   | false =>
    rw [if_neg (by exact Bool.false_ne_true)];have plain:∀ a,(fun v=>zlF G un (p + 1) (rs.filter (relR un)) (js.filter (relA un)) l (A.put o.dst v) k) = fun v=>((zb7 un p a js).bind fun _=>za3 G un (p + 1) ((p,a) :: rs) js l (A.put o.dst v)).bind k:=by
     intro a;funext v;rw [zok a hu,M.pure_bind,← ih (p + 1) ((p,a) :: rs) js (A.put o.dst v),List.filter_cons_of_neg (by simp [relR,hu])]
    cases hx:x.ev A with
    | some a=>simp only [za3.with1',hx,M.bind_assoc]; rw [plain a]; simp only [M.bind_assoc]
    | none=>simp only [za3.with1',hx,M.bind_assoc]; rw [plain .undef]; simp only [M.bind_assoc]
  | act =>
   dsimp only;cases hu:un.any fun q=>q.2 == p with
   | true =>
    rw [if_pos rfl];simp only [M.bind_assoc];congr 1; funext h; congr 1; funext v; congr 1; funext h';rw [zrI,zk8];congr 1;funext _;have:=ih (p + 1) rs ((p,h,h') :: js) (A.put o.dst v);rw [List.filter_cons_of_pos (by exact hu)] at this;exact this
   | false =>
    rw [if_neg (by exact Bool.false_ne_true)];simp only [M.bind_assoc];funext H;simp only [M.bind,M.getH,Option.bind_some];cases o.run G A H with
    | none=>rfl
    | some r =>
     simp only [Option.bind_some,zm3 _ _ hu,M.pure];have:=congrFun (ih (p + 1) rs ((p,H,r.2) :: js) (A.put o.dst r.1)) r.2;rw [List.filter_cons_of_neg (by simp [relA,hu])] at this;exact this
  | pure =>
   dsimp only;rw [M.bind_assoc];congr 1;funext v;exact ih ..
  | new =>
   dsimp only;rw [M.bind_assoc];congr 1;funext v;exact ih ..
end
def resK {α:Type} (A:Fr):List RV → (List V → M α) → M α
 | [],k=>k []
 | .tmp t :: rs,k=>match A.get t with | some v=>resK A rs fun vs=>k (v :: vs) | none=>M.fail
 | .cell t n :: rs,k=>match A.get t with | some a=>(zar n a).bind fun v=>resK A rs fun vs=>k (v :: vs) | none=>M.fail
theorem resK_eq {α:Type} (A:Fr):∀ (rv:List RV) (k:List V → M α),resK A rv k = (results A rv).bind k:=by
 intro rv
 induction rv with
 | nil=>intro k; rfl
 | cons x rv ih =>
  intro k;cases x with
  | tmp t =>
   simp only [resK,results];cases A.get t with
   | none=>rfl
   | some v =>
    dsimp only;rw [ih];funext H;simp only [M.bind,M.lift,Option.map_some,Option.bind_some];cases results A rv H with
    | none=>rfl
    | some r=>rfl
  | cell t n =>
   simp only [resK,results];cases A.get t with
   | none=>rfl
   | some v =>
    dsimp only;funext H;simp only [M.bind,M.lift,Option.map_some,Option.bind_some];cases zar n v H with
    | none=>rfl
    | some r =>
     simp only [Option.bind_some];rw [ih];simp only [M.bind];cases results A rv r.2 with
     | none=>rfl
     | some r=>rfl
def zey (G:Sem') (rv:List RV):C → List (Nat × List Nat) → List Nat → Fr → M Res
 | .done,_,J,A=>match zdB A J with | some L=>M.pure (.nrm L) | none=>M.fail
 | .bad,_,_,_=>M.fail
 | .ops l k,cx,J,A=>opsK G l A fun A'=>zey G rv k cx J A'
 | .draw l un k,cx,J,A=>zlF G un 0 [] [] l A fun A'=>zey G rv k cx J A'
 | .cond x a b,cx,J,A=>match x.ev A with | some c=>M.ite c (zey G rv a cx J A) (zey G rv b cx J A) | none=>M.fail
 | .condJ x a b J' W k,cx,J,A=>match x.ev A with
  | some c=>M.join (M.ite c (zey G rv a cx J' A) (zey G rv b cx J' A)) fun L=>zey G rv k cx J (A.join J' W L)
  | none=>M.fail
 | .blk id a J' W k,cx,J,A=>M.blk id (zey G rv a ((id,J') :: cx) J' A) fun L=>zey G rv k cx J (A.join J' W L)
 | .loop a K W,cx,_,A=>match zdB A K with | some L=>M.iter (fun L=>zey G rv a cx K (A.join K W L)) L | none=>M.fail
 | .exit id,cx,_,A=>match zlG cx id with | some J=>(match zdB A J with | some L=>M.pure (.ex id L) | none=>M.fail) | none=>M.fail
 | .ret,_,_,A=>resK A rv fun L=>M.pure (.ret L)
theorem execK_eq (G:Sem') (rv:List RV):∀ (c:C) (cx:List (Nat × List Nat)) (J:List Nat) (A:Fr),zey G rv c cx J A = exec G rv c cx J A:=by
 intro c
 induction c with
 | done=>intro cx J A; simp only [zey,exec]; cases zdB A J <;> rfl
 | bad=>intro cx J A; rfl
 | ops l k ih=>intro cx J A; simp only [zey,exec]; rw [opsK_eq]; congr 1; funext A'; exact ih _ _ _
 | draw l un k ih =>
  intro cx J A;simp only [zey,exec];have:=drawK_eq (un:=un) G (fun A'=>zey G rv k cx J A') l 0 [] [] A;simp only [List.filter_nil] at this;rw [this]; congr 1; funext A'; exact ih _ _ _
 | cond x a b iha ihb=>intro cx J A; simp only [zey,exec,iha,ihb]; cases x.ev A <;> rfl
 | condJ x a b J' W k iha ihb ihk=>intro cx J A; simp only [zey,exec,iha,ihb,ihk]; cases x.ev A <;> rfl
 | blk id a J' W k iha ihk=>intro cx J A; simp only [zey,exec,iha,ihk]
 | loop a K W iha =>
  intro cx J A;simp only [zey,exec,iha];cases zdB A K <;> rfl
 | exit id =>
  intro cx J A;simp only [zey,exec];cases zlG cx id with
  | none=>rfl
  | some J=>dsimp only; cases zdB A J <;> rfl
 | ret=>intro cx J A; simp only [zey,exec,resK_eq]
def fin (x:M Res):M V:=x.bind fun r =>
 match r with
 | .ret L=>M.pure (zec L)
 | _=>M.fail
theorem run_eq (G:Sem') (f:Fn') (args:List V):f.run G args = fin (zey G f.rv f.body [] [] (params 0 args)):=by
 rw [execK_eq]; rfl
theorem sem_step {T:FuncId → Option Fn'} {f:FuncId} {ir:Fn'} (hT:T f = some ir) {args:List V} (hl:args.length ≤ ir.ntmps) {x:M V} (hx:fin (zey (sem T) ir.rv ir.body [] [] (params 0 args)) = x) {H:Heap} {r:V × Heap} (h:x H = some r) :
  sem T f args H = some r:=zrz hT hl (by rw [run_eq,hx]; exact h)
/-! Steps of proofs. -/
theorem bind_ok {α β:Type} {x:M α} {f:α → M β} {H H1:Heap} {v:α} (h:x H = some (v,H1)):(x.bind f) H = f v H1:=by simp only [M.bind,h,Option.bind_some]
theorem zr6 {body:List V → M Res} {L L':List V} {H H':Heap} {r:Res × Heap} (h:body L H = some (.nrm L',H')) (k:M.iter body L' H' = some r):M.iter body L H = some r:=by
 obtain ⟨n,hn⟩:=zgZ k;refine zkI (n:=n + 1) ?_;show (M.join (body L) (zeg body n)) H = some r;simp only [M.join,M.bind,h,Option.bind_some,hn]
theorem zr7 {body:List V → M Res} {L L':List V} {id:Nat} {H H':Heap} (h:body L H = some (.ex id L',H')):M.iter body L H = some (.ex id L',H'):=by
 refine zkI (n:=1) ?_;show (M.join (body L) (zeg body 0)) H = some _;simp only [M.join,M.bind,h,Option.bind_some,M.pure]
theorem iter_ret {body:List V → M Res} {L L':List V} {H H':Heap} (h:body L H = some (.ret L',H')):M.iter body L H = some (.ret L',H'):=by
 refine zkI (n:=1) ?_;show (M.join (body L) (zeg body 0)) H = some _;simp only [M.join,M.bind,h,Option.bind_some,M.pure]
end Go.Ax
/- Ax20 -/
namespace Go.Ax
def Ok {α:Type} (x:M α) (H:Heap) (Q:α → Heap → Prop):Prop:=∃ v H',x H = some (v,H') ∧ Q v H'
section
variable {α β:Type} {H:Heap}
theorem zau {x:M α} {Q Q':α → Heap → Prop} (h:Ok x H Q) (hq:∀ v H',Q v H' → Q' v H'):Ok x H Q':=by
 obtain ⟨v,H',h1,h2⟩:=h;exact ⟨v,H',h1,hq _ _ h2⟩
theorem zam {x:M α} {f:α → M β} {Q:β → Heap → Prop} (h:Ok x H fun v H1=>Ok (f v) H1 Q):Ok (x.bind f) H Q:=by
 obtain ⟨v,H1,h1,w,H2,h2,hq⟩:=h;exact ⟨w,H2,by rw [bind_ok h1,h2],hq⟩
theorem zac {x:M α} {f:α → M β} {P:α → Heap → Prop} {Q:β → Heap → Prop} (h:Ok x H P) (k:∀ v H1,P v H1 → Ok (f v) H1 Q):Ok (x.bind f) H Q:=zam (zau h k)
theorem zgd {v:α} {Q:α → Heap → Prop} (h:Q v H):Ok (M.pure v) H Q:=⟨v,H,rfl,h⟩
theorem ok_lift {o:Option α} {v:α} {Q:α → Heap → Prop} (ho:o = some v) (h:Q v H):Ok (M.lift o) H Q:=⟨v,H,by subst ho; rfl,h⟩
theorem zao {o:Option α} {v:α} {f:α → M β} {Q:β → Heap → Prop} (ho:o = some v) (h:Ok (f v) H Q):Ok ((M.lift o).bind f) H Q:=zam (ok_lift ho h)
theorem ok_ite {b:Bool} {x y:M α} {Q:α → Heap → Prop} (h1:b = true → Ok x H Q) (h2:b = false → Ok y H Q):Ok (M.ite (.bool b) x y) H Q:=by
 cases b
 ·exact h2 rfl
 ·exact h1 rfl
theorem ok_itef {x y:M α} {Q:α → Heap → Prop} (h:Ok y H Q):Ok (M.ite (.bool false) x y) H Q:=h
theorem zgk {p:Prop} [Decidable p] {x y:M α} {Q:α → Heap → Prop} (h1:p → Ok x H Q) (h2:¬ p → Ok y H Q):Ok (M.ite (.bool (decide p)) x y) H Q :=
 ok_ite (fun h=>h1 (of_decide_eq_true h)) fun h=>h2 (of_decide_eq_false h)
def Then (k:List V → M Res) (Q:Res → Heap → Prop):Res → Heap → Prop
 | .nrm L,H=>Ok (k L) H Q
 | r,H=>Q r H
theorem ok_join {x:M Res} {k:List V → M Res} {Q:Res → Heap → Prop} (h:Ok x H (Then k Q)):Ok (M.join x k) H Q:=by
 obtain ⟨r,H1,h1,h2⟩:=h;refine zam ⟨r,H1,h1,?_⟩;cases r with
 | nrm L=>exact h2
 | ex id L=>exact zgd h2
 | ret L=>exact zgd h2
def Out (id:Nat) (k:List V → M Res) (Q:Res → Heap → Prop):Res → Heap → Prop
 | .nrm L,H=>Ok (k L) H Q
 | .ex i L,H=>if i = id then Ok (k L) H Q else Q (.ex i L) H
 | .ret L,H=>Q (.ret L) H
theorem zrU {id:Nat} {x:M Res} {k:List V → M Res} {Q:Res → Heap → Prop} (h:Ok x H (Out id k Q)):Ok (M.blk id x k) H Q:=by
 obtain ⟨r,H1,h1,h2⟩:=h;refine zam ⟨r,H1,h1,?_⟩;cases r with
 | nrm L=>exact h2
 | ex i L =>
  simp only [Out] at h2;dsimp only;by_cases e:i = id
  ·rw [if_pos e] at h2 ⊢; exact h2
  ·rw [if_neg e] at h2 ⊢; exact zgd h2
 | ret L=>exact zgd h2
theorem ok_fin {x:M Res} {Q:V → Heap → Prop} (h:Ok x H fun r H'=>∃ L,r = .ret L ∧ Q (zec L) H'):Ok (fin x) H Q:=by
 obtain ⟨r,H1,h1,L,rfl,hq⟩:=h;exact zam ⟨_,H1,h1,zgd hq⟩
theorem zrT {body:List V → M Res} {L:List V} {Q:Res → Heap → Prop} (I:List V → Heap → Nat → Prop) (n:Nat) (h0:I L H n)
  (hb:∀ L H n,I L H n → Ok (body L) H fun r H'=>match r with | .nrm L'=>∃ n',n' < n ∧ I L' H' n' | r=>Q r H'):Ok (M.iter body L) H Q:=by
 induction n using Nat.strongRecOn generalizing L H with
 | ind n ih =>
  obtain ⟨r,H1,h1,h2⟩:=hb L H n h0;cases r with
  | nrm L' =>
   obtain ⟨n',hlt,hI⟩:=h2;obtain ⟨r',H2,h3,h4⟩:=ih n' hlt hI;exact ⟨r',H2,zr6 h1 h3,h4⟩
  | ex id L'=>exact ⟨_,H1,zr7 h1,h2⟩
  | ret L'=>exact ⟨_,H1,iter_ret h1,h2⟩
theorem ok_store {id off size:Nat} {b:Blk} {x:V} {Q:V → Heap → Prop} (hb:H.get id = some b) (h1:x.cells.length = size) (h2:off + size ≤ b.cells.length) (h3:x.okc = true)
  (h:Q .undef (H.set id (some { b with cells:=splice b.cells off x.cells }))):Ok (zco size (.ptr id off) x) H Q :=
 ⟨_,_,by simp only [zco,hb,Option.bind_some]; rw [if_pos ⟨h1,h2,h3⟩],h⟩
theorem zaR {ty:TypeId} {x:V} {Q:V → Heap → Prop} (h3:x.okc = true) (h:Q (.ptr H.next 0) (H.new ⟨ty,x.cells,none⟩)):Ok (mbox ty x) H Q :=
 ⟨_,_,by simp only [mbox]; rw [if_pos h3],h⟩
theorem zqo {ty esz bytes:Nat} {y:V} {q:List V × Nat} {Q:V → Heap → Prop} (hy:zcm esz H y = some q) (h0:q.2 = 0 → Q .nils H) (h1:q.2 ≠ 0 → q.2 * bytes ≤ 140737488355328 ∧ q.2 ≤ maxLen ∧ Q (.sl H.next 0 q.2 (.opn esz)) (H.new ⟨ty,q.1,some esz⟩)) :
  Ok (zay ty esz bytes .nils y) H Q:=by
 by_cases h:q.2 = 0
 ·exact ⟨_,_,by simp only [zay,zbR,hy,Option.bind_some]; rw [if_pos h],h0 h⟩
 ·obtain ⟨a,b,c⟩:=h1 h;exact ⟨_,_,by simp only [zay,zbR,hy,Option.bind_some]; rw [if_neg h,if_pos ⟨a,b⟩],c⟩
theorem zrV {ty esz bytes id len:Nat} {y:V} {b:Blk} {q:List V × Nat} {Q:V → Heap → Prop} (hy:zcm esz H y = some q) (hb:H.get id = some b) (ht:b.ty = ty) (ho:b.opn = some esz) (hl:b.cells.length = len * esz)
  (h0:q.2 = 0 → Q (.sl id 0 len (.opn esz)) H) (h1:q.2 ≠ 0 → (len + q.2) * bytes ≤ 140737488355328 ∧ len + q.2 ≤ maxLen ∧ Q (.sl H.next 0 (len + q.2) (.opn esz)) ((H.set id none).new ⟨ty,b.cells ++ q.1,some esz⟩)) :
  Ok (zay ty esz bytes (.sl id 0 len (.opn esz)) y) H Q:=by
 have hc:0 + len * esz ≤ b.cells.length ∧ b.ty = ty:=⟨by omega,ht⟩;by_cases h:q.2 = 0
 ·exact ⟨_,_,by simp only [zay,zbR,hy,Option.bind_some,hb]; rw [if_pos hc,if_pos ⟨trivial,ho,by omega⟩,if_pos h],h0 h⟩
 ·obtain ⟨a,c,d⟩:=h1 h;exact ⟨_,_,by simp only [zay,zbR,hy,Option.bind_some,hb]; rw [if_pos hc,if_pos ⟨trivial,ho,by omega⟩,if_neg h,if_pos ⟨a,c⟩,List.drop_zero],d⟩
theorem ok_tostr {x:V} {q:List V × Nat} {l:List UInt8} {Q:V → Heap → Prop} (hq:zbd 1 H x = some q) (hl:zke q.1 = some l) (h:Q (.str ⟨l.toArray⟩) H):Ok (zfM x) H Q :=
 ⟨_,_,by simp only [zfM,hq,Option.bind_some,hl,Option.map_some],h⟩
end
theorem ok_sem {T:FuncId → Option Fn'} {f:FuncId} {ir:Fn'} (hT:T f = some ir) {args:List V} (hl:args.length ≤ ir.ntmps) {x:M Res} (hx:zey (sem T) ir.rv ir.body [] [] (params 0 args) = x) {H:Heap} {Q:V → Heap → Prop}
  (h:Ok x H fun r H'=>∃ L,r = .ret L ∧ Q (zec L) H'):Ok (sem T f args) H Q:=by
 obtain ⟨v,H',h1,h2⟩:=ok_fin h;exact ⟨v,H',sem_step hT hl (congrArg fin hx) h1,h2⟩
/-! Heaps. -/
theorem zak (H:Heap) (id:Nat) (b:Option Blk):(H.set id b).get id = b:=by simp [Heap.set]
theorem zat (H:Heap) {id i:Nat} (b:Option Blk) (h:i ≠ id):(H.set id b).get i = H.get i:=by simp [Heap.set,h]
theorem zbr (H:Heap) (id:Nat) (b:Option Blk):(H.set id b).next = H.next:=rfl
theorem zad (H:Heap) (b:Blk):(H.new b).get H.next = some b:=by simp [Heap.new]
theorem zaG (H:Heap) {i:Nat} (b:Blk) (h:i ≠ H.next):(H.new b).get i = H.get i:=by simp [Heap.new,h]
theorem zag (H:Heap) (b:Blk):(H.new b).next = H.next + 1:=rfl
structure Step (H H':Heap) (F F':List Nat):Prop where
 next:H.next ≤ H'.next
 same:∀ i,i < H.next → i ∉ F → H'.get i = H.get i
 own:∀ i,i ∈ F' → i ∈ F ∨ (H.next ≤ i ∧ i < H'.next)
theorem Step.refl (H:Heap) (F:List Nat):Step H H F F:=⟨Nat.le_refl _,fun _ _ _=>rfl,fun _ h=>.inl h⟩
theorem Step.trans {H H1 H2:Heap} {F F1 F2:List Nat} (h:Step H H1 F F1) (k:Step H1 H2 F1 F2):Step H H2 F F2:=by
 refine ⟨Nat.le_trans h.next k.next,fun i hi hF=>?_,fun i hi=>?_⟩
 ·rw [k.same i (Nat.lt_of_lt_of_le hi h.next) fun h1=>?_,h.same i hi hF];rcases h.own i h1 with h2 | h2
  ·exact hF h2
  ·omega
 ·rcases k.own i hi with h1 | h1
  ·rcases h.own i h1 with h2 | h2
   ·exact .inl h2
   ·exact .inr ⟨h2.1,Nat.lt_of_lt_of_le h2.2 k.next⟩
  ·exact .inr ⟨Nat.le_trans h.next h1.1,h1.2⟩
def Below (F:List Nat) (H:Heap):Prop:=∀ i ∈ F,i < H.next
theorem Step.below {H H':Heap} {F F':List Nat} (h:Step H H' F F') (hb:Below F H):Below F' H':=fun i hi=>by
 rcases h.own i hi with h1 | h1
 ·exact Nat.lt_of_lt_of_le (hb i h1) h.next
 ·exact h1.2
end Go.Ax
/- Ax22 -/
namespace Go.Ax
class Kn (α:Type) where
 k:α
def OkB {α β:Type} (x:M α) (H:Heap) [f:Kn (α → M β)] [Q:Kn (β → Heap → Prop)]:Prop:=Ok (x.bind f.k) H Q.k
def OkI {α:Type} (c:V) (H:Heap) [x:Kn (M α)] [y:Kn (M α)] [Q:Kn (α → Heap → Prop)]:Prop:=Ok (M.ite c x.k y.k) H Q.k
def OkS {α:Type} (x:M α) (H:Heap) [Q:Kn (α → Heap → Prop)]:Prop:=Ok x H Q.k
def StK {β:Type} (o:Option Blk) (size id off:Nat) (x:V) (H:Heap) [f:Kn (V → M β)] [Q:Kn (β → Heap → Prop)]:Prop :=
 match o with
 | none=>False
 | some b=>(x.cells.length = size ∧ off + size ≤ b.cells.length ∧ x.okc = true) ∧ Ok (f.k .undef) (H.set id (some ⟨b.ty,splice b.cells off x.cells,b.opn⟩)) Q.k
def SlK {β:Type} (o:Option (List V)) (ty:TypeId) (len:Nat) (H:Heap) [f:Kn (V → M β)] [Q:Kn (β → Heap → Prop)]:Prop :=
 match o with
 | none=>False
 | some cs=>Ok (f.k (.sl H.next 0 len (.fix len))) (H.new ⟨ty,cs,none⟩) Q.k
section
variable {α β:Type} {H:Heap}
theorem d_bind {x:M α} {f:α → M β} {Q:β → Heap → Prop}:Ok (x.bind f) H Q = @OkB α β x H ⟨f⟩ ⟨Q⟩:=rfl
theorem d_ite {c:V} {x y:M α} {Q:α → Heap → Prop}:Ok (M.ite c x y) H Q = @OkI α c H ⟨x⟩ ⟨y⟩ ⟨Q⟩:=rfl
theorem d_iter {b:List V → M Res} {L:List V} {Q:Res → Heap → Prop}:Ok (M.iter b L) H Q = @OkS Res (M.iter b L) H ⟨Q⟩:=rfl
end
section
variable {α β γ:Type} {H:Heap}
theorem zoG {v:α} {Q:α → Heap → Prop}:Ok (M.pure v) H Q ↔ Q v H:=⟨fun ⟨w,H',h,hq⟩=>by simp only [M.pure,Option.some.injEq,Prod.mk.injEq] at h; obtain ⟨rfl,rfl⟩:=h; exact hq,zgd⟩
theorem zkx {x:M α} {f:α → M β} {Q:β → Heap → Prop}:Ok (x.bind f) H Q ↔ Ok x H fun v H1=>Ok (f v) H1 Q:=by
 refine ⟨fun ⟨v,H',h,hq⟩=>?_,zam⟩;simp only [M.bind,Option.bind_eq_some_iff] at h;obtain ⟨⟨w,H1⟩,h1,h2⟩:=h;exact ⟨w,H1,h1,v,H',h2,hq⟩
theorem zmm {v:α} {f:α → M β} {Q:β → Heap → Prop}:Ok ((M.pure v).bind f) H Q ↔ Ok (f v) H Q:=Iff.rfl
theorem okb_lift {v:α} {f:α → M β} {Q:β → Heap → Prop}:Ok ((M.lift (some v)).bind f) H Q ↔ Ok (f v) H Q:=Iff.rfl
theorem zrR {x:M α} {g:α → M β} {f:β → M γ} {Q:γ → Heap → Prop}:Ok ((x.bind g).bind f) H Q ↔ Ok (x.bind fun v=>(g v).bind f) H Q:=by rw [M.bind_assoc]
theorem okb_getH {f:Heap → M β} {Q:β → Heap → Prop}:Ok (M.getH.bind f) H Q ↔ Ok (f H) H Q:=Iff.rfl
theorem zny {id off:Nat} {h h':Heap} {f:Unit → M β} {Q:β → Heap → Prop}:Ok ((M.unch (.ptr id off) h h').bind f) H Q ↔ h'.get id = h.get id ∧ Ok (f ()) H Q:=by
 by_cases e:h'.get id = h.get id
 ·have hp:∀ i,(V.ptr id off).pid = some i → h'.get i = h.get i:=by intro i hi; simp only [V.pid,Option.some.injEq] at hi; subst hi; exact e
  have:M.unch (.ptr id off) h h' = M.pure ():=by funext H; unfold M.unch; rw [if_pos hp]; rfl
  rw [this,zmm]; simp [e]
 ·have hp:¬ ∀ i,(V.ptr id off).pid = some i → h'.get i = h.get i:=fun k=>e (k id rfl);constructor
  ·rintro ⟨v,H',h1,_⟩;simp only [M.bind,M.unch] at h1;rw [if_neg hp] at h1;cases h1
  ·intro k; exact absurd k.1 e
theorem zoE {cells:List V} {off:Nat} {h h':Heap} {f:Unit → M β} {Q:β → Heap → Prop}:Ok ((M.unch (.rp cells off) h h').bind f) H Q ↔ Ok (f ()) H Q:=by
 have:M.unch (.rp cells off) h h' = M.pure ():=by funext H; unfold M.unch; rw [if_pos (by intro id h; cases h)]; rfl
 rw [this,zmm]
theorem zoH {x:M Res} {k:List V → M Res} {Q:Res → Heap → Prop}:Ok (M.join x k) H Q ↔ Ok x H (Then k Q):=by
 refine ⟨fun ⟨r,H',h,hq⟩=>?_,ok_join⟩;simp only [M.join,M.bind,Option.bind_eq_some_iff] at h;obtain ⟨⟨w,H1⟩,h1,h2⟩:=h;refine ⟨w,H1,h1,?_⟩;cases w with
 | nrm L=>exact ⟨r,H',h2,hq⟩
 | ex id L=>simp only [M.pure,Option.some.injEq,Prod.mk.injEq] at h2; obtain ⟨rfl,rfl⟩:=h2; exact hq
 | ret L=>simp only [M.pure,Option.some.injEq,Prod.mk.injEq] at h2; obtain ⟨rfl,rfl⟩:=h2; exact hq
theorem then_nrm {k:List V → M Res} {Q:Res → Heap → Prop} {L:List V}:Then k Q (.nrm L) H = Ok (k L) H Q:=rfl
theorem then_ex {k:List V → M Res} {Q:Res → Heap → Prop} {id:Nat} {L:List V}:Then k Q (.ex id L) H = Q (.ex id L) H:=rfl
theorem then_ret {k:List V → M Res} {Q:Res → Heap → Prop} {L:List V}:Then k Q (.ret L) H = Q (.ret L) H:=rfl
theorem zqn {id:Nat} {x:M Res} {k:List V → M Res} {Q:Res → Heap → Prop}:Ok (M.blk id x k) H Q ↔ Ok x H (Out id k Q):=by
 refine ⟨fun ⟨r,H',h,hq⟩=>?_,zrU⟩;simp only [M.blk,M.bind,Option.bind_eq_some_iff] at h;obtain ⟨⟨w,H1⟩,h1,h2⟩:=h;refine ⟨w,H1,h1,?_⟩;cases w with
 | nrm L=>exact ⟨r,H',h2,hq⟩
 | ex i L =>
  simp only [Out];dsimp only at h2;by_cases e:i = id
  ·rw [if_pos e] at h2 ⊢; exact ⟨r,H',h2,hq⟩
  ·rw [if_neg e] at h2 ⊢;simp only [M.pure,Option.some.injEq,Prod.mk.injEq] at h2; obtain ⟨rfl,rfl⟩:=h2; exact hq
 | ret L=>simp only [M.pure,Option.some.injEq,Prod.mk.injEq] at h2; obtain ⟨rfl,rfl⟩:=h2; exact hq
theorem out_nrm {id:Nat} {k:List V → M Res} {Q:Res → Heap → Prop} {L:List V}:Out id k Q (.nrm L) H = Ok (k L) H Q:=rfl
theorem out_ret {id:Nat} {k:List V → M Res} {Q:Res → Heap → Prop} {L:List V}:Out id k Q (.ret L) H = Q (.ret L) H:=rfl
theorem out_same {id:Nat} {k:List V → M Res} {Q:Res → Heap → Prop} {L:List V}:Out id k Q (.ex id L) H = Ok (k L) H Q:=by simp only [Out,if_true]
theorem out_ne {id i:Nat} {k:List V → M Res} {Q:Res → Heap → Prop} {L:List V} (h:i ≠ id):Out id k Q (.ex i L) H = Q (.ex i L) H:=by
 simp only [Out]; rw [if_neg h]
theorem zqv {x:M V}:zcr [(0,.bool true)] (some (0,true)) x = x:=rfl
theorem zqy {x:M V}:zcr [(0,.bool false)] (some (0,false)) x = x:=rfl
theorem zqw {x:M V}:zcr [(0,.bool true)] (some (0,false)) x = M.pure .undef:=rfl
theorem zqx {x:M V}:zcr [(0,.bool false)] (some (0,true)) x = M.pure .undef:=rfl
theorem zsb {x:M V} {w:Bool}:zcr [(0,.undef)] (some (0,w)) x = M.pure .undef:=rfl
theorem pick_t {a b:V}:Ax.pick (.bool true) a b = some a:=rfl
theorem pick_f {a b:V}:Ax.pick (.bool false) a b = some b:=rfl
theorem zrM {c:Bool} {a:V}:Ax.pick (.bool c) a a = some a:=by cases c <;> rfl
/-! Memory. -/
theorem okb_load {n:Option Nat} {id off:Nat} {f:V → M β} {Q:β → Heap → Prop}:Ok ((zar n (.ptr id off)).bind f) H Q ↔ Ok ((M.lift ((H.get id).bind fun b=>ldc n b.cells off)).bind f) H Q:=by
 rw [zkx,zkx];have:∀ Q',Ok (zar n (.ptr id off)) H Q' ↔ Ok (M.lift ((H.get id).bind fun b=>ldc n b.cells off)) H Q':=by
  intro Q';unfold Ok;have e:zar n (.ptr id off) H = M.lift ((H.get id).bind fun b=>ldc n b.cells off) H:=by
   simp only [zar,M.lift];cases H.get id with
   | none=>rfl
   | some b=>rfl
  rw [e]
 exact this _
theorem zrQ {n:Option Nat} {cells:List V} {off:Nat} {f:V → M β} {Q:β → Heap → Prop}:Ok ((zar n (.rp cells off)).bind f) H Q ↔ Ok ((M.lift (ldc n cells off)).bind f) H Q:=Iff.rfl
theorem zrP {size id off:Nat} {x:V} {f:V → M β} {Q:β → Heap → Prop}:Ok ((zco size (.ptr id off) x).bind f) H Q ↔ @StK β (H.get id) size id off x H ⟨f⟩ ⟨Q⟩:=by
 unfold StK;cases hb:H.get id with
 | none =>
  constructor
  ·rintro ⟨v,H',h,_⟩;simp only [M.bind,zco,hb,Option.bind_none] at h;cases h
  ·intro h; exact h.elim
 | some b =>
  by_cases hc:x.cells.length = size ∧ off + size ≤ b.cells.length ∧ x.okc = true
  ·have e:zco size (.ptr id off) x H = some (.undef,H.set id (some ⟨b.ty,splice b.cells off x.cells,b.opn⟩)):=by
    simp only [zco,hb,Option.bind_some]; rw [if_pos hc]
   constructor
   ·rintro ⟨v,H',h,hq⟩;simp only [M.bind,e,Option.bind_some] at h;exact ⟨hc,v,H',h,hq⟩
   ·rintro ⟨_,v,H',h,hq⟩;exact ⟨v,H',by simp only [M.bind,e,Option.bind_some]; exact h,hq⟩
  ·constructor
   ·rintro ⟨v,H',h,hq⟩;simp only [M.bind,zco,hb,Option.bind_some,if_neg hc] at h;cases h
   ·rintro ⟨k,_⟩; exact absurd k hc
theorem stk_some {size id off:Nat} {x:V} {f:V → M β} {Q:β → Heap → Prop} {ty:TypeId} {cells:List V} {o:Option Nat} :
  @StK β (some ⟨ty,cells,o⟩) size id off x H ⟨f⟩ ⟨Q⟩ ↔ (x.cells.length = size ∧ off + size ≤ cells.length ∧ x.okc = true) ∧ Ok (f .undef) (H.set id (some ⟨ty,splice cells off x.cells,o⟩)) Q:=Iff.rfl
theorem okb_box {ty:TypeId} {x:V} {f:V → M β} {Q:β → Heap → Prop}:Ok ((mbox ty x).bind f) H Q ↔ x.okc = true ∧ Ok (f (.ptr H.next 0)) (H.new ⟨ty,x.cells,none⟩) Q:=by
 by_cases hc:x.okc = true
 ·have e:mbox ty x H = some (.ptr H.next 0,H.new ⟨ty,x.cells,none⟩):=by simp only [mbox]; rw [if_pos hc]
  constructor
  ·rintro ⟨v,H',h,hq⟩;simp only [M.bind,e,Option.bind_some] at h;exact ⟨hc,v,H',h,hq⟩
  ·rintro ⟨_,v,H',h,hq⟩;exact ⟨v,H',by simp only [M.bind,e,Option.bind_some]; exact h,hq⟩
 ·constructor
  ·rintro ⟨v,H',h,hq⟩;simp only [M.bind,mbox,if_neg hc,Option.bind_none] at h;cases h
  ·rintro ⟨k,_⟩; exact absurd k hc
theorem okb_slit {ty:TypeId} {len:Nat} {zero:List V} {parts:List (Nat × Nat × V)} {f:V → M β} {Q:β → Heap → Prop} :
  Ok ((zbQ ty len zero parts).bind f) H Q ↔ ∃ cs,fill (zeros zero len) parts = some cs ∧ Ok (f (.sl H.next 0 len (.fix len))) (H.new ⟨ty,cs,none⟩) Q:=by
 cases hc:fill (zeros zero len) parts with
 | none =>
  constructor
  ·rintro ⟨v,H',h,hq⟩;simp only [M.bind,zbQ,hc,Option.map_none,Option.bind_none] at h;cases h
  ·rintro ⟨cs,h,_⟩; cases h
 | some cs =>
  have e:zbQ ty len zero parts H = some (.sl H.next 0 len (.fix len),H.new ⟨ty,cs,none⟩):=by simp only [zbQ,hc,Option.map_some]
  constructor
  ·rintro ⟨v,H',h,hq⟩;simp only [M.bind,e,Option.bind_some] at h;exact ⟨cs,rfl,v,H',h,hq⟩
  ·rintro ⟨_,h0,v,H',h,hq⟩;cases h0;exact ⟨v,H',by simp only [M.bind,e,Option.bind_some]; exact h,hq⟩
end
/-! Heaps. -/
theorem zsd (H:Heap) {id:Nat} (b:Option Blk):(H.set id b).get id = b:=zak H id b
theorem zse (H:Heap) {id i:Nat} (b:Option Blk) (h:i ≠ id):(H.set id b).get i = H.get i:=zat H b h
theorem zsf (H:Heap) (b:Blk):(H.new b).get H.next = some b:=zad H b
theorem nx_new (H:Heap) (b:Blk):(H.new b).next = H.next + 1:=by simp [Heap.new]
theorem nx_set (H:Heap) (id:Nat) (b:Option Blk):(H.set id b).next = H.next:=by simp [Heap.set]
theorem zsh (H:Heap) {i:Nat} (b:Blk) (h:i = H.next):(H.new b).get i = some b:=by subst h; exact zad H b
theorem zsg (H:Heap) {i:Nat} (b:Blk) (h:i ≠ H.next):(H.new b).get i = H.get i:=zaG H b h
/-! Operations on numbers. -/
section
variable {k k':IntKind} {a b:Int}
theorem bin_add:Ax.bin .add (.int k a) (.int k b) = some (.int k (k.wrap (a + b))):=by simp [Ax.bin,zeh]
theorem bin_sub:Ax.bin .sub (.int k a) (.int k b) = some (.int k (k.wrap (a - b))):=by simp [Ax.bin,zeh]
theorem bin_mul:Ax.bin .mul (.int k a) (.int k b) = some (.int k (k.wrap (a * b))):=by simp [Ax.bin,zeh]
theorem bin_quo (hb:b ≠ 0):Ax.bin .quo (.int k a) (.int k b) = some (.int k (k.wrap (a.tdiv b))):=by simp [Ax.bin,zeh,hb]
theorem bin_rem (hb:b ≠ 0):Ax.bin .rem (.int k a) (.int k b) = some (.int k (a.tmod b)):=by simp [Ax.bin,zeh,hb]
theorem zlf:Ax.bin .and (.int k a) (.int k b) = some (.int k (Go.bits .and k a b)):=by simp [Ax.bin,zeh]
theorem zon:Ax.bin .or (.int k a) (.int k b) = some (.int k (Go.bits .or k a b)):=by simp [Ax.bin,zeh]
theorem zm5:Ax.bin .xor (.int k a) (.int k b) = some (.int k (Go.bits .xor k a b)):=by simp [Ax.bin,zeh]
theorem zdx:Ax.bin .andNot (.int k a) (.int k b) = some (.int k (Go.bits .andNot k a b)):=by simp [Ax.bin,zeh]
theorem bin_eql:Ax.bin .eql (.int k a) (.int k b) = some (.bool (a == b)):=by simp [Ax.bin,zeh]
theorem bin_neq:Ax.bin .neq (.int k a) (.int k b) = some (.bool (!(a == b))):=by simp [Ax.bin,zeh]; rfl
theorem bin_lss:Ax.bin .lss (.int k a) (.int k b) = some (.bool (decide (a < b))):=by simp [Ax.bin,zeh]
theorem bin_leq:Ax.bin .leq (.int k a) (.int k b) = some (.bool (decide (a ≤ b))):=by simp [Ax.bin,zeh]
theorem bin_gtr:Ax.bin .gtr (.int k a) (.int k b) = some (.bool (decide (b < a))):=by simp [Ax.bin,zeh]
theorem bin_geq:Ax.bin .geq (.int k a) (.int k b) = some (.bool (decide (b ≤ a))):=by simp [Ax.bin,zeh]
theorem zle (hb:0 ≤ b):Ax.bin .shr (.int k a) (.int k' b) = some (.int k (a.fdiv (2 ^ min b.toNat k.bits))):=by simp only [Ax.bin]; rw [if_neg (by omega)]
theorem zh3 (hb:0 ≤ b):Ax.bin .shl (.int k a) (.int k' b) = some (.int k (k.wrap (a * 2 ^ min b.toNat k.bits))):=by simp only [Ax.bin]; rw [if_neg (by omega)]
theorem bin_seql {s t:ByteArray}:Ax.bin .eql (.str s) (.str t) = some (.bool (s.toList == t.toList)):=rfl
theorem bin_sneq {s t:ByteArray}:Ax.bin .neq (.str s) (.str t) = some (.bool (!(s.toList == t.toList))):=rfl
theorem un_not {c:Bool}:Ax.un .not (.bool c) = some (.bool !c):=rfl
theorem un_neg:Ax.un .neg (.int k a) = some (.int k (k.wrap (0 - a))):=rfl
theorem zpR:Ax.cint k' (.int k a) = some (.int k' (k'.wrap a)):=rfl
theorem zrY {id off:Nat}:Ax.nilck (.ptr id off) = some (.ptr id off):=rfl
theorem nilck_rp {c:List V} {off:Nat}:Ax.nilck (.rp c off) = some (.rp c off):=rfl
theorem nilck_fn {f:FuncId} {c:List V}:Ax.nilck (.fn f c) = some (.fn f c):=rfl
theorem nilck_sl {id off len:Nat} {c:Cap}:Ax.nilck (.sl id off len c) = some (.sl id off len c):=rfl
theorem zsy {o id off:Nat}:Ax.faddr o (.ptr id off) = some (.ptr id (off + o)):=rfl
theorem faddr_rp {o off:Nat} {c:List V}:Ax.faddr o (.rp c off) = some (.rp c (off + o)):=rfl
theorem zrl:vlen .nils = some (.int .i64 0):=rfl
theorem vlen_sl {id off len:Nat} {c:Cap}:vlen (.sl id off len c) = some (.int .i64 (len:Int)):=rfl
theorem vlen_rs {cells:List V} {len:Nat}:vlen (.rs cells len) = some (.int .i64 (len:Int)):=rfl
theorem slen_str {s:ByteArray}:Ax.slen (.str s) = some (.int .i64 (s.size:Int)):=rfl
theorem ext_tup {i:Nat} {vs:List V}:Ax.ext i (.tup vs) = vs[i]?:=rfl
theorem zsw {o:Nat} {n:Option Nat} {cs:List V}:Ax.field o n (.agg cs) = ldc n cs o:=rfl
theorem zgm {e id off len:Nat} {c:Cap} {i:Int} (h0:0 ≤ i) (h1:i < len):Ax.iaddr none e (.sl id off len c) (.int k i) = some (.ptr id (off + i.toNat * e)):=by simp only [Ax.iaddr]; rw [if_pos ⟨h0,h1⟩]
theorem zmI {e len:Nat} {cells:List V} {i:Int} (h0:0 ≤ i) (h1:i < len):Ax.iaddr none e (.rs cells len) (.int k i) = some (.rp cells (i.toNat * e)):=by simp only [Ax.iaddr]; rw [if_pos ⟨h0,h1⟩]
theorem iaddr_ap {n e id off:Nat} {i:Int} (h0:0 ≤ i) (h1:i < n):Ax.iaddr (some n) e (.ptr id off) (.int k i) = some (.ptr id (off + i.toNat * e)):=by simp only [Ax.iaddr]; rw [if_pos ⟨h0,h1⟩]
theorem zsa {n e off:Nat} {cells:List V} {i:Int} (h0:0 ≤ i) (h1:i < n):Ax.iaddr (some n) e (.rp cells off) (.int k i) = some (.rp cells (off + i.toNat * e)):=by simp only [Ax.iaddr]; rw [if_pos ⟨h0,h1⟩]
theorem zr9 {len e:Nat} {n:Option Nat} {cs:List V} {i:Int} (h0:0 ≤ i) (h1:i < len):Ax.index len e n (.agg cs) (.int k i) = ldc n cs (i.toNat * e):=by simp only [Ax.index]; rw [if_pos ⟨h0,h1⟩]
theorem eqr_nilp {n:Bool}:eqr .ptr n .nilp .nilp = some (.bool (if n then false else true)):=by cases n <;> rfl
theorem eqr_ptr {n:Bool} {id off:Nat}:eqr .ptr n (.ptr id off) .nilp = some (.bool (if n then true else false)):=by cases n <;> rfl
theorem eqr_rp {n:Bool} {c:List V} {off:Nat}:eqr .ptr n (.rp c off) .nilp = some (.bool (if n then true else false)):=by cases n <;> rfl
theorem eqr_nils {n:Bool}:eqr .sl n .nils .nils = some (.bool (if n then false else true)):=by cases n <;> rfl
theorem eqr_sl {n:Bool} {id off len:Nat} {c:Cap}:eqr .sl n (.sl id off len c) .nils = some (.bool (if n then true else false)):=by cases n <;> rfl
theorem eqr_rs {n:Bool} {cs:List V} {len:Nat}:eqr .sl n (.rs cs len) .nils = some (.bool (if n then true else false)):=by cases n <;> rfl
theorem eqr_bool {n a b:Bool}:eqr .bool n (.bool a) (.bool b) = some (.bool (if n then !(a == b) else a == b)):=by cases n <;> rfl
theorem ldc_none {cs:List V} {o:Nat}:ldc none cs o = cs[o]?:=rfl
theorem ldc_some {cs:List V} {n o:Nat} (h:o + n ≤ cs.length):ldc (some n) cs o = some (.agg ((cs.drop o).take n)):=by simp only [ldc]; rw [if_pos h]
theorem min2_min {a b:Int}:min2 false (.int k a) (.int k b) = some (.int k (min a b)):=by simp only [min2]; congr 2; simp; omega
theorem min2_max {a b:Int}:min2 true (.int k a) (.int k b) = some (.int k (max a b)):=by simp only [min2]; congr 2; simp; omega
theorem dec_lt_t {a b:Int} (h:a < b):decide (a < b) = true:=decide_eq_true h
theorem dec_lt_f {a b:Int} (h:b ≤ a):decide (a < b) = false:=decide_eq_false (by omega)
theorem dec_le_t {a b:Int} (h:a ≤ b):decide (a ≤ b) = true:=decide_eq_true h
theorem dec_le_f {a b:Int} (h:b < a):decide (a ≤ b) = false:=decide_eq_false (by omega)
theorem beq_t {a b:Int} (h:a = b):(a == b) = true:=by simp [h]
theorem beq_f {a b:Int} (h:a ≠ b):(a == b) = false:=by simp [h]
end
def shr (a b:Nat):Nat:=a >>> b
def shl (a b:Nat):Nat:=a <<< b
theorem zmj (a b:Nat):shr a b = a >>> b:=rfl
theorem shr_1 (a:Nat):shr a 1 = a / 2:=Nat.shiftRight_eq_div_pow a 1
theorem shl_1 (a:Nat):shl a 1 = a * 2:=Nat.shiftLeft_eq a 1
theorem shr_2 (a:Nat):shr a 2 = a / 4:=Nat.shiftRight_eq_div_pow a 2
theorem shl_2 (a:Nat):shl a 2 = a * 4:=Nat.shiftLeft_eq a 2
theorem shr_3 (a:Nat):shr a 3 = a / 8:=Nat.shiftRight_eq_div_pow a 3
theorem shl_3 (a:Nat):shl a 3 = a * 8:=Nat.shiftLeft_eq a 3
theorem shr_4 (a:Nat):shr a 4 = a / 16:=Nat.shiftRight_eq_div_pow a 4
theorem shl_4 (a:Nat):shl a 4 = a * 16:=Nat.shiftLeft_eq a 4
theorem shr_5 (a:Nat):shr a 5 = a / 32:=Nat.shiftRight_eq_div_pow a 5
theorem shl_5 (a:Nat):shl a 5 = a * 32:=Nat.shiftLeft_eq a 5
theorem shr_6 (a:Nat):shr a 6 = a / 64:=Nat.shiftRight_eq_div_pow a 6
theorem shl_6 (a:Nat):shl a 6 = a * 64:=Nat.shiftLeft_eq a 6
theorem shr_7 (a:Nat):shr a 7 = a / 128:=Nat.shiftRight_eq_div_pow a 7
theorem shl_7 (a:Nat):shl a 7 = a * 128:=Nat.shiftLeft_eq a 7
theorem shr_8 (a:Nat):shr a 8 = a / 256:=Nat.shiftRight_eq_div_pow a 8
theorem shl_8 (a:Nat):shl a 8 = a * 256:=Nat.shiftLeft_eq a 8
theorem shr_9 (a:Nat):shr a 9 = a / 512:=Nat.shiftRight_eq_div_pow a 9
theorem shl_9 (a:Nat):shl a 9 = a * 512:=Nat.shiftLeft_eq a 9
theorem shr_10 (a:Nat):shr a 10 = a / 1024:=Nat.shiftRight_eq_div_pow a 10
theorem shl_10 (a:Nat):shl a 10 = a * 1024:=Nat.shiftLeft_eq a 10
theorem shr_11 (a:Nat):shr a 11 = a / 2048:=Nat.shiftRight_eq_div_pow a 11
theorem shl_11 (a:Nat):shl a 11 = a * 2048:=Nat.shiftLeft_eq a 11
theorem shr_12 (a:Nat):shr a 12 = a / 4096:=Nat.shiftRight_eq_div_pow a 12
theorem shl_12 (a:Nat):shl a 12 = a * 4096:=Nat.shiftLeft_eq a 12
theorem shr_13 (a:Nat):shr a 13 = a / 8192:=Nat.shiftRight_eq_div_pow a 13
theorem shl_13 (a:Nat):shl a 13 = a * 8192:=Nat.shiftLeft_eq a 13
theorem shr_14 (a:Nat):shr a 14 = a / 16384:=Nat.shiftRight_eq_div_pow a 14
theorem shl_14 (a:Nat):shl a 14 = a * 16384:=Nat.shiftLeft_eq a 14
theorem shr_15 (a:Nat):shr a 15 = a / 32768:=Nat.shiftRight_eq_div_pow a 15
theorem shl_15 (a:Nat):shl a 15 = a * 32768:=Nat.shiftLeft_eq a 15
theorem shr_16 (a:Nat):shr a 16 = a / 65536:=Nat.shiftRight_eq_div_pow a 16
theorem shl_16 (a:Nat):shl a 16 = a * 65536:=Nat.shiftLeft_eq a 16
theorem shr_17 (a:Nat):shr a 17 = a / 131072:=Nat.shiftRight_eq_div_pow a 17
theorem shl_17 (a:Nat):shl a 17 = a * 131072:=Nat.shiftLeft_eq a 17
theorem zrx (a:Nat):shr a 18 = a / 262144:=Nat.shiftRight_eq_div_pow a 18
theorem shl_18 (a:Nat):shl a 18 = a * 262144:=Nat.shiftLeft_eq a 18
theorem shr_19 (a:Nat):shr a 19 = a / 524288:=Nat.shiftRight_eq_div_pow a 19
theorem shl_19 (a:Nat):shl a 19 = a * 524288:=Nat.shiftLeft_eq a 19
theorem shr_20 (a:Nat):shr a 20 = a / 1048576:=Nat.shiftRight_eq_div_pow a 20
theorem shl_20 (a:Nat):shl a 20 = a * 1048576:=Nat.shiftLeft_eq a 20
theorem shr_21 (a:Nat):shr a 21 = a / 2097152:=Nat.shiftRight_eq_div_pow a 21
theorem shl_21 (a:Nat):shl a 21 = a * 2097152:=Nat.shiftLeft_eq a 21
theorem shr_22 (a:Nat):shr a 22 = a / 4194304:=Nat.shiftRight_eq_div_pow a 22
theorem shl_22 (a:Nat):shl a 22 = a * 4194304:=Nat.shiftLeft_eq a 22
theorem shr_23 (a:Nat):shr a 23 = a / 8388608:=Nat.shiftRight_eq_div_pow a 23
theorem shl_23 (a:Nat):shl a 23 = a * 8388608:=Nat.shiftLeft_eq a 23
theorem shr_24 (a:Nat):shr a 24 = a / 16777216:=Nat.shiftRight_eq_div_pow a 24
theorem shl_24 (a:Nat):shl a 24 = a * 16777216:=Nat.shiftLeft_eq a 24
theorem shr_25 (a:Nat):shr a 25 = a / 33554432:=Nat.shiftRight_eq_div_pow a 25
theorem shl_25 (a:Nat):shl a 25 = a * 33554432:=Nat.shiftLeft_eq a 25
theorem shr_26 (a:Nat):shr a 26 = a / 67108864:=Nat.shiftRight_eq_div_pow a 26
theorem shl_26 (a:Nat):shl a 26 = a * 67108864:=Nat.shiftLeft_eq a 26
theorem shr_27 (a:Nat):shr a 27 = a / 134217728:=Nat.shiftRight_eq_div_pow a 27
theorem shl_27 (a:Nat):shl a 27 = a * 134217728:=Nat.shiftLeft_eq a 27
theorem shr_28 (a:Nat):shr a 28 = a / 268435456:=Nat.shiftRight_eq_div_pow a 28
theorem shl_28 (a:Nat):shl a 28 = a * 268435456:=Nat.shiftLeft_eq a 28
theorem shr_29 (a:Nat):shr a 29 = a / 536870912:=Nat.shiftRight_eq_div_pow a 29
theorem shl_29 (a:Nat):shl a 29 = a * 536870912:=Nat.shiftLeft_eq a 29
theorem shr_30 (a:Nat):shr a 30 = a / 1073741824:=Nat.shiftRight_eq_div_pow a 30
theorem shl_30 (a:Nat):shl a 30 = a * 1073741824:=Nat.shiftLeft_eq a 30
theorem shr_31 (a:Nat):shr a 31 = a / 2147483648:=Nat.shiftRight_eq_div_pow a 31
theorem shl_31 (a:Nat):shl a 31 = a * 2147483648:=Nat.shiftLeft_eq a 31
theorem shr_32 (a:Nat):shr a 32 = a / 4294967296:=Nat.shiftRight_eq_div_pow a 32
theorem shl_32 (a:Nat):shl a 32 = a * 4294967296:=Nat.shiftLeft_eq a 32
theorem shr_33 (a:Nat):shr a 33 = a / 8589934592:=Nat.shiftRight_eq_div_pow a 33
theorem shl_33 (a:Nat):shl a 33 = a * 8589934592:=Nat.shiftLeft_eq a 33
theorem shr_34 (a:Nat):shr a 34 = a / 17179869184:=Nat.shiftRight_eq_div_pow a 34
theorem shl_34 (a:Nat):shl a 34 = a * 17179869184:=Nat.shiftLeft_eq a 34
theorem shr_35 (a:Nat):shr a 35 = a / 34359738368:=Nat.shiftRight_eq_div_pow a 35
theorem shl_35 (a:Nat):shl a 35 = a * 34359738368:=Nat.shiftLeft_eq a 35
theorem shr_36 (a:Nat):shr a 36 = a / 68719476736:=Nat.shiftRight_eq_div_pow a 36
theorem shl_36 (a:Nat):shl a 36 = a * 68719476736:=Nat.shiftLeft_eq a 36
theorem shr_37 (a:Nat):shr a 37 = a / 137438953472:=Nat.shiftRight_eq_div_pow a 37
theorem shl_37 (a:Nat):shl a 37 = a * 137438953472:=Nat.shiftLeft_eq a 37
theorem shr_38 (a:Nat):shr a 38 = a / 274877906944:=Nat.shiftRight_eq_div_pow a 38
theorem shl_38 (a:Nat):shl a 38 = a * 274877906944:=Nat.shiftLeft_eq a 38
theorem shr_39 (a:Nat):shr a 39 = a / 549755813888:=Nat.shiftRight_eq_div_pow a 39
theorem shl_39 (a:Nat):shl a 39 = a * 549755813888:=Nat.shiftLeft_eq a 39
theorem shr_40 (a:Nat):shr a 40 = a / 1099511627776:=Nat.shiftRight_eq_div_pow a 40
theorem shl_40 (a:Nat):shl a 40 = a * 1099511627776:=Nat.shiftLeft_eq a 40
theorem shr_41 (a:Nat):shr a 41 = a / 2199023255552:=Nat.shiftRight_eq_div_pow a 41
theorem shl_41 (a:Nat):shl a 41 = a * 2199023255552:=Nat.shiftLeft_eq a 41
theorem shr_42 (a:Nat):shr a 42 = a / 4398046511104:=Nat.shiftRight_eq_div_pow a 42
theorem shl_42 (a:Nat):shl a 42 = a * 4398046511104:=Nat.shiftLeft_eq a 42
theorem shr_43 (a:Nat):shr a 43 = a / 8796093022208:=Nat.shiftRight_eq_div_pow a 43
theorem shl_43 (a:Nat):shl a 43 = a * 8796093022208:=Nat.shiftLeft_eq a 43
theorem shr_44 (a:Nat):shr a 44 = a / 17592186044416:=Nat.shiftRight_eq_div_pow a 44
theorem shl_44 (a:Nat):shl a 44 = a * 17592186044416:=Nat.shiftLeft_eq a 44
theorem shr_45 (a:Nat):shr a 45 = a / 35184372088832:=Nat.shiftRight_eq_div_pow a 45
theorem shl_45 (a:Nat):shl a 45 = a * 35184372088832:=Nat.shiftLeft_eq a 45
theorem shr_46 (a:Nat):shr a 46 = a / 70368744177664:=Nat.shiftRight_eq_div_pow a 46
theorem shl_46 (a:Nat):shl a 46 = a * 70368744177664:=Nat.shiftLeft_eq a 46
theorem shr_47 (a:Nat):shr a 47 = a / 140737488355328:=Nat.shiftRight_eq_div_pow a 47
theorem shl_47 (a:Nat):shl a 47 = a * 140737488355328:=Nat.shiftLeft_eq a 47
theorem shr_48 (a:Nat):shr a 48 = a / 281474976710656:=Nat.shiftRight_eq_div_pow a 48
theorem shl_48 (a:Nat):shl a 48 = a * 281474976710656:=Nat.shiftLeft_eq a 48
theorem shr_49 (a:Nat):shr a 49 = a / 562949953421312:=Nat.shiftRight_eq_div_pow a 49
theorem shl_49 (a:Nat):shl a 49 = a * 562949953421312:=Nat.shiftLeft_eq a 49
theorem shr_50 (a:Nat):shr a 50 = a / 1125899906842624:=Nat.shiftRight_eq_div_pow a 50
theorem shl_50 (a:Nat):shl a 50 = a * 1125899906842624:=Nat.shiftLeft_eq a 50
theorem shr_51 (a:Nat):shr a 51 = a / 2251799813685248:=Nat.shiftRight_eq_div_pow a 51
theorem shl_51 (a:Nat):shl a 51 = a * 2251799813685248:=Nat.shiftLeft_eq a 51
theorem shr_52 (a:Nat):shr a 52 = a / 4503599627370496:=Nat.shiftRight_eq_div_pow a 52
theorem shl_52 (a:Nat):shl a 52 = a * 4503599627370496:=Nat.shiftLeft_eq a 52
theorem shr_53 (a:Nat):shr a 53 = a / 9007199254740992:=Nat.shiftRight_eq_div_pow a 53
theorem shl_53 (a:Nat):shl a 53 = a * 9007199254740992:=Nat.shiftLeft_eq a 53
theorem shr_54 (a:Nat):shr a 54 = a / 18014398509481984:=Nat.shiftRight_eq_div_pow a 54
theorem shl_54 (a:Nat):shl a 54 = a * 18014398509481984:=Nat.shiftLeft_eq a 54
theorem shr_55 (a:Nat):shr a 55 = a / 36028797018963968:=Nat.shiftRight_eq_div_pow a 55
theorem shl_55 (a:Nat):shl a 55 = a * 36028797018963968:=Nat.shiftLeft_eq a 55
theorem shr_56 (a:Nat):shr a 56 = a / 72057594037927936:=Nat.shiftRight_eq_div_pow a 56
theorem shl_56 (a:Nat):shl a 56 = a * 72057594037927936:=Nat.shiftLeft_eq a 56
theorem shr_57 (a:Nat):shr a 57 = a / 144115188075855872:=Nat.shiftRight_eq_div_pow a 57
theorem shl_57 (a:Nat):shl a 57 = a * 144115188075855872:=Nat.shiftLeft_eq a 57
theorem shr_58 (a:Nat):shr a 58 = a / 288230376151711744:=Nat.shiftRight_eq_div_pow a 58
theorem shl_58 (a:Nat):shl a 58 = a * 288230376151711744:=Nat.shiftLeft_eq a 58
theorem shr_59 (a:Nat):shr a 59 = a / 576460752303423488:=Nat.shiftRight_eq_div_pow a 59
theorem shl_59 (a:Nat):shl a 59 = a * 576460752303423488:=Nat.shiftLeft_eq a 59
theorem shr_60 (a:Nat):shr a 60 = a / 1152921504606846976:=Nat.shiftRight_eq_div_pow a 60
theorem shl_60 (a:Nat):shl a 60 = a * 1152921504606846976:=Nat.shiftLeft_eq a 60
theorem shr_61 (a:Nat):shr a 61 = a / 2305843009213693952:=Nat.shiftRight_eq_div_pow a 61
theorem shl_61 (a:Nat):shl a 61 = a * 2305843009213693952:=Nat.shiftLeft_eq a 61
theorem shr_62 (a:Nat):shr a 62 = a / 4611686018427387904:=Nat.shiftRight_eq_div_pow a 62
theorem shl_62 (a:Nat):shl a 62 = a * 4611686018427387904:=Nat.shiftLeft_eq a 62
theorem shr_63 (a:Nat):shr a 63 = a / 9223372036854775808:=Nat.shiftRight_eq_div_pow a 63
theorem shl_63 (a:Nat):shl a 63 = a * 9223372036854775808:=Nat.shiftLeft_eq a 63
theorem shr_0 (a:Nat):shr a 0 = a:=rfl
theorem shl_0 (a:Nat):shl a 0 = a:=rfl
theorem ziC (a:Int) (w n:Nat) (h0:0 ≤ a) (h1:a.toNat < 2 ^ w):a.fdiv (2 ^ min n w) = ((a.toNat >>> n:Nat):Int):=by
 obtain ⟨m,rfl⟩:=Int.eq_ofNat_of_zero_le h0;simp only [Int.toNat_natCast] at h1 ⊢;rw [Int.fdiv_eq_ediv_of_nonneg _ (Int.pow_nonneg (by decide)),Nat.shiftRight_eq_div_pow];have e:((2:Int) ^ min n w) = ((2 ^ min n w:Nat):Int):=by rw [Int.natCast_pow]; rfl
 rw [e,← Int.natCast_ediv];congr 1;by_cases h:n ≤ w
 ·rw [Nat.min_eq_left h]
 ·rw [Nat.min_eq_right (by omega),Nat.div_eq_of_lt h1,Nat.div_eq_of_lt (Nat.lt_of_lt_of_le h1 (Nat.pow_le_pow_right (by decide) (by omega)))]
theorem zki (a:Int) (w n:Nat) (h0:0 ≤ a):(a * 2 ^ min n w) % ((2 ^ w:Nat):Int) = (((a.toNat <<< n) % 2 ^ w:Nat):Int):=by
 obtain ⟨m,rfl⟩:=Int.eq_ofNat_of_zero_le h0;simp only [Int.toNat_natCast];have e:((2:Int) ^ min n w) = ((2 ^ min n w:Nat):Int):=by rw [Int.natCast_pow]; rfl
 rw [e,← Int.natCast_mul,← Int.natCast_emod,Nat.shiftLeft_eq];congr 1;by_cases h:n ≤ w
 ·rw [Nat.min_eq_left h]
 ·rw [Nat.min_eq_right (by omega),Nat.mul_mod_left];obtain ⟨d,rfl⟩:∃ d,n = w + d:=⟨n - w,by omega⟩;rw [Nat.pow_add,← Nat.mul_assoc,Nat.mul_right_comm,Nat.mul_mod_left]
theorem zda (w:Nat) (a:Int) (h:0 ≤ a):BitVec.ofInt w a = BitVec.ofNat w a.toNat:=by
 obtain ⟨m,rfl⟩:=Int.eq_ofNat_of_zero_le h;simp
section
variable {a b:Int} {k':IntKind}
theorem wrap_u8 (n:Int):IntKind.u8.wrap n = n % 256:=by simp [IntKind.wrap,IntKind.bits,IntKind.signed]
theorem zrk {n:Int} (h0:0 ≤ n) (h1:n < 256):IntKind.u8.wrap n = n:=by rw [wrap_u8]; omega
theorem shr_u8 (h0:0 ≤ a) (h1:a < 256) (hb:0 ≤ b):Ax.bin .shr (.int .u8 a) (.int k' b) = some (.int .u8 ((shr a.toNat b.toNat:Nat):Int)):=by
 rw [zle hb]; simp only [IntKind.bits]; rw [ziC a 8 _ h0 (by omega)]; rfl
theorem shl_u8 (h0:0 ≤ a) (hb:0 ≤ b):Ax.bin .shl (.int .u8 a) (.int k' b) = some (.int .u8 ((shl a.toNat b.toNat % 256:Nat):Int)):=by
 rw [zh3 hb]; simp only [IntKind.bits];have:=zki a 8 b.toNat h0;rw [wrap_u8];congr 2
theorem zm4 (op:BinOp) (h0:0 ≤ a) (h1:a < 256) (g0:0 ≤ b) (g1:b < 256):Go.bits op .u8 a b = ((match op with | .and=>BitVec.ofNat 8 a.toNat &&& BitVec.ofNat 8 b.toNat | .or=>BitVec.ofNat 8 a.toNat ||| BitVec.ofNat 8 b.toNat | .xor=>BitVec.ofNat 8 a.toNat ^^^ BitVec.ofNat 8 b.toNat | _=>BitVec.ofNat 8 a.toNat &&& ~~~BitVec.ofNat 8 b.toNat).toNat:Int):=by
 unfold Go.bits;simp only [IntKind.bits];rw [zda _ a h0,zda _ b g0,wrap_u8];apply Int.emod_eq_of_lt
 ·omega
 ·have:=(match op with | .and=>BitVec.ofNat 8 a.toNat &&& BitVec.ofNat 8 b.toNat | .or=>BitVec.ofNat 8 a.toNat ||| BitVec.ofNat 8 b.toNat | .xor=>BitVec.ofNat 8 a.toNat ^^^ BitVec.ofNat 8 b.toNat | _=>BitVec.ofNat 8 a.toNat &&& ~~~BitVec.ofNat 8 b.toNat).isLt;omega
theorem and_u8 (h0:0 ≤ a) (h1:a < 256) (g0:0 ≤ b) (g1:b < 256):Ax.bin .and (.int .u8 a) (.int .u8 b) = some (.int .u8 ((a.toNat &&& b.toNat:Nat):Int)):=by
 rw [zlf,zm4 _ h0 h1 g0 g1];simp only [BitVec.toNat_and,BitVec.toNat_ofNat];rw [Nat.mod_eq_of_lt (show a.toNat < 2 ^ 8 by omega),Nat.mod_eq_of_lt (show b.toNat < 2 ^ 8 by omega)]
theorem or_u8 (h0:0 ≤ a) (h1:a < 256) (g0:0 ≤ b) (g1:b < 256):Ax.bin .or (.int .u8 a) (.int .u8 b) = some (.int .u8 ((a.toNat ||| b.toNat:Nat):Int)):=by
 rw [zon,zm4 _ h0 h1 g0 g1];simp only [BitVec.toNat_or,BitVec.toNat_ofNat];rw [Nat.mod_eq_of_lt (show a.toNat < 2 ^ 8 by omega),Nat.mod_eq_of_lt (show b.toNat < 2 ^ 8 by omega)]
theorem xor_u8 (h0:0 ≤ a) (h1:a < 256) (g0:0 ≤ b) (g1:b < 256):Ax.bin .xor (.int .u8 a) (.int .u8 b) = some (.int .u8 ((a.toNat ^^^ b.toNat:Nat):Int)):=by
 rw [zm5,zm4 _ h0 h1 g0 g1];simp only [BitVec.toNat_xor,BitVec.toNat_ofNat];rw [Nat.mod_eq_of_lt (show a.toNat < 2 ^ 8 by omega),Nat.mod_eq_of_lt (show b.toNat < 2 ^ 8 by omega)]
theorem zsX (h0:0 ≤ a) (h1:a < 256) (g0:0 ≤ b) (g1:b < 256):Ax.bin .andNot (.int .u8 a) (.int .u8 b) = some (.int .u8 ((a.toNat &&& (255 - b.toNat):Nat):Int)):=by
 rw [zdx,zm4 _ h0 h1 g0 g1];simp only [BitVec.toNat_and,BitVec.toNat_not,BitVec.toNat_ofNat];rw [Nat.mod_eq_of_lt (show a.toNat < 2 ^ 8 by omega),Nat.mod_eq_of_lt (show b.toNat < 2 ^ 8 by omega)]
end
section
variable {a b:Int} {k':IntKind}
theorem wrap_u16 (n:Int):IntKind.u16.wrap n = n % 65536:=by simp [IntKind.wrap,IntKind.bits,IntKind.signed]
theorem zp3 {n:Int} (h0:0 ≤ n) (h1:n < 65536):IntKind.u16.wrap n = n:=by rw [wrap_u16]; omega
theorem shr_u16 (h0:0 ≤ a) (h1:a < 65536) (hb:0 ≤ b):Ax.bin .shr (.int .u16 a) (.int k' b) = some (.int .u16 ((shr a.toNat b.toNat:Nat):Int)):=by
 rw [zle hb]; simp only [IntKind.bits]; rw [ziC a 16 _ h0 (by omega)]; rfl
theorem shl_u16 (h0:0 ≤ a) (hb:0 ≤ b):Ax.bin .shl (.int .u16 a) (.int k' b) = some (.int .u16 ((shl a.toNat b.toNat % 65536:Nat):Int)):=by
 rw [zh3 hb]; simp only [IntKind.bits];have:=zki a 16 b.toNat h0;rw [wrap_u16];congr 2
theorem zkb (op:BinOp) (h0:0 ≤ a) (h1:a < 65536) (g0:0 ≤ b) (g1:b < 65536):Go.bits op .u16 a b = ((match op with | .and=>BitVec.ofNat 16 a.toNat &&& BitVec.ofNat 16 b.toNat | .or=>BitVec.ofNat 16 a.toNat ||| BitVec.ofNat 16 b.toNat | .xor=>BitVec.ofNat 16 a.toNat ^^^ BitVec.ofNat 16 b.toNat | _=>BitVec.ofNat 16 a.toNat &&& ~~~BitVec.ofNat 16 b.toNat).toNat:Int):=by
 unfold Go.bits;simp only [IntKind.bits];rw [zda _ a h0,zda _ b g0,wrap_u16];apply Int.emod_eq_of_lt
 ·omega
 ·have:=(match op with | .and=>BitVec.ofNat 16 a.toNat &&& BitVec.ofNat 16 b.toNat | .or=>BitVec.ofNat 16 a.toNat ||| BitVec.ofNat 16 b.toNat | .xor=>BitVec.ofNat 16 a.toNat ^^^ BitVec.ofNat 16 b.toNat | _=>BitVec.ofNat 16 a.toNat &&& ~~~BitVec.ofNat 16 b.toNat).isLt;omega
theorem and_u16 (h0:0 ≤ a) (h1:a < 65536) (g0:0 ≤ b) (g1:b < 65536):Ax.bin .and (.int .u16 a) (.int .u16 b) = some (.int .u16 ((a.toNat &&& b.toNat:Nat):Int)):=by
 rw [zlf,zkb _ h0 h1 g0 g1];simp only [BitVec.toNat_and,BitVec.toNat_ofNat];rw [Nat.mod_eq_of_lt (show a.toNat < 2 ^ 16 by omega),Nat.mod_eq_of_lt (show b.toNat < 2 ^ 16 by omega)]
theorem or_u16 (h0:0 ≤ a) (h1:a < 65536) (g0:0 ≤ b) (g1:b < 65536):Ax.bin .or (.int .u16 a) (.int .u16 b) = some (.int .u16 ((a.toNat ||| b.toNat:Nat):Int)):=by
 rw [zon,zkb _ h0 h1 g0 g1];simp only [BitVec.toNat_or,BitVec.toNat_ofNat];rw [Nat.mod_eq_of_lt (show a.toNat < 2 ^ 16 by omega),Nat.mod_eq_of_lt (show b.toNat < 2 ^ 16 by omega)]
theorem xor_u16 (h0:0 ≤ a) (h1:a < 65536) (g0:0 ≤ b) (g1:b < 65536):Ax.bin .xor (.int .u16 a) (.int .u16 b) = some (.int .u16 ((a.toNat ^^^ b.toNat:Nat):Int)):=by
 rw [zm5,zkb _ h0 h1 g0 g1];simp only [BitVec.toNat_xor,BitVec.toNat_ofNat];rw [Nat.mod_eq_of_lt (show a.toNat < 2 ^ 16 by omega),Nat.mod_eq_of_lt (show b.toNat < 2 ^ 16 by omega)]
theorem zq4 (h0:0 ≤ a) (h1:a < 65536) (g0:0 ≤ b) (g1:b < 65536):Ax.bin .andNot (.int .u16 a) (.int .u16 b) = some (.int .u16 ((a.toNat &&& (65535 - b.toNat):Nat):Int)):=by
 rw [zdx,zkb _ h0 h1 g0 g1];simp only [BitVec.toNat_and,BitVec.toNat_not,BitVec.toNat_ofNat];rw [Nat.mod_eq_of_lt (show a.toNat < 2 ^ 16 by omega),Nat.mod_eq_of_lt (show b.toNat < 2 ^ 16 by omega)]
end
section
variable {a b:Int} {k':IntKind}
theorem wrap_u32 (n:Int):IntKind.u32.wrap n = n % 4294967296:=by simp [IntKind.wrap,IntKind.bits,IntKind.signed]
theorem zp2 {n:Int} (h0:0 ≤ n) (h1:n < 4294967296):IntKind.u32.wrap n = n:=by rw [wrap_u32]; omega
theorem shr_u32 (h0:0 ≤ a) (h1:a < 4294967296) (hb:0 ≤ b):Ax.bin .shr (.int .u32 a) (.int k' b) = some (.int .u32 ((shr a.toNat b.toNat:Nat):Int)):=by
 rw [zle hb]; simp only [IntKind.bits]; rw [ziC a 32 _ h0 (by omega)]; rfl
theorem shl_u32 (h0:0 ≤ a) (hb:0 ≤ b):Ax.bin .shl (.int .u32 a) (.int k' b) = some (.int .u32 ((shl a.toNat b.toNat % 4294967296:Nat):Int)):=by
 rw [zh3 hb]; simp only [IntKind.bits];have:=zki a 32 b.toNat h0;rw [wrap_u32];congr 2
theorem zka (op:BinOp) (h0:0 ≤ a) (h1:a < 4294967296) (g0:0 ≤ b) (g1:b < 4294967296):Go.bits op .u32 a b = ((match op with | .and=>BitVec.ofNat 32 a.toNat &&& BitVec.ofNat 32 b.toNat | .or=>BitVec.ofNat 32 a.toNat ||| BitVec.ofNat 32 b.toNat | .xor=>BitVec.ofNat 32 a.toNat ^^^ BitVec.ofNat 32 b.toNat | _=>BitVec.ofNat 32 a.toNat &&& ~~~BitVec.ofNat 32 b.toNat).toNat:Int):=by
 unfold Go.bits;simp only [IntKind.bits];rw [zda _ a h0,zda _ b g0,wrap_u32];apply Int.emod_eq_of_lt
 ·omega
 ·have:=(match op with | .and=>BitVec.ofNat 32 a.toNat &&& BitVec.ofNat 32 b.toNat | .or=>BitVec.ofNat 32 a.toNat ||| BitVec.ofNat 32 b.toNat | .xor=>BitVec.ofNat 32 a.toNat ^^^ BitVec.ofNat 32 b.toNat | _=>BitVec.ofNat 32 a.toNat &&& ~~~BitVec.ofNat 32 b.toNat).isLt;omega
theorem and_u32 (h0:0 ≤ a) (h1:a < 4294967296) (g0:0 ≤ b) (g1:b < 4294967296):Ax.bin .and (.int .u32 a) (.int .u32 b) = some (.int .u32 ((a.toNat &&& b.toNat:Nat):Int)):=by
 rw [zlf,zka _ h0 h1 g0 g1];simp only [BitVec.toNat_and,BitVec.toNat_ofNat];rw [Nat.mod_eq_of_lt (show a.toNat < 2 ^ 32 by omega),Nat.mod_eq_of_lt (show b.toNat < 2 ^ 32 by omega)]
theorem or_u32 (h0:0 ≤ a) (h1:a < 4294967296) (g0:0 ≤ b) (g1:b < 4294967296):Ax.bin .or (.int .u32 a) (.int .u32 b) = some (.int .u32 ((a.toNat ||| b.toNat:Nat):Int)):=by
 rw [zon,zka _ h0 h1 g0 g1];simp only [BitVec.toNat_or,BitVec.toNat_ofNat];rw [Nat.mod_eq_of_lt (show a.toNat < 2 ^ 32 by omega),Nat.mod_eq_of_lt (show b.toNat < 2 ^ 32 by omega)]
theorem xor_u32 (h0:0 ≤ a) (h1:a < 4294967296) (g0:0 ≤ b) (g1:b < 4294967296):Ax.bin .xor (.int .u32 a) (.int .u32 b) = some (.int .u32 ((a.toNat ^^^ b.toNat:Nat):Int)):=by
 rw [zm5,zka _ h0 h1 g0 g1];simp only [BitVec.toNat_xor,BitVec.toNat_ofNat];rw [Nat.mod_eq_of_lt (show a.toNat < 2 ^ 32 by omega),Nat.mod_eq_of_lt (show b.toNat < 2 ^ 32 by omega)]
theorem zq3 (h0:0 ≤ a) (h1:a < 4294967296) (g0:0 ≤ b) (g1:b < 4294967296):Ax.bin .andNot (.int .u32 a) (.int .u32 b) = some (.int .u32 ((a.toNat &&& (4294967295 - b.toNat):Nat):Int)):=by
 rw [zdx,zka _ h0 h1 g0 g1];simp only [BitVec.toNat_and,BitVec.toNat_not,BitVec.toNat_ofNat];rw [Nat.mod_eq_of_lt (show a.toNat < 2 ^ 32 by omega),Nat.mod_eq_of_lt (show b.toNat < 2 ^ 32 by omega)]
end
section
variable {a b:Int} {k':IntKind}
theorem wrap_u64 (n:Int):IntKind.u64.wrap n = n % 18446744073709551616:=by simp [IntKind.wrap,IntKind.bits,IntKind.signed]
theorem zp1 {n:Int} (h0:0 ≤ n) (h1:n < 18446744073709551616):IntKind.u64.wrap n = n:=by rw [wrap_u64]; omega
theorem zoz (h0:0 ≤ a) (h1:a < 18446744073709551616) (hb:0 ≤ b):Ax.bin .shr (.int .u64 a) (.int k' b) = some (.int .u64 ((shr a.toNat b.toNat:Nat):Int)):=by
 rw [zle hb]; simp only [IntKind.bits]; rw [ziC a 64 _ h0 (by omega)]; rfl
theorem shl_u64 (h0:0 ≤ a) (hb:0 ≤ b):Ax.bin .shl (.int .u64 a) (.int k' b) = some (.int .u64 ((shl a.toNat b.toNat % 18446744073709551616:Nat):Int)):=by
 rw [zh3 hb]; simp only [IntKind.bits];have:=zki a 64 b.toNat h0;rw [wrap_u64];congr 2
theorem zj9 (op:BinOp) (h0:0 ≤ a) (h1:a < 18446744073709551616) (g0:0 ≤ b) (g1:b < 18446744073709551616):Go.bits op .u64 a b = ((match op with | .and=>BitVec.ofNat 64 a.toNat &&& BitVec.ofNat 64 b.toNat | .or=>BitVec.ofNat 64 a.toNat ||| BitVec.ofNat 64 b.toNat | .xor=>BitVec.ofNat 64 a.toNat ^^^ BitVec.ofNat 64 b.toNat | _=>BitVec.ofNat 64 a.toNat &&& ~~~BitVec.ofNat 64 b.toNat).toNat:Int):=by
 unfold Go.bits;simp only [IntKind.bits];rw [zda _ a h0,zda _ b g0,wrap_u64];apply Int.emod_eq_of_lt
 ·omega
 ·have:=(match op with | .and=>BitVec.ofNat 64 a.toNat &&& BitVec.ofNat 64 b.toNat | .or=>BitVec.ofNat 64 a.toNat ||| BitVec.ofNat 64 b.toNat | .xor=>BitVec.ofNat 64 a.toNat ^^^ BitVec.ofNat 64 b.toNat | _=>BitVec.ofNat 64 a.toNat &&& ~~~BitVec.ofNat 64 b.toNat).isLt;omega
theorem zpj (h0:0 ≤ a) (h1:a < 18446744073709551616) (g0:0 ≤ b) (g1:b < 18446744073709551616):Ax.bin .and (.int .u64 a) (.int .u64 b) = some (.int .u64 ((a.toNat &&& b.toNat:Nat):Int)):=by
 rw [zlf,zj9 _ h0 h1 g0 g1];simp only [BitVec.toNat_and,BitVec.toNat_ofNat];rw [Nat.mod_eq_of_lt (show a.toNat < 2 ^ 64 by omega),Nat.mod_eq_of_lt (show b.toNat < 2 ^ 64 by omega)]
theorem or_u64 (h0:0 ≤ a) (h1:a < 18446744073709551616) (g0:0 ≤ b) (g1:b < 18446744073709551616):Ax.bin .or (.int .u64 a) (.int .u64 b) = some (.int .u64 ((a.toNat ||| b.toNat:Nat):Int)):=by
 rw [zon,zj9 _ h0 h1 g0 g1];simp only [BitVec.toNat_or,BitVec.toNat_ofNat];rw [Nat.mod_eq_of_lt (show a.toNat < 2 ^ 64 by omega),Nat.mod_eq_of_lt (show b.toNat < 2 ^ 64 by omega)]
theorem xor_u64 (h0:0 ≤ a) (h1:a < 18446744073709551616) (g0:0 ≤ b) (g1:b < 18446744073709551616):Ax.bin .xor (.int .u64 a) (.int .u64 b) = some (.int .u64 ((a.toNat ^^^ b.toNat:Nat):Int)):=by
 rw [zm5,zj9 _ h0 h1 g0 g1];simp only [BitVec.toNat_xor,BitVec.toNat_ofNat];rw [Nat.mod_eq_of_lt (show a.toNat < 2 ^ 64 by omega),Nat.mod_eq_of_lt (show b.toNat < 2 ^ 64 by omega)]
theorem zq2 (h0:0 ≤ a) (h1:a < 18446744073709551616) (g0:0 ≤ b) (g1:b < 18446744073709551616):Ax.bin .andNot (.int .u64 a) (.int .u64 b) = some (.int .u64 ((a.toNat &&& (18446744073709551615 - b.toNat):Nat):Int)):=by
 rw [zdx,zj9 _ h0 h1 g0 g1];simp only [BitVec.toNat_and,BitVec.toNat_not,BitVec.toNat_ofNat];rw [Nat.mod_eq_of_lt (show a.toNat < 2 ^ 64 by omega),Nat.mod_eq_of_lt (show b.toNat < 2 ^ 64 by omega)]
end
section
variable {a b:Int} {k':IntKind}
theorem wrap_i64 {n:Int} (h0:-9223372036854775808 ≤ n) (h1:n ≤ 9223372036854775807):IntKind.i64.wrap n = n:=Go.IntWalk.i64_in n ⟨h0,h1⟩
theorem wrap_i32 {n:Int} (h0:-2147483648 ≤ n) (h1:n ≤ 2147483647):IntKind.i32.wrap n = n:=Go.IntWalk.i32_in n ⟨h0,h1⟩
theorem shr_i64 (h0:0 ≤ a) (h1:a < 9223372036854775808) (hb:0 ≤ b):Ax.bin .shr (.int .i64 a) (.int k' b) = some (.int .i64 ((shr a.toNat b.toNat:Nat):Int)):=by
 rw [zle hb]; simp only [IntKind.bits]; rw [ziC a 64 _ h0 (by omega)]; rfl
theorem quo_i64 (h0:0 ≤ a) (h1:a < 9223372036854775808) (hb:0 < b):Ax.bin .quo (.int .i64 a) (.int .i64 b) = some (.int .i64 (a / b)):=by
 rw [bin_quo (by omega),Go.IntWalk.i64_quo _ _ ⟨h0,by omega,by omega⟩]
theorem zoC (h0:0 ≤ a) (hb:0 < b):Ax.bin .rem (.int .i64 a) (.int .i64 b) = some (.int .i64 (a % b)):=by
 rw [bin_rem (by omega),Go.IntWalk.rem_in _ _ h0]
theorem zpV (op:BinOp) (r:Nat) (h0:0 ≤ a) (g0:0 ≤ b) (hr:(match op with | .and=>BitVec.ofNat 64 a.toNat &&& BitVec.ofNat 64 b.toNat | .or=>BitVec.ofNat 64 a.toNat ||| BitVec.ofNat 64 b.toNat | .xor=>BitVec.ofNat 64 a.toNat ^^^ BitVec.ofNat 64 b.toNat | _=>BitVec.ofNat 64 a.toNat &&& ~~~BitVec.ofNat 64 b.toNat).toNat = r) (hl:r < 9223372036854775808):Go.bits op .i64 a b = (r:Int):=by
 unfold Go.bits;simp only [IntKind.bits];rw [zda _ a h0,zda _ b g0];exact (congrArg (fun n:Nat=>IntKind.i64.wrap (n:Int)) hr).trans (wrap_i64 (by omega) (by omega))
theorem zsW (h0:0 ≤ a) (h1:a < 9223372036854775808) (g0:0 ≤ b) (g1:b < 9223372036854775808):Ax.bin .and (.int .i64 a) (.int .i64 b) = some (.int .i64 ((a.toNat &&& b.toNat:Nat):Int)):=by
 rw [zlf,zpV .and (a.toNat &&& b.toNat) h0 g0]
 ·simp only [BitVec.toNat_and,BitVec.toNat_ofNat];rw [Nat.mod_eq_of_lt (show a.toNat < 2 ^ 64 by omega),Nat.mod_eq_of_lt (show b.toNat < 2 ^ 64 by omega)]
 ·exact Nat.and_lt_two_pow _ (show b.toNat < 2 ^ 63 by omega)
theorem znx (h0:0 ≤ a) (h1:a < 9223372036854775808) (g0:0 ≤ b) (g1:b < 9223372036854775808):Ax.bin .or (.int .i64 a) (.int .i64 b) = some (.int .i64 ((a.toNat ||| b.toNat:Nat):Int)):=by
 rw [zon,zpV .or (a.toNat ||| b.toNat) h0 g0]
 ·simp only [BitVec.toNat_or,BitVec.toNat_ofNat];rw [Nat.mod_eq_of_lt (show a.toNat < 2 ^ 64 by omega),Nat.mod_eq_of_lt (show b.toNat < 2 ^ 64 by omega)]
 ·exact Nat.or_lt_two_pow (show a.toNat < 2 ^ 63 by omega) (show b.toNat < 2 ^ 63 by omega)
theorem zry (h0:0 ≤ a) (hb:0 ≤ b) (hl':shl a.toNat b.toNat < 9223372036854775808):Ax.bin .shl (.int .i64 a) (.int k' b) = some (.int .i64 ((shl a.toNat b.toNat:Nat):Int)):=by
 have hl:a.toNat <<< b.toNat < 9223372036854775808:=hl';show _ = some (V.int IntKind.i64 ((a.toNat <<< b.toNat:Nat):Int));rw [zh3 hb]; simp only [IntKind.bits];have h:=zki a 64 b.toNat h0;rw [Nat.mod_eq_of_lt (show a.toNat <<< b.toNat < 2 ^ 64 by omega)] at h;have e:IntKind.i64.wrap (a * 2 ^ min b.toNat 64) = ((a.toNat <<< b.toNat:Nat):Int):=by
  have h':(a * 2 ^ min b.toNat 64) % 18446744073709551616 = ((a.toNat <<< b.toNat:Nat):Int):=h;generalize a * 2 ^ min b.toNat 64 = x at h';generalize a.toNat <<< b.toNat = y at h' hl;rw [Go.IntWalk.i64_left];unfold Go.RowKit.wrap64;omega
 rw [e]
end
/-! A loop that counts. -/
def LQ (J:List V → Heap → Prop) (Q:Res → Heap → Prop):Res → Heap → Prop
 | .nrm L,H=>J L H
 | r,H=>Q r H
theorem lq_nrm {J:List V → Heap → Prop} {Q:Res → Heap → Prop} {L:List V} {H:Heap}:LQ J Q (.nrm L) H = J L H:=rfl
theorem lq_ex {J:List V → Heap → Prop} {Q:Res → Heap → Prop} {L:List V} {id:Nat} {H:Heap}:LQ J Q (.ex id L) H = Q (.ex id L) H:=rfl
theorem lq_ret {J:List V → Heap → Prop} {Q:Res → Heap → Prop} {L:List V} {H:Heap}:LQ J Q (.ret L) H = Q (.ret L) H:=rfl
theorem zaV {body:List V → M Res} {L:List V} {H:Heap} {Q:Res → Heap → Prop} (I:Nat → List V → Heap → Prop) (n:Nat) (h0:I 0 L H)
  (hs:∀ k L H,k < n → I k L H → Ok (body L) H (LQ (I (k + 1)) Q)) (he:∀ L H,I n L H → Ok (body L) H (LQ (fun _ _=>False) Q)):Ok (M.iter body L) H Q:=by
 refine zrT (fun L H m=>∃ k,k ≤ n ∧ m = n - k ∧ I k L H) n ⟨0,Nat.zero_le _,rfl,h0⟩ ?_;rintro L H m ⟨k,hk,rfl,hI⟩;by_cases e:k < n
 ·refine zau (hs k L H e hI) fun r H' h=>?_;cases r with
  | nrm L'=>exact ⟨n - (k + 1),by omega,k + 1,by omega,rfl,h⟩
  | ex id L'=>exact h
  | ret L'=>exact h
 ·have:k = n:=by omega
  subst this;refine zau (he L H hI) fun r H' h=>?_;cases r with
  | nrm L'=>exact h.elim
  | ex id L'=>exact h
  | ret L'=>exact h
theorem zh8 {body:List V → M Res} {L:List V} {H:Heap} {Q:Res → Heap → Prop} (I:List V → Heap → Nat → Prop) (n:Nat) (h0:I L H n)
  (hb:∀ L H n,I L H n → Ok (body L) H (LQ (fun L' H'=>∃ n',n' < n ∧ I L' H' n') Q)):Ok (M.iter body L) H Q:=by
 refine zrT I n h0 fun L H n h=>zau (hb L H n h) fun r H' h=>?_;cases r <;> exact h
/-! What is done,all rules together. -/
theorem zqe {x:M V} {a:V} (h:∀ H,Ok x H fun v H'=>v = a ∧ H' = H):x = M.pure a:=by
 funext H;obtain ⟨v,H',h1,rfl,rfl⟩:=h H;exact h1
theorem sp_set (xs:List V) (o:Nat) (y:V) (h:o < xs.length):splice xs o [y] = xs.set o y:=by
 simp only [splice,List.length_singleton];rw [List.set_eq_take_append_cons_drop,if_pos h]; simp
theorem zmA {α:Type} {H:Heap} {a b:Int} {x y:M α} {Q:α → Heap → Prop} (h1:a = b → Ok x H Q) (h2:a ≠ b → Ok y H Q):Ok (M.ite (.bool (a == b)) x y) H Q :=
 ok_ite (fun h=>h1 (by simpa using h)) fun h=>h2 (by simpa using h)
/-! Plain rules,at types of the lowest universe. -/
section
variable {α β:Type}
theorem r_bind (a:α) (f:α → Option β):(some a).bind f = f a:=rfl
theorem r_map (a:α) (f:α → β):Option.map f (some a) = some (f a):=rfl
theorem r_get0 {a:α} {l:List α}:(a :: l)[0]? = some a:=rfl
theorem r_getS {a:α} {l:List α} {i:Nat}:(a :: l)[i + 1]? = l[i]?:=rfl
theorem r_getD0 {a d:α} {l:List α}:(a :: l).getD 0 d = a:=rfl
theorem r_getDS {a d:α} {l:List α} {i:Nat}:(a :: l).getD (i + 1) d = l.getD i d:=rfl
theorem r_ift {x:Decidable True} (t e:α):(if True then t else e) = t:=if_pos trivial
theorem r_iff {x:Decidable False} (t e:α):(if False then t else e) = e:=if_neg id
theorem r_dt {h:Decidable True}:@decide True h = true:=by simp
theorem r_df {h:Decidable False}:@decide False h = false:=by simp
theorem r_lenS {a:α} {l:List α}:(a :: l).length = l.length + 1:=rfl
theorem r_capp {a:α} {l m:List α}:(a :: l) ++ m = a :: (l ++ m):=rfl
theorem r_napp {l:List α}:[] ++ l = l:=rfl
theorem r_dropS {a:α} {l:List α} {n:Nat}:(a :: l).drop (n + 1) = l.drop n:=rfl
theorem r_drop0 {l:List α}:l.drop 0 = l:=rfl
theorem r_takeS {a:α} {l:List α} {n:Nat}:(a :: l).take (n + 1) = a :: l.take n:=rfl
theorem r_take0 {l:List α}:l.take 0 = []:=by simp
theorem r_len0:([]:List α).length = 0:=rfl
end
/-! Cells. -/
theorem okc_bool (b:Bool):V.okc (V.bool b) = true:=rfl
theorem zqV (b:Bool):V.cells (V.bool b) = [V.bool b]:=rfl
theorem okc_int (k:IntKind) (n:Int):V.okc (V.int k n) = true:=rfl
theorem zsH (k:IntKind) (n:Int):V.cells (V.int k n) = [V.int k n]:=rfl
theorem okc_str (s:ByteArray):V.okc (V.str s) = true:=rfl
theorem zsF (s:ByteArray):V.cells (V.str s) = [V.str s]:=rfl
theorem okc_nilp :V.okc (V.nilp ) = true:=rfl
theorem zqU :V.cells (V.nilp ) = [V.nilp ]:=rfl
theorem okc_nils :V.okc (V.nils ) = true:=rfl
theorem zqT :V.cells (V.nils ) = [V.nils ]:=rfl
theorem okc_ptr (i o:Nat):V.okc (V.ptr i o) = true:=rfl
theorem zsG (i o:Nat):V.cells (V.ptr i o) = [V.ptr i o]:=rfl
theorem okc_sl (i o l:Nat) (c:Cap):V.okc (V.sl i o l c) = true:=rfl
theorem cells_sl (i o l:Nat) (c:Cap):V.cells (V.sl i o l c) = [V.sl i o l c]:=rfl
theorem okc_rs (cs:List V) (l:Nat):V.okc (V.rs cs l) = true:=rfl
theorem cells_rs (cs:List V) (l:Nat):V.cells (V.rs cs l) = [V.rs cs l]:=rfl
theorem okc_rp (cs:List V) (l:Nat):V.okc (V.rp cs l) = true:=rfl
theorem cells_rp (cs:List V) (l:Nat):V.cells (V.rp cs l) = [V.rp cs l]:=rfl
theorem okc_fn (f:FuncId) (c:List V):V.okc (V.fn f c) = true:=rfl
theorem cells_fn (f:FuncId) (c:List V):V.cells (V.fn f c) = [V.fn f c]:=rfl
theorem okc_agg (cs:List V):V.okc (V.agg cs) = true:=rfl
theorem zsI (cs:List V):V.cells (V.agg cs) = cs:=rfl
theorem sp_S {x:V} {xs ys:List V} {o:Nat}:splice (x :: xs) (o + 1) ys = x :: splice xs o ys:=by simp [splice,Nat.add_right_comm]
theorem sp_0 {xs:List V}:splice xs 0 [] = xs:=by simp [splice]
theorem sp_0S {x y:V} {xs ys:List V}:splice (x :: xs) 0 (y :: ys) = y :: splice xs 0 ys:=by simp [splice]
theorem zl8 {z:List V} {ps:List (Nat × Nat × V)}:Ax.build z ps = (fill z ps).map V.agg:=rfl
theorem fill_n {z:List V}:fill z [] = some z:=rfl
theorem fill_c {z:List V} {o n:Nat} {v:V} {r:List (Nat × Nat × V)}:fill z ((o,n,v) :: r) = if v.cells.length = n ∧ o + n ≤ z.length ∧ v.okc = true then fill (splice z o v.cells) r else none:=rfl
theorem zeros_0 {z:List V}:zeros z 0 = []:=rfl
theorem zeros_S {z:List V} {n:Nat}:zeros z (n + 1) = z ++ zeros z n:=rfl
theorem tupled1 {v:V}:zec [v] = v:=rfl
theorem tupled2 {v w:V} {vs:List V}:zec (v :: w :: vs) = .tup (v :: w :: vs):=rfl
theorem zks {β:Type} {H:Heap} {ty bytes:Nat} {zero:List V} {l c:Int} {f:V → M β} {Q:β → Heap → Prop} :
  Ok ((zcV ty bytes zero (.int .i64 l) (.int .i64 c)).bind f) H Q ↔ (0 ≤ l ∧ l ≤ c ∧ c * bytes ≤ 281474976710656 ∧ c ≤ 281474976710656) ∧ Ok (f (.sl H.next 0 l.toNat (.fix c.toNat))) (H.new ⟨ty,zeros zero c.toNat,none⟩) Q:=by
 by_cases hc:0 ≤ l ∧ l ≤ c ∧ c * bytes ≤ 281474976710656 ∧ c ≤ 281474976710656
 ·have e:zcV ty bytes zero (.int .i64 l) (.int .i64 c) H = some (.sl H.next 0 l.toNat (.fix c.toNat),H.new ⟨ty,zeros zero c.toNat,none⟩):=by simp only [zcV]; rw [if_pos hc]
  constructor
  ·rintro ⟨v,H',h,hq⟩;simp only [M.bind,e,Option.bind_some] at h;exact ⟨hc,v,H',h,hq⟩
  ·rintro ⟨_,v,H',h,hq⟩;exact ⟨v,H',by simp only [M.bind,e,Option.bind_some]; exact h,hq⟩
 ·constructor
  ·rintro ⟨v,H',h,hq⟩;simp only [M.bind,zcV,if_neg hc,Option.bind_none] at h;cases h
  ·rintro ⟨k,_⟩; exact absurd k hc
theorem ret_ex {L:List V} {P:List V → Prop}:(∃ L',Res.ret L = Res.ret L' ∧ P L') ↔ P L:=⟨fun ⟨_,h,hp⟩=>by cases h; exact hp,fun h=>⟨L,rfl,h⟩⟩
/-! The same,as simp meets it. -/
section
variable {α β γ:Type} {H:Heap} {Q:β → Heap → Prop}
theorem b_pure {v:α} {f:α → M β}:@OkB α β (M.pure v) H ⟨f⟩ ⟨Q⟩ ↔ Ok (f v) H Q:=zmm
theorem zsQ {v:α} {f:α → M β}:@OkB α β (M.lift (some v)) H ⟨f⟩ ⟨Q⟩ ↔ Ok (f v) H Q:=okb_lift
theorem b_assoc {x:M γ} {g:γ → M α} {f:α → M β}:@OkB α β (x.bind g) H ⟨f⟩ ⟨Q⟩ ↔ @OkB γ β x H ⟨fun v=>(g v).bind f⟩ ⟨Q⟩:=zrR
theorem b_getH {f:Heap → M β}:@OkB Heap β M.getH H ⟨f⟩ ⟨Q⟩ ↔ Ok (f H) H Q:=okb_getH
theorem zqX {id off:Nat} {h h':Heap} {f:Unit → M β}:@OkB Unit β (M.unch (.ptr id off) h h') H ⟨f⟩ ⟨Q⟩ ↔ h'.get id = h.get id ∧ Ok (f ()) H Q:=zny
theorem zsO {cells:List V} {off:Nat} {h h':Heap} {f:Unit → M β}:@OkB Unit β (M.unch (.rp cells off) h h') H ⟨f⟩ ⟨Q⟩ ↔ Ok (f ()) H Q:=zoE
theorem zpf {v:V} {h:Heap} {f:Unit → M β}:@OkB Unit β (M.unch v h h) H ⟨f⟩ ⟨Q⟩ ↔ Ok (f ()) H Q:=by
 have:M.unch v h h = M.pure ():=by funext H; unfold M.unch; rw [if_pos (fun _ _=>rfl)]; rfl
 rw [this]; exact b_pure
theorem i_t {x y:M β}:@OkI β (.bool true) H ⟨x⟩ ⟨y⟩ ⟨Q⟩ ↔ Ok x H Q:=Iff.rfl
theorem i_f {x y:M β}:@OkI β (.bool false) H ⟨x⟩ ⟨y⟩ ⟨Q⟩ ↔ Ok y H Q:=Iff.rfl
theorem b_load {n:Option Nat} {id off:Nat} {f:V → M β}:@OkB V β (zar n (.ptr id off)) H ⟨f⟩ ⟨Q⟩ ↔ @OkB V β (M.lift ((H.get id).bind fun b=>ldc n b.cells off)) H ⟨f⟩ ⟨Q⟩:=okb_load
theorem b_loadr {n:Option Nat} {cells:List V} {off:Nat} {f:V → M β}:@OkB V β (zar n (.rp cells off)) H ⟨f⟩ ⟨Q⟩ ↔ @OkB V β (M.lift (ldc n cells off)) H ⟨f⟩ ⟨Q⟩:=zrQ
theorem b_store {size id off:Nat} {x:V} {f:V → M β}:@OkB V β (zco size (.ptr id off) x) H ⟨f⟩ ⟨Q⟩ ↔ @StK β (H.get id) size id off x H ⟨f⟩ ⟨Q⟩:=zrP
theorem b_box {ty:TypeId} {x:V} {f:V → M β}:@OkB V β (mbox ty x) H ⟨f⟩ ⟨Q⟩ ↔ x.okc = true ∧ Ok (f (.ptr H.next 0)) (H.new ⟨ty,x.cells,none⟩) Q:=okb_box
theorem b_slit {ty:TypeId} {len:Nat} {zero:List V} {parts:List (Nat × Nat × V)} {f:V → M β}:@OkB V β (zbQ ty len zero parts) H ⟨f⟩ ⟨Q⟩ ↔ @SlK β (fill (zeros zero len) parts) ty len H ⟨f⟩ ⟨Q⟩:=by
 show Ok ((zbQ ty len zero parts).bind f) H Q ↔ _;rw [okb_slit];unfold SlK;cases fill (zeros zero len) parts <;> simp
theorem slk_some {ty:TypeId} {len:Nat} {cs:List V} {f:V → M β}:@SlK β (some cs) ty len H ⟨f⟩ ⟨Q⟩ ↔ Ok (f (.sl H.next 0 len (.fix len))) (H.new ⟨ty,cs,none⟩) Q:=Iff.rfl
theorem zsP {ty bytes:Nat} {zero:List V} {l c:Int} {f:V → M β}:@OkB V β (zcV ty bytes zero (.int .i64 l) (.int .i64 c)) H ⟨f⟩ ⟨Q⟩ ↔ (0 ≤ l ∧ l ≤ c ∧ c * bytes ≤ 281474976710656 ∧ c ≤ 281474976710656) ∧ Ok (f (.sl H.next 0 l.toNat (.fix c.toNat))) (H.new ⟨ty,zeros zero c.toNat,none⟩) Q:=zks
end
theorem bb_tt:(true == true) = true:=rfl
theorem bb_ff:(false == false) = true:=rfl
theorem bb_tf:(true == false) = false:=rfl
theorem bb_ft:(false == true) = false:=rfl
theorem zaK {α:Type} {x:M α} {H:Heap} {a:α} (h:Ok x H fun v H'=>v = a ∧ H' = H) {f:α → M Res} {Q:Res → Heap → Prop}:@OkB α Res x H ⟨f⟩ ⟨Q⟩ ↔ Ok (f a) H Q:=by
 obtain ⟨v,H',h1,rfl,rfl⟩:=h;show Ok (x.bind f) _ Q ↔ _;unfold Ok;rw [bind_ok h1]
theorem and_m1 (x:Nat):x &&& 1 = x % 2:=Nat.and_two_pow_sub_one_eq_mod x 1
theorem and_m3 (x:Nat):x &&& 3 = x % 4:=Nat.and_two_pow_sub_one_eq_mod x 2
theorem and_m7 (x:Nat):x &&& 7 = x % 8:=Nat.and_two_pow_sub_one_eq_mod x 3
theorem and_m15 (x:Nat):x &&& 15 = x % 16:=Nat.and_two_pow_sub_one_eq_mod x 4
theorem and_m31 (x:Nat):x &&& 31 = x % 32:=Nat.and_two_pow_sub_one_eq_mod x 5
theorem and_m63 (x:Nat):x &&& 63 = x % 64:=Nat.and_two_pow_sub_one_eq_mod x 6
theorem and_m127 (x:Nat):x &&& 127 = x % 128:=Nat.and_two_pow_sub_one_eq_mod x 7
theorem and_m255 (x:Nat):x &&& 255 = x % 256:=Nat.and_two_pow_sub_one_eq_mod x 8
theorem and_m511 (x:Nat):x &&& 511 = x % 512:=Nat.and_two_pow_sub_one_eq_mod x 9
theorem zsV (x:Nat):x &&& 1023 = x % 1024:=Nat.and_two_pow_sub_one_eq_mod x 10
theorem zsU (x:Nat):x &&& 2047 = x % 2048:=Nat.and_two_pow_sub_one_eq_mod x 11
theorem zsT (x:Nat):x &&& 4095 = x % 4096:=Nat.and_two_pow_sub_one_eq_mod x 12
theorem zsS (x:Nat):x &&& 8191 = x % 8192:=Nat.and_two_pow_sub_one_eq_mod x 13
theorem zq1 (x:Nat):x &&& 16383 = x % 16384:=Nat.and_two_pow_sub_one_eq_mod x 14
theorem zq0 (x:Nat):x &&& 32767 = x % 32768:=Nat.and_two_pow_sub_one_eq_mod x 15
theorem zqZ (x:Nat):x &&& 65535 = x % 65536:=Nat.and_two_pow_sub_one_eq_mod x 16
theorem zh4 (x k:Nat):x &&& 2 ^ k = x / 2 ^ k % 2 * 2 ^ k:=by
 rw [← Nat.toNat_testBit];refine Nat.eq_of_testBit_eq fun j=>?_;rw [Nat.testBit_and,Nat.testBit_two_pow];cases h:x.testBit k
 ·by_cases e:k = j
  ·subst e; simp [h]
  ·simp [e]
 ·by_cases e:k = j
  ·subst e; simp [h]
  ·simp [e]
theorem and_b2 (x:Nat):x &&& 2 = x / 2 % 2 * 2:=zh4 x 1
theorem and_b4 (x:Nat):x &&& 4 = x / 4 % 2 * 4:=zh4 x 2
theorem and_b8 (x:Nat):x &&& 8 = x / 8 % 2 * 8:=zh4 x 3
theorem and_b16 (x:Nat):x &&& 16 = x / 16 % 2 * 16:=zh4 x 4
theorem and_b32 (x:Nat):x &&& 32 = x / 32 % 2 * 32:=zh4 x 5
theorem and_b64 (x:Nat):x &&& 64 = x / 64 % 2 * 64:=zh4 x 6
theorem and_b128 (x:Nat):x &&& 128 = x / 128 % 2 * 128:=zh4 x 7
/-! The rules,in bundles. -/
def RD :=
 And.intro @d_bind <| And.intro @d_ite <| And.intro @d_iter <| And.intro @zoG <| And.intro @zoH <| And.intro @then_nrm <| And.intro @then_ex <| And.intro @then_ret <| And.intro @zqn <| And.intro @out_nrm <| And.intro @out_ret <| And.intro @out_same <| And.intro @out_ne <| And.intro @lq_nrm <| And.intro @lq_ex <| And.intro @lq_ret @b_assoc
def RC :=
 And.intro @b_pure <| And.intro @zsQ <| And.intro @b_getH <| And.intro @zpf <| And.intro @zqX <| And.intro @zsO <| And.intro @i_t <| And.intro @i_f <| And.intro @zqv <| And.intro @zqy <| And.intro @zqw <| And.intro @zqx <| And.intro @zsb <| And.intro @pick_t <| And.intro @pick_f <| And.intro @zrM <| And.intro @b_load <| And.intro @b_loadr <| And.intro @b_store <| And.intro @stk_some <| And.intro @b_box <| And.intro @b_slit <| And.intro @slk_some @zsP
def RH :=
 And.intro @zsd <| And.intro @zse <| And.intro @zsf <| And.intro @zsh <| And.intro @zsg <| And.intro @nx_set @nx_new
def RO :=
 And.intro @bin_add <| And.intro @bin_sub <| And.intro @bin_mul <| And.intro @bin_eql <| And.intro @bin_neq <| And.intro @bin_lss <| And.intro @bin_leq <| And.intro @bin_gtr <| And.intro @bin_geq <| And.intro @bin_seql <| And.intro @bin_sneq <| And.intro @un_not <| And.intro @un_neg <| And.intro @zpR <| And.intro @zrY <| And.intro @nilck_rp <| And.intro @nilck_fn <| And.intro @nilck_sl <| And.intro @zsy <| And.intro @faddr_rp <| And.intro @zrl <| And.intro @vlen_sl <| And.intro @vlen_rs <| And.intro @slen_str <| And.intro @ext_tup <| And.intro @zsw <| And.intro @zgm <| And.intro @zmI <| And.intro @iaddr_ap <| And.intro @zsa <| And.intro @zr9 <| And.intro @eqr_nilp <| And.intro @eqr_ptr <| And.intro @eqr_rp <| And.intro @eqr_nils <| And.intro @eqr_sl <| And.intro @eqr_rs <| And.intro @eqr_bool <| And.intro @ldc_none <| And.intro @ldc_some <| And.intro @min2_min <| And.intro @min2_max <| And.intro @dec_lt_t <| And.intro @dec_lt_f <| And.intro @dec_le_t <| And.intro @dec_le_f <| And.intro @beq_t @beq_f
def RN :=
 And.intro @zrk <| And.intro @shr_u8 <| And.intro @shl_u8 <| And.intro @and_u8 <| And.intro @or_u8 <| And.intro @xor_u8 <| And.intro @zsX <| And.intro @zp3 <| And.intro @shr_u16 <| And.intro @shl_u16 <| And.intro @and_u16 <| And.intro @or_u16 <| And.intro @xor_u16 <| And.intro @zq4 <| And.intro @zp2 <| And.intro @shr_u32 <| And.intro @shl_u32 <| And.intro @and_u32 <| And.intro @or_u32 <| And.intro @xor_u32 <| And.intro @zq3 <| And.intro @zp1 <| And.intro @zoz <| And.intro @shl_u64 <| And.intro @zpj <| And.intro @or_u64 <| And.intro @xor_u64 <| And.intro @zq2 <| And.intro @wrap_i64 <| And.intro @wrap_i32 <| And.intro @shr_i64 <| And.intro @quo_i64 <| And.intro @zoC <| And.intro @zsW <| And.intro @znx @zry
def RL :=
 And.intro @r_bind <| And.intro @r_map <| And.intro @Bool.not_true <| And.intro @Bool.not_false <| And.intro @Bool.false_eq_true <| And.intro @true_and <| And.intro @and_true <| And.intro @r_get0 <| And.intro @r_getS <| And.intro @r_getD0 <| And.intro @r_getDS <| And.intro @Nat.zero_add <| And.intro @Nat.add_zero <| And.intro @r_ift <| And.intro @r_iff <| And.intro @Int.toNat_natCast <| And.intro @Int.mul_one <| And.intro @Nat.mul_one <| And.intro @r_dt <| And.intro @r_df <| And.intro @r_capp <| And.intro @r_napp <| And.intro @r_dropS <| And.intro @r_drop0 <| And.intro @r_takeS <| And.intro @r_take0 <| And.intro @r_lenS @r_len0
def RX :=
 And.intro @bb_tt <| And.intro @bb_ff <| And.intro @bb_tf <| And.intro @bb_ft <| And.intro @okc_bool <| And.intro @zqV <| And.intro @okc_int <| And.intro @zsH <| And.intro @okc_str <| And.intro @zsF <| And.intro @okc_nilp <| And.intro @zqU <| And.intro @okc_nils <| And.intro @zqT <| And.intro @okc_ptr <| And.intro @zsG <| And.intro @okc_sl <| And.intro @cells_sl <| And.intro @okc_rs <| And.intro @cells_rs <| And.intro @okc_rp <| And.intro @cells_rp <| And.intro @okc_fn <| And.intro @cells_fn <| And.intro @okc_agg <| And.intro @zsI <| And.intro @sp_S <| And.intro @sp_0 <| And.intro @sp_0S <| And.intro @zl8 <| And.intro @fill_n <| And.intro @fill_c <| And.intro @zeros_0 <| And.intro @zeros_S <| And.intro @tupled1 <| And.intro @tupled2 <| And.intro @zks @ret_ex
def RS :=
 And.intro @shr_1 <| And.intro @shr_2 <| And.intro @shr_3 <| And.intro @shr_4 <| And.intro @shr_5 <| And.intro @shr_6 <| And.intro @shr_7 <| And.intro @shr_8 <| And.intro @shr_9 <| And.intro @shr_10 <| And.intro @shr_11 <| And.intro @shr_12 <| And.intro @shr_13 <| And.intro @shr_14 <| And.intro @shr_15 <| And.intro @shr_16 <| And.intro @shr_17 <| And.intro @zrx <| And.intro @shr_19 <| And.intro @shr_20 <| And.intro @shr_21 <| And.intro @shr_22 <| And.intro @shr_23 <| And.intro @shr_24 <| And.intro @shr_25 <| And.intro @shr_26 <| And.intro @shr_27 <| And.intro @shr_28 <| And.intro @shr_29 <| And.intro @shr_30 <| And.intro @shr_31 <| And.intro @shr_32 <| And.intro @shr_33 <| And.intro @shr_34 <| And.intro @shr_35 <| And.intro @shr_36 <| And.intro @shr_37 <| And.intro @shr_38 <| And.intro @shr_39 <| And.intro @shr_40 <| And.intro @shr_41 <| And.intro @shr_42 <| And.intro @shr_43 <| And.intro @shr_44 <| And.intro @shr_45 <| And.intro @shr_46 <| And.intro @shr_47 <| And.intro @shr_48 <| And.intro @shr_49 <| And.intro @shr_50 <| And.intro @shr_51 <| And.intro @shr_52 <| And.intro @shr_53 <| And.intro @shr_54 <| And.intro @shr_55 <| And.intro @shr_56 <| And.intro @shr_57 <| And.intro @shr_58 <| And.intro @shr_59 <| And.intro @shr_60 <| And.intro @shr_61 <| And.intro @shr_62 <| And.intro @shr_63 <| And.intro @shl_1 <| And.intro @shl_2 <| And.intro @shl_3 <| And.intro @shl_4 <| And.intro @shl_5 <| And.intro @shl_6 <| And.intro @shl_7 <| And.intro @shl_8 <| And.intro @shl_9 <| And.intro @shl_10 <| And.intro @shl_11 <| And.intro @shl_12 <| And.intro @shl_13 <| And.intro @shl_14 <| And.intro @shl_15 <| And.intro @shl_16 <| And.intro @shl_17 <| And.intro @shl_18 <| And.intro @shl_19 <| And.intro @shl_20 <| And.intro @shl_21 <| And.intro @shl_22 <| And.intro @shl_23 <| And.intro @shl_24 <| And.intro @shl_25 <| And.intro @shl_26 <| And.intro @shl_27 <| And.intro @shl_28 <| And.intro @shl_29 <| And.intro @shl_30 <| And.intro @shl_31 <| And.intro @shl_32 <| And.intro @shl_33 <| And.intro @shl_34 <| And.intro @shl_35 <| And.intro @shl_36 <| And.intro @shl_37 <| And.intro @shl_38 <| And.intro @shl_39 <| And.intro @shl_40 <| And.intro @shl_41 <| And.intro @shl_42 <| And.intro @shl_43 <| And.intro @shl_44 <| And.intro @shl_45 <| And.intro @shl_46 <| And.intro @shl_47 <| And.intro @shl_48 <| And.intro @shl_49 <| And.intro @shl_50 <| And.intro @shl_51 <| And.intro @shl_52 <| And.intro @shl_53 <| And.intro @shl_54 <| And.intro @shl_55 <| And.intro @shl_56 <| And.intro @shl_57 <| And.intro @shl_58 <| And.intro @shl_59 <| And.intro @shl_60 <| And.intro @shl_61 <| And.intro @shl_62 <| And.intro @shl_63 <| And.intro @shr_0 @shl_0
def RM :=
 And.intro @and_m1 <| And.intro @and_m3 <| And.intro @and_m7 <| And.intro @and_m15 <| And.intro @and_m31 <| And.intro @and_m63 <| And.intro @and_m127 <| And.intro @and_m255 <| And.intro @and_m511 <| And.intro @zsV <| And.intro @zsU <| And.intro @zsT <| And.intro @zsS <| And.intro @zq1 <| And.intro @zq0 <| And.intro @zqZ <| And.intro @and_b2 <| And.intro @and_b4 <| And.intro @and_b8 <| And.intro @and_b16 <| And.intro @and_b32 <| And.intro @and_b64 @and_b128
def RZ:=And.intro RC <| And.intro RH <| And.intro RO <| And.intro RN <| And.intro RL <| And.intro RX <| And.intro RS RM
def RY:=And.intro @nx_new <| And.intro @nx_set <| And.intro @r_lenS @r_len0
end Go.Ax
/- Ax23 -/
namespace Go.Ax
def by8 (n:Nat):V:=.int .u8 n
theorem zhl:(140737488355328:Nat) ≤ maxLen:=by decide
def Opn (ty e:Nat) (H:Heap) (v:V) (cells:List V) (n:Nat):Prop :=
 (v = .nils ∧ cells = [] ∧ n = 0) ∨ ∃ id,v = .sl id 0 n (.opn e) ∧ H.get id = some ⟨ty,cells,some e⟩ ∧ cells.length = n * e
theorem Opn.nil {ty e:Nat} {H:Heap}:Opn ty e H .nils [] 0:=.inl ⟨rfl,rfl,rfl⟩
theorem Opn.len {ty e:Nat} {H:Heap} {v:V} {cells:List V} {n:Nat} (h:Opn ty e H v cells n):cells.length = n * e:=by
 rcases h with ⟨_,rfl,rfl⟩ | ⟨id,_,_,h⟩
 ·simp
 ·exact h
theorem Opn.vlen {ty e:Nat} {H:Heap} {v:V} {cells:List V} {n:Nat} (h:Opn ty e H v cells n):Ax.vlen v = some (.int .i64 (n:Int)):=by
 rcases h with ⟨rfl,_,rfl⟩ | ⟨id,rfl,_,h⟩
 ·rfl
 ·rfl
theorem Opn.rc {ty e:Nat} {H:Heap} {v:V} {cells:List V} {n:Nat} (h:Opn ty e H v cells n):zbd e H v = some (cells,n):=by
 rcases h with ⟨rfl,rfl,rfl⟩ | ⟨id,rfl,hg,hl⟩
 ·rfl
 ·simp only [zbd,hg,Option.bind_some];rw [if_pos (by omega),List.drop_zero,← hl,List.take_length]
theorem Opn.okc {ty e:Nat} {H:Heap} {v:V} {cells:List V} {n:Nat} (h:Opn ty e H v cells n):v.okc = true:=by
 rcases h with ⟨rfl,_⟩ | ⟨id,rfl,_⟩ <;> rfl
theorem Opn.cells1 {ty e:Nat} {H:Heap} {v:V} {cells:List V} {n:Nat} (h:Opn ty e H v cells n):v.cells = [v]:=by
 rcases h with ⟨rfl,_⟩ | ⟨id,rfl,_⟩ <;> rfl
theorem Opn.to {ty e:Nat} {H H':Heap} {v:V} {cells:List V} {n:Nat} (h:Opn ty e H v cells n) (hs:∀ i,v.pid = some i → H'.get i = H.get i):Opn ty e H' v cells n:=by
 rcases h with h | ⟨id,rfl,hg,hl⟩
 ·exact .inl h
 ·exact .inr ⟨id,rfl,by rw [hs id rfl,hg],hl⟩
theorem zcf {e:Nat} {H H':Heap} {v:V} (hs:∀ i,v.pid = some i → H'.get i = H.get i):zbd e H' v = zbd e H v:=by
 cases v <;> first | rfl | skip
 rename_i id off len cap;simp only [zbd];rw [hs id rfl]
theorem zlh {e:Nat} {H H':Heap} {v:V} (hs:∀ i,v.pid = some i → H'.get i = H.get i):zcm e H' v = zcm e H v:=by
 cases v <;> first | rfl | skip
 exact zcf hs
theorem zs1 {e:Nat} {H:Heap} {v:V} {q:List V × Nat} (h:zbd e H v = some q):zcm e H v = some q:=by
 cases v <;> first | exact h | (simp only [zbd,reduceCtorEq] at h)
theorem zqj {β:Type} {ty e bytes n m:Nat} {H:Heap} {x y:V} {cells q:List V} {f:V → M β} {Q:β → Heap → Prop} (hx:Opn ty e H x cells n) (hy:zcm e H y = some (q,m)) (hq:q.length = m * e)
  (hb:(n + m) * bytes ≤ 140737488355328) (hm:n + m ≤ 140737488355328)
  (k:∀ x' H',Opn ty e H' x' (cells ++ q) (n + m) → Step H H' x.pid.toList x'.pid.toList → (x = .nils ∨ 0 < m → ∀ i,x'.pid = some i → H.next ≤ i) → Ok (f x') H' Q):Ok ((zay ty e bytes x y).bind f) H Q:=by
 have hml:n + m ≤ maxLen:=Nat.le_trans hm zhl;refine zam ?_;rcases hx with ⟨rfl,rfl,rfl⟩ | ⟨id,rfl,hg,hl⟩
 ·refine zqo hy (fun h0=>?_) fun h0=>⟨by simpa using hb,by simpa using hml,?_⟩
  ·have h0:m = 0:=h0;subst h0;have:q = []:=List.eq_nil_of_length_eq_zero (by omega);subst this;exact k _ _ .nil ⟨Nat.le_refl _,fun _ _ _=>rfl,fun _ h=>.inl h⟩ (fun _ i h=>by cases h)
  ·refine k (.sl H.next 0 m (.opn e)) _ (.inr ⟨H.next,by simp,by rw [zad]; simp,by simpa using hq⟩) ⟨by rw [zag]; omega,fun i hi _=>zaG _ _ (by omega),fun i hi=>.inr ?_⟩ ?_
   ·simp only [V.pid,Option.toList_some,List.mem_singleton] at hi;subst hi;exact ⟨Nat.le_refl _,by rw [zag]; omega⟩
   ·intro _ i hi;simp only [V.pid,Option.some.injEq] at hi;omega
 ·refine zrV hy hg rfl rfl hl (fun h0=>?_) fun h0=>⟨hb,hml,?_⟩
  ·have h0:m = 0:=h0;subst h0;have:q = []:=List.eq_nil_of_length_eq_zero (by omega);subst this;exact k _ _ (.inr ⟨id,by simp,by rw [hg]; simp,by simp [hl]⟩) ⟨Nat.le_refl _,fun _ _ _=>rfl,fun _ h=>.inl h⟩ (fun h=>by
    rcases h with h | h
    ·cases h
    ·exact absurd h (by omega))
  ·refine k _ _ (.inr ⟨_,rfl,(zad (H.set id none) _),by simp [hl,hq,Nat.add_mul]⟩) ⟨by rw [zag,zbr]; omega,fun i hi hF=>?_,fun i hi=>.inr ?_⟩ ?_
   ·rw [zaG _ _ (by rw [zbr]; omega),zat];simp only [V.pid,Option.toList_some,List.mem_singleton] at hF;exact hF
   ·simp only [V.pid,Option.toList_some,List.mem_singleton] at hi;subst hi;exact ⟨Nat.le_refl _,by rw [zag,zbr]; omega⟩
   ·intro _ i hi;simp only [V.pid,Option.some.injEq] at hi;omega
theorem zrO {β:Type} {H:Heap} {x:V} {l:List Nat} {n:Nat} {f:V → M β} {Q:β → Heap → Prop} (hx:zbd 1 H x = some (l.map by8,n)) (h:Ok (f (.str ⟨(l.map UInt8.ofNat).toArray⟩)) H Q):Ok ((zfM x).bind f) H Q:=by
 refine zam (ok_tostr hx ?_ h);clear hx h
 induction l with
 | nil=>rfl
 | cons a l ih=>simp only [List.map_cons,by8,zke,Option.map_eq_some_iff]; exact ⟨_,ih,by simp⟩
theorem Opn.at {ty e:Nat} {H:Heap} {v:V} {cells:List V} {n:Nat} (h:Opn ty e H v cells n) {k:IntKind} {i:Int} (h0:0 ≤ i) (h1:i < n):∃ id,v = .sl id 0 n (.opn e) ∧ H.get id = some ⟨ty,cells,some e⟩ ∧ Ax.iaddr none e v (.int k i) = some (.ptr id (i.toNat * e)):=by
 rcases h with ⟨_,_,rfl⟩ | ⟨id,rfl,hg,hl⟩
 ·omega
 ·exact ⟨id,rfl,hg,by rw [zgm h0 h1]; simp⟩
theorem zmF {a b:List Nat} (ha:∀ x ∈ a,x < 256) (hb:∀ x ∈ b,x < 256) (h:a.map UInt8.ofNat = b.map UInt8.ofNat):a = b:=by
 induction a generalizing b with
 | nil=>cases b with
  | nil=>rfl
  | cons=>simp at h
 | cons x a ih=>cases b with
  | nil=>simp at h
  | cons y b =>
   simp only [List.map_cons,List.cons.injEq] at h;have hx:=ha x (List.mem_cons_self ..);have hy:=hb y (List.mem_cons_self ..);have e:=congrArg UInt8.toNat h.1;simp only [UInt8.toNat_ofNat'] at e;have:x = y:=by omega
   rw [this,ih (fun z hz=>ha z (List.mem_cons_of_mem _ hz)) (fun z hz=>hb z (List.mem_cons_of_mem _ hz)) h.2]
theorem zpS {a b:List Nat} (ha:∀ x ∈ a,x < 256) (hb:∀ x ∈ b,x < 256):((⟨(a.map UInt8.ofNat).toArray⟩:ByteArray).toList == (⟨(b.map UInt8.ofNat).toArray⟩:ByteArray).toList) = decide (a = b):=by
 simp only [ByteArray.toList_eq];by_cases h:a = b
 ·subst h; simp
 ·rw [decide_eq_false h,beq_eq_false_iff_ne];intro e;exact h (zmF ha hb e)
theorem zaQ {H:Heap} {ty:TypeId} {cs:List V} {o:Option Nat} {n e:Nat} {cap:Cap} (h:cs.length = n * e):zcm e (H.new ⟨ty,cs,o⟩) (.sl H.next 0 n cap) = some (cs,n):=by
 simp only [zcm,zbd,zad,Option.bind_some];rw [if_pos (by simp; omega),List.drop_zero,← h,List.take_length]
theorem Step.new (H:Heap) (b:Blk) (F:List Nat):Step H (H.new b) F F:=⟨by rw [zag]; omega,fun i hi _=>zaG _ _ (by omega),fun i hi=>.inl hi⟩
theorem Step.set {H:Heap} {w:Nat} (b:Option Blk) {F:List Nat} (h:w ∈ F):Step H (H.set w b) F F:=⟨Nat.le_refl _,fun i hi hF=>zat _ _ (fun e=>hF (e ▸ h)),fun i hi=>.inl hi⟩
theorem Step.more {H H':Heap} {F F':List Nat} (h:Step H H' F F') (G:List Nat):Step H H' (G ++ F) (G ++ F'):=by
 refine ⟨h.next,fun i hi hF=>h.same i hi fun k=>hF (by simp [k]),fun i hi=>?_⟩;rcases List.mem_append.1 hi with k | k
 ·exact .inl (by simp [k])
 ·rcases h.own i k with k | k
  ·exact .inl (by simp [k])
  ·exact .inr k
theorem Step.cons {H H':Heap} {F F':List Nat} (h:Step H H' F F') (w:Nat):Step H H' (w :: F) (w :: F'):=h.more [w]
theorem Step.ne {H H':Heap} {F F':List Nat} (h:Step H H' F F') {w:Nat} (hw:w < H.next) (hF:w ∉ F):w ∉ F':=fun k=>by
 rcases h.own w k with k | k
 ·exact hF k
 ·omega
theorem Below.cons {H:Heap} {w:Nat} {F:List Nat} (h:w < H.next) (k:Below F H):Below (w :: F) H:=fun i hi=>by
 rcases List.mem_cons.1 hi with rfl | hi
 ·exact h
 ·exact k i hi
theorem zbe {v:V} {i:Nat}:i ∈ v.pid.toList ↔ v.pid = some i:=by cases v.pid <;> simp [eq_comm]
end Go.Ax
/- Ax24 -/
namespace Go.Ax
theorem list_of {α β:Type} {p:α → Prop} {f:α → β}:∀ (es:List β),(∀ x ∈ es,∃ s,x = f s ∧ p s) → ∃ l:List α,es = l.map f ∧ ∀ s ∈ l,p s:=by
 intro es
 induction es with
 | nil=>intro _; exact ⟨[],rfl,fun s h=>by cases h⟩
 | cons x es ih =>
  intro h;obtain ⟨s,rfl,hs⟩:=h x (List.mem_cons_self ..);obtain ⟨l,rfl,hl⟩:=ih fun y hy=>h y (List.mem_cons_of_mem _ hy);refine ⟨s :: l,rfl,fun t ht=>?_⟩;rcases List.mem_cons.1 ht with rfl | ht
  ·exact hs
  ·exact hl t ht
theorem sh_u8 {vs:List V} (h:Sh.Ty (.int .u8) vs):∃ n:Nat,vs = [.int .u8 n] ∧ n < 256:=by
 obtain ⟨n,rfl,h1,h2⟩:=h;simp only [IntKind.min,IntKind.max,IntKind.signed,IntKind.bits] at h1 h2;obtain ⟨m,rfl⟩:=Int.eq_ofNat_of_zero_le (show 0 ≤ n by simpa using h1);exact ⟨m,rfl,by simp at h2; omega⟩
theorem sh_bool {vs:List V} (h:Sh.Ty .bool vs):∃ b:Bool,vs = [.bool b]:=h
def Ar {α:Type} (f:α → V) (v:V) (l:List α):Prop:=(v = .nils ∧ l = []) ∨ v = .rs (l.map f) l.length
theorem Ar.vlen {α:Type} {f:α → V} {v:V} {l:List α} (h:Ar f v l):Ax.vlen v = some (.int .i64 (l.length:Nat)):=by
 rcases h with ⟨rfl,rfl⟩ | rfl <;> rfl
theorem Ar.rc {α:Type} {f:α → V} {v:V} {l:List α} {H:Heap} (h:Ar f v l):zbd 1 H v = some (l.map f,l.length):=by
 rcases h with ⟨rfl,rfl⟩ | rfl
 ·rfl
 ·simp only [zbd]; rw [if_pos (by simp),List.take_of_length_le (by simp)]
theorem Ar.cells1 {α:Type} {f:α → V} {v:V} {l:List α} (h:Ar f v l):v.cells = [v]:=by
 rcases h with ⟨rfl,rfl⟩ | rfl <;> rfl
theorem Ar.okc {α:Type} {f:α → V} {v:V} {l:List α} (h:Ar f v l):v.okc = true:=by
 rcases h with ⟨rfl,rfl⟩ | rfl <;> rfl
theorem Ar.pid {α:Type} {f:α → V} {v:V} {l:List α} (h:Ar f v l):v.pid = none:=by
 rcases h with ⟨rfl,rfl⟩ | rfl <;> rfl
theorem Ar.at {α:Type} {f:α → V} {v:V} {l:List α} (h:Ar f v l) {k:IntKind} {i:Int} (h0:0 ≤ i) (h1:i < l.length):v = .rs (l.map f) l.length ∧ Ax.iaddr none 1 v (.int k i) = some (.rp (l.map f) i.toNat):=by
 rcases h with ⟨rfl,rfl⟩ | rfl
 ·simp at h1; omega
 ·exact ⟨rfl,by rw [zmI h0 h1]; simp⟩
theorem zo1 {α β:Type} (f:α → β) (l:List α):(l.map fun n=>[f n]).flatten = l.map f:=by
 induction l with
 | nil=>rfl
 | cons x l ih=>simp [ih]
theorem ar_of {α:Type} {e:Sh} {f:α → V} {p:α → Prop} (he:∀ vs,Sh.Ty e vs → ∃ n,vs = [f n] ∧ p n) {vs:List V} (h:Sh.Ty (.sl e) vs):∃ v l,vs = [v] ∧ Ar f v l ∧ ∀ x ∈ l,p x:=by
 rcases h with rfl | ⟨es,rfl,_,hes⟩
 ·exact ⟨.nils,[],rfl,.inl ⟨rfl,rfl⟩,fun x h=>by cases h⟩
 ·obtain ⟨l,rfl,hl⟩:=list_of (f:=fun n=>[f n]) es fun x hx=>he x (hes x hx);rw [zo1];exact ⟨_,l,rfl,.inr (by simp),hl⟩
theorem sh_u8s {vs:List V} (h:Sh.Ty (.sl (.int .u8)) vs):∃ v l,vs = [v] ∧ Ar by8 v l ∧ ∀ x ∈ l,x < 256:=ar_of (fun vs h=>sh_u8 h) h
theorem blks_map {α:Type} (f:α → V) (h:∀ x,1 ≤ (f x).blk) (l:List α):l.length ≤ V.blks (l.map f):=by
 induction l with
 | nil=>simp
 | cons x l ih=>simp only [List.map_cons,List.length_cons,V.blks]; have:=h x; omega
theorem Ar.blk {α:Type} {f:α → V} {v:V} {l:List α} (h:Ar f v l) (hf:∀ x,1 ≤ (f x).blk):l.length ≤ v.blk:=by
 rcases h with ⟨rfl,rfl⟩ | rfl
 ·simp
 ·simp only [V.blk]; have:=blks_map f hf l; omega
end Go.Ax
/- Ax25 -/
namespace Go.Ax
structure Grow (H H':Heap):Prop where
 next:H.next ≤ H'.next
 same:∀ i,i < H.next → H'.get i = H.get i
theorem Grow.refl (H:Heap):Grow H H:=⟨Nat.le_refl _,fun _ _=>rfl⟩
theorem Grow.trans {H H1 H2:Heap} (h:Grow H H1) (k:Grow H1 H2):Grow H H2:=⟨Nat.le_trans h.next k.next,fun i hi=>by rw [k.same i (Nat.lt_of_lt_of_le hi h.next),h.same i hi]⟩
theorem Grow.new (H:Heap) (b:Blk):Grow H (H.new b):=⟨by rw [zag]; omega,fun i hi=>zaG _ _ (by omega)⟩
theorem Grow.set {H H1:Heap} (h:Grow H H1) {w:Nat} (hw:H.next ≤ w) (b:Option Blk):Grow H (H1.set w b):=⟨by rw [zbr]; exact h.next,fun i hi=>by rw [zat _ _ (by omega),h.same i hi]⟩
theorem Step.ext {H H':Heap} {F:List Nat} (h:Step H H' [] F):Grow H H':=⟨h.next,fun i hi=>h.same i hi (by simp)⟩
theorem Grow.step {H H':Heap} (h:Grow H H') (F:List Nat):Step H H' F F:=⟨h.next,fun i hi _=>h.same i hi,fun i hi=>.inl hi⟩
structure Keep (lo:Nat) (H H':Heap):Prop where
 next:H.next ≤ H'.next
 same:∀ i,lo ≤ i → i < H.next → H'.get i = H.get i
theorem Grow.keep {H H':Heap} (h:Grow H H') (lo:Nat):Keep lo H H':=⟨h.next,fun i _ hi=>h.same i hi⟩
theorem Keep.refl (lo:Nat) (H:Heap):Keep lo H H:=⟨Nat.le_refl _,fun _ _ _=>rfl⟩
theorem Keep.trans {lo:Nat} {H H1 H2:Heap} (h:Keep lo H H1) (k:Keep lo H1 H2):Keep lo H H2:=⟨Nat.le_trans h.next k.next,fun i hl hi=>by rw [k.same i hl (Nat.lt_of_lt_of_le hi h.next),h.same i hl hi]⟩
theorem Keep.set {lo:Nat} (H:Heap) {w:Nat} (hw:w < lo) (b:Option Blk):Keep lo H (H.set w b):=⟨Nat.le_refl _,fun i hl _=>zat _ _ (by omega)⟩
def V.capOk (e:Nat):V → Prop
 | .sl _ _ len (.fix c)=>len ≤ c
 | .sl _ _ _ (.opn e')=>e' = e
 | _=>True
structure Lc (e lo:Nat) (H:Heap) (v:V) (cells:List V) (n:Nat):Prop where
 rc:zbd e H v = some (cells,n)
 own:∀ id,v.pid = some id → lo ≤ id ∧ id < H.next
 cap:V.capOk e v
section
variable {e lo n:Nat} {H H':Heap} {v:V} {cells:List V}
theorem Lc.nil:Lc e lo H .nils [] 0:=⟨rfl,fun _ h=>(by cases h),trivial⟩
theorem Lc.keep (h:Lc e lo H v cells n) (k:Keep lo H H'):Lc e lo H' v cells n :=
 ⟨by rw [zcf fun i hi=>k.same i (h.own i hi).1 (h.own i hi).2]; exact h.rc,fun i hi=>⟨(h.own i hi).1,Nat.lt_of_lt_of_le (h.own i hi).2 k.next⟩,h.cap⟩
theorem Lc.ext (h:Lc e lo H v cells n) (k:Grow H H'):Lc e lo H' v cells n:=h.keep (k.keep lo)
theorem Lc.low {lo':Nat} (h:Lc e lo H v cells n) (hl:lo' ≤ lo):Lc e lo' H v cells n:=⟨h.rc,fun i hi=>⟨Nat.le_trans hl (h.own i hi).1,(h.own i hi).2⟩,h.cap⟩
theorem Lc.cases (h:Lc e lo H v cells n):(v = .nils ∧ cells = [] ∧ n = 0) ∨ (∃ id off cap b,v = .sl id off n cap ∧ H.get id = some b ∧ off + n * e ≤ b.cells.length ∧ cells = (b.cells.drop off).take (n * e)) ∨ (∃ cs,v = .rs cs n ∧ n * e ≤ cs.length ∧ cells = cs.take (n * e)):=by
 have hr:=h.rc;cases v <;> simp only [zbd,reduceCtorEq,Option.some.injEq,Prod.mk.injEq,Option.bind_eq_some_iff] at hr
 ·obtain ⟨rfl,rfl⟩:=hr; exact .inl ⟨rfl,rfl,rfl⟩
 ·rename_i id off len cap;obtain ⟨b,hb,hr⟩:=hr;split at hr
  ·rename_i hle;simp only [Option.some.injEq,Prod.mk.injEq] at hr;obtain ⟨rfl,rfl⟩:=hr;exact .inr (.inl ⟨id,off,cap,b,rfl,hb,hle,rfl⟩)
  ·cases hr
 ·rename_i cs len;split at hr
  ·rename_i hle;simp only [Option.some.injEq,Prod.mk.injEq] at hr;obtain ⟨rfl,rfl⟩:=hr;exact .inr (.inr ⟨cs,rfl,hle,rfl⟩)
  ·cases hr
theorem Lc.len (h:Lc e lo H v cells n):cells.length = n * e:=by
 rcases h.cases with ⟨_,rfl,rfl⟩ | ⟨_,_,_,_,_,_,hl,rfl⟩ | ⟨_,_,hl,rfl⟩
 ·simp
 ·rw [List.length_take,List.length_drop]; omega
 ·rw [List.length_take]; omega
theorem Lc.vlen (h:Lc e lo H v cells n):Ax.vlen v = some (.int .i64 (n:Int)):=by
 rcases h.cases with ⟨rfl,_,rfl⟩ | ⟨_,_,_,_,rfl,_⟩ | ⟨_,rfl,_⟩ <;> rfl
theorem Lc.cells1 (h:Lc e lo H v cells n):v.cells = [v]:=by
 rcases h.cases with ⟨rfl,_,rfl⟩ | ⟨_,_,_,_,rfl,_⟩ | ⟨_,rfl,_⟩ <;> rfl
theorem Lc.okc (h:Lc e lo H v cells n):v.okc = true:=by
 rcases h.cases with ⟨rfl,_,rfl⟩ | ⟨_,_,_,_,rfl,_⟩ | ⟨_,rfl,_⟩ <;> rfl
theorem Lc.ac (h:Lc e lo H v cells n):zcm e H v = some (cells,n):=zs1 h.rc
def fa (p:V) (o:Nat):V:=match p with
 | .ptr id off=>.ptr id (off + o)
 | .rp cs off=>.rp cs (off + o)
 | v=>v
abbrev LdR (n:Option Nat) (H:Heap) (p c:V):Prop:=∀ (f:V → M Res) (Q:Res → Heap → Prop),@OkB V Res (zar n p) H ⟨f⟩ ⟨Q⟩ ↔ Ok (f c) H Q
structure Pl (H:Heap) (p:V) (cs:List V) (own:Option Nat):Prop where
 fa:∀ {o:Nat},Ax.faddr o p = some (Ax.fa p o)
 ld:∀ {o:Nat},o < cs.length → ∀ {f:V → M Res} {Q:Res → Heap → Prop},@OkB V Res (zar none (Ax.fa p o)) H ⟨f⟩ ⟨Q⟩ ↔ @OkB V Res (M.lift cs[o]?) H ⟨f⟩ ⟨Q⟩
 ld0:0 < cs.length → ∀ {f:V → M Res} {Q:Res → Heap → Prop},@OkB V Res (zar none p) H ⟨f⟩ ⟨Q⟩ ↔ @OkB V Res (M.lift cs[0]?) H ⟨f⟩ ⟨Q⟩
 all:LdR (some cs.length) H p (.agg cs)
 pid:p.pid = own ∧ ∀ o,(Ax.fa p o).pid = own
theorem zj7 {α:Type} {x:M α} {o:Option α} {H:Heap} (h:x H = o.map fun v=>(v,H)) {f:α → M Res} {Q:Res → Heap → Prop}:@OkB α Res x H ⟨f⟩ ⟨Q⟩ ↔ @OkB α Res (M.lift o) H ⟨f⟩ ⟨Q⟩:=by
 show Ok (x.bind f) H Q ↔ Ok ((M.lift o).bind f) H Q;have e:(x.bind f) H = ((M.lift o).bind f) H:=by simp only [M.bind,M.lift,h]
 unfold Ok;rw [e]
theorem pl_ptr {id off m:Nat} {b:Blk} (hb:H.get id = some b) (hm:off + m ≤ b.cells.length):Pl H (.ptr id off) ((b.cells.drop off).take m) (some id):=by
 have hlen:((b.cells.drop off).take m).length = m:=by rw [List.length_take,List.length_drop]; omega
 refine ⟨rfl,fun {o} ho f Q=>zj7 ?_,fun h0 f Q=>zj7 ?_,fun f Q=>?_,rfl,fun o=>rfl⟩
 ·rw [hlen] at ho;simp only [fa,zar,hb,Option.bind_some,ldc];rw [List.getElem?_take_of_lt ho,List.getElem?_drop]
 ·rw [hlen] at h0;simp only [zar,hb,Option.bind_some,ldc];rw [List.getElem?_take_of_lt h0,List.getElem?_drop]; rfl
 ·rw [hlen];refine zaK ⟨_,_,?_,rfl,rfl⟩;simp only [zar,hb,Option.bind_some,ldc];rw [if_pos hm]; rfl
theorem pl_rp {cs:List V} {off m:Nat} (hm:off + m ≤ cs.length):Pl H (.rp cs off) ((cs.drop off).take m) none:=by
 have hlen:((cs.drop off).take m).length = m:=by rw [List.length_take,List.length_drop]; omega
 refine ⟨rfl,fun {o} ho f Q=>zj7 ?_,fun h0 f Q=>zj7 ?_,fun f Q=>?_,rfl,fun o=>rfl⟩
 ·rw [hlen] at ho;simp only [fa,zar,ldc];rw [List.getElem?_take_of_lt ho,List.getElem?_drop]
 ·rw [hlen] at h0;simp only [zar,ldc];rw [List.getElem?_take_of_lt h0,List.getElem?_drop]; rfl
 ·rw [hlen];refine zaK ⟨_,_,?_,rfl,rfl⟩;simp only [zar,ldc];rw [if_pos hm]; rfl
theorem Lc.at (h:Lc e lo H v cells n) {i:Int} (h0:0 ≤ i) (h1:i < n):∃ p,(∀ {k:IntKind},Ax.iaddr none e v (.int k i) = some p) ∧ Pl H p ((cells.drop (i.toNat * e)).take e) v.pid:=by
 have hi:i.toNat * e + e ≤ n * e:=by
  have:(i.toNat + 1) * e ≤ n * e:=Nat.mul_le_mul_right e (by omega);rw [Nat.add_mul] at this; omega
 rcases h.cases with ⟨_,_,rfl⟩ | ⟨id,off,cap,b,rfl,hb,hl,rfl⟩ | ⟨cs,rfl,hl,rfl⟩
 ·omega
 ·refine ⟨.ptr id (off + i.toNat * e),zgm h0 h1,?_⟩;have:=pl_ptr (H:=H) (off:=off + i.toNat * e) (m:=e) hb (by omega);rw [List.drop_take,List.take_take,List.drop_drop,Nat.min_eq_left (by omega)];exact this
 ·refine ⟨.rp cs (i.toNat * e),zmI h0 h1,?_⟩;have:=pl_rp (H:=H) (cs:=cs) (off:=i.toNat * e) (m:=e) (by omega);rw [List.drop_take,List.take_take,Nat.min_eq_left (by omega)];exact this
theorem Lc.slice (h:Lc e lo H v cells n) {x y:Int} (h0:0 ≤ x) (h1:x ≤ y) (h2:y ≤ n) :
  ∃ v',(∀ {k k':IntKind},zaN .sl e v (some (.int k x)) (some (.int k' y)) none = some v') ∧ (x = 0 → ∀ {k':IntKind},zaN .sl e v none (some (.int k' y)) none = some v') ∧ (y = n → ∀ {k:IntKind},zaN .sl e v (some (.int k x)) none none = some v') ∧
   Lc e lo H v' ((cells.drop (x.toNat * e)).take ((y.toNat - x.toNat) * e)) (y.toNat - x.toNat) ∧ v'.pid = v.pid:=by
 have hxy:x.toNat * e + (y.toNat - x.toNat) * e ≤ n * e:=by
  rw [← Nat.add_mul]; exact Nat.mul_le_mul_right e (by omega)
 rcases h.cases with ⟨rfl,rfl,rfl⟩ | ⟨id,off,cap,b,rfl,hb,hl,rfl⟩ | ⟨cs,rfl,hl,rfl⟩
 ·have hx:x = 0:=by omega
  have hy:y = 0:=by omega
  subst hx hy;refine ⟨.nils,rfl,fun _=>rfl,fun _=>rfl,by simpa using Lc.nil,rfl⟩
 ·have hcap:=h.cap;cases cap with
  | fix c =>
   have hcap:n ≤ c:=hcap;refine ⟨.sl id (off + x.toNat * e) (y.toNat - x.toNat) (.fix (((c:Int)).toNat - x.toNat)),fun {k k'}=>?_,fun hx k'=>?_,fun hy k=>?_,⟨?_,h.own,?_⟩,rfl⟩
   ·simp only [zaN,zez,vint,Option.map_some,Option.bind_some,Option.getD_some,Option.getD_none];rw [if_neg (by simp),if_pos (by omega)]
   ·subst hx;simp only [zaN,zez,vint,Option.map_some,Option.bind_some,Option.getD_some,Option.getD_none];rw [if_neg (by simp),if_pos (by omega)]
   ·subst hy;simp only [zaN,zez,vint,Option.map_some,Option.bind_some,Option.getD_some,Option.getD_none];rw [if_neg (by simp),if_pos (by omega)]
   ·simp only [zbd,hb,Option.bind_some];rw [if_pos (by omega),List.drop_take,List.take_take,List.drop_drop,Nat.min_eq_left (by omega)]
   ·show y.toNat - x.toNat ≤ _;omega
  | opn e' =>
   have hcap:e' = e:=hcap;subst hcap;refine ⟨.sl id (off + x.toNat * e') (y.toNat - x.toNat) (.opn e'),fun {k k'}=>?_,fun hx k'=>?_,fun hy k=>?_,⟨?_,h.own,rfl⟩,rfl⟩
   ·simp only [zaN,zez,vint,Option.map_some,Option.bind_some,Option.getD_some];rw [if_neg (by simp),if_pos ⟨trivial,by omega,by omega,by omega⟩]
   ·subst hx;simp only [zaN,zez,vint,Option.map_some,Option.bind_some,Option.getD_some,Option.getD_none];rw [if_neg (by simp),if_pos ⟨trivial,by omega,by omega,by omega⟩]
   ·subst hy;simp only [zaN,zez,vint,Option.map_some,Option.bind_some,Option.getD_some,Option.getD_none];rw [if_neg (by simp),if_pos ⟨trivial,by omega,by omega,by omega⟩]
   ·simp only [zbd,hb,Option.bind_some];rw [if_pos (by omega),List.drop_take,List.take_take,List.drop_drop,Nat.min_eq_left (by omega)]
 ·refine ⟨.rs (cs.drop (x.toNat * e)) (y.toNat - x.toNat),fun {k k'}=>?_,fun hx k'=>?_,fun hy k=>?_,⟨?_,fun id h=>(by cases h),trivial⟩,rfl⟩
  ·simp only [zaN,zez,vint,Option.map_some,Option.bind_some,Option.getD_some];rw [if_neg (by simp),if_pos (by simp; omega)]
  ·subst hx;simp only [zaN,zez,vint,Option.map_some,Option.bind_some,Option.getD_some,Option.getD_none];rw [if_neg (by simp),if_pos (by simp; omega)]
  ·subst hy;simp only [zaN,zez,vint,Option.map_some,Option.bind_some,Option.getD_some,Option.getD_none];rw [if_neg (by simp),if_pos (by simp; omega)]
  ·simp only [zbd];rw [if_pos (by rw [List.length_drop]; omega),List.drop_take,List.take_take,Nat.min_eq_left (by omega)]
end
theorem Opn.lc {ty e lo n:Nat} {H:Heap} {v:V} {cells:List V} (h:Opn ty e H v cells n) (ho:∀ id,v.pid = some id → lo ≤ id ∧ id < H.next):Lc e lo H v cells n:=by
 refine ⟨h.rc,ho,?_⟩;rcases h with ⟨rfl,_⟩ | ⟨_,rfl,_⟩
 ·trivial
 ·rfl
theorem Ar.lc {α:Type} {f:α → V} {v:V} {l:List α} {H:Heap} (h:Ar f v l) (lo:Nat):Lc 1 lo H v (l.map f) l.length:=by
 refine ⟨h.rc,fun id hi=>(by rw [h.pid] at hi; cases hi),?_⟩;rcases h with ⟨rfl,_⟩ | rfl <;> trivial
inductive App (ty e lo:Nat) (H:Heap):V → List V → Nat → Prop
 | opn {v:V} {cells:List V} {n:Nat} (h:Opn ty e H v cells n) (ho:∀ id,v.pid = some id → lo ≤ id ∧ id < H.next):App ty e lo H v cells n
 | lit {id:Nat} (h:H.get id = some ⟨ty,[],none⟩) (h0:lo ≤ id) (h1:id < H.next):App ty e lo H (.sl id 0 0 (.fix 0)) [] 0
theorem App.lc {ty e lo n:Nat} {H:Heap} {v:V} {cells:List V} (h:App ty e lo H v cells n):Lc e lo H v cells n:=by
 cases h with
 | opn h ho=>exact h.lc ho
 | lit h h0 h1 =>
  refine ⟨?_,fun id hi=>by simp only [V.pid,Option.some.injEq] at hi; subst hi; exact ⟨h0,h1⟩,Nat.le_refl _⟩;simp only [zbd,h,Option.bind_some];rw [if_pos (by simp)]; simp
theorem App.nil {ty e lo:Nat} {H:Heap}:App ty e lo H .nils [] 0:=.opn .nil fun _ h=>by cases h
theorem zcq {β:Type} {ty e bytes lo n m:Nat} {H:Heap} {x y:V} {cells q:List V} {f:V → M β} {Q:β → Heap → Prop} (hx:App ty e lo H x cells n) (hlo:lo ≤ H.next) (hy:zcm e H y = some (q,m)) (hq:q.length = m * e)
  (hb:(n + m) * bytes ≤ 140737488355328) (hm:n + m ≤ 140737488355328)
  (k:∀ x' H',App ty e lo H' x' (cells ++ q) (n + m) → Step H H' x.pid.toList x'.pid.toList → Ok (f x') H' Q):Ok ((zay ty e bytes x y).bind f) H Q:=by
 cases hx with
 | opn h ho =>
  refine zqj h hy hq hb hm fun x' H' h1 hs _=>k x' H' (.opn h1 fun id hi=>?_) hs;rcases hs.own id (by simp [hi]) with h2 | h2
  ·obtain ⟨h3,h4⟩:=ho id (by simpa [zbe] using h2);exact ⟨h3,Nat.lt_of_lt_of_le h4 hs.next⟩
  ·exact ⟨Nat.le_trans hlo h2.1,h2.2⟩
 | lit h h0 h1 =>
  rename_i id;have hml:m ≤ maxLen:=Nat.le_trans (by omega:m ≤ 140737488355328) zhl;have hp:((V.sl id 0 0 (.fix 0)).pid).toList = [id]:=rfl;by_cases hz:m = 0
  ·subst hz;have hq0:q = []:=List.eq_nil_of_length_eq_zero (by omega);subst hq0;refine zam ⟨.sl id 0 0 (.fix 0),H.set id (some ⟨ty,[],none⟩),?_,k _ _ ?_ (Step.set _ (by simp [hp]))⟩
   ·simp only [zay,hy,Option.bind_some,zbR,h];rw [if_pos ⟨by simp,trivial⟩];simp [splice]
   ·exact .lit (zak _ _ _) h0 h1
  ·refine zam ⟨.sl H.next 0 m (.opn e),H.new ⟨ty,q,some e⟩,?_,?_⟩
   ·simp only [zay,hy,Option.bind_some,zbR,h];rw [if_pos ⟨by simp,trivial⟩];simp only [Nat.zero_add,List.length_nil,Nat.zero_mul];rw [if_neg (by omega),if_pos ⟨by simpa using hb,hml⟩];simp
   ·have hr:App ty e lo (H.new ⟨ty,q,some e⟩) (.sl H.next 0 m (.opn e)) ([] ++ q) (0 + m):=by
     refine .opn (.inr ⟨H.next,by simp,by rw [zad]; simp,by simpa using hq⟩) fun i hi=>?_;simp only [V.pid,Option.some.injEq] at hi;subst hi;exact ⟨hlo,by rw [zag]; omega⟩
    refine k _ _ hr ⟨by rw [zag]; omega,fun i hi _=>zaG _ _ (by omega),fun i hi=>.inr ?_⟩;simp only [V.pid,Option.toList_some,List.mem_singleton] at hi;subst hi;exact ⟨Nat.le_refl _,by rw [zag]; omega⟩
theorem ziR {H:Heap} {ty:TypeId} {cs:List V} {o:Option Nat} {n e id:Nat} {cap:Cap} (hi:id = H.next) (h:cs.length = n * e):zcm e (H.new ⟨ty,cs,o⟩) (.sl id 0 n cap) = some (cs,n):=by
 subst hi; exact zaQ h
structure At1 (k:Nat) (H H':Heap):Prop where
 next:H.next ≤ H'.next
 same:∀ i,i < H.next → i ≠ k → H'.get i = H.get i
theorem At1.refl (k:Nat) (H:Heap):At1 k H H:=⟨Nat.le_refl _,fun _ _ _=>rfl⟩
theorem At1.trans {k:Nat} {H H1 H2:Heap} (h:At1 k H H1) (g:At1 k H1 H2):At1 k H H2:=⟨Nat.le_trans h.next g.next,fun i hi hk=>by rw [g.same i (Nat.lt_of_lt_of_le hi h.next) hk,h.same i hi hk]⟩
theorem Grow.at1 {H H':Heap} (h:Grow H H') (k:Nat):At1 k H H':=⟨h.next,fun i hi _=>h.same i hi⟩
theorem At1.set (k:Nat) (H:Heap) (b:Option Blk):At1 k H (H.set k b):=⟨Nat.le_refl _,fun i _ hk=>zat _ _ hk⟩
theorem Lc.at1 {e lo n k:Nat} {H H':Heap} {v:V} {cells:List V} (h:Lc e lo H v cells n) (s:At1 k H H') (hk:v.pid ≠ some k):Lc e lo H' v cells n :=
 ⟨by rw [zcf fun i hi=>s.same i (h.own i hi).2 fun e=>hk (e ▸ hi)]; exact h.rc,fun i hi=>⟨(h.own i hi).1,Nat.lt_of_lt_of_le (h.own i hi).2 s.next⟩,h.cap⟩
end Go.Ax
/- Su1 -/
namespace Go.Ax.SU
open Go.Ax
/-! The plain functions. -/
def be (l:List Nat):Nat:=l.foldl (fun a b=>a * 256 + b) 0
theorem be_snoc (l:List Nat) (b:Nat):be (l ++ [b]) = be l * 256 + b:=by simp [be]
end Go.Ax.SU
/- Su2 -/
namespace Go.Ax.SU
open Go.Ax
def Ok8 (l:List Nat):Prop:=∀ x ∈ l,x < 256
theorem Ok8.take {l:List Nat} (h:Ok8 l) (n:Nat):Ok8 (l.take n):=fun x hx=>h x (List.mem_of_mem_take hx)
theorem Ok8.drop {l:List Nat} (h:Ok8 l) (n:Nat):Ok8 (l.drop n):=fun x hx=>h x (List.mem_of_mem_drop hx)
theorem Ok8.getD {l:List Nat} (h:Ok8 l) (i:Nat):l.getD i 0 < 256:=by
 rw [List.getD_eq_getElem?_getD];cases e:l[i]? with
 | none=>simp
 | some x=>exact h x (List.mem_of_getElem? e)
theorem all8 {l:List Nat} (h:(l.all fun x=>decide (x < 256)) = true):Ok8 l:=fun x hx=>of_decide_eq_true (List.all_eq_true.1 h x hx)
def num (x n:Nat):List Nat:=(List.range n).map fun i=>x / 256 ^ (n - 1 - i) % 256
theorem zmB (x n:Nat):(num x n).length = n:=by simp [num]
end Go.Ax.SU
