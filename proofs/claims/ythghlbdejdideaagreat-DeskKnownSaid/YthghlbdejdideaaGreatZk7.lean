/-
  Texts of mine, put together by program (wip/slim.py), for law_deskKnown: part 7.
-/
import Derived.Test.YthghlbdejdideaaGreatZk6
import Derived.Test.YthghlbdejdideaaGreatRows
import Derived.ProofKit
import Derived.OpenShut
import Derived.JoinedCond
import Derived.Below
import Derived.ChangeSame
import Derived.ReadAgain
import Derived.ChangeOld
import Derived.Deep.Slices
set_option linter.unusedVariables false
set_option linter.unusedSimpArgs false
set_option linter.defProp false
set_option maxRecDepth 100000
/- Ax18 -/
namespace Go.Ax
open Go.ChangeShapes Go.WideShapes Go.Deep Go.RowKit
inductive Sh where
 | bool
 | int (k:IntKind)
 | str
 | sl (e:Sh)
 | st (fs:List Sh)
 | ar (n:Nat) (e:Sh)
mutual
def Sh.size:Sh → Nat
 | .bool=>1
 | .int _=>1
 | .str=>1
 | .sl _=>1
 | .st fs=>Sh.sizes fs
 | .ar n e=>n * Sh.size e
def Sh.sizes:List Sh → Nat
 | []=>0
 | s :: ss=>Sh.size s + Sh.sizes ss
end
mutual
def Sh.Ty:Sh → List V → Prop
 | .bool,vs=>∃ b,vs = [.bool b]
 | .int k,vs=>∃ n,vs = [.int k n] ∧ k.min ≤ n ∧ n ≤ k.max
 | .str,vs=>∃ s:ByteArray,vs = [.str s] ∧ s.size ≤ maxLen
 | .sl e,vs=>vs = [.nils] ∨ ∃ es:List (List V),vs = [.rs es.flatten es.length] ∧ es.length ≤ maxLen ∧ ∀ x ∈ es,Sh.Ty e x
 | .st fs,vs=>Sh.Tys fs vs
 | .ar n e,vs=>∃ es:List (List V),vs = es.flatten ∧ es.length = n ∧ ∀ x ∈ es,Sh.Ty e x
def Sh.Tys:List Sh → List V → Prop
 | [],vs=>vs = []
 | s :: ss,vs=>∃ a b,vs = a ++ b ∧ Sh.Ty s a ∧ Sh.Tys ss b
end
mutual
def V.blk:V → Nat
 | .str s=>s.size + 1
 | .rs cells _=>V.blks cells + 1
 | .agg cs=>V.blks cs
 | _=>1
def V.blks:List V → Nat
 | []=>0
 | v :: vs=>V.blk v + V.blks vs
end
theorem zrL (a b:List V):V.blks (a ++ b) = V.blks a + V.blks b:=by
 induction a with
 | nil=>simp [V.blks]
 | cons v a ih=>simp [V.blks,ih,Nat.add_assoc]
mutual
theorem zF4:∀ (s:Sh) (vs:List V),Sh.Ty s vs → vs.length = Sh.size s
 | .bool,vs,h=>by obtain ⟨b,rfl⟩:=h; rfl
 | .int k,vs,h=>by obtain ⟨n,rfl,_⟩:=h; rfl
 | .str,vs,h=>by obtain ⟨s,rfl,_⟩:=h; rfl
 | .sl e,vs,h=>by
  rcases h with rfl | ⟨es,rfl,_⟩
  ·rfl
  ·rfl
 | .st fs,vs,h=>by simpa [Sh.size] using zF3 fs vs h
 | .ar n e,vs,h=>by
  obtain ⟨es,rfl,hn,he⟩:=h
  simp only [Sh.size,List.length_flatten]
  subst hn
  have:∀ (l:List (List V)),(∀ x ∈ l,x.length = Sh.size e) → (l.map List.length).sum = l.length * Sh.size e:=by
   intro l hl
   induction l with
   | nil=>simp
   | cons x l ih=>simp only [List.map_cons,List.sum_cons,List.length_cons,ih fun y hy=>hl y (List.mem_cons_of_mem _ hy),hl x (List.mem_cons_self ..)]; rw [Nat.add_mul]; omega
  exact this es fun x hx=>zF4 e x (he x hx)
theorem zF3:∀ (ss:List Sh) (vs:List V),Sh.Tys ss vs → vs.length = Sh.sizes ss
 | [],vs,h=>by have:vs = []:=h; subst this; rfl
 | s :: ss,vs,h=>by
  obtain ⟨a,b,rfl,ha,hb⟩:=h
  simp [Sh.sizes,zF4 s a ha,zF3 ss b hb]
end
mutual
theorem zEk:∀ (s:Sh) (vs:List V),Sh.Ty s vs → ∀ v ∈ vs,v.one = true
 | .bool,vs,h=>by obtain ⟨b,rfl⟩:=h; simp [V.one]
 | .int k,vs,h=>by obtain ⟨n,rfl,_⟩:=h; simp [V.one]
 | .str,vs,h=>by obtain ⟨s,rfl,_⟩:=h; simp [V.one]
 | .sl e,vs,h=>by
  rcases h with rfl | ⟨es,rfl,_⟩
  ·simp [V.one]
  ·simp [V.one]
 | .st fs,vs,h=>zF2 fs vs h
 | .ar n e,vs,h=>by
  obtain ⟨es,rfl,hn,he⟩:=h
  intro v hv
  obtain ⟨x,hx,hvx⟩:=List.mem_flatten.1 hv
  exact zEk e x (he x hx) v hvx
theorem zF2:∀ (ss:List Sh) (vs:List V),Sh.Tys ss vs → ∀ v ∈ vs,v.one = true
 | [],vs,h=>by have:vs = []:=h; subst this; simp
 | s :: ss,vs,h=>by
  obtain ⟨a,b,rfl,ha,hb⟩:=h
  intro v hv
  rcases List.mem_append.1 hv with hv | hv
  ·exact zEk s a ha v hv
  ·exact zF2 ss b hb v hv
end
/-! The shapes of a program's types. -/
def offs (P:Program):Nat → List Field → List Sh → Bool
 | _,[],[]=>true
 | o,f :: fs,s :: ss=>decide (f.offset = o ∧ P.cellsOf f.type = Sh.size s) && offs P (o + Sh.size s) fs ss
 | _,_,_=>false
def zBl (g:TypeId → Option Sh):List TypeId → Option (List Sh)
 | []=>some []
 | t :: ts=>(g t).bind fun s=>(zBl g ts).map (s :: ·)
def shOf (P:Program):Nat → TypeId → Option Sh
 | 0,_=>none
 | n + 1,t =>
  match P.underlying t with
  | some .bool=>some .bool
  | some (.int k)=>some (.int k)
  | some .string=>some .str
  | some (.slice e)=>(shOf P n e).bind fun s=>if P.cellsOf e = Sh.size s ∧ 0 < Sh.size s then some (.sl s) else none
  | some (.struct fs)=>(zBl (shOf P n) (fs.toList.map (·.type))).bind fun ss=>if offs P 0 fs.toList ss = true ∧ P.cellsOf t = Sh.sizes ss then some (.st ss) else none
  | some (.array m e)=>(shOf P n e).bind fun s=>if P.cellsOf e = Sh.size s ∧ P.cellsOf t = m * Sh.size s then some (.ar m s) else none
  | _=>none
theorem zDw {α:Type} {k:Nat} (hk:0 < k):∀ (es:List (List α)),(∀ x ∈ es,x.length = k) → ∀ j:Nat,es.flatten[j]? = (es[j / k]?).bind fun x=>x[j % k]?:=by
 intro es
 induction es with
 | nil=>intro _ j; simp
 | cons x es ih =>
  intro h j
  have hx:=h x (List.mem_cons_self ..)
  have hes:=fun y hy=>h y (List.mem_cons_of_mem _ hy)
  simp only [List.flatten_cons,List.getElem?_append,hx]
  by_cases hj:j < k
  ·rw [if_pos hj,Nat.div_eq_of_lt hj,Nat.mod_eq_of_lt hj]; simp
  ·rw [if_neg hj,ih hes (j - k)]
   have e1:j / k = (j - k) / k + 1:=by
    have:j = (j - k) + k:=by omega
    conv=>lhs; rw [this]
    exact Nat.add_div_right _ hk
   have e2:j % k = (j - k) % k:=by
    have:j = (j - k) + k:=by omega
    conv=>lhs; rw [this]
    exact Nat.add_mod_right _ _
   rw [e1,e2]; simp
theorem zxO {H:Type} (f:Nat → List V) (D:Nat → DataW H):∀ (l:List Nat),(∀ i ∈ l,V.blks (f i) ≤ Proofs.YthghlbdejdideaaGreat.Rows.uptoBulk (D i)) → V.blks (l.map f).flatten ≤ Proofs.YthghlbdejdideaaGreat.Rows.uptoBulkAll (l.map D):=by
 intro l
 induction l with
 | nil=>intro _; simp [V.blks]
 | cons i l ih =>
  intro h
  simp only [List.map_cons,List.flatten_cons,zrL,Proofs.YthghlbdejdideaaGreat.Rows.uptoBulkAll]
  have:=ih fun j hj=>h j (List.mem_cons_of_mem _ hj)
  have:=h i (List.mem_cons_self ..)
  omega
section
variable {H:Type} {enc:TypeId × Value → H} {P:Program} {w:World} {spare:Nat → Bool} {held:Bool}
def RepC (w:World) (vs:List V) (cs:List Value):Prop :=
 vs.length = cs.length ∧ ∀ (j:Nat) (v:V) (x:Value),vs[j]? = some v → cs[j]? = some x → Rep (fun _=>none) (fun b=>b < w.heap.size) w v x
theorem RepC.append {a b:List V} {c d:List Value} (h:RepC w a c) (k:RepC w b d):RepC w (a ++ b) (c ++ d):=by
 refine ⟨by simp [h.1,k.1],fun j v x hv hx=>?_⟩
 rw [List.getElem?_append] at hv hx
 rw [← h.1] at hx
 split at hv
 ·rename_i hj
  rw [if_pos hj] at hx
  exact h.2 j v x hv hx
 ·rename_i hj
  rw [if_neg hj] at hx
  exact k.2 _ v x hv hx
theorem zxA {α:Type} (cs:List α) (o n:Nat):cs.drop o = (cs.drop o).take n ++ cs.drop (o + n):=by
 rw [← List.drop_drop,List.take_append_drop]
theorem zFY {a:Addr} {v:Value} (h:w.cell? a = some v):a.block < w.heap.size ∧ a.spot = none:=by
 unfold World.cell? at h
 cases hb:w.heap[a.block]? with
 | none=>rw [hb] at h; cases h
 | some o =>
  refine ⟨(Array.getElem?_eq_some_iff.1 hb).1,?_⟩
  rw [hb] at h
  cases o with
  | cells c t f =>
   dsimp only at h
   cases hs:a.spot with
   | none=>rfl
   | some _=>rw [hs] at h; simp at h
  | _=>cases h
theorem zEB {g:TypeId → Option Sh}:∀ {ts:List TypeId} {ss:List Sh},zBl g ts = some ss → ss.length = ts.length ∧ ∀ (i:Nat) (t:TypeId) (s:Sh),ts[i]? = some t → ss[i]? = some s → g t = some s:=by
 intro ts
 induction ts with
 | nil=>intro ss h; simp only [zBl,Option.some.injEq] at h; subst h; simp
 | cons t ts ih =>
  intro ss h
  simp only [zBl,Option.bind_eq_some_iff,Option.map_eq_some_iff] at h
  obtain ⟨s,hs,ss',hss,rfl⟩:=h
  obtain ⟨h1,h2⟩:=ih hss
  refine ⟨by simp [h1],fun i t' s' ht hs'=>?_⟩
  cases i with
  | zero=>simp only [List.getElem?_cons_zero,Option.some.injEq] at ht hs'; subst ht hs'; exact hs
  | succ i=>exact h2 i t' s' (by simpa using ht) (by simpa using hs')
theorem trod_sh:∀ (n:Nat) (t:TypeId) (s:Sh) (fuel:Nat) (cs:List Value) (x:DataW H × List MemPlace),shOf P n t = some s → DataW.trod enc P w 0 spare held fuel t cs = some x →
  ∃ vs,Sh.Ty s vs ∧ RepC w vs cs ∧ V.blks vs ≤ Proofs.YthghlbdejdideaaGreat.Rows.uptoBulk x.1:=by
 intro n
 induction n with
 | zero=>intro t s fuel cs x h; cases h
 | succ n ih =>
  intro t s fuel cs x hs h
  have one:∀ {v:V} {c:Value},Rep (fun _=>none) (fun b=>b < w.heap.size) w v c → RepC w [v] [c]:=by
   intro v c hr
   refine ⟨rfl,fun j u y hu hy=>?_⟩
   cases j with
   | zero=>simp only [List.getElem?_cons_zero,Option.some.injEq] at hu hy; subst hu hy; exact hr
   | succ j=>simp at hu
  cases hu:P.underlying t with
  | none=>simp only [shOf,hu,reduceCtorEq] at hs
  | some d =>
   cases d <;> simp only [shOf,hu,reduceCtorEq,Option.some.injEq] at hs
   case bool =>
    subst hs
    obtain ⟨b,rfl,rfl⟩:=DataW.trod_bool hu h
    exact ⟨[.bool b],⟨b,rfl⟩,one (.bool b),by simp [V.blks,V.blk,Proofs.YthghlbdejdideaaGreat.Rows.uptoBulk]⟩
   case int k =>
    subst hs
    obtain ⟨i,rfl,rfl,hw⟩:=DataW.trod_int hu h
    simp only [Lit.wf,Bool.and_eq_true,decide_eq_true_eq] at hw
    exact ⟨[.int k i],⟨i,rfl,hw⟩,one (.int k i),by simp [V.blks,V.blk,Proofs.YthghlbdejdideaaGreat.Rows.uptoBulk]⟩
   case string =>
    subst hs
    obtain ⟨b,rfl,rfl,hw⟩:=DataW.trod_string hu h
    exact ⟨[.str b],⟨b,rfl,hw⟩,one (.str b),by
     simp only [V.blks,V.blk,Proofs.YthghlbdejdideaaGreat.Rows.uptoBulk]
     have:b.data.toList.length = b.size:=rfl
     omega⟩
   case slice e =>
    simp only [Option.bind_eq_some_iff] at hs
    obtain ⟨se,hse,hs⟩:=hs
    split at hs
    ·rename_i hsz
     simp only [Option.some.injEq] at hs
     subst hs
     rcases open_slice hu h with ⟨rfl,rfl⟩ | ⟨a,len,cap,m,k,D,Pl,rfl,_,hlc,hcm,hm,rfl,hi⟩
     ·exact ⟨[.nils], .inl rfl,one .nils,by simp [V.blks,V.blk,Proofs.YthghlbdejdideaaGreat.Rows.uptoBulk]⟩
     ·have hlm:len ≤ m:=by rw [hm]; split <;> omega
      have hex:∀ i,i < len → ∃ vs,Sh.Ty se vs ∧ (∃ cs',w.cells? 0 (a.add (i * P.cellsOf e)) (P.cellsOf e) = some cs' ∧ RepC w vs cs') ∧ V.blks vs ≤ Proofs.YthghlbdejdideaaGreat.Rows.uptoBulk (D i):=by
       intro i hil
       obtain ⟨cs',hc,ht⟩:=hi i (by omega)
       obtain ⟨vs,h1,h2,h3⟩:=ih e se k cs' (D i,Pl i) hse ht
       exact ⟨vs,h1,⟨cs',hc,h2⟩,h3⟩
      obtain ⟨f,hf⟩:=choose_lt hex
      have hlen:∀ y ∈ (List.range len).map f,y.length = Sh.size se:=by
       intro y hy
       obtain ⟨i,hir,rfl⟩:=List.mem_map.1 hy
       exact zF4 _ _ (hf i (List.mem_range.1 hir)).1
      have hty:∀ y ∈ (List.range len).map f,Sh.Ty se y:=by
       intro y hy
       obtain ⟨i,hir,rfl⟩:=List.mem_map.1 hy
       exact (hf i (List.mem_range.1 hir)).1
      -- cell by cell
      have cell:∀ (j:Nat) (v:V),((List.range len).map f).flatten[j]? = some v → a.spot = none ∧ a.block < w.heap.size ∧ ∃ y,w.cell? ⟨a.block,a.off + j,none⟩ = some y ∧ Rep (fun _=>none) (fun b=>b < w.heap.size) w v y:=by
       intro j v hj
       rw [zDw hsz.2 _ hlen] at hj
       simp only [Option.bind_eq_some_iff,List.getElem?_map,Option.map_eq_some_iff] at hj
       obtain ⟨vs,⟨i,hir,rfl⟩,hv⟩:=hj
       have hil:i < len ∧ i = j / Sh.size se:=by
        rw [List.getElem?_eq_some_iff] at hir
        obtain ⟨h1,h2⟩:=hir
        simp only [List.length_range] at h1
        simp only [List.getElem_range] at h2
        omega
       obtain ⟨hil,rfl⟩:=hil
       obtain ⟨_,⟨cs',hc,hr⟩,_⟩:=hf _ hil
       obtain ⟨_,hcl,hat⟩:=World.cells?_some hc
       have hmod:j % Sh.size se < Sh.size se:=Nat.mod_lt _ hsz.2
       obtain ⟨y,hcs⟩:∃ y,cs'[j % Sh.size se]? = some y:=⟨_,List.getElem?_eq_getElem (by rw [hcl,hsz.1]; exact hmod)⟩
       have hcell:=hat (j % Sh.size se) (by rw [hsz.1]; exact hmod)
       rw [hcs,Go.Deep.add_add,hsz.1] at hcell
       have hdm:j / Sh.size se * Sh.size se + j % Sh.size se = j:=by
        have:=Nat.div_add_mod j (Sh.size se)
        rw [Nat.mul_comm] at this; exact this
       rw [hdm] at hcell
       have h0:=(zFY hcell).1
       have hspot:a.spot = none:=by
        obtain ⟨_,⟨cs0,hc0,hr0⟩,_⟩:=hf 0 (Nat.lt_of_le_of_lt (Nat.zero_le _) hil)
        obtain ⟨_,hcl0,hat0⟩:=World.cells?_some hc0
        have h00:=hat0 0 (by rw [hsz.1]; exact hsz.2)
        obtain ⟨y0,hcs0⟩:∃ y,cs0[0]? = some y:=⟨_,List.getElem?_eq_getElem (by rw [hcl0,hsz.1]; exact hsz.2)⟩
        rw [hcs0,Go.Deep.add_add] at h00
        have:=(zFY h00).2
        simpa [Addr.add] using this
       have hadd:a.add j = ⟨a.block,a.off + j,none⟩:=by
        obtain ⟨ab,ao,asp⟩:=a
        dsimp only at hspot
        subst hspot
        exact zEj ab ao j
       rw [hadd] at hcell h0
       exact ⟨hspot,h0,_,hcell,hr.2 _ v _ hv hcs⟩
      refine ⟨[.rs ((List.range len).map f).flatten len], .inr ⟨(List.range len).map f,by simp,by simp; omega,hty⟩,one ?_,?_⟩
      ·refine .rs a.block a.off (fun j=>(w.cell? ⟨a.block,a.off + j,none⟩).getD Go.undef) hlc ?_ (fun j v hj=>?_) fun j v hj=>?_
       ·by_cases hl0:len = 0
        ·exact .inl hl0
        ·right
         have h0:0 < ((List.range len).map f).flatten.length:=by
          obtain ⟨l0,hl0'⟩:∃ l0,len = l0 + 1:=⟨len - 1,by omega⟩
          have hm0:f 0 ∈ (List.range len).map f:=List.mem_map.2 ⟨0,List.mem_range.2 (by omega),rfl⟩
          have:=hlen _ hm0
          have hsub:(f 0).length ≤ ((List.range len).map f).flatten.length:=by
           rw [hl0',List.range_succ_eq_map]; simp
          omega
         obtain ⟨h1,h2,_⟩:=cell 0 _ (List.getElem?_eq_getElem h0)
         refine ⟨by cases a; simp_all,h2,fun j v hj=>?_⟩
         obtain ⟨_,_,y,hy,_⟩:=cell j v hj
         rw [hy]; rfl
       ·have hm:=List.mem_of_getElem? hj
        obtain ⟨y,hy,hvy⟩:=List.mem_flatten.1 hm
        exact zEk se y (hty y hy) v hvy
       ·obtain ⟨_,_,y,hy,hr⟩:=cell j v hj
        rw [hy]; exact hr
      ·simp only [V.blks,V.blk,Proofs.YthghlbdejdideaaGreat.Rows.uptoBulk]
       have:=zxO f D (List.range len) fun i hir=>(hf i (List.mem_range.1 hir)).2.2
       omega
    ·cases hs
   case struct fs =>
    simp only [Option.bind_eq_some_iff] at hs
    obtain ⟨ss,hss,hs⟩:=hs
    split at hs
    ·rename_i hof
     simp only [Option.some.injEq] at hs
     subst hs
     obtain ⟨xs,k,_,rfl,hcl,hxl,hf⟩:=DataW.trod_struct hu h
     obtain ⟨hsl,hsg⟩:=zEB hss
     have key:∀ (fl:List Field) (ss:List Sh) (o:Nat) (ys:List (DataW H × List MemPlace)),offs P o fl ss = true → (∀ (i:Nat) (f:Field) (s:Sh),fl[i]? = some f → ss[i]? = some s → shOf P n f.type = some s) → ys.length = fl.length →
       (∀ (i:Nat) (f:Field),fl[i]? = some f → DataW.trod enc P w 0 spare held k f.type ((cs.drop f.offset).take (P.cellsOf f.type)) = ys[i]?) → o + Sh.sizes ss = cs.length →
       ∃ vs,Sh.Tys ss vs ∧ RepC w vs (cs.drop o) ∧ V.blks vs ≤ Proofs.YthghlbdejdideaaGreat.Rows.uptoBulkAll (ys.map (·.1)):=by
      intro fl
      induction fl with
      | nil =>
       intro ss o ys ho _ hyl _ hlen
       cases ss with
       | cons s ss=>simp [offs] at ho
       | nil =>
        simp only [Sh.sizes,Nat.add_zero] at hlen
        refine ⟨[],rfl,⟨by simp [hlen],by simp⟩,by simp [V.blks]⟩
      | cons f fl ihf =>
       intro ss o ys ho hg hyl hfy hlen
       cases ss with
       | nil=>simp [offs] at ho
       | cons s ss =>
        simp only [offs,Bool.and_eq_true,decide_eq_true_eq] at ho
        obtain ⟨⟨ho1,ho2⟩,ho3⟩:=ho
        cases ys with
        | nil=>simp at hyl
        | cons y ys =>
         have h0:=hfy 0 f rfl
         simp only [List.getElem?_cons_zero] at h0
         obtain ⟨va,ha1,ha2,ha3⟩:=ih f.type s k _ y (hg 0 f s rfl rfl) h0
         obtain ⟨vb,hb1,hb2,hb3⟩:=ihf ss (o + Sh.size s) ys ho3 (fun i f' s' h1 h2=>hg (i + 1) f' s' (by simpa using h1) (by simpa using h2)) (by simpa using hyl) (fun i f' h1=>by simpa using hfy (i + 1) f' (by simpa using h1)) (by simp only [Sh.sizes] at hlen; omega)
         refine ⟨va ++ vb,⟨va,vb,rfl,ha1,hb1⟩,?_,?_⟩
         ·rw [zxA cs o (Sh.size s)]
          rw [ho1,ho2] at ha2
          exact ha2.append hb2
         ·simp only [zrL,List.map_cons,Proofs.YthghlbdejdideaaGreat.Rows.uptoBulkAll]
          omega
     obtain ⟨vs,h1,h2,h3⟩:=key fs.toList ss 0 xs hof.1 (fun i f s h1 h2=>hsg i f.type s (by simp [h1]) h2) (by simpa using hxl) (fun i f h1=>hf i f (by simpa using h1)) (by rw [Nat.zero_add,hcl,hof.2])
     refine ⟨vs,h1,by simpa using h2,?_⟩
     simp only [Proofs.YthghlbdejdideaaGreat.Rows.uptoBulk]
     omega
    ·cases hs
   case array mm e =>
    simp only [Option.bind_eq_some_iff] at hs
    obtain ⟨se,hse,hs⟩:=hs
    split at hs
    ·rename_i hsz
     simp only [Option.some.injEq] at hs
     subst hs
     obtain ⟨xs,k,_,rfl,hcl,hxl,hf⟩:=DataW.trod_array hu h
     have key:∀ (i:Nat),i ≤ mm → ∃ es:List (List V),es.length = i ∧ (∀ y ∈ es,Sh.Ty se y) ∧ RepC w es.flatten (cs.take (i * Sh.size se)) ∧ V.blks es.flatten ≤ Proofs.YthghlbdejdideaaGreat.Rows.uptoBulkAll ((xs.take i).map (·.1)):=by
      intro i
      induction i with
      | zero=>intro _; exact ⟨[],rfl,by simp,⟨by simp,by simp⟩,by simp [V.blks]⟩
      | succ i ihi =>
       intro hi
       obtain ⟨es,h1,h2,h3,h4⟩:=ihi (by omega)
       have hxi:xs[i]? = some (xs[i]'(by omega)):=List.getElem?_eq_getElem _
       have ht:=(hf i (by omega)).trans hxi
       obtain ⟨va,ha1,ha2,ha3⟩:=ih e se k _ _ hse ht
       refine ⟨es ++ [va],by simp [h1],fun y hy=>?_,?_,?_⟩
       ·rcases List.mem_append.1 hy with hy | hy
        ·exact h2 y hy
        ·rw [List.mem_singleton.1 hy]; exact ha1
       ·have:cs.take ((i + 1) * Sh.size se) = cs.take (i * Sh.size se) ++ (cs.drop (i * Sh.size se)).take (Sh.size se):=by
         rw [Nat.add_mul,Nat.one_mul,List.take_add]
        rw [this]
        simp only [List.flatten_append,List.flatten_cons,List.flatten_nil,List.append_nil]
        rw [hsz.1] at ha2
        exact h3.append ha2
       ·have hbulk:∀ (a b:List (DataW H)),Proofs.YthghlbdejdideaaGreat.Rows.uptoBulkAll (a ++ b) = Proofs.YthghlbdejdideaaGreat.Rows.uptoBulkAll a + Proofs.YthghlbdejdideaaGreat.Rows.uptoBulkAll b:=by
         intro a b
         induction a with
         | nil=>simp [Proofs.YthghlbdejdideaaGreat.Rows.uptoBulkAll]
         | cons d a iha=>simp [Proofs.YthghlbdejdideaaGreat.Rows.uptoBulkAll,iha,Nat.add_assoc]
        rw [List.take_add_one,hxi]
        simp only [List.flatten_append,List.flatten_cons,List.flatten_nil,List.append_nil,zrL,Option.toList_some,List.map_append,List.map_cons,List.map_nil,hbulk,Proofs.YthghlbdejdideaaGreat.Rows.uptoBulkAll,Nat.add_zero]
        omega
     obtain ⟨es,h1,h2,h3,h4⟩:=key mm (Nat.le_refl _)
     refine ⟨es.flatten,⟨es,rfl,h1,h2⟩,?_,?_⟩
     ·rw [List.take_of_length_le (by rw [hcl,hsz.2]; exact Nat.le_refl _)] at h3
      exact h3
     ·rw [List.take_of_length_le (by omega)] at h4
      simp only [Proofs.YthghlbdejdideaaGreat.Rows.uptoBulk]
      omega
    ·cases hs
def Sh.TyV:Sh → V → Prop
 | .st fs,v=>∃ vs,v = .agg vs ∧ Sh.Tys fs vs
 | .ar n e,v=>∃ vs,v = .agg vs ∧ Sh.Ty (.ar n e) vs
 | s,v=>Sh.Ty s [v]
def zF5:List Sh → List V → Prop
 | [],[]=>True
 | s :: ss,v :: vs=>Sh.TyV s v ∧ zF5 ss vs
 | _,_=>False
theorem zBS {r:Reach} {base:Nat} {t e:TypeId} {n:Nat} {v:Value} (ht:P.underlying t = some (.array n e)) (h:Value.okWide P w r base t v):∃ cs,v = .agg cs ∧ cs.size = P.cellsOf t:=by
 simp only [Value.okWide,ht] at h
 obtain ⟨cs,h1,h2,_⟩:=h
 exact ⟨cs,h1,h2⟩
theorem arg_sh {n:Nat} {t:TypeId} {s:Sh} {v:Value} {d:DataW H} {ps:List MemPlace} {r:Reach} {base:Nat} (hs:shOf P n t = some s) (hv:Value.okWide P w r base t v) (h:DataW.Trod enc P w 0 spare held t v d ps) :
  ∃ u,Sh.TyV s u ∧ Rep (fun _=>none) (fun b=>b < w.heap.size) w u v ∧ V.blk u ≤ Proofs.YthghlbdejdideaaGreat.Rows.uptoBulk d:=by
 obtain ⟨fuel,hf⟩:=h
 obtain ⟨vs,h1,h2,h3⟩:=trod_sh n t s fuel _ (d,ps) hs hf
 have single:∀ {x:Value},v = x → x.cells = #[x] → (∀ u,Sh.Ty s [u] → Sh.TyV s u) → ∃ u,Sh.TyV s u ∧ Rep (fun _=>none) (fun b=>b < w.heap.size) w u v ∧ V.blk u ≤ Proofs.YthghlbdejdideaaGreat.Rows.uptoBulk d:=by
  intro x hx hc hty
  subst hx
  rw [hc] at h2
  obtain ⟨u,rfl⟩:∃ u,vs = [u]:=List.length_eq_one_iff.1 (by simpa using h2.1)
  exact ⟨u,hty u h1,h2.2 0 u v rfl rfl,by simpa [V.blks] using h3⟩
 have whole:∀ {cs:Array Value},v = .agg cs → (Sh.TyV s (.agg vs)) → ∃ u,Sh.TyV s u ∧ Rep (fun _=>none) (fun b=>b < w.heap.size) w u v ∧ V.blk u ≤ Proofs.YthghlbdejdideaaGreat.Rows.uptoBulk d:=by
  intro cs hx hty
  subst hx
  refine ⟨.agg vs,hty, .agg (by simpa [Value.cells] using h2.1.symm) (zEk s vs h1) (fun j u x hu hx=>h2.2 j u x hu (by simpa [Value.cells] using hx)),by simpa [V.blk] using h3⟩
 cases n with
 | zero=>cases hs
 | succ n =>
  cases hu:P.underlying t with
  | none=>simp only [shOf,hu,reduceCtorEq] at hs
  | some dd =>
   cases dd <;> simp only [shOf,hu,reduceCtorEq,Option.some.injEq] at hs
   case bool=>subst hs; obtain ⟨b,hb⟩:=okWide_bool hu hv; exact single hb rfl fun u h=>h
   case int k=>subst hs; obtain ⟨b,hb⟩:=okWide_int hu hv; exact single hb rfl fun u h=>h
   case string=>subst hs; obtain ⟨b,hb⟩:=okWide_string hu hv; exact single hb rfl fun u h=>h
   case slice e =>
    simp only [Option.bind_eq_some_iff] at hs
    obtain ⟨se,hse,hs⟩:=hs
    split at hs
    ·simp only [Option.some.injEq] at hs
     subst hs
     obtain ⟨a,len,cap,hb⟩:=okWide_slice hu hv
     exact single hb rfl fun u h=>h
    ·cases hs
   case struct fs =>
    simp only [Option.bind_eq_some_iff] at hs
    obtain ⟨ss,hss,hs⟩:=hs
    split at hs
    ·simp only [Option.some.injEq] at hs
     subst hs
     obtain ⟨cs,hb,_⟩:=okWide_struct hu hv
     exact whole hb ⟨vs,rfl,h1⟩
    ·cases hs
   case array mm e =>
    simp only [Option.bind_eq_some_iff] at hs
    obtain ⟨se,hse,hs⟩:=hs
    split at hs
    ·simp only [Option.some.injEq] at hs
     subst hs
     obtain ⟨cs,hb,_⟩:=zBS hu hv
     exact whole hb ⟨vs,rfl,h1⟩
    ·cases hs
theorem args_sh {n:Nat} {r:Reach} {base:Nat}:∀ (ts:List TypeId) (ss:List Sh) (vs:List Value) (ds:List (DataW H)) (ps:List MemPlace),zBl (shOf P n) ts = some ss → DataW.TrodAll enc P w 0 spare held ts vs ds ps →
  (∀ (j:Nat) (t:TypeId) (v:Value),ts[j]? = some t → vs[j]? = some v → Value.okWide P w r base t v) → ∃ us,zF5 ss us ∧ Reps (fun _=>none) (fun b=>b < w.heap.size) w us vs ∧ V.blks us ≤ Proofs.YthghlbdejdideaaGreat.Rows.uptoBulkAll ds:=by
 intro ts
 induction ts with
 | nil =>
  intro ss vs ds ps hs h _
  simp only [zBl,Option.some.injEq] at hs
  subst hs
  obtain ⟨rfl,rfl,_⟩:=trodAll_nil h
  exact ⟨[],trivial,⟨rfl,by simp⟩,by simp [V.blks]⟩
 | cons t ts ih =>
  intro ss vs ds ps hs h hv
  simp only [zBl,Option.bind_eq_some_iff,Option.map_eq_some_iff] at hs
  obtain ⟨s,hs1,ss',hss,rfl⟩:=hs
  obtain ⟨v,vs',d,ds',p,q,rfl,rfl,rfl,h1,h2⟩:=trodAll_cons h
  obtain ⟨u,hu1,hu2,hu3⟩:=arg_sh hs1 (hv 0 t v rfl rfl) h1
  obtain ⟨us,hs1,hs2,hs3⟩:=ih ss' vs' ds' q hss h2 fun j t' v' ht hv'=>hv (j + 1) t' v' (by simpa using ht) (by simpa using hv')
  refine ⟨u :: us,⟨hu1,hs1⟩,⟨by simp [hs2.1],fun j a x ha hx=>?_⟩,by simp only [V.blks,Proofs.YthghlbdejdideaaGreat.Rows.uptoBulkAll]; omega⟩
  cases j with
  | zero=>simp only [List.getElem?_cons_zero,Option.some.injEq] at ha hx; subst ha hx; exact hu2
  | succ j=>exact hs2.2 j a x (by simpa using ha) (by simpa using hx)
end
def H0:Heap:=⟨fun _=>none,0⟩
theorem relH_H0 (w:World):RelH (fun _=>none) (fun b=>b < w.heap.size) H0 w :=
 ⟨fun id b h=>(by cases h),fun id id' b b' l l' h=>(by cases h),fun _ _=>rfl,fun _ h=>h⟩
theorem call_true {P:Program} {G:Sem'} (hG:zqj P G) {F:FuncId} {W:World} {args:Array Value} {us:List V} {H':Heap} (h:G F us H0 = some (.bool true,H')) (hr:Reps (fun _=>none) (fun b=>b < W.heap.size) W us args.toList) :
  Calls P F args W fun e W'=>e = .returned (.bool true) ∧ Below W.heap.size W W':=by
 have:=(hG F us H0 _ H' h).2.1 (fun _=>none) (fun b=>b < W.heap.size) W args.toList (relH_H0 W) (fun _ _ _=>rfl) hr
 refine Calls.mono this fun e W' ⟨m',Z',x,he,hx,_,hext⟩=>?_
 cases hx
 exact ⟨he,hext.os,hext.tape,hext.output,hext.size,fun k hk=>hext.same k hk fun id b l hb=>by cases hb⟩
section
variable {H:Type} {enc:TypeId × Value → H} {P:Program}
theorem trodAll_len {w:World} {base:Nat} {sp:Nat → Bool} {held:Bool}:∀ {ts:List TypeId} {vs:List Value} {ds:List (DataW H)} {ps:List MemPlace},DataW.TrodAll enc P w base sp held ts vs ds ps → ds.length = ts.length:=by
 intro ts
 induction ts with
 | nil=>intro vs ds ps h; obtain ⟨_,rfl,_⟩:=trodAll_nil h; rfl
 | cons t ts ih =>
  intro vs ds ps h
  obtain ⟨v,vs',d,ds',p,q,rfl,rfl,rfl,_,h2⟩:=trodAll_cons h
  simp [ih h2]
theorem post_below {f:Func} {s:ChangeSpec} {apart fresh handsOn again:Bool} {W W':World} {args:Array Value} {ds gs:List (DataW H)} {before:List MemPlace}
  (hW:DataW.Whole enc P f.params.toList s.vars apart W args.toList ds gs before) (hvars:s.vars = []) (hfn:s.fn H ds = { results:=[.lit (.bool true)],args:=ds }) (hlay:laidOutB P = true) (hmr:mapsRowed P = true)
  (hfull:((List.range P.types.size).all fun t=>match P.underlying t with | some (.slice e)=>decide (0 < P.cellsOf e) | _=>true) = true) (hpt:(f.params.toList.all fun t=>decide (t < P.types.size)) = true)
  {tb:TypeId} (hres:f.resultTypes = #[tb]) (htb:P.underlying tb = some .bool) (hb:Below W.heap.size W W') :
  s.post enc P f apart fresh handsOn again W args (.bool true) W':=by
 have hlt:∀ p ∈ before,p.block < W.heap.size:=fun p hp=>hW.lt p hp
 have hW0:=hW
 obtain ⟨p,q,hA,hV,hbe,hz,hn⟩:=hW
 rw [hvars] at hV
 obtain ⟨rfl,rfl⟩:=trodVars_none hV
 simp only [List.append_nil] at hbe
 subst hbe
 have hA':DataW.TrodAll enc P W' 0 (fun _=>true) true f.params.toList args.toList ds before:=by
  have go:∀ {ts:List TypeId} {vs:List Value} {ds:List (DataW H)} {ps:List MemPlace},DataW.TrodAll enc P W 0 (fun _=>true) true ts vs ds ps → (∀ p ∈ ps,W.sameAt W' p) → DataW.TrodAll enc P W' 0 (fun _=>true) true ts vs ds ps:=by
   intro ts
   induction ts with
   | nil =>
    intro vs ds ps h _
    obtain ⟨rfl,rfl,rfl⟩:=trodAll_nil h
    rfl
   | cons t ts ih =>
    intro vs ds ps h hs
    obtain ⟨v,vs',d,ds',p,q,rfl,rfl,rfl,⟨k,h1⟩,h2⟩:=trodAll_cons h
    exact ⟨p,q,⟨k,DataW.trod_carry k _ _ _ h1 fun x hx=>hs x (List.mem_append_left _ hx)⟩,ih h2 fun x hx=>hs x (List.mem_append_right _ hx),rfl⟩
  refine go hA fun p hp=>?_
  have:=hb.block p.block (hlt p hp)
  cases p with
  | cell b o=>simp only [World.sameAt,World.cell?]; dsimp only [MemPlace.block] at this; rw [this]
  | map b=>simp only [World.sameAt]; dsimp only [MemPlace.block] at this; rw [this]
 have hres':∀ (b:Nat) (sp:Nat → Bool) (hd:Bool),DataW.TrodAll enc P W' b sp hd f.resultTypes.toList ((Value.bool true).resultList f.resultTypes.size) [.lit (.bool true)] []:=by
  intro b sp hd
  rw [hres]
  exact trodAll_cons_mk (shut_bool htb _) trodAll_mk0
 have hargs:∀ sp:Nat → Bool,(∀ p ∈ before,sp p.block = true) → DataW.TrodAll enc P W' 0 sp true f.params.toList args.toList ds before:=by
  intro sp hsp
  refine DataW.TrodAll.respare (T:=(· < P.types.size)) (kids_rows hlay hmr) (slices_full_of P hfull) (fun t ht=>?_) hA' hsp
  have:=List.all_eq_true.1 hpt t ht
  simpa using this
 have hvr:∀ sp:Nat → Bool,DataW.TrodVars enc P W' sp s.vars ([]:List (DataW H)) []:=by
  intro sp; rw [hvars]; rfl
 have hok:∀ (j:Nat) (t:TypeId) (r:Value),f.resultTypes[j]? = some t → ((Value.bool true).resultList f.resultTypes.size)[j]? = some r → Value.okWide P W' .any 0 t r:=by
  exact ok_one hres rfl (okWide_bool_mk htb _)
 have hold:∀ p ∈ before,(fun b=>decide (b < W.heap.size)) p.block = true:=fun p hp=>by simpa using hlt p hp
 refine ⟨ds,[],before,[],before,[],hW0,?_,?_,?_,World.keptBut_mono (fun p hp=>⟨hp,?_⟩) (hb.frame (· ∈ before)),fun _=>?_⟩
 ·simp only [List.append_nil,hfn]; exact hres' _ _ _
 ·simp only [List.append_nil,hfn]; exact hargs _ hold
 ·simp only [List.append_nil,hfn]; exact hvr _
 ·exact .inr (.inl hp)
 ·refine ⟨hok,_,_,([] ++ before) ++ [],⟨[] ++ before,[],trodAll_append (hargs _ (fun _ _=>rfl)) (hres' _ _ _),hvr _,rfl,?_,?_⟩,?_⟩
  ·intro b off hp
   have hin:MemPlace.cell b off ∈ before:=by simpa using hp
   rw [hb.frozen (hlt _ hin)]
   exact hz b off hin
  ·intro ha
   have:=hn ha
   simpa using this
  ·intro p hp _
   simpa using hp
end
end Go.Ax
/- Ax19 -/
namespace Go.Ax
theorem M.bind_assoc {α β γ:Type} (x:M α) (f:α → M β) (g:β → M γ):(x.bind f).bind g = x.bind fun v=>(f v).bind g:=by
 funext H
 simp only [M.bind]
 cases x H with
 | none=>rfl
 | some r=>rfl
theorem M.pure_bind {α β:Type} (v:α) (f:α → M β):(M.pure v).bind f = f v:=rfl
def step {α:Type} (G:Sem') (o:AO) (A:Fr) (k:V → M α):M α :=
 match o.gd,o.ins with
 | none, .mv x=>(match x.ev A with | some v=>k v | none=>M.fail)
 | _,_=>(o.run G A).bind k
theorem zFl {α:Type} (G:Sem') (o:AO) (A:Fr) (k:V → M α):step G o A k = (o.run G A).bind k:=by
 obtain ⟨d,gd,ins⟩:=o
 cases gd with
 | some _=>rfl
 | none =>
  cases ins <;> first | rfl | skip
  rename_i x
  show (match x.ev A with | some v=>k v | none=>M.fail) = _
  simp only [AO.run,guarded,I.run,with1]
  cases x.ev A <;> rfl
def opsK {α:Type} (G:Sem'):List AO → Fr → (Fr → M α) → M α
 | [],A,k=>k A
 | o :: os,A,k=>step G o A fun v=>opsK G os (A.put o.dst v) k
theorem opsK_eq {α:Type} (G:Sem') (k:Fr → M α):∀ (l:List AO) (A:Fr),opsK G l A k = (znG G l A).bind k:=by
 intro l
 induction l with
 | nil=>intro A; rfl
 | cons o l ih =>
  intro A
  simp only [opsK,znG,M.bind_assoc,zFl]
  congr 1
  funext v
  exact ih _
noncomputable def actsK {α:Type} (un:List (Nat × Nat)) (i:Nat) (a:V):List (Nat × Heap × Heap) → M α → M α
 | [],k=>k
 | (j,h,h') :: js,k=>if un.contains (i,j) then (M.unch a h h').bind fun _=>actsK un i a js k else actsK un i a js k
noncomputable def readsK {α:Type} (un:List (Nat × Nat)) (j:Nat) (h h':Heap):List (Nat × V) → M α → M α
 | [],k=>k
 | (i,a) :: rs,k=>if un.contains (i,j) then (M.unch a h h').bind fun _=>readsK un j h h' rs k else readsK un j h h' rs k
noncomputable def drawK {α:Type} (G:Sem') (un:List (Nat × Nat)):Nat → List (Nat × V) → List (Nat × Heap × Heap) → List AO → Fr → (Fr → M α) → M α
 | _,_,_,[],A,k=>k A
 | p,rs,js,o :: os,A,k =>
  match o.ins.kind with
  | .read x =>
   if un.any (fun q=>q.1 == p) then
    zck.with1' A x fun a=>step G o A fun v=>actsK un p a js (drawK G un (p + 1) ((p,a) :: rs) js os (A.put o.dst v) k)
   else step G o A fun v=>drawK G un (p + 1) rs js os (A.put o.dst v) k
  | .act =>
   if un.any (fun q=>q.2 == p) then
    M.getH.bind fun h=>step G o A fun v=>M.getH.bind fun h'=>readsK un p h h' rs (drawK G un (p + 1) rs ((p,h,h') :: js) os (A.put o.dst v) k)
   else step G o A fun v=>drawK G un (p + 1) rs js os (A.put o.dst v) k
  | _=>step G o A fun v=>drawK G un (p + 1) rs js os (A.put o.dst v) k
section
variable {α:Type} {un:List (Nat × Nat)}
theorem actsK_eq (i:Nat) (a:V) (k:M α):∀ js,actsK un i a js k = (zgo un i a js).bind fun _=>k:=by
 intro js
 induction js with
 | nil=>rfl
 | cons q js ih =>
  obtain ⟨j,h,h'⟩:=q
  simp only [actsK,zgo]
  split
  ·rw [M.bind_assoc]; congr 1; funext _; exact ih
  ·exact ih
theorem zFH (j:Nat) (h h':Heap) (k:M α):∀ rs,readsK un j h h' rs k = (zf3 un j h h' rs).bind fun _=>k:=by
 intro rs
 induction rs with
 | nil=>rfl
 | cons q rs ih =>
  obtain ⟨i,a⟩:=q
  simp only [readsK,zf3]
  split
  ·rw [M.bind_assoc]; congr 1; funext _; exact ih
  ·exact ih
def relR (un:List (Nat × Nat)) (q:Nat × V):Bool:=un.any fun x=>x.1 == q.1
def relA (un:List (Nat × Nat)) (q:Nat × Heap × Heap):Bool:=un.any fun x=>x.2 == q.1
theorem zyQ (i:Nat) (a:V):∀ js,zgo un i a (js.filter (relA un)) = zgo un i a js:=by
 intro js
 induction js with
 | nil=>rfl
 | cons q js ih =>
  obtain ⟨j,h,h'⟩:=q
  by_cases hr:relA un (j,h,h') = true
  ·rw [List.filter_cons_of_pos hr]
   simp only [zgo,ih]
  ·rw [List.filter_cons_of_neg hr,ih]
   simp only [zgo]
   rw [if_neg]
   intro hc
   refine hr ?_
   simp only [relA,List.any_eq_true,beq_iff_eq]
   exact ⟨(i,j),by simpa using hc,rfl⟩
theorem zxL (j:Nat) (h h':Heap):∀ rs,zf3 un j h h' (rs.filter (relR un)) = zf3 un j h h' rs:=by
 intro rs
 induction rs with
 | nil=>rfl
 | cons q rs ih =>
  obtain ⟨i,a⟩:=q
  by_cases hr:relR un (i,a) = true
  ·rw [List.filter_cons_of_pos hr]
   simp only [zf3,ih]
  ·rw [List.filter_cons_of_neg hr,ih]
   simp only [zf3]
   rw [if_neg]
   intro hc
   refine hr ?_
   simp only [relR,List.any_eq_true,beq_iff_eq]
   exact ⟨(i,j),by simpa using hc,rfl⟩
theorem zCE {i:Nat} (a:V) (h:(un.any fun q=>q.1 == i) = false):∀ js,zgo un i a js = M.pure ():=by
 intro js
 induction js with
 | nil=>rfl
 | cons q js ih =>
  obtain ⟨j,h1,h2⟩:=q
  simp only [zgo]
  rw [if_neg,ih]
  intro hc
  have:(un.any fun q=>q.1 == i) = true:=by
   simp only [List.any_eq_true,beq_iff_eq]
   exact ⟨(i,j),by simpa using hc,rfl⟩
  rw [h] at this
  cases this
theorem zAO {j:Nat} (h1 h2:Heap) (h:(un.any fun q=>q.2 == j) = false):∀ rs,zf3 un j h1 h2 rs = M.pure ():=by
 intro rs
 induction rs with
 | nil=>rfl
 | cons q rs ih =>
  obtain ⟨i,a⟩:=q
  simp only [zf3]
  rw [if_neg,ih]
  intro hc
  have:(un.any fun q=>q.2 == j) = true:=by
   simp only [List.any_eq_true,beq_iff_eq]
   exact ⟨(i,j),by simpa using hc,rfl⟩
  rw [h] at this
  cases this
theorem drawK_eq (G:Sem') (k:Fr → M α):∀ (l:List AO) (p:Nat) (rs:List (Nat × V)) (js:List (Nat × Heap × Heap)) (A:Fr),
  drawK G un p (rs.filter (relR un)) (js.filter (relA un)) l A k = (zck G un p rs js l A).bind k:=by
 intro l
 induction l with
 | nil=>intro p rs js A; rfl
 | cons o l ih =>
  intro p rs js A
  unfold drawK zck
  simp only [zFl]
  cases hk:o.ins.kind with
  | read x =>
   dsimp only
   have go:∀ a,(un.any fun q=>q.1 == p) = true → (fun v=>actsK un p a (js.filter (relA un)) (drawK G un (p + 1) ((p,a) :: rs.filter (relR un)) (js.filter (relA un)) l (A.put o.dst v) k)) =
     fun v=>((zgo un p a js).bind fun _=>zck G un (p + 1) ((p,a) :: rs) js l (A.put o.dst v)).bind k:=by
    intro a hu
    funext v
    rw [actsK_eq,zyQ,M.bind_assoc]
    congr 1
    funext _
    have:=ih (p + 1) ((p,a) :: rs) js (A.put o.dst v)
    rw [List.filter_cons_of_pos (by exact hu)] at this
    exact this
   cases hu:un.any fun q=>q.1 == p with
   | true =>
    rw [if_pos rfl]
    cases hx:x.ev A with
    | some a=>simp only [zck.with1',hx,M.bind_assoc]; rw [go a hu]; simp only [M.bind_assoc]
    | none=>simp only [zck.with1',hx,M.bind_assoc]; rw [go .undef hu]; simp only [M.bind_assoc]
   | false =>
    rw [if_neg (by exact Bool.false_ne_true)]
    have plain:∀ a,(fun v=>drawK G un (p + 1) (rs.filter (relR un)) (js.filter (relA un)) l (A.put o.dst v) k) = fun v=>((zgo un p a js).bind fun _=>zck G un (p + 1) ((p,a) :: rs) js l (A.put o.dst v)).bind k:=by
     intro a
     funext v
     rw [zCE a hu,M.pure_bind,← ih (p + 1) ((p,a) :: rs) js (A.put o.dst v),List.filter_cons_of_neg (by simp [relR,hu])]
    cases hx:x.ev A with
    | some a=>simp only [zck.with1',hx,M.bind_assoc]; rw [plain a]; simp only [M.bind_assoc]
    | none=>simp only [zck.with1',hx,M.bind_assoc]; rw [plain .undef]; simp only [M.bind_assoc]
  | act =>
   dsimp only
   cases hu:un.any fun q=>q.2 == p with
   | true =>
    rw [if_pos rfl]
    simp only [M.bind_assoc]
    congr 1; funext h; congr 1; funext v; congr 1; funext h'
    rw [zFH,zxL]
    congr 1
    funext _
    have:=ih (p + 1) rs ((p,h,h') :: js) (A.put o.dst v)
    rw [List.filter_cons_of_pos (by exact hu)] at this
    exact this
   | false =>
    rw [if_neg (by exact Bool.false_ne_true)]
    simp only [M.bind_assoc]
    funext H
    simp only [M.bind,M.getH,Option.bind_some]
    cases o.run G A H with
    | none=>rfl
    | some r =>
     simp only [Option.bind_some,zAO _ _ hu,M.pure]
     have:=congrFun (ih (p + 1) rs ((p,H,r.2) :: js) (A.put o.dst r.1)) r.2
     rw [List.filter_cons_of_neg (by simp [relA,hu])] at this
     exact this
  | pure =>
   dsimp only
   rw [M.bind_assoc]
   congr 1
   funext v
   exact ih ..
  | new =>
   dsimp only
   rw [M.bind_assoc]
   congr 1
   funext v
   exact ih ..
end
def resK {α:Type} (A:Fr):List RV → (List V → M α) → M α
 | [],k=>k []
 | .tmp t :: rs,k=>match A.get t with | some v=>resK A rs fun vs=>k (v :: vs) | none=>M.fail
 | .cell t n :: rs,k=>match A.get t with | some a=>(mload n a).bind fun v=>resK A rs fun vs=>k (v :: vs) | none=>M.fail
theorem resK_eq {α:Type} (A:Fr):∀ (rv:List RV) (k:List V → M α),resK A rv k = (results A rv).bind k:=by
 intro rv
 induction rv with
 | nil=>intro k; rfl
 | cons x rv ih =>
  intro k
  cases x with
  | tmp t =>
   simp only [resK,results]
   cases A.get t with
   | none=>rfl
   | some v =>
    dsimp only
    rw [ih]
    funext H
    simp only [M.bind,M.lift,Option.map_some,Option.bind_some]
    cases results A rv H with
    | none=>rfl
    | some r=>rfl
  | cell t n =>
   simp only [resK,results]
   cases A.get t with
   | none=>rfl
   | some v =>
    dsimp only
    funext H
    simp only [M.bind,M.lift,Option.map_some,Option.bind_some]
    cases mload n v H with
    | none=>rfl
    | some r =>
     simp only [Option.bind_some]
     rw [ih]
     simp only [M.bind]
     cases results A rv r.2 with
     | none=>rfl
     | some r=>rfl
noncomputable def execK (G:Sem') (rv:List RV):C → List (Nat × List Nat) → List Nat → Fr → M Res
 | .done,_,J,A=>match zeO A J with | some L=>M.pure (.nrm L) | none=>M.fail
 | .bad,_,_,_=>M.fail
 | .ops l k,cx,J,A=>opsK G l A fun A'=>execK G rv k cx J A'
 | .draw l un k,cx,J,A=>drawK G un 0 [] [] l A fun A'=>execK G rv k cx J A'
 | .cond x a b,cx,J,A=>match x.ev A with | some c=>M.ite c (execK G rv a cx J A) (execK G rv b cx J A) | none=>M.fail
 | .condJ x a b J' W k,cx,J,A=>match x.ev A with
  | some c=>M.join (M.ite c (execK G rv a cx J' A) (execK G rv b cx J' A)) fun L=>execK G rv k cx J (A.join J' W L)
  | none=>M.fail
 | .blk id a J' W k,cx,J,A=>M.blk id (execK G rv a ((id,J') :: cx) J' A) fun L=>execK G rv k cx J (A.join J' W L)
 | .loop a K W,cx,_,A=>match zeO A K with | some L=>M.iter (fun L=>execK G rv a cx K (A.join K W L)) L | none=>M.fail
 | .exit id,cx,_,A=>match zxJ cx id with | some J=>(match zeO A J with | some L=>M.pure (.ex id L) | none=>M.fail) | none=>M.fail
 | .ret,_,_,A=>resK A rv fun L=>M.pure (.ret L)
theorem execK_eq (G:Sem') (rv:List RV):∀ (c:C) (cx:List (Nat × List Nat)) (J:List Nat) (A:Fr),execK G rv c cx J A = exec G rv c cx J A:=by
 intro c
 induction c with
 | done=>intro cx J A; simp only [execK,exec]; cases zeO A J <;> rfl
 | bad=>intro cx J A; rfl
 | ops l k ih=>intro cx J A; simp only [execK,exec]; rw [opsK_eq]; congr 1; funext A'; exact ih _ _ _
 | draw l un k ih =>
  intro cx J A
  simp only [execK,exec]
  have:=drawK_eq (un:=un) G (fun A'=>execK G rv k cx J A') l 0 [] [] A
  simp only [List.filter_nil] at this
  rw [this]; congr 1; funext A'; exact ih _ _ _
 | cond x a b iha ihb=>intro cx J A; simp only [execK,exec,iha,ihb]; cases x.ev A <;> rfl
 | condJ x a b J' W k iha ihb ihk=>intro cx J A; simp only [execK,exec,iha,ihb,ihk]; cases x.ev A <;> rfl
 | blk id a J' W k iha ihk=>intro cx J A; simp only [execK,exec,iha,ihk]
 | loop a K W iha =>
  intro cx J A
  simp only [execK,exec,iha]
  cases zeO A K <;> rfl
 | exit id =>
  intro cx J A
  simp only [execK,exec]
  cases zxJ cx id with
  | none=>rfl
  | some J=>dsimp only; cases zeO A J <;> rfl
 | ret=>intro cx J A; simp only [execK,exec,resK_eq]
noncomputable def fin (x:M Res):M V:=x.bind fun r =>
 match r with
 | .ret L=>M.pure (zwb L)
 | _=>M.fail
theorem run_eq (G:Sem') (f:Fn') (args:List V):f.run G args = fin (execK G f.rv f.body [] [] (params 0 args)):=by
 rw [execK_eq]; rfl
theorem sem_step {T:FuncId → Option Fn'} {f:FuncId} {ir:Fn'} (hT:T f = some ir) {args:List V} (hl:args.length ≤ ir.ntmps) {x:M V} (hx:fin (execK (sem T) ir.rv ir.body [] [] (params 0 args)) = x) {H:Heap} {r:V × Heap} (h:x H = some r) :
  sem T f args H = some r:=zFv hT hl (by rw [run_eq,hx]; exact h)
/-! Steps of proofs. -/
theorem bind_ok {α β:Type} {x:M α} {f:α → M β} {H H1:Heap} {v:α} (h:x H = some (v,H1)):(x.bind f) H = f v H1:=by simp only [M.bind,h,Option.bind_some]
end Go.Ax
/- Ax20 -/
namespace Go.Ax
section
variable {α β:Type} {H:Heap}
end
structure Step (H H':Heap) (F F':List Nat):Prop where
 next:H.next ≤ H'.next
 same:∀ i,i < H.next → i ∉ F → H'.get i = H.get i
 own:∀ i,i ∈ F' → i ∈ F ∨ (H.next ≤ i ∧ i < H'.next)
theorem Step.refl (H:Heap) (F:List Nat):Step H H F F:=⟨Nat.le_refl _,fun _ _ _=>rfl,fun _ h=>.inl h⟩
theorem Step.trans {H H1 H2:Heap} {F F1 F2:List Nat} (h:Step H H1 F F1) (k:Step H1 H2 F1 F2):Step H H2 F F2:=by
 refine ⟨Nat.le_trans h.next k.next,fun i hi hF=>?_,fun i hi=>?_⟩
 ·rw [k.same i (Nat.lt_of_lt_of_le hi h.next) fun h1=>?_,h.same i hi hF]
  rcases h.own i h1 with h2 | h2
  ·exact hF h2
  ·omega
 ·rcases k.own i hi with h1 | h1
  ·rcases h.own i h1 with h2 | h2
   ·exact .inl h2
   ·exact .inr ⟨h2.1,Nat.lt_of_lt_of_le h2.2 k.next⟩
  ·exact .inr ⟨Nat.le_trans h.next h1.1,h1.2⟩
def Below (F:List Nat) (H:Heap):Prop:=∀ i ∈ F,i < H.next
end Go.Ax
/- Ax21 -/
namespace Go.Ax.Cc
inductive CT where
 | lf (v:V)
 | nd (l r:CT)
def CT.get:Nat → CT → Nat → V
 | 0, .lf v,_=>v
 | 0, .nd _ _,_=>.undef
 | _ + 1, .lf _,_=>.undef
 | d + 1, .nd l r,i=>if i < 2 ^ d then CT.get d l i else CT.get d r (i - 2 ^ d)
def CT.set {α:Type}:Nat → CT → Nat → V → (CT → α) → α
 | 0, .lf _,_,v,k=>k (.lf v)
 | 0, .nd _ _,_,v,k=>k (.lf v)
 | d + 1, .lf _,i,v,k=>if i < 2 ^ d then CT.set d (.lf .undef) i v fun l'=>k (.nd l' (.lf .undef)) else CT.set d (.lf .undef) (i - 2 ^ d) v fun r'=>k (.nd (.lf .undef) r')
 | d + 1, .nd l r,i,v,k=>if i < 2 ^ d then CT.set d l i v fun l'=>k (.nd l' r) else CT.set d r (i - 2 ^ d) v fun r'=>k (.nd l r')
def CT.sets {α:Type} (d:Nat):CT → Nat → List V → (CT → α) → α
 | t,_,[],k=>k t
 | t,i,v :: vs,k=>CT.set d t i v fun t'=>CT.sets d t' (i + 1) vs k
def CT.abs:Nat → CT → List V
 | 0, .lf v=>[v]
 | 0, .nd _ _=>[.undef]
 | d + 1, .lf _=>List.replicate (2 ^ (d + 1)) .undef
 | d + 1, .nd l r=>CT.abs d l ++ CT.abs d r
def CT.mk {α:Type}:Nat → List V → (CT → List V → α) → α
 | 0,[],k=>k (.lf .undef) []
 | 0,v :: vs,k=>k (.lf v) vs
 | d + 1,vs,k=>CT.mk d vs fun l r=>CT.mk d r fun l' r'=>k (.nd l l') r'
def CT.rng (d:Nat) (t:CT):Nat → Nat → List V
 | _,0=>[]
 | i,m + 1=>CT.get d t i :: CT.rng d t (i + 1) m
theorem CT.abs_len:∀ (d:Nat) (t:CT),(CT.abs d t).length = 2 ^ d
 | 0, .lf _=>rfl
 | 0, .nd _ _=>rfl
 | d + 1, .lf _=>by simp [CT.abs]
 | d + 1, .nd l r=>by simp only [CT.abs,List.length_append,CT.abs_len d l,CT.abs_len d r,Nat.pow_succ]; omega
theorem CT.get_abs : ∀ (d : Nat) (t : CT) (i : Nat), i < 2 ^ d → (CT.abs d t)[i]? = some (CT.get d t i)
  | 0, .lf v, i, h => by have : i = 0 := by simpa using h
                         subst this; rfl
  | 0, .nd _ _, i, h => by have : i = 0 := by simpa using h
                           subst this; rfl
  | d + 1, .lf _, i, h => by simp only [CT.abs, CT.get, List.getElem?_replicate]; rw [if_pos h]
  | d + 1, .nd l r, i, h => by
    simp only [CT.abs, CT.get]
    rw [List.getElem?_append, CT.abs_len]
    by_cases hi : i < 2 ^ d
    · rw [if_pos hi, if_pos hi, CT.get_abs d l i hi]
    · rw [if_neg hi, if_neg hi, CT.get_abs d r _ (by rw [Nat.pow_succ] at h; omega)]
theorem CT.rng_abs (d:Nat) (t:CT):∀ (m i:Nat),i + m ≤ 2 ^ d → CT.rng d t i m = ((CT.abs d t).drop i).take m
 | 0,i,_=>by simp [CT.rng]
 | m + 1,i,h=>by
  have hi:i < (CT.abs d t).length:=by rw [CT.abs_len]; omega
  rw [CT.rng,CT.rng_abs d t m (i + 1) (by omega),List.drop_eq_getElem_cons hi,List.take_succ_cons]
  have:=CT.get_abs d t i (by omega)
  rw [List.getElem?_eq_getElem hi] at this
  injection this with this
  rw [this]
theorem CT.abs_blank (d:Nat):CT.abs d (.lf .undef) = List.replicate (2 ^ d) .undef:=by cases d <;> rfl
theorem CT.set_abs {α:Type}:∀ (d:Nat) (t:CT) (i:Nat) (v:V) (k:CT → α),i < 2 ^ d → ∃ t',CT.set d t i v k = k t' ∧ CT.abs d t' = (CT.abs d t).set i v:=by
 intro d
 induction d with
 | zero =>
  intro t i v k h
  have:i = 0:=by simpa using h
  subst this
  cases t <;> exact ⟨_,rfl,rfl⟩
 | succ d ih =>
  have key:∀ (l r:CT) (i:Nat) (v:V) (k:CT → α),i < 2 ^ (d + 1) → (∃ t',(if i < 2 ^ d then CT.set d l i v fun l'=>k (.nd l' r) else CT.set d r (i - 2 ^ d) v fun r'=>k (.nd l r')) = k t' ∧ CT.abs (d + 1) t' = (CT.abs d l ++ CT.abs d r).set i v):=by
   intro l r i v k h
   by_cases hi:i < 2 ^ d
   ·rw [if_pos hi]
    obtain ⟨t',h1,h3⟩:=ih l i v (fun l'=>k (.nd l' r)) hi
    refine ⟨.nd t' r,h1,?_⟩
    simp only [CT.abs,h3]
    rw [List.set_append_left _ _ (by rw [CT.abs_len]; exact hi)]
   ·rw [if_neg hi]
    obtain ⟨t',h1,h3⟩:=ih r (i - 2 ^ d) v (fun r'=>k (.nd l r')) (by rw [Nat.pow_succ] at h; omega)
    refine ⟨.nd l t',h1,?_⟩
    simp only [CT.abs,h3]
    rw [List.set_append_right _ _ (by rw [CT.abs_len]; omega),CT.abs_len]
  intro t i v k h
  cases t with
  | nd l r=>exact key l r i v k h
  | lf u =>
   obtain ⟨t',h1,h2⟩:=key (.lf .undef) (.lf .undef) i v k h
   refine ⟨t',h1,?_⟩
   rw [h2,CT.abs_blank]
   show _ = (List.replicate (2 ^ (d + 1)) .undef).set i v
   rw [List.replicate_append_replicate,Nat.pow_succ]
   congr 2
   omega
theorem zBj (cs:List V) (i:Nat) (v:V) (vs:List V) (h:i + (v :: vs).length ≤ cs.length):splice cs i (v :: vs) = splice (cs.set i v) (i + 1) vs:=by
 simp only [List.length_cons] at h
 apply List.ext_getElem?
 intro j
 rw [zh1 _ _ _ (by simpa using h),zh1 _ _ _ (by rw [List.length_set]; omega)]
 simp only [List.length_cons]
 by_cases h1:j = i
 ·subst h1
  rw [if_pos (by omega),if_neg (by omega),Nat.sub_self,List.getElem?_cons_zero,List.getElem?_set_self (by omega)]
 ·by_cases h2:i ≤ j ∧ j < i + (vs.length + 1)
  ·rw [if_pos h2,if_pos (by omega),show j - i = (j - (i + 1)) + 1 by omega,List.getElem?_cons_succ]
  ·rw [if_neg h2,if_neg (by omega),List.getElem?_set_ne (by omega)]
theorem CT.sets_abs {α:Type} (d:Nat):∀ (vs:List V) (t:CT) (i:Nat) (k:CT → α),i + vs.length ≤ 2 ^ d → ∃ t',CT.sets d t i vs k = k t' ∧ CT.abs d t' = splice (CT.abs d t) i vs
 | [],t,i,k,h=>⟨t,rfl,by simp [splice]⟩
 | v :: vs,t,i,k,h=>by
  simp only [List.length_cons] at h
  obtain ⟨t1,h1,h3⟩:=CT.set_abs d t i v (fun t'=>CT.sets d t' (i + 1) vs k) (by omega)
  obtain ⟨t2,g1,g3⟩:=CT.sets_abs d vs t1 (i + 1) k (by omega)
  refine ⟨t2,by rw [CT.sets,h1,g1],?_⟩
  rw [g3,h3,zBj _ _ _ _ (by rw [CT.abs_len,List.length_cons]; omega)]
theorem CT.mk_abs {α:Type}:∀ (d:Nat) (vs:List V) (k:CT → List V → α),∃ t,CT.mk d vs k = k t (vs.drop (2 ^ d)) ∧ ∀ j,j < vs.length → j < 2 ^ d → (CT.abs d t)[j]? = vs[j]?
 | 0,[],k=>⟨_,rfl,fun j h=>by simp at h⟩
 | 0,v :: vs,k=>⟨_,rfl,fun j _ h=>(by
  have:j = 0:=by simpa using h
  subst this
  rfl)⟩
 | d + 1,vs,k=>by
  obtain ⟨t,h1,h3⟩:=CT.mk_abs d vs (fun l r=>CT.mk d r fun l' r'=>k (.nd l l') r')
  obtain ⟨t',g1,g3⟩:=CT.mk_abs d (vs.drop (2 ^ d)) (fun l' r'=>k (.nd t l') r')
  refine ⟨.nd t t',?_,fun j hj hj2=>?_⟩
  ·rw [CT.mk,h1,g1,List.drop_drop,Nat.pow_succ]
   rw [show 2 ^ d + 2 ^ d = 2 ^ d * 2 by omega]
  ·simp only [CT.abs]
   rw [List.getElem?_append,CT.abs_len]
   by_cases h:j < 2 ^ d
   ·rw [if_pos h,h3 j hj h]
   ·rw [if_neg h,g3 _ (by rw [List.length_drop]; omega) (by rw [Nat.pow_succ] at hj2; omega),List.getElem?_drop]
    congr 1
    omega
structure Bk where
 ty:TypeId
 n:Nat
 d:Nat
 t:CT
 opn:Option Nat
def Bk.abs (b:Bk):Blk:=⟨b.ty,(CT.abs b.d b.t).take b.n,b.opn⟩
def dep:Nat → Nat → Nat → Nat
 | 0,d,_=>d
 | f + 1,d,n=>if n ≤ 2 ^ d then d else dep f (d + 1) n
theorem dep_le:∀ (f d n:Nat),n ≤ d + f → n ≤ 2 ^ (dep f d n)
 | 0,d,n,h=>by
  rw [dep]
  have:d < 2 ^ d:=Nat.lt_two_pow_self
  omega
 | f + 1,d,n,h=>by
  rw [dep]
  split
  ·assumption
  ·exact dep_le f (d + 1) n (by omega)
def ofB {α:Type} (b:Blk) (k:Bk → α):α:=CT.mk (dep b.cells.length 0 b.cells.length) b.cells fun t _=>k ⟨b.ty,b.cells.length,dep b.cells.length 0 b.cells.length,t,b.opn⟩
theorem zFJ {α:Type} (b:Blk) (k:Bk → α):∃ b',ofB b k = k b' ∧ b'.abs = b:=by
 obtain ⟨t,h1,h3⟩:=CT.mk_abs (dep b.cells.length 0 b.cells.length) b.cells (fun t _=>k ⟨b.ty,b.cells.length,dep b.cells.length 0 b.cells.length,t,b.opn⟩)
 refine ⟨_,h1,?_⟩
 have hle:=dep_le b.cells.length 0 b.cells.length (by omega)
 show (⟨b.ty,(CT.abs (dep b.cells.length 0 b.cells.length) t).take b.cells.length,b.opn⟩:Blk) = b
 have:(CT.abs (dep b.cells.length 0 b.cells.length) t).take b.cells.length = b.cells:=by
  apply List.ext_getElem?
  intro j
  by_cases hj:j < b.cells.length
  ·rw [List.getElem?_take_of_lt hj,h3 j hj (by omega)]
  ·rw [List.getElem?_eq_none (by rw [List.length_take]; omega),List.getElem?_eq_none (by omega)]
 rw [this]
inductive Tr where
 | e
 | n (v:Option Bk) (l r:Tr)
def Tr.get:Tr → Nat → Option Bk
 | .e,_=>none
 | .n v l r,k=>if k = 0 then v else if (k - 1) % 2 = 0 then l.get ((k - 1) / 2) else r.get ((k - 1) / 2)
def Tr.val:Tr → Option Bk
 | .e=>none
 | .n v _ _=>v
def Tr.left:Tr → Tr
 | .e=>.e
 | .n _ l _=>l
def Tr.right:Tr → Tr
 | .e=>.e
 | .n _ _ r=>r
def Tr.put:Nat → Tr → Nat → Option Bk → Tr
 | 0,t,_,_=>t
 | f + 1,t,k,b=>if k = 0 then .n b t.left t.right else if (k - 1) % 2 = 0 then .n t.val (Tr.put f t.left ((k - 1) / 2) b) t.right else .n t.val t.left (Tr.put f t.right ((k - 1) / 2) b)
theorem Tr.get_node (t:Tr) (k:Nat):t.get k = if k = 0 then t.val else if (k - 1) % 2 = 0 then t.left.get ((k - 1) / 2) else t.right.get ((k - 1) / 2):=by
 cases t with
 | e=>simp [Tr.get,Tr.val,Tr.left,Tr.right]
 | n v l r=>simp [Tr.get,Tr.val,Tr.left,Tr.right]
theorem Tr.get_put:∀ (f:Nat) (t:Tr) (k:Nat) (b:Option Bk),k < f → ∀ j,(Tr.put f t k b).get j = if j = k then b else t.get j:=by
 intro f
 induction f with
 | zero=>intro t k b h; omega
 | succ f ih =>
  intro t k b h j
  simp only [Tr.put]
  by_cases hk:k = 0
  ·subst hk
   rw [if_pos rfl]
   simp only [Tr.get]
   by_cases hj:j = 0
   ·rw [if_pos hj,if_pos hj]
   ·rw [if_neg hj,if_neg hj,Tr.get_node t j,if_neg hj]
  ·rw [if_neg hk]
   by_cases hp:(k - 1) % 2 = 0
   ·rw [if_pos hp]
    simp only [Tr.get]
    rw [Tr.get_node t j]
    by_cases hj:j = 0
    ·rw [if_pos hj,if_pos hj,if_neg (by omega)]
    ·rw [if_neg hj,if_neg hj]
     by_cases hq:(j - 1) % 2 = 0
     ·rw [if_pos hq,if_pos hq,ih _ _ _ (by omega)]
      by_cases e:j = k
      ·subst e; rw [if_pos rfl,if_pos rfl]
      ·rw [if_neg (by omega),if_neg e]
     ·rw [if_neg hq,if_neg hq,if_neg (by rintro rfl; exact hq hp)]
   ·rw [if_neg hp]
    simp only [Tr.get]
    rw [Tr.get_node t j]
    by_cases hj:j = 0
    ·rw [if_pos hj,if_pos hj,if_neg (by omega)]
    ·rw [if_neg hj,if_neg hj]
     by_cases hq:(j - 1) % 2 = 0
     ·rw [if_pos hq,if_pos hq,if_neg (by rintro rfl; exact hp hq)]
     ·rw [if_neg hq,if_neg hq,ih _ _ _ (by omega)]
      by_cases e:j = k
      ·subst e; rw [if_pos rfl,if_pos rfl]
      ·rw [if_neg (by omega),if_neg e]
structure Heap where
 t:Tr
 next:Nat
def Heap.getB (H:Heap) (id:Nat):Option Bk:=H.t.get id
def Heap.get (H:Heap) (id:Nat):Option Blk:=(H.t.get id).map Bk.abs
def Heap.setB (H:Heap) (id:Nat) (b:Option Bk):Heap:={ H with t:=Tr.put (id + 1) H.t id b }
def Heap.set (H:Heap) (id:Nat) (b:Option Blk):Heap:=match b with | none=>H.setB id none | some b=>ofB b fun b=>H.setB id (some b)
def Heap.new (H:Heap) (b:Blk):Heap:=ofB b fun b=>{ t:=Tr.put (H.next + 1) H.t H.next (some b),next:=H.next + 1 }
def Heap.abs (H:Heap):Ax.Heap:=⟨H.get,H.next⟩
theorem zjR (H:Heap) (id:Nat):H.abs.get id = H.get id:=rfl
theorem zv8 (H:Heap):H.abs.next = H.next:=rfl
theorem zAQ (H:Heap) (id:Nat) (b:Option Bk):(H.setB id b).abs = H.abs.set id (b.map Bk.abs):=by
 simp only [Heap.abs,Heap.setB,Ax.Heap.set,Ax.Heap.mk.injEq,and_true]
 funext i
 simp only [Heap.get,Tr.get_put _ _ _ _ (Nat.lt_succ_self id)]
 by_cases h:i = id
 ·rw [if_pos h,if_pos h]
 ·rw [if_neg h,if_neg h]
theorem zpS (H:Heap) (id:Nat) (b:Option Blk):(H.set id b).abs = H.abs.set id b:=by
 cases b with
 | none=>exact zAQ H id none
 | some b =>
  obtain ⟨b',h1,h2⟩:=zFJ b (fun b=>H.setB id (some b))
  simp only [Heap.set]
  rw [h1,zAQ,Option.map_some,h2]
theorem znD (H:Heap) (b:Blk):(H.new b).abs = H.abs.new b:=by
 obtain ⟨b',h1,h2⟩:=zFJ b (fun b=>({ t:=Tr.put (H.next + 1) H.t H.next (some b),next:=H.next + 1 }:Heap))
 unfold Heap.new
 rw [h1]
 simp only [Heap.abs,Ax.Heap.new,Ax.Heap.mk.injEq,and_true]
 funext i
 simp only [Heap.get,Tr.get_put _ _ _ _ (Nat.lt_succ_self H.next)]
 by_cases h:i = H.next
 ·subst h
  simp only [if_true,Option.map_some,h2]
 ·simp only [h,if_false]
abbrev M (α:Type):Type:=Heap → Option (α × Heap)
abbrev Sem':Type:=FuncId → List V → M V
def zD8 {α:Type} (n:Nat) (k:Nat → α):α:=Nat.rec (k 0) (fun m _=>k (Nat.succ m)) n
theorem zFQ {α:Type} (n:Nat) (k:Nat → α):zD8 n k = k n:=by cases n <;> rfl
def zFP {α:Type} (v:V) (k:V → α):α :=
 match v with
 | .int kk (.ofNat n)=>zD8 n fun n=>k (.int kk (.ofNat n))
 | .int kk (.negSucc n)=>zD8 n fun n=>k (.int kk (.negSucc n))
 | .lit (.float kk b)=>zD8 b fun b=>k (.lit (.float kk b))
 | .bool true=>k (.bool true)
 | .bool false=>k (.bool false)
 | v=>k v
theorem zFO {α:Type} (v:V) (k:V → α):zFP v k = k v:=by
 unfold zFP
 split <;> first | rfl | exact zFQ ..
namespace M
def pure {α:Type} (a:α):M α:=fun H=>some (a,H)
def fail {α:Type}:M α:=fun _=>none
def bind {α β:Type} (x:M α) (f:α → M β):M β:=fun H=>match x H with | some r=>f r.1 r.2 | none=>none
def lift (o:Option V):M V:=fun H=>match o with | some a=>zFP a fun a=>some (a,H) | none=>none
def getH:M Heap:=fun H=>some (H,H)
def ite {α:Type} (c:V) (x y:M α):M α:=match c with
 | .bool b=>if b then x else y
 | _=>fail
end M
def ldt (n:Option Nat) (b:Bk) (off:Nat):Option V :=
 match n with
 | none=>if off < b.n then (if off < 2 ^ b.d then some (CT.get b.d b.t off) else none) else none
 | some n=>if off + n ≤ b.n then (if off + n ≤ 2 ^ b.d then some (.agg (CT.rng b.d b.t off n)) else none) else none
def mload (n:Option Nat) (p:V):M V:=fun H =>
 match p with
 | .ptr id off=>match H.getB id with | some b=>(match ldt n b off with | some v=>some (v,H) | none=>none) | none=>none
 | .rp cells off=>(ldc n cells off).map fun v=>(v,H)
 | _=>none
def mstore (size:Nat) (p x:V):M V:=fun H =>
 match p with
 | .ptr id off=>match H.getB id with
  | some b=>if x.cells.length = size ∧ off + size ≤ b.n ∧ off + size ≤ 2 ^ b.d ∧ x.okc = true then CT.sets b.d b.t off x.cells fun t=>some (.undef,H.setB id (some { b with t:=t })) else none
  | none=>none
 | _=>none
def mbox (ty:TypeId) (x:V):M V:=fun H=>if x.okc = true then some (.ptr H.next 0,H.new ⟨ty,x.cells,none⟩) else none
def mslit (ty:TypeId) (len:Nat) (zero:List V) (parts:List (Nat × Nat × V)):M V:=fun H =>
 (fill (zeros zero len) parts).map fun cs=>(.sl H.next 0 len (.fix len),H.new ⟨ty,cs,none⟩)
def rcells (esz:Nat) (H:Heap):V → Option (List V × Nat)
 | .nils=>some ([],0)
 | .sl id off len _=>(H.get id).bind fun b=>if off + len * esz ≤ b.cells.length then some ((b.cells.drop off).take (len * esz),len) else none
 | .rs cells len=>if len * esz ≤ cells.length then some (cells.take (len * esz),len) else none
 | _=>none
def acells (esz:Nat) (H:Heap):V → Option (List V × Nat)
 | .str s=>if esz = 1 then some (strCells s,s.size) else none
 | v=>rcells esz H v
def mappendq (ty esz bytes:Nat) (q:List V × Nat) (x:V):M V:=fun H =>
  match x with
  | .nils=>if q.2 = 0 then some (.nils,H) else if q.2 * bytes ≤ 140737488355328 ∧ q.2 ≤ maxLen then some (.sl H.next 0 q.2 (.opn esz),H.new ⟨ty,q.1,some esz⟩) else none
  | .sl id off len cap=>(H.get id).bind fun b =>
   if off + len * esz ≤ b.cells.length ∧ b.ty = ty then
    match cap with
    | .fix c =>
     if len + q.2 ≤ c then
      if off + (len + q.2) * esz ≤ b.cells.length then some (.sl id off (len + q.2) (.fix c),H.set id (some { b with cells:=splice b.cells (off + len * esz) q.1 })) else none
     else if (len + q.2) * bytes ≤ 140737488355328 ∧ len + q.2 ≤ maxLen then
      some (.sl H.next 0 (len + q.2) (.opn esz),H.new ⟨ty,(b.cells.drop off).take (len * esz) ++ q.1,some esz⟩)
     else none
    | .opn e =>
     if e = esz ∧ b.opn = some esz ∧ b.cells.length = off + len * esz then
      if q.2 = 0 then some (.sl id off len (.opn e),H)
      else if (len + q.2) * bytes ≤ 140737488355328 ∧ len + q.2 ≤ maxLen then
       some (.sl H.next 0 (len + q.2) (.opn esz),(H.set id none).new ⟨ty,b.cells.drop off ++ q.1,some esz⟩)
      else none
     else if e = esz ∧ q.2 = 0 then some (.sl id off len (.opn e),H)
     else if e = esz ∧ b.opn = some esz ∧ off + (len + q.2) * esz ≤ b.cells.length then
      some (.sl id off (len + q.2) (.opn e),H.set id (some { b with cells:=splice b.cells (off + len * esz) q.1 }))
     else none
   else none
  | .rs cells len=>if q.2 = 0 then some (.rs cells len,H) else none
  | _=>none
def mappend (ty esz bytes:Nat) (x y:V):M V:=fun H=>(acells esz H y).bind fun q=>mappendq ty esz bytes q x H
def mappendz (ty bytes:Nat) (zero:List V) (x n:V):M V:=fun H =>
 match n with
 | .int _ l =>
  if 0 ≤ IntKind.i64.wrap l ∧ IntKind.i64.wrap l * bytes ≤ 281474976710656 then mappendq ty zero.length bytes (zeros zero (IntKind.i64.wrap l).toNat,(IntKind.i64.wrap l).toNat) x H else none
 | _=>none
def mcopy (esz:Nat) (d s:V):M V:=fun H =>
 (acells esz H s).bind fun q =>
  match d with
  | .nils=>some (.int .i64 0,H)
  | .sl id off len _=>(H.get id).bind fun b =>
   if off + len * esz ≤ b.cells.length then
    some (.int .i64 ((min q.2 len:Nat):Int),H.set id (some { b with cells:=splice b.cells off (q.1.take (min q.2 len * esz)) }))
   else none
  | _=>none
def mslice2 (esz:Nat) (x lo hi:V):M V:=fun H =>
 match x,lo,hi with
 | .sl id off len (.opn e), .int _ l, .int _ h=>(H.get id).bind fun b =>
  if e = esz ∧ b.opn = some esz ∧ 0 ≤ l ∧ l ≤ h ∧ off + h.toNat * esz ≤ b.cells.length then some (.sl id (off + l.toNat * esz) (h.toNat - l.toNat) (.opn e),H) else none
 | _,_,_=>none
def mclear (zero:List V) (x:V):M V:=fun H =>
 match x with
 | .sl id off len _=>if len = 0 then some (.undef,H) else (H.get id).bind fun b =>
  if off + len * zero.length ≤ b.cells.length then some (.undef,H.set id (some { b with cells:=splice b.cells off (zeros zero len) })) else none
 | _=>none
def mmknz (ty:TypeId) (n:V):M V:=fun H =>
 match n with
 | .int .i64 n=>if 0 ≤ n ∧ n ≤ 281474976710656 then some (.sl H.next 0 n.toNat (.opn 1),H.new ⟨ty,List.replicate n.toNat .any,some 1⟩) else none
 | _=>none
def mtostr (x:V):M V:=fun H=>(rcells 1 H x).bind fun q=>(zyR q.1).map fun l=>(.str ⟨l.toArray⟩,H)
def mtobytes (ty:TypeId) (x:V):M V:=fun H =>
 match x with
 | .str s=>if s.size ≤ maxLen then some (.sl H.next 0 s.size (.opn 1),H.new ⟨ty,strCells s,some 1⟩) else none
 | _=>none
def mremark (ty:TypeId) (x:V):M V:=fun H =>
 match x with
 | .str s=>mtobytes ty (.str s) H
 | .sl id off len cap=>(H.get id).bind fun _=>if len = 0 then none else some (.sl id off len cap,H)
 | _=>none
def mmkslice (ty bytes:Nat) (zero:List V) (len cap:V):M V:=fun H =>
 match len,cap with
 | .int .i64 l, .int .i64 c =>
  if 0 ≤ l ∧ l ≤ c ∧ c * bytes ≤ 281474976710656 ∧ c ≤ 281474976710656 then
   some (.sl H.next 0 l.toNat (.fix c.toNat),H.new ⟨ty,zeros zero c.toNat,none⟩)
  else none
 | _,_=>none
def same1:V → V → Bool
 | .bool a, .bool b=>a == b
 | .int k a, .int k' b=>decide (k = k') && decide (a = b)
 | .nilp, .nilp=>true
 | .nils, .nils=>true
 | .ptr a b, .ptr c d=>decide (a = c) && decide (b = d)
 | .mp a, .mp b=>decide (a = b)
 | .sl a b c (.fix d), .sl a' b' c' (.fix d')=>decide (a = a') && decide (b = b') && decide (c = c') && decide (d = d')
 | .sl a b c (.opn d), .sl a' b' c' (.opn d')=>decide (a = a') && decide (b = b') && decide (c = c') && decide (d = d')
 | _,_=>false
def zEC:List V → List V → Bool
 | [],[]=>true
 | v :: vs,u :: us=>same1 v u && zEC vs us
 | _,_=>false
def zFw:Option Blk → Option Blk → Bool
 | none,none=>true
 | some a,some b=>decide (a.ty = b.ty) && decide (a.opn = b.opn) && zEC a.cells b.cells
 | _,_=>false
theorem same1_eq {a b:V} (h:same1 a b = true):a = b:=by
 unfold same1 at h
 split at h <;> simp_all
theorem sames_eq:∀ {a b:List V},zEC a b = true → a = b:=by
 intro a
 induction a with
 | nil=>intro b h; cases b <;> simp_all [zEC]
 | cons v a ih =>
  intro b h
  cases b with
  | nil=>simp [zEC] at h
  | cons u b =>
   simp only [zEC,Bool.and_eq_true] at h
   rw [same1_eq h.1,ih h.2]
theorem sameB_eq {a b:Option Blk} (h:zFw a b = true):a = b:=by
 cases a with
 | none=>cases b <;> simp_all [zFw]
 | some a =>
  cases b with
  | none=>simp [zFw] at h
  | some b =>
   obtain ⟨t,c,o⟩:=a
   obtain ⟨t',c',o'⟩:=b
   simp only [zFw,Bool.and_eq_true,decide_eq_true_eq] at h
   obtain ⟨⟨rfl,rfl⟩,h⟩:=h
   rw [sames_eq h]
def mmkmap (ty:TypeId):M V:=fun H=>some (.mp H.next,H.new ⟨ty,[],none⟩)
def mlookup (mk:MK) (zero:V) (ok:Bool) (x k:V):M V:=fun H =>
 match x with
 | .mp id=>(H.get id).bind fun b=>if kok mk k = true then (mget mk k b.cells).map fun r=>(if ok then .tup [r.getD zero, .bool r.isSome] else r.getD zero,H) else none
 | _=>none
def mmapset (mk:MK) (x k v:V):M V:=fun H =>
 match x with
 | .mp id=>(H.get id).bind fun b=>if kok mk k = true then (mset mk k v b.cells).map fun cs=>(.undef,H.set id (some { b with cells:=cs })) else none
 | _=>none
def mmapdrop (p:Bool) (o:Nat) (x n:V):M V:=fun H =>
 match x,n with
 | .ptr id off, .int .i64 n=>(H.get id).bind fun b0 =>
  match b0.cells[off + o]? with
  | some (.mp i)=>(H.get i).bind fun b=>(mfil p n b.cells).map fun cs=>(.undef,H.set i (some { b with cells:=cs }))
  | _=>none
 | _,_=>none
def matoload (k:IntKind) (p:V):M V:=fun H=>(mload none p H).bind fun r =>
 match r.1 with
 | .int k' n=>if k' = k then some (.int k n,r.2) else none
 | _=>none
def matoadd (k:IntKind) (p y:V):M V:=fun H =>
 match p,y with
 | .ptr id off, .int _ j=>(H.get id).bind fun b =>
  match b.cells[off]? with
  | some (.int k' n)=>if k' = k then some (.int k (k.wrap (n + j)),H.set id (some { b with cells:=splice b.cells off [.int k (k.wrap (n + j))] })) else none
  | _=>none
 | _,_=>none
def mmaplen (x:V):M V:=fun H =>
 match x with
 | .mp id=>(H.get id).map fun b=>(.int .i64 ((b.cells.length / 2:Nat):Int),H)
 | _=>none
def M.unch (v:V) (h h':Heap):M Unit:=fun H =>
 match v.pid with
 | none=>some ((),H)
 | some id=>if zFw (h'.get id) (h.get id) then some ((),H) else none
def callv (G:Sem') (x:V) (args:List V):M V :=
 match x with
 | .fn f caps=>G f (args ++ caps)
 | _=>M.fail
def with1 {α:Type} (A:Fr) (x:Arg) (k:V → M α):M α:=match x.ev A with | some v=>k v | none=>M.fail
def withs {α:Type} (A:Fr) (xs:List Arg) (k:List V → M α):M α:=match evs A xs with | some v=>k v | none=>M.fail
def I.run (G:Sem') (A:Fr):I → M V
 | .mv x=>with1 A x M.pure
 | .pick c a b=>with1 A c fun c=>with1 A a fun a=>with1 A b fun b=>M.lift (Ax.pick c a b)
 | .box ty x=>with1 A x fun x=>mbox ty x
 | .build zero parts=>match zds A parts with | some ps=>M.lift (Ax.build zero ps) | none=>M.fail
 | .slit ty l zero parts=>match zds A parts with | some ps=>mslit ty l zero ps | none=>M.fail
 | .load n x=>with1 A x fun x=>mload n x
 | .store size p x=>with1 A p fun p=>with1 A x fun x=>mstore size p x
 | .nilck x=>with1 A x fun x=>M.lift (Ax.nilck x)
 | .bin op x y=>with1 A x fun x=>with1 A y fun y=>M.lift (Ax.bin op x y)
 | .eq k neg x y=>with1 A x fun x=>with1 A y fun y=>M.lift (eqr k neg x y)
 | .un op x=>with1 A x fun x=>M.lift (Ax.un op x)
 | .cint k x=>with1 A x fun x=>M.lift (Ax.cint k x)
 | .tostr x=>with1 A x fun x=>mtostr x
 | .tobytes ty x=>with1 A x fun x=>mtobytes ty x
 | .faddr o x=>with1 A x fun x=>M.lift (Ax.faddr o x)
 | .iaddr alen esz x i=>with1 A x fun x=>with1 A i fun i=>M.lift (Ax.iaddr alen esz x i)
 | .index l esz n x i=>with1 A x fun x=>with1 A i fun i=>M.lift (Ax.index l esz n x i)
 | .sindex x i=>with1 A x fun x=>with1 A i fun i=>M.lift (Ax.sindex x i)
 | .field off n x=>with1 A x fun x=>M.lift (Ax.field off n x)
 | .ext i x=>with1 A x fun x=>M.lift (Ax.ext i x)
 | .len x=>with1 A x fun x=>M.lift (vlen x)
 | .slen x=>with1 A x fun x=>M.lift (Ax.slen x)
 | .slice ck esz x lo hi mx=>with1 A x fun x =>
  match zhQ A lo,zhQ A hi,zhQ A mx with | some lo,some hi,some mx=>M.lift (zcx ck esz x lo hi mx) | _,_,_=>M.fail
 | .append ty esz bytes x y=>with1 A x fun x=>with1 A y fun y=>mappend ty esz bytes x y
 | .appendz ty bytes zero x y=>with1 A x fun x=>with1 A y fun y=>mappendz ty bytes zero x y
 | .slice2 esz x lo hi=>with1 A x fun x=>with1 A lo fun lo=>with1 A hi fun hi=>mslice2 esz x lo hi
 | .clear zero x=>with1 A x fun x=>mclear zero x
 | .op1 k x=>with1 A x fun x=>M.lift (Ax.op1 k x)
 | .mknz ty x=>with1 A x fun x=>mmknz ty x
 | .remark ty x=>with1 A x fun x=>mremark ty x
 | .copy esz x y=>with1 A x fun x=>with1 A y fun y=>mcopy esz x y
 | .mkslice ty bytes zero l c=>with1 A l fun l=>with1 A c fun c=>mmkslice ty bytes zero l c
 | .minmax mx x xs=>with1 A x fun x=>withs A xs fun xs=>M.lift (Ax.minmax mx x xs)
 | .call f args=>withs A args fun args=>G f args
 | .callv x args=>with1 A x fun x=>withs A args fun args=>callv G x args
 | .mkfn f caps=>withs A caps fun caps=>M.pure (.fn f caps)
 | .mkmap ty=>mmkmap ty
 | .lookup mk zero ok x k=>with1 A x fun x=>with1 A k fun k=>mlookup mk zero ok x k
 | .mapset mk x k v=>with1 A x fun x=>with1 A k fun k=>with1 A v fun v=>mmapset mk x k v
 | .maplen x=>with1 A x fun x=>mmaplen x
 | .aload k x=>with1 A x fun x=>matoload k x
 | .aadd k x y=>with1 A x fun x=>with1 A y fun y=>matoadd k x y
 | .mdrop p o x n=>with1 A x fun x=>with1 A n fun n=>mmapdrop p o x n
def guarded (A:Fr) (gd:Option (Nat × Bool)) (x:M V):M V :=
 match gd with
 | none=>x
 | some (s,want)=>match A.get s with
  | some (.bool b)=>if b = want then x else M.pure .undef
  | some (.tup [])=>M.pure .undef
  | _=>M.fail
def AO.run (G:Sem') (A:Fr) (o:AO):M V:=guarded A o.gd (I.run G A o.ins)
def step {α:Type} (G:Sem') (o:AO) (A:Fr) (k:V → M α):M α :=
 match o.gd,o.ins with
 | none, .mv x=>(match x.ev A with | some v=>k v | none=>M.fail)
 | _,_=>M.bind (AO.run G A o) k
def opsK {α:Type} (G:Sem'):List AO → Fr → (Fr → M α) → M α
 | [],A,k=>k A
 | o :: os,A,k=>step G o A fun v=>opsK G os (A.put o.dst v) k
def actsK {α:Type} (un:List (Nat × Nat)) (i:Nat) (a:V):List (Nat × Heap × Heap) → M α → M α
 | [],k=>k
 | (j,h,h') :: js,k=>if un.contains (i,j) then M.bind (M.unch a h h') fun _=>actsK un i a js k else actsK un i a js k
def readsK {α:Type} (un:List (Nat × Nat)) (j:Nat) (h h':Heap):List (Nat × V) → M α → M α
 | [],k=>k
 | (i,a) :: rs,k=>if un.contains (i,j) then M.bind (M.unch a h h') fun _=>readsK un j h h' rs k else readsK un j h h' rs k
def with1' {α:Type} (A:Fr) (x:Arg) (k:V → M α):M α:=match x.ev A with | some v=>k v | none=>k .undef
def drawK {α:Type} (G:Sem') (un:List (Nat × Nat)):Nat → List (Nat × V) → List (Nat × Heap × Heap) → List AO → Fr → (Fr → M α) → M α
 | _,_,_,[],A,k=>k A
 | p,rs,js,o :: os,A,k =>
  match o.ins.kind with
  | .read x =>
   if un.any (fun q=>q.1 == p) then
    with1' A x fun a=>step G o A fun v=>actsK un p a js (drawK G un (p + 1) ((p,a) :: rs) js os (A.put o.dst v) k)
   else step G o A fun v=>drawK G un (p + 1) rs js os (A.put o.dst v) k
  | .act =>
   if un.any (fun q=>q.2 == p) then
    M.bind M.getH fun h=>step G o A fun v=>M.bind M.getH fun h'=>readsK un p h h' rs (drawK G un (p + 1) rs ((p,h,h') :: js) os (A.put o.dst v) k)
   else step G o A fun v=>drawK G un (p + 1) rs js os (A.put o.dst v) k
  | _=>step G o A fun v=>drawK G un (p + 1) rs js os (A.put o.dst v) k
def M.join (x:M Res) (k:List V → M Res):M Res:=M.bind x fun r =>
 match r with
 | .nrm L=>k L
 | .ex id L=>M.pure (.ex id L)
 | .ret L=>M.pure (.ret L)
def M.blk (id:Nat) (x:M Res) (k:List V → M Res):M Res:=M.bind x fun r =>
 match r with
 | .nrm L=>k L
 | .ex i L=>if i = id then k L else M.pure (.ex i L)
 | .ret L=>M.pure (.ret L)
def iterN (body:List V → M Res):Nat → List V → M Res
 | 0,_=>M.fail
 | n + 1,L=>M.join (body L) (iterN body n)
def M.iter (body:List V → M Res) (L:List V):M Res:=iterN body 1000000000 L
def resK {α:Type} (A:Fr):List RV → (List V → M α) → M α
 | [],k=>k []
 | .tmp t :: rs,k=>match A.get t with | some v=>resK A rs fun vs=>k (v :: vs) | none=>M.fail
 | .cell t n :: rs,k=>match A.get t with | some a=>M.bind (mload n a) fun v=>resK A rs fun vs=>k (v :: vs) | none=>M.fail
def execK (G:Sem') (rv:List RV):C → List (Nat × List Nat) → List Nat → Fr → M Res
 | .done,_,J,A=>match zeO A J with | some L=>M.pure (.nrm L) | none=>M.fail
 | .bad,_,_,_=>M.fail
 | .ops l k,cx,J,A=>opsK G l A fun A'=>execK G rv k cx J A'
 | .draw l un k,cx,J,A=>drawK G un 0 [] [] l A fun A'=>execK G rv k cx J A'
 | .cond x a b,cx,J,A=>match x.ev A with | some c=>M.ite c (execK G rv a cx J A) (execK G rv b cx J A) | none=>M.fail
 | .condJ x a b J' W k,cx,J,A=>match x.ev A with
  | some c=>M.join (M.ite c (execK G rv a cx J' A) (execK G rv b cx J' A)) fun L=>execK G rv k cx J (A.join J' W L)
  | none=>M.fail
 | .blk id a J' W k,cx,J,A=>M.blk id (execK G rv a ((id,J') :: cx) J' A) fun L=>execK G rv k cx J (A.join J' W L)
 | .loop a K W,cx,_,A=>match zeO A K with | some L=>M.iter (fun L=>execK G rv a cx K (A.join K W L)) L | none=>M.fail
 | .exit id,cx,_,A=>match zxJ cx id with | some J=>(match zeO A J with | some L=>M.pure (.ex id L) | none=>M.fail) | none=>M.fail
 | .ret,_,_,A=>resK A rv fun L=>M.pure (.ret L)
def fin (x:M Res):M V:=M.bind x fun r =>
 match r with
 | .ret L=>M.pure (zwb L)
 | _=>M.fail
/-! It does what the abstract machine does. -/
def Sim {α:Type} (x:M α) (y:Ax.M α):Prop:=∀ c v c',x c = some (v,c') → y c.abs = some (v,c'.abs)
def Sims (g:Sem') (G:Ax.Sem'):Prop:=∀ f args,Sim (g f args) (G f args)
section
variable {α β:Type}
theorem zgu (v:α):Sim (M.pure v) (Ax.M.pure v):=by
 intro c u c' h
 simp only [M.pure,Option.some.injEq,Prod.mk.injEq] at h
 obtain ⟨rfl,rfl⟩:=h
 rfl
theorem zaa {y:Ax.M α}:Sim M.fail y:=by intro c v c' h; cases h
theorem zdu (o:Option V):Sim (M.lift o) (Ax.M.lift o):=by
 intro c u c' h
 cases o with
 | none=>cases h
 | some a =>
  simp only [M.lift,zFO,Option.some.injEq,Prod.mk.injEq] at h
  obtain ⟨rfl,rfl⟩:=h
  rfl
theorem zFc {x:M α} {f:α → M β} {c:Heap} {r:β × Heap} (h:M.bind x f c = some r):∃ v c1,x c = some (v,c1) ∧ f v c1 = some r:=by
 simp only [M.bind] at h
 cases hx:x c with
 | none=>rw [hx] at h; cases h
 | some q=>rw [hx] at h; exact ⟨q.1,q.2,rfl,h⟩
theorem zmH {x:M α} {y:Ax.M α} {f:α → M β} {g:α → Ax.M β} (h:Sim x y) (k:∀ v,Sim (f v) (g v)):Sim (M.bind x f) (y.bind g):=by
 intro c v c' e
 obtain ⟨u,c1,h1,h2⟩:=zFc e
 rw [bind_ok (h c u c1 h1)]
 exact k u c1 v c' h2
theorem zFs (c:V) {x x':M α} {y y':Ax.M α} (h:Sim x y) (k:Sim x' y'):Sim (M.ite c x x') (Ax.M.ite c y y'):=by
 cases c <;> first | exact zaa | skip
 rename_i b
 cases b
 ·exact k
 ·exact h
theorem ldt_eq {n:Option Nat} {b:Bk} {off:Nat} {v:V} (h:ldt n b off = some v):ldc n b.abs.cells off = some v:=by
 cases n with
 | none =>
  simp only [ldt] at h
  split at h
  ·rename_i h1
   split at h
   ·rename_i h2
    injection h with h
    subst h
    simp only [ldc,Bk.abs]
    rw [List.getElem?_take_of_lt h1,CT.get_abs _ _ _ h2]
   ·cases h
  ·cases h
 | some n =>
  simp only [ldt] at h
  split at h
  ·rename_i h1
   split at h
   ·rename_i h2
    injection h with h
    subst h
    have hl:off + n ≤ ((CT.abs b.d b.t).take b.n).length:=by rw [List.length_take,CT.abs_len]; omega
    show (if off + n ≤ ((CT.abs b.d b.t).take b.n).length then some (V.agg ((((CT.abs b.d b.t).take b.n).drop off).take n)) else none) = _
    rw [if_pos hl,CT.rng_abs _ _ _ _ h2,List.drop_take,List.take_take,Nat.min_eq_left (by omega)]
   ·cases h
  ·cases h
theorem zzN (n:Option Nat) (p:V):Sim (mload n p) (Ax.mload n p):=by
 intro c v c' h
 cases p <;> simp only [mload,Ax.mload,Option.bind_eq_some_iff,Option.map_eq_some_iff,Prod.mk.injEq,reduceCtorEq,zjR] at h ⊢
 ·split at h
  ·rename_i b hb
   split at h
   ·rename_i u hu
    simp only [Option.some.injEq,Prod.mk.injEq] at h
    obtain ⟨rfl,rfl⟩:=h
    exact ⟨b.abs,by simp only [Heap.get]; rw [show c.t.get _ = some b from hb]; rfl,u,ldt_eq hu,rfl,rfl⟩
   ·cases h
  ·cases h
 ·obtain ⟨u,hu,rfl,rfl⟩:=h; exact ⟨u,hu,rfl,rfl⟩
theorem zFo (n:Nat) (p x:V):Sim (mstore n p x) (Ax.mstore n p x):=by
 intro c v c' h
 cases p <;> simp only [mstore,Ax.mstore,Option.bind_eq_some_iff,reduceCtorEq,zjR] at h ⊢
 rename_i id off
 split at h
 ·rename_i b hb
  split at h
  ·rename_i hc
   obtain ⟨h1,h2,h3,h4⟩:=hc
   obtain ⟨t',g1,g2⟩:=CT.sets_abs b.d x.cells b.t off (fun t=>some (V.undef,c.setB id (some { b with t:=t }))) (by omega)
   rw [g1] at h
   simp only [Option.some.injEq,Prod.mk.injEq] at h
   obtain ⟨rfl,rfl⟩:=h
   have hl:(b.abs.cells).length = min b.n (2 ^ b.d):=by simp only [Bk.abs,List.length_take,CT.abs_len]
   refine ⟨b.abs,by simp only [Heap.get]; rw [show c.t.get _ = some b from hb]; rfl,?_⟩
   rw [if_pos ⟨h1,by omega,h4⟩,zAQ]
   have e:(({ b with t:=t' }:Bk).abs) = { b.abs with cells:=splice b.abs.cells off x.cells }:=by
    simp only [Bk.abs,g2,Blk.mk.injEq,true_and,and_true]
    apply List.ext_getElem?
    intro j
    rw [zh1 _ _ _ (by rw [List.length_take,CT.abs_len]; omega)]
    by_cases hj:j < b.n
    ·rw [List.getElem?_take_of_lt hj,zh1 _ _ _ (by rw [CT.abs_len]; omega),List.getElem?_take_of_lt hj]
    ·rw [List.getElem?_eq_none (by rw [List.length_take]; omega),if_neg (by omega),List.getElem?_eq_none (by rw [List.length_take]; omega)]
   rw [Option.map_some,e]
  ·cases h
 ·cases h
theorem sim_box (ty:TypeId) (x:V):Sim (mbox ty x) (Ax.mbox ty x):=by
 intro c v c' h
 simp only [mbox,Ax.mbox,zv8] at h ⊢
 split at h
 ·rename_i hc
  rw [if_pos hc]
  simp only [Option.some.injEq,Prod.mk.injEq] at h ⊢
  obtain ⟨rfl,rfl⟩:=h
  exact ⟨rfl,(znD ..).symm⟩
 ·cases h
theorem sim_slit (ty:TypeId) (l:Nat) (z:List V) (ps:List (Nat × Nat × V)):Sim (mslit ty l z ps) (Ax.mslit ty l z ps):=by
 intro c v c' h
 simp only [mslit,Ax.mslit,Option.map_eq_some_iff,Prod.mk.injEq,zv8] at h ⊢
 obtain ⟨cs,hcs,rfl,rfl⟩:=h
 exact ⟨cs,hcs,rfl,(znD ..).symm⟩
theorem zyT (e:Nat) (c:Heap) (v:V):Ax.rcells e c.abs v = rcells e c v:=by cases v <;> rfl
theorem zzh (e:Nat) (c:Heap) (v:V):Ax.acells e c.abs v = acells e c v:=by cases v <;> first | rfl | exact zyT ..
theorem zwp (ty e b:Nat) (q:List V × Nat) (x:V):Sim (mappendq ty e b q x) (Ax.mappendq ty e b q x):=by
 intro c v c' h
 simp only [mappendq,Ax.mappendq] at h ⊢
 cases x with
 | nils =>
  dsimp only at h ⊢
  split at h
  ·rename_i h0
   rw [if_pos h0]
   simp only [Option.some.injEq,Prod.mk.injEq] at h ⊢
   exact ⟨h.1,by rw [h.2]⟩
  ·rename_i h0
   rw [if_neg h0]
   split at h
   ·rename_i h1
    rw [if_pos h1]
    simp only [Option.some.injEq,Prod.mk.injEq] at h ⊢
    obtain ⟨rfl,rfl⟩:=h
    exact ⟨rfl,(znD ..).symm⟩
   ·cases h
 | rs cells len =>
  dsimp only at h ⊢
  split at h
  ·rename_i h0
   rw [if_pos h0]
   simp only [Option.some.injEq,Prod.mk.injEq] at h ⊢
   exact ⟨h.1,by rw [h.2]⟩
  ·cases h
 | sl id off len cap =>
  simp only [Option.bind_eq_some_iff,zjR] at h ⊢
  obtain ⟨bl,hb,h⟩:=h
  refine ⟨bl,hb,?_⟩
  split at h
  ·rename_i h0
   rw [if_pos h0]
   cases cap with
   | fix cc =>
    dsimp only at h ⊢
    split at h
    ·rename_i h1
     rw [if_pos h1]
     split at h
     ·rename_i h2
      rw [if_pos h2]
      simp only [Option.some.injEq,Prod.mk.injEq] at h ⊢
      obtain ⟨rfl,rfl⟩:=h
      exact ⟨rfl,(zpS ..).symm⟩
     ·cases h
    ·rename_i h1
     rw [if_neg h1]
     split at h
     ·rename_i h2
      rw [if_pos h2]
      simp only [Option.some.injEq,Prod.mk.injEq] at h ⊢
      obtain ⟨rfl,rfl⟩:=h
      exact ⟨rfl,(znD ..).symm⟩
     ·cases h
   | opn ee =>
    dsimp only at h ⊢
    split at h
    ·rename_i h1
     rw [if_pos h1]
     split at h
     ·rename_i h2
      rw [if_pos h2]
      simp only [Option.some.injEq,Prod.mk.injEq] at h ⊢
      exact ⟨h.1,by rw [h.2]⟩
     ·rename_i h2
      rw [if_neg h2]
      split at h
      ·rename_i h3
       rw [if_pos h3]
       simp only [Option.some.injEq,Prod.mk.injEq] at h ⊢
       obtain ⟨rfl,rfl⟩:=h
       exact ⟨rfl,by rw [znD,zpS]⟩
      ·cases h
    ·rename_i h1
     rw [if_neg h1]
     split at h
     ·rename_i h2
      rw [if_pos h2]
      simp only [Option.some.injEq,Prod.mk.injEq] at h ⊢
      exact ⟨h.1,by rw [h.2]⟩
     ·rename_i h2
      rw [if_neg h2]
      split at h
      ·rename_i h3
       rw [if_pos h3]
       simp only [Option.some.injEq,Prod.mk.injEq] at h ⊢
       obtain ⟨rfl,rfl⟩:=h
       exact ⟨rfl,(zpS ..).symm⟩
      ·cases h
  ·cases h
 | _=>cases h
theorem zEA (ty e b:Nat) (x y:V):Sim (mappend ty e b x y) (Ax.mappend ty e b x y):=by
 intro c v c' h
 simp only [mappend,Ax.mappend,Option.bind_eq_some_iff,zzh] at h ⊢
 obtain ⟨q,hq,h⟩:=h
 exact ⟨q,hq,zwp _ _ _ _ _ _ _ _ h⟩
theorem zCW (ty b:Nat) (z:List V) (x y:V):Sim (mappendz ty b z x y) (Ax.mappendz ty b z x y):=by
 intro c v c' h
 unfold mappendz at h
 unfold Ax.mappendz
 split at h
 ·dsimp only at h ⊢
  split at h
  ·rename_i h0
   rw [if_pos h0]
   exact zwp _ _ _ _ _ _ _ _ h
  ·cases h
 ·cases h
theorem zEv (e:Nat) (x lo hi:V):Sim (mslice2 e x lo hi) (Ax.mslice2 e x lo hi):=by
 intro c v c' h
 unfold mslice2 at h
 unfold Ax.mslice2
 split at h
 ·simp only [Option.bind_eq_some_iff,zjR] at h ⊢
  obtain ⟨bl,hb,h⟩:=h
  refine ⟨bl,hb,?_⟩
  split at h
  ·rename_i h0
   rw [if_pos h0]
   simp only [Option.some.injEq,Prod.mk.injEq] at h ⊢
   exact ⟨h.1,by rw [h.2]⟩
  ·cases h
 ·cases h
theorem zFt (z:List V) (x:V):Sim (mclear z x) (Ax.mclear z x):=by
 intro c v c' h
 unfold mclear at h
 unfold Ax.mclear
 split at h
 ·dsimp only at h ⊢
  split at h
  ·rename_i h0
   rw [if_pos h0]
   simp only [Option.some.injEq,Prod.mk.injEq] at h ⊢
   exact ⟨h.1,by rw [h.2]⟩
  ·rename_i h0
   rw [if_neg h0]
   simp only [Option.bind_eq_some_iff,zjR] at h ⊢
   obtain ⟨bl,hb,h⟩:=h
   refine ⟨bl,hb,?_⟩
   split at h
   ·rename_i h1
    rw [if_pos h1]
    simp only [Option.some.injEq,Prod.mk.injEq] at h ⊢
    obtain ⟨rfl,rfl⟩:=h
    exact ⟨rfl,(zpS ..).symm⟩
   ·cases h
 ·cases h
theorem sim_mknz (ty:TypeId) (x:V):Sim (mmknz ty x) (Ax.mmknz ty x):=by
 intro c v c' h
 unfold mmknz at h
 unfold Ax.mmknz
 split at h
 ·split at h
  ·rename_i hc
   simp only [Option.some.injEq,Prod.mk.injEq] at h
   obtain ⟨rfl,rfl⟩:=h
   simp only [if_pos hc,znD,zv8]
  ·cases h
 ·cases h
theorem sim_copy (e:Nat) (x y:V):Sim (mcopy e x y) (Ax.mcopy e x y):=by
 intro c v c' h
 simp only [mcopy,Ax.mcopy,Option.bind_eq_some_iff,zzh] at h ⊢
 obtain ⟨q,hq,h⟩:=h
 refine ⟨q,hq,?_⟩
 cases x with
 | nils =>
  simp only [Option.some.injEq,Prod.mk.injEq] at h ⊢
  exact ⟨h.1,by rw [h.2]⟩
 | sl id off len cap =>
  simp only [Option.bind_eq_some_iff,zjR] at h ⊢
  obtain ⟨bl,hb,h⟩:=h
  refine ⟨bl,hb,?_⟩
  split at h
  ·rename_i h0
   rw [if_pos h0]
   simp only [Option.some.injEq,Prod.mk.injEq] at h ⊢
   obtain ⟨rfl,rfl⟩:=h
   exact ⟨rfl,(zpS ..).symm⟩
  ·cases h
 | _=>cases h
theorem zFn (x:V):Sim (mtostr x) (Ax.mtostr x):=by
 intro c v c' h
 simp only [mtostr,Ax.mtostr,Option.bind_eq_some_iff,Option.map_eq_some_iff,Prod.mk.injEq,zyT] at h ⊢
 obtain ⟨q,hq,l,hl,rfl,rfl⟩:=h
 exact ⟨q,hq,l,hl,rfl,rfl⟩
theorem zwo (ty:TypeId) (x:V):Sim (mtobytes ty x) (Ax.mtobytes ty x):=by
 intro c v c' h
 unfold mtobytes at h
 unfold Ax.mtobytes
 split at h
 ·dsimp only at h ⊢
  split at h
  ·rename_i h0
   rw [if_pos h0]
   simp only [Option.some.injEq,Prod.mk.injEq] at h ⊢
   obtain ⟨rfl,rfl⟩:=h
   exact ⟨rfl,(znD _ _).symm⟩
  ·cases h
 ·cases h
theorem zCU (ty b:Nat) (z:List V) (l k:V):Sim (mmkslice ty b z l k) (Ax.mmkslice ty b z l k):=by
 intro c v c' h
 unfold mmkslice at h
 unfold Ax.mmkslice
 split at h
 ·rename_i a b'
  dsimp only at h ⊢
  split at h
  ·rename_i h0
   rw [if_pos h0]
   simp only [Option.some.injEq,Prod.mk.injEq] at h ⊢
   obtain ⟨rfl,rfl⟩:=h
   exact ⟨rfl,(znD ..).symm⟩
  ·cases h
 ·cases h
theorem zDV (v:V) (h h':Heap):Sim (M.unch v h h') (Ax.M.unch v h.abs h'.abs):=by
 intro c u c' e
 unfold M.unch at e
 unfold Ax.M.unch
 cases hp:v.pid with
 | none =>
  rw [hp] at e
  simp only [Option.some.injEq,Prod.mk.injEq] at e
  obtain ⟨_,rfl⟩:=e
  rw [if_pos (by intro id h; cases h)]
 | some id =>
  rw [hp] at e
  dsimp only at e
  split at e
  ·rename_i hs
   simp only [Option.some.injEq,Prod.mk.injEq] at e
   obtain ⟨_,rfl⟩:=e
   rw [if_pos]
   intro i hi
   simp only [Option.some.injEq] at hi
   subst hi
   exact sameB_eq hs
  ·cases e
theorem zEw (ty:TypeId) (x:V):Sim (mremark ty x) (Ax.mremark ty x):=by
 intro c v c' h
 unfold mremark at h
 unfold Ax.mremark
 split at h
 ·exact zwo _ _ _ _ _ h
 ·simp only [Option.bind_eq_some_iff,zjR] at h ⊢
  obtain ⟨bl,hb,h⟩:=h
  refine ⟨bl,hb,?_⟩
  split at h
  ·cases h
  ·rename_i h0
   rw [if_neg h0]
   simp only [Option.some.injEq,Prod.mk.injEq] at h ⊢
   exact ⟨h.1,by rw [h.2]⟩
 ·cases h
theorem zFr (ty:TypeId):Sim (mmkmap ty) (Ax.mmkmap ty):=by
 intro c v c' h
 simp only [mmkmap,Ax.mmkmap,Option.some.injEq,Prod.mk.injEq,zv8] at h ⊢
 obtain ⟨rfl,rfl⟩:=h
 exact ⟨rfl,(znD ..).symm⟩
theorem zEz (mk:MK) (z:V) (ok:Bool) (x k:V):Sim (mlookup mk z ok x k) (Ax.mlookup mk z ok x k):=by
 intro c v c' h
 cases x <;> simp only [mlookup,Ax.mlookup,Option.bind_eq_some_iff,reduceCtorEq,zjR] at h ⊢
 obtain ⟨b,hb,h⟩:=h
 refine ⟨b,hb,?_⟩
 split at h
 ·rename_i hc
  rw [if_pos hc]
  simp only [Option.map_eq_some_iff,Prod.mk.injEq] at h ⊢
  obtain ⟨u,hu,h1,rfl⟩:=h
  exact ⟨u,hu,h1,rfl⟩
 ·cases h
theorem zEx (mk:MK) (x k u:V):Sim (mmapset mk x k u) (Ax.mmapset mk x k u):=by
 intro c v c' h
 cases x <;> simp only [mmapset,Ax.mmapset,Option.bind_eq_some_iff,reduceCtorEq,zjR] at h ⊢
 obtain ⟨b,hb,h⟩:=h
 refine ⟨b,hb,?_⟩
 split at h
 ·rename_i hc
  rw [if_pos hc]
  simp only [Option.map_eq_some_iff,Prod.mk.injEq] at h ⊢
  obtain ⟨cs,hcs,rfl,rfl⟩:=h
  exact ⟨cs,hcs,rfl,(zpS ..).symm⟩
 ·cases h
theorem zCV (p:Bool) (o:Nat) (x n:V):Sim (mmapdrop p o x n) (Ax.mmapdrop p o x n):=by
 intro c v c' h
 unfold mmapdrop at h
 unfold Ax.mmapdrop
 split at h
 ·rename_i id off n
  simp only [Option.bind_eq_some_iff] at h
  obtain ⟨b0,hb0,h⟩:=h
  simp only [zjR,hb0,Option.bind_some]
  split at h
  ·rename_i i hi
   simp only [Option.bind_eq_some_iff,Option.map_eq_some_iff,Prod.mk.injEq] at h
   obtain ⟨b,hb,cs,hcs,rfl,rfl⟩:=h
   rw [hi]
   simp only [hb,hcs,Option.bind_some,Option.map_some,zpS]
  ·cases h
 ·cases h
theorem zEy (x:V):Sim (mmaplen x) (Ax.mmaplen x):=by
 intro c v c' h
 cases x <;> simp only [mmaplen,Ax.mmaplen,Option.map_eq_some_iff,Prod.mk.injEq,reduceCtorEq,zjR] at h ⊢
 obtain ⟨b,hb,rfl,rfl⟩:=h
 exact ⟨b,hb,rfl,rfl⟩
theorem zFu (k:IntKind) (x:V):Sim (matoload k x) (Ax.matoload k x):=by
 intro c v c' h
 unfold matoload at h
 unfold Ax.matoload
 simp only [Option.bind_eq_some_iff] at h ⊢
 obtain ⟨⟨u,c1⟩,h1,h⟩:=h
 refine ⟨_,zzN _ _ _ _ _ h1,?_⟩
 cases u <;> simp only [reduceCtorEq] at h
 dsimp only
 split at h
 ·rename_i hk
  rw [if_pos hk]
  simp only [Option.some.injEq,Prod.mk.injEq] at h ⊢
  exact ⟨h.1,by rw [h.2]⟩
 ·cases h
theorem sim_aadd (k:IntKind) (x y:V):Sim (matoadd k x y) (Ax.matoadd k x y):=by
 intro c v c' h
 unfold matoadd at h
 unfold Ax.matoadd
 split at h
 ·simp only [Option.bind_eq_some_iff,zjR] at h ⊢
  obtain ⟨b,hb,h⟩:=h
  refine ⟨b,hb,?_⟩
  split at h
  ·rename_i k2 n hc
   rw [hc]
   dsimp only
   split at h
   ·rename_i hk
    rw [if_pos hk]
    simp only [Option.some.injEq,Prod.mk.injEq] at h ⊢
    obtain ⟨rfl,rfl⟩:=h
    exact ⟨rfl,(zpS ..).symm⟩
   ·cases h
  ·cases h
 ·cases h
theorem zFp {g:Sem'} {G:Ax.Sem'} (hg:Sims g G) (A:Fr) (ins:I):Sim (I.run g A ins) (ins.run G A):=by
 have w1:∀ (x:Arg) {k:V → M V} {k':V → Ax.M V},(∀ v,Sim (k v) (k' v)) → Sim (with1 A x k) (Ax.with1 A x k'):=by
  intro x k k' h
  unfold with1 Ax.with1
  cases x.ev A with
  | none=>exact zaa
  | some v=>exact h v
 have ws:∀ (x:List Arg) {k:List V → M V} {k':List V → Ax.M V},(∀ v,Sim (k v) (k' v)) → Sim (withs A x k) (Ax.withs A x k'):=by
  intro x k k' h
  unfold withs Ax.withs
  cases evs A x with
  | none=>exact zaa
  | some v=>exact h v
 cases ins <;> simp only [I.run,Ax.I.run]
 case mv x=>exact w1 x zgu
 case pick c a b=>exact w1 _ fun _=>w1 _ fun _=>w1 _ fun _=>zdu _
 case box=>exact w1 _ fun _=>sim_box _ _
 case build z ps=>cases zds A ps <;> first | exact zaa | exact zdu _
 case slit z ps=>cases zds A ps <;> first | exact zaa | exact sim_slit _ _ _ _
 case load=>exact w1 _ fun _=>zzN _ _
 case store=>exact w1 _ fun _=>w1 _ fun _=>zFo _ _ _
 case nilck=>exact w1 _ fun _=>zdu _
 case bin=>exact w1 _ fun _=>w1 _ fun _=>zdu _
 case eq=>exact w1 _ fun _=>w1 _ fun _=>zdu _
 case un=>exact w1 _ fun _=>zdu _
 case cint=>exact w1 _ fun _=>zdu _
 case tostr=>exact w1 _ fun _=>zFn _
 case tobytes=>exact w1 _ fun _=>zwo _ _
 case faddr=>exact w1 _ fun _=>zdu _
 case iaddr=>exact w1 _ fun _=>w1 _ fun _=>zdu _
 case index=>exact w1 _ fun _=>w1 _ fun _=>zdu _
 case sindex=>exact w1 _ fun _=>w1 _ fun _=>zdu _
 case field=>exact w1 _ fun _=>zdu _
 case ext=>exact w1 _ fun _=>zdu _
 case len=>exact w1 _ fun _=>zdu _
 case slen=>exact w1 _ fun _=>zdu _
 case slice ck e x lo hi mx =>
  refine w1 _ fun _=>?_
  cases zhQ A lo <;> cases zhQ A hi <;> cases zhQ A mx <;> first | exact zaa | exact zdu _
 case append=>exact w1 _ fun _=>w1 _ fun _=>zEA _ _ _ _ _
 case appendz=>exact w1 _ fun _=>w1 _ fun _=>zCW _ _ _ _ _
 case copy=>exact w1 _ fun _=>w1 _ fun _=>sim_copy _ _ _
 case mkslice=>exact w1 _ fun _=>w1 _ fun _=>zCU _ _ _ _ _
 case slice2=>exact w1 _ fun _=>w1 _ fun _=>w1 _ fun _=>zEv _ _ _ _
 case clear=>exact w1 _ fun _=>zFt _ _
 case op1=>exact w1 _ fun _=>zdu _
 case mknz=>exact w1 _ fun _=>sim_mknz _ _
 case remark=>exact w1 _ fun _=>zEw _ _
 case minmax=>exact w1 _ fun _=>ws _ fun _=>zdu _
 case call=>exact ws _ fun _=>hg _ _
 case callv =>
  refine w1 _ fun v=>ws _ fun _=>?_
  cases v <;> first | exact zaa | exact hg _ _
 case mkfn=>exact ws _ fun _=>zgu _
 case mkmap=>exact zFr _
 case lookup=>exact w1 _ fun _=>w1 _ fun _=>zEz _ _ _ _ _
 case mapset=>exact w1 _ fun _=>w1 _ fun _=>w1 _ fun _=>zEx _ _ _ _
 case mdrop=>exact w1 _ fun _=>w1 _ fun _=>zCV _ _ _ _
 case maplen=>exact w1 _ fun _=>zEy _
 case aload=>exact w1 _ fun _=>zFu _ _
 case aadd=>exact w1 _ fun _=>w1 _ fun _=>sim_aadd _ _ _
theorem sim_ao {g:Sem'} {G:Ax.Sem'} (hg:Sims g G) (A:Fr) (o:AO):Sim (AO.run g A o) (o.run G A):=by
 unfold AO.run Ax.AO.run guarded Ax.guarded
 cases o.gd with
 | none=>exact zFp hg A o.ins
 | some p =>
  obtain ⟨s,want⟩:=p
  dsimp only
  cases A.get s with
  | none=>exact zaa
  | some v =>
   cases v with
   | bool b =>
    dsimp only
    by_cases hb:b = want
    ·simp only [if_pos hb]; exact zFp hg A o.ins
    ·simp only [if_neg hb]; exact zgu _
   | tup vs =>
    cases vs with
    | nil=>exact zgu _
    | cons _ _=>exact zaa
   | _=>exact zaa
theorem zk6 {g:Sem'} {G:Ax.Sem'} (hg:Sims g G) (A:Fr) (o:AO) {k:V → M α} {k':V → Ax.M α} (h:∀ v,Sim (k v) (k' v)):Sim (step g o A k) (Ax.step G o A k'):=by
 have hr:=zmH (sim_ao hg A o) h
 obtain ⟨d,gd,ins⟩:=o
 cases gd with
 | some _=>exact hr
 | none =>
  cases ins <;> first | exact hr | skip
  rename_i x
  show Sim (match x.ev A with | some v=>k v | none=>M.fail) (match x.ev A with | some v=>k' v | none=>Ax.M.fail)
  cases x.ev A with
  | none=>exact zaa
  | some v=>exact h v
theorem sim_ops {g:Sem'} {G:Ax.Sem'} (hg:Sims g G) {k:Fr → M α} {k':Fr → Ax.M α} (h:∀ A,Sim (k A) (k' A)):∀ (l:List AO) (A:Fr),Sim (opsK g l A k) (Ax.opsK G l A k'):=by
 intro l
 induction l with
 | nil=>intro A; exact h A
 | cons o l ih=>intro A; exact zk6 hg A o fun v=>ih _
def absJ (js:List (Nat × Heap × Heap)):List (Nat × Ax.Heap × Ax.Heap):=js.map fun q=>(q.1,q.2.1.abs,q.2.2.abs)
theorem zDY {un:List (Nat × Nat)} {i:Nat} {a:V} {k:M α} {k':Ax.M α} (h:Sim k k'):∀ js,Sim (actsK un i a js k) (Ax.actsK un i a (absJ js) k'):=by
 intro js
 induction js with
 | nil=>exact h
 | cons q js ih =>
  obtain ⟨j,h1,h2⟩:=q
  show Sim (if un.contains (i,j) then M.bind (M.unch a h1 h2) fun _=>actsK un i a js k else actsK un i a js k)
   (if un.contains (i,j) then (Ax.M.unch a h1.abs h2.abs).bind fun _=>Ax.actsK un i a (absJ js) k' else Ax.actsK un i a (absJ js) k')
  split
  ·exact zmH (zDV _ _ _) fun _=>ih
  ·exact ih
theorem zFq {un:List (Nat × Nat)} {j:Nat} {h1 h2:Heap} {k:M α} {k':Ax.M α} (h:Sim k k'):∀ rs,Sim (readsK un j h1 h2 rs k) (Ax.readsK un j h1.abs h2.abs rs k'):=by
 intro rs
 induction rs with
 | nil=>exact h
 | cons q rs ih =>
  obtain ⟨i,a⟩:=q
  show Sim (if un.contains (i,j) then M.bind (M.unch a h1 h2) fun _=>readsK un j h1 h2 rs k else readsK un j h1 h2 rs k)
   (if un.contains (i,j) then (Ax.M.unch a h1.abs h2.abs).bind fun _=>Ax.readsK un j h1.abs h2.abs rs k' else Ax.readsK un j h1.abs h2.abs rs k')
  split
  ·exact zmH (zDV _ _ _) fun _=>ih
  ·exact ih
theorem zDX {f:Heap → M α} {f':Ax.Heap → Ax.M α} (h:∀ c,Sim (f c) (f' c.abs)):Sim (M.bind M.getH f) (Ax.M.getH.bind f'):=by
 intro c v c' e
 exact h c c v c' e
theorem sim_draw {g:Sem'} {G:Ax.Sem'} (hg:Sims g G) {un:List (Nat × Nat)} {k:Fr → M α} {k':Fr → Ax.M α} (h:∀ A,Sim (k A) (k' A)):∀ (l:List AO) (p:Nat) (rs:List (Nat × V)) (js:List (Nat × Heap × Heap)) (A:Fr),
  Sim (drawK g un p rs js l A k) (Ax.drawK G un p rs (absJ js) l A k'):=by
 intro l
 induction l with
 | nil=>intro p rs js A; exact h A
 | cons o l ih =>
  intro p rs js A
  unfold drawK Ax.drawK
  cases hk:o.ins.kind with
  | read x =>
   dsimp only
   split
   ·unfold with1' zck.with1'
    cases x.ev A with
    | none=>exact zk6 hg A o fun v=>zDY (ih _ _ _ _) js
    | some a=>exact zk6 hg A o fun v=>zDY (ih _ _ _ _) js
   ·exact zk6 hg A o fun v=>ih _ _ _ _
  | act =>
   dsimp only
   split
   ·exact zDX fun h1=>zk6 hg A o fun v=>zDX fun h2=>zFq (ih _ _ ((p,h1,h2) :: js) _) rs
   ·exact zk6 hg A o fun v=>ih _ _ _ _
  | pure=>exact zk6 hg A o fun v=>ih _ _ _ _
  | new=>exact zk6 hg A o fun v=>ih _ _ _ _
theorem zDW {x:M Res} {y:Ax.M Res} {k:List V → M Res} {k':List V → Ax.M Res} (h:Sim x y) (hk:∀ L,Sim (k L) (k' L)):Sim (M.join x k) (Ax.M.join y k'):=by
 refine zmH h fun r=>?_
 cases r with
 | nrm L=>exact hk L
 | ex id L=>exact zgu _
 | ret L=>exact zgu _
theorem sim_blk {id:Nat} {x:M Res} {y:Ax.M Res} {k:List V → M Res} {k':List V → Ax.M Res} (h:Sim x y) (hk:∀ L,Sim (k L) (k' L)):Sim (M.blk id x k) (Ax.M.blk id y k'):=by
 refine zmH h fun r=>?_
 cases r with
 | nrm L=>exact hk L
 | ex i L =>
  dsimp only
  by_cases e:i = id
  ·simp only [if_pos e]; exact hk L
  ·simp only [if_neg e]; exact zgu _
 | ret L=>exact zgu _
theorem sim_iter {body:List V → M Res} {b:List V → Ax.M Res} (h:∀ L,Sim (body L) (b L)) (L:List V):Sim (M.iter body L) (Ax.M.iter b L):=by
 have key:∀ (n:Nat) (L:List V),Sim (iterN body n L) (Ax.iterN b n L):=by
  intro n
  induction n with
  | zero=>intro L; exact zaa
  | succ n ih=>intro L; exact zDW (h L) ih
 intro c v c' e
 exact zFM (key _ L c v c' e)
theorem sim_res {A:Fr}:∀ (rv:List RV) {k:List V → M α} {k':List V → Ax.M α},(∀ L,Sim (k L) (k' L)) → Sim (resK A rv k) (Ax.resK A rv k'):=by
 intro rv
 induction rv with
 | nil=>intro k k' h; exact h []
 | cons x rv ih =>
  intro k k' h
  cases x with
  | tmp t =>
   simp only [resK,Ax.resK]
   cases A.get t with
   | none=>exact zaa
   | some v=>exact ih fun vs=>h _
  | cell t n =>
   simp only [resK,Ax.resK]
   cases A.get t with
   | none=>exact zaa
   | some v=>exact zmH (zzN _ _) fun u=>ih fun vs=>h _
theorem sim_exec {g:Sem'} {G:Ax.Sem'} (hg:Sims g G) (rv:List RV):∀ (c:C) (cx:List (Nat × List Nat)) (J:List Nat) (A:Fr),Sim (execK g rv c cx J A) (Ax.execK G rv c cx J A):=by
 intro c
 induction c with
 | done=>intro cx J A; simp only [execK,Ax.execK]; cases zeO A J <;> first | exact zaa | exact zgu _
 | bad=>intro cx J A; exact zaa
 | ops l k ih=>intro cx J A; exact sim_ops hg (fun A'=>ih _ _ _) l A
 | draw l un k ih=>intro cx J A; exact sim_draw hg (fun A'=>ih _ _ _) l 0 [] [] A
 | cond x a b iha ihb =>
  intro cx J A
  simp only [execK,Ax.execK]
  cases x.ev A with
  | none=>exact zaa
  | some c=>exact zFs c (iha _ _ _) (ihb _ _ _)
 | condJ x a b J' W k iha ihb ihk =>
  intro cx J A
  simp only [execK,Ax.execK]
  cases x.ev A with
  | none=>exact zaa
  | some c=>exact zDW (zFs c (iha _ _ _) (ihb _ _ _)) fun L=>ihk _ _ _
 | blk id a J' W k iha ihk=>intro cx J A; exact sim_blk (iha _ _ _) fun L=>ihk _ _ _
 | loop a K W iha =>
  intro cx J A
  simp only [execK,Ax.execK]
  cases zeO A K with
  | none=>exact zaa
  | some L=>exact sim_iter (fun L=>iha _ _ _) L
 | exit id =>
  intro cx J A
  simp only [execK,Ax.execK]
  cases zxJ cx id with
  | none=>exact zaa
  | some J=>dsimp only; cases zeO A J <;> first | exact zaa | exact zgu _
 | ret=>intro cx J A; exact sim_res rv fun L=>zgu _
theorem sim_fin {x:M Res} {y:Ax.M Res} (h:Sim x y):Sim (fin x) (Ax.fin y):=by
 refine zmH h fun r=>?_
 cases r with
 | ret L=>exact zgu _
 | _=>exact zaa
end
theorem zad {T:FuncId → Option Fn'} {f:FuncId} {ir:Fn'} (hT:T f = some ir) {args:List V} (hl:args.length ≤ ir.ntmps) {g:Sem'} (hg:Sims g (sem T)) {x:M Res} (hx:execK g ir.rv ir.body [] [] (params 0 args) = x):Sim (fin x) (sem T f args):=by
 intro c v c' h
 refine sem_step hT hl rfl ?_
 exact sim_fin (hx ▸ sim_exec hg ir.rv ir.body [] [] (params 0 args)) c v c' h
theorem zab {α:Type} {p:Prop} [Decidable p] {x x':M α} {y:Ax.M α} (h:p → Sim x y) (k:Sim x' y):Sim (if p then x else x') y:=by
 by_cases hp:p
 ·rw [if_pos hp]; exact h hp
 ·rw [if_neg hp]; exact k
def noF:Fn':=⟨0,[], .bad⟩
def yes (x:M V):Bool:=match x ⟨.e,0⟩ with | some (.bool b,_)=>b | _=>false
theorem yes_ok {x:M V} {y:Ax.M V} (h:Sim x y) (hy:yes x = true):∃ H',y H0 = some (.bool true,H'):=by
 unfold yes at hy
 split at hy
 ·rename_i b c he
  subst hy
  refine ⟨c.abs,?_⟩
  have:=h _ _ _ he
  have e0:(⟨.e,0⟩:Heap).abs = H0:=rfl
  rw [e0] at this
  exact this
 ·cases hy
end Go.Ax.Cc
