/-
  Texts of mine, put together by program (wip/slim.py), for law_worldKnown: part 4.
-/
import Derived.Test.YtjabaappgopdmaaGreatZw3
import GoSem.Extern.Atomic
noncomputable section
set_option linter.unusedVariables false
set_option linter.unusedSimpArgs false
set_option linter.defProp false
set_option maxRecDepth 100000
/- Ax30 -/
namespace Go.Ax
section
variable {m:Map} {Z:Nat->Prop} {H H':Heap} {w:World}
def zhK(P:Program){id off:Nat}{b:Blk}{l:Loc}{v:V}{x:Value}(r:RelH m Z H w)(hb:H.get id=some b)(hm:AtC m id l)(hv:Rep m Z w v x)(h1:v.one=true)(ho:off+1<=b.cells.length) :
  RelH m Z (H.set id (some { b with cells:=splice b.cells off [v] })) (w.setCell ⟨l.blk,off+l.bo,none⟩ x)/\Ext m Z H w m Z (H.set id (some { b with cells:=splice b.cells off [v] })) (w.setCell ⟨l.blk,off+l.bo,none⟩ x):=by
 obtain⟨w',hrun,h2,h3⟩:=zfz (P:=P) (o:=off) (cs:=[v]) (xs:=[x]) r hb hm ⟨rfl,λj u y hu hy=>by
  cases j with
  | zero=>simp only[yaC,yab]at hu hy;subst hu hy;exact hv
  | succ j=>simp at hu⟩ (λu hu=>by simp only[ya0]at hu;subst hu;exact h1) ho
 obtain⟨cur,fz,hL⟩:=r.at_ hb hm;have hlt:off+l.bo<cur.size:=by have:=hL.len;omega
 have hc:w.cell? ⟨l.blk,off+l.bo,none⟩=some cur[off+l.bo]:=by rw[hL.cell];exact yar hlt
 have hf:w.frozen? ⟨l.blk,off+l.bo,none⟩=false:=by
  simp only[World.frozen?,hL.heap];have:=hL.free (off+l.bo) hlt;simp;omega
 have hw:w'=w.setCell ⟨l.blk,off+l.bo,none⟩ x:=by
  simp only[storeCells,zsc,ybI]at hrun;rw[show((store ⟨l.blk,off+l.bo,none⟩ x >>= λ_=>(pure ():Sem Unit)):Sem Unit)=(store ⟨l.blk,off+l.bo,none⟩ x).bind λ_=>pure () from rfl,Sem.run_bind',run_store P w _ x _ (hv.oneCell h1),hc]at hrun;simp only[hf]at hrun;injection hrun with _ hrun
  exact hrun.symm
 subst hw;exact⟨h2,h3⟩
def zhU{k:IntKind}{p v:V} (h:matoload k p H=some (v,H')):H'=H/\∃n,v = .int k n/\mload none p H=some (.int k n,H):=by
 unfold matoload at h;simp only[yaa]at h;obtain⟨⟨u,H1⟩,h1,h⟩:=h;have e:H1=H:=by
  cases p<;>simp only[mload,yaa,yac,yae,reduceCtorEq]at h1
  ·obtain⟨_,_,_,_,_,rfl⟩:=h1;rfl
  ·obtain⟨_,_,_,rfl⟩:=h1;rfl
 subst e;cases u<;>simp only[reduceCtorEq]at h
 rename_i k' n;split at h
 ·rename_i hk;simp only[yab,yae]at h;obtain⟨rfl,e2⟩:=h;subst hk;exact⟨e2.symm,n,rfl,h1⟩
 ·cases h
def zpq(P:Program){k:IntKind}{p v:V}{X:Value} (h:matoload k p H=some (v,H')) (hp:Rep m Z w p X) (r:RelH m Z H w) :
  H'=H/\∃x,(Extern.Atomic.loadT (.int k) #[X]).run P w = .ok x w/\Rep m Z w v x:=by
 obtain⟨rfl,n,rfl,h1⟩:=zhU h;refine⟨rfl,.int k n,?_,.int _ _⟩;have key:∃a,X = .pointer (some a)/\w.cell? a=some (.int k n):=by
  cases p<;>simp only[mload,ldc,yaa,yac,yae,reduceCtorEq]at h1
  ·obtain⟨b,hb,v',hv,rfl,_⟩:=h1;obtain⟨l,hm,rfl⟩:=hp.inv_ptr;obtain⟨cur,fz,hL⟩:=r.at_ hb hm;obtain⟨x,hx,hr⟩:=hL.get hv;exact⟨_,rfl,by rw[hL.cell,hx,hr.inv_int]⟩
  ·obtain⟨v',hv,rfl,_⟩:=h1;obtain⟨b,o,rfl,hz,hrd⟩:=hp.inv_rp;obtain⟨_,x,hx,hr⟩:=hrd _ _ hv;exact⟨_,rfl,by rw[hx,hr.inv_int]⟩
 obtain⟨a,rfl,hc⟩:=key;show(Sem.run P (do Extern.Atomic.read (.int k) (<-asAddr (.pointer (some a)))) w) = _;simp[Extern.Atomic.read,asAddr,hc,Result.andThen]
def zjC{k:IntKind}{p y v:V} (h:matoadd k p y H=some (v,H')):∃id off k' j b n,p = .ptr id off/\y = .int k' j/\H.get id=some b/\b.cells[off]?=some (.int k n)/\v = .int k (k.wrap (n+j))/\H'=H.set id (some { b with cells:=splice b.cells off [.int k (k.wrap (n+j))] }):=by
 unfold matoadd at h;split at h
 ·rename_i id off k' j;simp only[yaa]at h;obtain⟨b,hb,h⟩:=h;split at h
  ·rename_i k2 n hc;split at h
   ·rename_i hk;simp only[yab,yae]at h;obtain⟨rfl,rfl⟩:=h;subst hk;exact⟨id,off,k',j,b,n,rfl,rfl,hb,hc,rfl,rfl⟩
   ·cases h
  ·cases h
 ·cases h
def zqS(P:Program){k:IntKind}{p y v:V}{X Y:Value} (h:matoadd k p y H=some (v,H')) (hp:Rep m Z w p X) (hy:Rep m Z w y Y) (r:RelH m Z H w) :
  ∃x w',(Extern.Atomic.update (Op.intArith .add) k true #[X,Y]).run P w = .ok x w'/\Rep m Z w' v x/\RelH m Z H' w'/\Ext m Z H w m Z H' w':=by
 obtain⟨id,off,k',j,b,n,rfl,rfl,hb,hc,rfl,rfl⟩:=zjC h;obtain⟨l,hm,rfl⟩:=hp.inv_ptr;rw[hy.inv_int];obtain⟨cur,fz,hL⟩:=r.at_ hb hm;obtain⟨x,hx,hr⟩:=hL.get hc;have hcell:w.cell? ⟨l.blk,off+l.bo,none⟩=some (.int k n):=by rw[hL.cell,hx,hr.inv_int]
 have hlt:off+l.bo<cur.size:=(yaG.1 hx).1;have hf:w.frozen? ⟨l.blk,off+l.bo,none⟩=false:=by
  simp only[World.frozen?,hL.heap];have:=hL.free (off+l.bo) hlt;simp;omega
 have hle:off+1<=b.cells.length:=(yax.1 hc).1;obtain⟨h1,h2⟩:=zhK P (v:=.int k (k.wrap (n+j))) (x:=.int k (k.wrap (n+j))) r hb hm (.int _ _) rfl hle;refine⟨.int k (k.wrap (n+j)),_,?_,.int _ _,h1,h2⟩;have hs:(Op.intArith .add k n j).run P w = .ok (.int k (k.wrap (n+j))) w:=by simp[Op.intArith]
 show(Sem.run P (do
  let a' <-asAddr (.pointer (some ⟨l.blk,off+l.bo,none⟩))
  let old <-Extern.Atomic.read (.int k) a'
  let new <-Op.intArith .add k (<-asInt old) (<-asInt (.int k' j))
  store a' new .atomic
  pure (if true=true then new else old)) w) = _
 simp[Extern.Atomic.read,asAddr,asInt,asIntOf,hcell,hf,hs,run_store P w ⟨l.blk,off+l.bo,none⟩ (.int k (k.wrap (n+j))) .atomic rfl,Result.andThen]
end
end Go.Ax
