/-
  Texts of mine, put together by program (wip/slim.py), for law_worldKnown: part 2.
-/
import Derived.Test.YtjabaappgopdmaaGreatZw1
import Derived.ChangeKeysEq
noncomputable section
set_option linter.unusedVariables false
set_option linter.unusedSimpArgs false
set_option linter.defProp false
set_option maxRecDepth 100000
/- Ax6 -/
namespace Go.Ax
def zk5{m:Map}{Z:Nat->Prop}{w:World}{x:Value}{v:V}(h:V.ofValue x=some v):Rep m Z w v x:=by
 unfold V.ofValue at h;split at h<;>first
  | (injection h with h;subst h;constructor;done)
  | (cases h;done)
def zqM{x:Value}{v:V}(h:V.ofValue x=some v):v.one=true:=by
 unfold V.ofValue at h;split at h<;>first
  | (injection h with h;subst h;rfl)
  | (cases h;done)
def zcf:∀{xs:List Value} {vs:List V},V.ofCells xs=some vs->xs.length=vs.length/\(∀v∈vs,v.one=true) /\
  ∀{m:Map} {Z:Nat->Prop} {w:World} (j:Nat) (v:V) (x:Value),vs[j]?=some v->xs[j]?=some x->Rep m Z w v x:=by
 intro xs
 induction xs with
 | nil=>intro vs h;simp[V.ofCells]at h;subst h;simp
 | cons x xs ih=>
  intro vs h;simp only[V.ofCells,yaa,yac]at h;obtain⟨v,hv,us,hu,rfl⟩:=h;obtain⟨h1,h2,h3⟩:=ih hu;refine⟨by simp[h1],?_,?_⟩
  ·intro u hu;rcases yaD.1 hu with rfl|hu
   ·exact zqM hv
   ·exact h2 u hu
  ·intro m Z w j u y hj hy;cases j with
   | zero=>
    simp at hj hy;subst hj;subst hy;exact zk5 hv
   | succ j=>exact h3 j u y (by simpa using hj) (by simpa using hy)
def zk6{m:Map}{Z:Nat->Prop}{w:World}{x:Value}{v:V}(h:V.ofConst x=some v):Rep m Z w v x:=by
 unfold V.ofConst at h;split at h
 ·rename_i cs;simp only[yac]at h;obtain⟨vs,hv,rfl⟩:=h;obtain⟨h1,h2,h3⟩:=zcf hv;exact .agg (by simpa using h1) h2 λj v x hv hx=>h3 j v x hv (by simpa using hx)
 ·exact zk5 h
section
variable {P:Program} {m:Map} {Z:Nat->Prop} {H:Heap} {w:World} {A:Fr} {a:Act}
def zao{x:Operand}{y:Arg}{v:V}(hc:zan x=some y)(he:y.ev A=some v)(hf:RelF m Z w A a.tmps):Rep m Z w v (a.eval x):=by
 cases x with
 | tmp t=>
  simp only[zan,yab]at hc;subst hc;obtain⟨x,hx,hr⟩:=hf t v he;have:a.eval (.tmp t)=x:=by simp[Act.eval,hx]
  rw[this];exact hr
 | const c=>
  simp only[zan,yac]at hc;obtain⟨u,hu,rfl⟩:=hc;simp only[Arg.ev,yab]at he;subst he;exact zk6 hu
 | global g=>simp[zan]at hc
 | func f=>
  simp only[zan,yab]at hc;subst hc;simp only[Arg.ev,yab]at he;subst he;exact .fn (by simp) (by simp)
def ziJ:∀{xs:List Operand} {ys:List Arg} {vs:List V},zbr xs=some ys->evs A ys=some vs->RelF m Z w A a.tmps->Reps m Z w vs (xs.map a.eval):=by
 intro xs
 induction xs with
 | nil=>intro ys vs hc he _;simp[zbr]at hc;subst hc;simp[evs]at he;subst he;exact⟨rfl,by simp⟩
 | cons x xs ih=>
  intro ys vs hc he hf;simp only[zbr,yaa,yac]at hc;obtain⟨y,hy,ys',hys,rfl⟩:=hc;simp only[evs,yaa,yac]at he;obtain⟨v,hv,vs',hvs,rfl⟩:=he;obtain⟨h1,h2⟩:=ih hys hvs hf;refine⟨by simp at h1 ⊢;exact h1,λj v x hj hx=>?_⟩;cases j with
  | zero=>simp at hj hx;subst hj;subst hx;exact zao hy hv hf
  | succ j=>exact h2 j v x (by simpa using hj) (by simpa using hx)
def wp_val{o:Oper}{x:Value}{w':World}{K:Act->World->Prop}{Q:Exit->Act->World->Prop} (h:(execOp a.eval o).run P w = .ok (.value x) w') (hk:K (a.put o.dst x) w'):o.wp P a w K Q:=by
 unfold Oper.wp;rw[h];exact hk
def znm{o:Oper}{w':World}{K:Act->World->Prop}{Q:Exit->Act->World->Prop} (h:(execOp a.eval o).run P w = .ok .skip w') (hk:K (a.put o.dst Go.undef) w'):o.wp P a w K Q:=by
 unfold Oper.wp;rw[h];exact hk
def zaU{s:Sem Value}{x:Value}{w':World}(h:s.run P w = .ok x w'):(do pure (Next.value (<-s)):Sem Next).run P w = .ok (.value x) w':=by
 show(s.bind λr=>Sem.pure (Next.value r)).run P w = _;rw[Sem.run_bind',h];rfl
def znC{s:Sem Unit}{w':World} (h:s.run P w = .ok () w'):(do s;pure Next.skip:Sem Next).run P w = .ok .skip w':=by
 show(s.bind λ_=>Sem.pure Next.skip).run P w = _;rw[Sem.run_bind',h];rfl
def zoT(op:BinOp)(k yk:IntKind)(x y:Int)(hy:¬y<0) :
  (op = .shl->(Op.shift op k x yk y).run P w = .ok (.int k (k.wrap (x*2 ^ min y.toNat k.bits))) w) /\
  (op = .shr->(Op.shift op k x yk y).run P w = .ok (.int k (x.fdiv (2 ^ min y.toNat k.bits))) w):=by
 constructor<;>(rintro rfl;simp[Op.shift,hy])
def bin_run {op : BinOp} {t : TypeId} {ox oy : Operand} {x y v : V} {X Y : Value} (h : bin op x y = some v) (hx : Rep m Z w x X) (hy : Rep m Z w y Y) :
    ∃ r, (do eqGuard op t ox oy X Y;binOp op t X Y : Sem Value).run P w = .ok r w /\ Rep m Z w v r:= by
  unfold bin at h
  split at h
  · rename_i k n k' n'
    cases hx;cases hy
    have hg : (eqGuard op t ox oy (.int k n) (.int k' n')).run P w = .ok () w:= by rw [eqGuard_at_int];rfl
    have hb : ∀ r, (binOp op t (.int k n) (.int k' n')).run P w = .ok r w -> (do eqGuard op t ox oy (.int k n) (.int k' n');binOp op t (.int k n) (.int k' n') : Sem Value).run P w = .ok r w:= fun r hr=> by
      simp only [Sem.run_bind, hg, Result.andThen_ok, hr]
    split at h
    · split at h
      · cases h
      · rename_i hn
        injection h with h;subst h
        exact ⟨_, hb _ ((zoT _ k k' n n' hn).1 rfl), .int _ _⟩
    · split at h
      · cases h
      · rename_i hn
        injection h with h;subst h
        exact ⟨_, hb _ ((zoT _ k k' n n' hn).2 rfl), .int _ _⟩
    · split at h
      · rename_i hk
        subst hk
        unfold zcy at h
        split at h <;> first
          | (injection h with h;subst h;refine ⟨_, hb _ (by simp [go_sem, Op.intArith];first | done | rfl), ?_⟩;constructor;done)
          | (split at h
             · cases h
             · rename_i h0
               injection h with h;subst h;refine ⟨_, hb _ (by simp [go_sem, Op.intDiv, h0];first | done | rfl), ?_⟩;constructor;done)
          | cases h
      · cases h
  · rename_i s s'
    cases hx;cases hy
    have hg : (eqGuard op t ox oy (.string s) (.string s')).run P w = .ok () w:= by rw [eqGuard_at_string];rfl
    have hb : ∀ r, (binOp op t (.string s) (.string s')).run P w = .ok r w -> (do eqGuard op t ox oy (.string s) (.string s');binOp op t (.string s) (.string s') : Sem Value).run P w = .ok r w:= fun r hr=> by
      simp only [Sem.run_bind, hg, Result.andThen_ok, hr]
    unfold zrw at h
    split at h
    · injection h with h;subst h
      exact ⟨_, hb _ (by simp [binOp, Op.stringOp]), .bool _⟩
    · injection h with h;subst h
      exact ⟨_, hb _ (by simp [binOp, Op.stringOp]), .bool _⟩
    · split at h
      · rename_i hsz
        injection h with h;subst h
        refine ⟨_, hb _ ?_, .str _⟩
        have : ¬ ((s.size + s'.size : Nat) : Int) > IntKind.i64.max:= by rw [IntKind.max_i64];omega
        simp only [binOp, Op.stringOp, if_neg this, Sem.run_pure]
      · cases h
    · cases h
  · rename_i k n k' n'
    cases hx;cases hy
    split at h
    · rename_i hk
      subst hk
      have hg : (eqGuard op t ox oy (.float k n) (.float k n')).run P w = .ok () w:= by rw [eqGuard_at_float];rfl
      have hb : ∀ r, (binOp op t (.float k n) (.float k n')).run P w = .ok r w -> (do eqGuard op t ox oy (.float k n) (.float k n');binOp op t (.float k n) (.float k n') : Sem Value).run P w = .ok r w:= fun r hr=> by
        simp only [Sem.run_bind, hg, Result.andThen_ok, hr]
      unfold zrZ at h
      split at h
      all_goals first
        | (injection h with h;subst h;exact ⟨_, hb _ (by simp [binOp, Op.floatCmp];first | done | rfl), .bool _⟩)
        | (simp only [yac] at h
           obtain ⟨r, hr, rfl⟩:= h
           exact ⟨_, hb _ (by simp [binOp, Op.floatArith, hr];first | done | rfl), .lit _⟩)
        | cases h
    · cases h
  · cases h
def un_run{op:UnOp}{x v:V}{X:Value}(h:un op x=some v)(hx:Rep m Z w x X):∃r,(Op.unary op X).run P w = .ok r w/\Rep m Z w v r:=by
 unfold un at h;split at h
 ·injection h with h;subst h;cases hx
  exact⟨_,by simp[Op.unary],.bool _⟩
 ·injection h with h;subst h;cases hx
  exact⟨_,by simp only[Op.unary,Op.intArith];rfl,.int _ _⟩
 ·injection h with h;subst h;cases hx
  exact⟨_,by simp only[Op.unary,go_sem];rfl,.int _ _⟩
 ·cases h
end
section
variable {P:Program} {m:Map} {Z:Nat->Prop} {H:Heap} {w:World}
def za4{t:TypeId}{n:Nat}(h:szOf P t=some n):(sizeOf t).run P w = .ok n w/\P.cellsOf t=n/\∃i,P.info? t=some i/\i.size=n:=by
 simp only[szOf,yac]at h;obtain⟨i,hi,rfl⟩:=h;exact⟨by rw[run_sizeOf w hi];simp[Program.cellsOf,hi],by simp[Program.cellsOf,hi],i,hi,rfl⟩
def zcK{t e:TypeId}(h:elemOf P t=some e):P.underlying t=some (.slice e):=by
 unfold elemOf at h;split at h
 ·rename_i e' he;injection h with h
  subst h;exact he
 ·cases h
def zrP{t:TypeId}{n:Option Nat}(h:ldn P t=some n) :
  (n=none/\∀w,(isAgg t).run P w = .ok false w)\/(∃k,n=some k/\szOf P t=some k/\∀w,(isAgg t).run P w = .ok true w):=by
 unfold ldn at h;split at h
 ·rename_i fs hu;simp only[yac]at h;obtain⟨k,hk,rfl⟩:=h;exact .inr ⟨k,rfl,hk,λw=>by simp[isAgg,run_underlying hu]⟩
 ·rename_i n' e hu;simp only[yac]at h;obtain⟨k,hk,rfl⟩:=h;exact .inr ⟨k,rfl,hk,λw=>by simp[isAgg,run_underlying hu]⟩
 ·rename_i d h1 h2 hu;injection h with h
  refine .inl ⟨h.symm,λw=>?_⟩;unfold isAgg;simp only[Sem.run_bind,run_underlying hu,Result.andThen_ok];rfl
 ·cases h
def Rd(m:Map)(Z:Nat->Prop)(w:World)(cells:List V)(b o:Nat):Prop:=
 ∀(j:Nat) (v:V),cells[j]?=some v->v.one=true/\∃x,w.cell? ⟨b,o+j,none⟩=some x/\Rep m Z w v x
def Rep.inv_ptr{id off:Nat}{X:Value} (h:Rep m Z w (.ptr id off) X):∃l,AtC m id l/\X = .pointer (some ⟨l.blk,off+l.bo,none⟩):=by
 cases h with
 | ptr hm=>exact⟨_,hm,rfl⟩
def Rep.inv_sl{id off len:Nat}{cap:Cap}{X:Value} (h:Rep m Z w (.sl id off len cap) X) :
  ∃l a c,AtC m id l/\X = .slice (some a) len c/\len<=c/\(c=0\/a=⟨l.blk,off+l.bo,none⟩)/\(cap = .fix c\/(cap = .opn l.esz/\∃i,off=i*l.esz/\i+c=l.cap)):=by
 cases h with
 | slc hm hl ha=>exact⟨_,_,_,hm,rfl,hl,ha,.inl rfl⟩
 | slo hm hi hc hl ha=>exact⟨_,_,_,hm,rfl,hl,ha,.inr ⟨rfl,_,hi,hc⟩⟩
def Rep.inv_rs{cells:List V}{len:Nat}{X:Value} (h:Rep m Z w (.rs cells len) X) :
  ∃b o a c,X = .slice (some a) len c/\len<=c/\(len=0\/(a=⟨b,o,none⟩/\Z b/\Rd m Z w cells b o)):=by
 cases h with
 | rs b o f hl h0 h1 h2=>
  refine⟨b,o,_,_,rfl,hl,?_⟩;rcases h0 with h0|⟨ha,hz,hc⟩
  ·exact .inl h0
  ·exact .inr ⟨ha,hz,λj v hv=>⟨h1 j v hv,f j,hc j v hv,h2 j v hv⟩⟩
def Rep.rs_zero{cells:List V}{len:Nat}{X:Value} (h:Rep m Z w (.rs cells len) X) (k c:Nat) (a:Addr):Rep m Z w (.rs (cells.drop k) 0) (.slice (some a) 0 c):=by
 cases h with
 | rs b o f hl h0 h1 h2=>exact .rs b o (λj=>f (k+j)) (yaJ _) (.inl rfl) (λj v hv=>h1 (k+j) v (by rwa [yaU]at hv)) λj v hv=>h2 (k+j) v (by rwa [yaU]at hv)
def Rd.drop{cells:List V}{b o:Nat}(h:Rd m Z w cells b o)(k:Nat):Rd m Z w (cells.drop k) b (o+k):=λj v hv=>by
 rw[yaU]at hv;obtain⟨h1,x,hx,hr⟩:=h (k+j) v hv;exact⟨h1,x,by rw[ybR];exact hx,hr⟩
def Rep.inv_rp{cells:List V}{off:Nat}{X:Value} (h:Rep m Z w (.rp cells off) X):∃b o,X = .pointer (some ⟨b,o+off,none⟩)/\Z b/\Rd m Z w cells b o:=by
 cases h with
 | rp f hz h0 h1 h2=>exact⟨_,_,rfl,hz,λj v hv=>⟨h1 j v hv,f j,h0 j v hv,h2 j v hv⟩⟩
def Rep.mk_rp{cells:List V}{off b o:Nat}(hz:Z b)(h:Rd m Z w cells b o):Rep m Z w (.rp cells off) (.pointer (some ⟨b,o+off,none⟩)):=by
 have hx:∀j,∃x,∀v,cells[j]?=some v->w.cell? ⟨b,o+j,none⟩=some x/\Rep m Z w v x:=by
  intro j;cases hj:cells[j]? with
  | none=>exact⟨Go.undef,λv hv=>by cases hv⟩
  | some u=>
   obtain⟨_,x,hx,hr⟩:=h j u hj;exact⟨x,λv hv=>by injection hv with hv;exact⟨hx,hv ▸ hr⟩⟩
 exact .rp (λj=>Classical.choose (hx j)) hz (λj v hv=>(ybl (hx j) v hv).1) (λj v hv=>(h j v hv).1) λj v hv=>(ybl (hx j) v hv).2
def Rep.mk_rs{cells:List V}{len c b o:Nat}(hl:len<=c)(hz:Z b)(h:Rd m Z w cells b o):Rep m Z w (.rs cells len) (.slice (some ⟨b,o,none⟩) len c):=by
 have hx:∀j,∃x,∀v,cells[j]?=some v->w.cell? ⟨b,o+j,none⟩=some x/\Rep m Z w v x:=by
  intro j;cases hj:cells[j]? with
  | none=>exact⟨Go.undef,λv hv=>by cases hv⟩
  | some u=>
   obtain⟨_,x,hx,hr⟩:=h j u hj;exact⟨x,λv hv=>by injection hv with hv;exact⟨hx,hv ▸ hr⟩⟩
 exact .rs b o (λj=>Classical.choose (hx j)) hl (.inr ⟨rfl,hz,λj v hv=>(ybl (hx j) v hv).1⟩) (λj v hv=>(h j v hv).1) λj v hv=>(ybl (hx j) v hv).2
def Lies.rd{b:Blk}{l:Loc}{cur:Array Value}{fz:Nat×Nat}(h:Lies m Z w b l cur fz):Rd m Z w b.cells l.blk l.bo:=λj v hv=>by
 obtain⟨x,hx,hr⟩:=h.get hv;exact⟨h.one v (ybh hv),x,by rw[ycR,h.cell];exact hx,hr⟩
def Rd.values{cells:List V}{b o:Nat}(h:Rd m Z w cells b o)(off n:Nat)(hn:off+n<=cells.length) :
  ∃xs:List Value,xs.length=n/\(∀(j:Nat) (x:Value),xs[j]?=some x->w.cell? ⟨b,o+off+j,none⟩=some x) /\
   Reps m Z w ((cells.drop off).take n) xs/\(∀v∈(cells.drop off).take n,v.one=true):=by
 have hx:∀j,∃x,j<n->w.cell? ⟨b,o+off+j,none⟩=some x/\∀v,cells[off+j]?=some v->Rep m Z w v x:=by
  intro j;by_cases hj:j<n
  ·obtain⟨_,x,hx,hr⟩:=h (off+j) _ (yag (by omega));refine⟨x,λ_=>⟨by rw[ybR];exact hx,λv hv=>?_⟩⟩;rw[yag (by omega)]at hv;injection hv with hv
   exact hv ▸ hr
  ·exact⟨Go.undef,λh=>absurd h hj⟩
 refine⟨(List.range n).map λj=>Classical.choose (hx j),by simp,?_,⟨by simp;omega,?_⟩,?_⟩
 ·intro j x hj;have hjn:j<n:=by
   have:=(yax.1 hj).1;simpa using this
  rw[yaT,ybC hjn]at hj;injection hj with hj
  subst hj;exact(ybl (hx j) hjn).1
 ·intro j v x hv hj;have hjn:j<n:=by
   have:=(yax.1 hj).1;simpa using this
  rw[yaT,ybC hjn]at hj;injection hj with hj
  subst hj;refine(ybl (hx j) hjn).2 v ?_;rw[ybx,if_pos hjn,yaU]at hv;exact hv
 ·intro v hv;obtain⟨j,hj,rfl⟩:=ycD hv;have hj':j<n:=by simp at hj;omega
  refine(h (off+j) _ ?_).1;rw[List.getElem_take,List.getElem_drop];exact yag (by omega)
def zuY{t:TypeId}{n:Option Nat}{cells:List V}{b o off:Nat}{v:V}(ht:ldn P t=some n)(h:ldc n cells off=some v)(hr:Rd m Z w cells b o) :
  ∃x,(loadVar t ⟨b,o+off,none⟩).run P w = .ok x w/\Rep m Z w v x:=by
 rcases zrP ht with⟨rfl,ha⟩|⟨k,rfl,hk,ha⟩
 ·simp only[ldc]at h;obtain⟨_,x,hx,hrep⟩:=hr off v h;refine⟨x,?_,hrep⟩;unfold loadVar;simp only[Sem.run_bind,ha,Result.andThen_ok,yaK,if_false,run_load,hx]
 ·simp only[ldc]at h;split at h
  ·rename_i hle;injection h with h
   subst h;obtain⟨xs,hl,hc,hreps,hone⟩:=hr.values off k hle;refine⟨.agg xs.toArray,?_,.agg (by have:=hreps.1;simp[hl];omega) hone λj v x hv hx=>hreps.2 j v x hv (by simpa using hx)⟩;have hrun:=zes P w b (o+off) xs hc;rw[hl]at hrun;unfold loadVar;simp only[Sem.run_bind,ha,Result.andThen_ok,if_true,(za4 (w:=w) hk).1,hrun,Sem.run_pure]
  ·cases h
def zpn{t:TypeId}{n:Option Nat}{p v:V}{H':Heap}{X:Value}(ht:ldn P t=some n) (h:mload n p H=some (v,H')) (hp:Rep m Z w p X) (r:RelH m Z H w) :
  H'=H/\∃x,(Instr.loadAt t X).run P w = .ok x w/\Rep m Z w v x:=by
 unfold mload at h;split at h
 ·rename_i id off;simp only[yaa,yac,yae]at h;obtain⟨b,hb,v',hv,rfl,rfl⟩:=h;obtain⟨l,hm,rfl⟩:=hp.inv_ptr;obtain⟨cur,fz,hl⟩:=r.at_ hb hm;obtain⟨x,hx,hr⟩:=zuY (P:=P) ht hv hl.rd;rw[ycR]at hx;exact⟨rfl,x,by unfold Instr.loadAt;simp only[Instr.sureAddr,Sem.run_bind,Sem.run_pure,Result.andThen_ok,hx],hr⟩
 ·rename_i cells off;simp only[yac,yae]at h;obtain⟨v',hv,rfl,rfl⟩:=h;obtain⟨b,o,rfl,hz,hrd⟩:=hp.inv_rp;obtain⟨x,hx,hr⟩:=zuY (P:=P) ht hv hrd;exact⟨rfl,x,by unfold Instr.loadAt;simp only[Instr.sureAddr,Sem.run_bind,Sem.run_pure,Result.andThen_ok,hx],hr⟩
 ·cases h
def pick_run{c x y v:V}{C X Y:Value}(h:pick c x y=some v)(hc:Rep m Z w c C)(hx:Rep m Z w x X)(hy:Rep m Z w y Y) :
  ∃r,(do pure (Next.value (if <-asBool C then X else Y)):Sem Next).run P w = .ok (.value r) w/\Rep m Z w v r:=by
 unfold pick at h;split at h
 ·rename_i b;injection h with h
  cases hc;refine⟨if b then X else Y,by simp[asBool],?_⟩;subst h;cases b
  ·exact hy
  ·exact hx
 ·cases h
def cint_run{src dst:TypeId}{k:IntKind}{d:TypeDesc}{x v:V}{X:Value}(hs:P.underlying src=some d) (hd:P.underlying dst=some (.int k)) (h:cint k x=some v) (hx:Rep m Z w x X) :
  ∃r,(convert src dst X).run P w = .ok r w/\Rep m Z w v r:=by
 unfold cint at h;split at h
 ·injection h with h
  subst h;cases hx;exact⟨_,by simp[convert,run_underlying hs,run_underlying hd,Conv.intToInt],.int _ _⟩
 ·rename_i s b;split at h
  ·rename_i n hn;split at h
   ·rename_i hr;injection h with h
    subst h;cases hx;refine⟨_,?_,.int _ _⟩;have h1:(Conv.floatToInt s b k).run P w = .ok (.int k n) w:=by
     unfold Conv.floatToInt;dsimp only;rw[hn];dsimp only;rw[if_pos hr];rfl
    simp[convert,run_underlying hs,run_underlying hd,h1]
   ·cases h
  ·cases h
 ·cases h
def zcM(b o n:Nat):(⟨b,o,none⟩:Addr).add n=⟨b,o+n,none⟩:=zsc b o n
def zvo{s:TypeId}{fs:Array Field}{f:Nat}{fd:Field}{n:Nat}{x v:V}{X:Value} (hs:P.underlying s=some (.struct fs)) (hf:fs[f]?=some fd) (hn:szOf P fd.type=some n) (h0:0<n)
  (h:faddr fd.offset x=some v) (hx:Rep m Z w x X):∃r,(Instr.fieldAt s X f).run P w = .ok r w/\Rep m Z w v r:=by
 have hsz:=(za4 (w:=w) hn).1;have hrun:∀a:Addr,(Instr.fieldAt s (.pointer (some a)) f).run P w = .ok (.pointer (some (a.add fd.offset))) w:=λa=>by
  unfold Instr.fieldAt fieldPlace;simp[run_underlying hs,hf,Instr.sureAddr,hsz];omega
 unfold faddr at h;split at h
 ·injection h with h
  subst h;obtain⟨l,hm,rfl⟩:=hx.inv_ptr;exact⟨_,hrun _,by rw[zcM,ybd];exact .ptr hm⟩
 ·injection h with h
  subst h;obtain⟨b,o,rfl,hz,hrd⟩:=hx.inv_rp;exact⟨_,hrun _,by rw[zcM,ybR];exact .mk_rp hz hrd⟩
 ·cases h
def zpt{t e:TypeId}{s:Nat}{alen:Option Nat}{x i v:V}{X I':Value}
  (ht:(alen=none/\P.underlying t=some (.slice e))\/(∃n,alen=some n/\P.underlying t=some (.array n e))) (hs:szOf P e=some s)
  (h:iaddr alen s x i=some v) (hx:Rep m Z w x X) (hi:Rep m Z w i I'):∃r,(Instr.indexAt t X I').run P w = .ok r w/\Rep m Z w v r:=by
 have hsz:=(za4 (w:=w) hs).1;unfold iaddr at h;split at h
 ·rename_i k i;cases hi;rcases ht with⟨rfl,ht⟩|⟨n,rfl,ht⟩
  ·have hrun:∀(a:Addr) (len cap:Nat),0<=i/\i<len->(Instr.indexAt t (.slice (some a) len cap) (.int k i)).run P w = .ok (.pointer (some (a.add (i.toNat*s)))) w:=λa len cap hb=>by
    unfold Instr.indexAt;simp[run_underlying ht,asIntOf,hb,hsz]
   cases x with
   | sl id off len cap=>
    dsimp only at h;split at h
    ·rename_i hb;injection h with h
     subst h;obtain⟨l,a,c,hm,rfl,hl,ha,_⟩:=hx.inv_sl;rcases ha with ha|rfl
     ·omega
     ·exact⟨_,hrun _ _ _ hb,by rw[zcM,ybd];exact .ptr hm⟩
    ·cases h
   | rs cells len=>
    dsimp only at h;split at h
    ·rename_i hb;injection h with h
     subst h;obtain⟨b,o,a,c,rfl,hl,h0⟩:=hx.inv_rs;rcases h0 with h0|⟨rfl,hz,hrd⟩
     ·omega
     ·exact⟨_,hrun _ _ _ hb,by rw[zcM];exact .mk_rp hz hrd⟩
    ·cases h
   | _=>cases h
  ·have hrun:∀(a:Addr),0<=i/\i<n->(Instr.indexAt t (.pointer (some a)) (.int k i)).run P w = .ok (.pointer (some (a.add (i.toNat*s)))) w:=λa hb=>by
    unfold Instr.indexAt;simp[run_underlying ht,asIntOf,Instr.sureAddr,hb,hsz]
   cases x with
   | ptr id off=>
    dsimp only at h;split at h
    ·rename_i hb;injection h with h
     subst h;obtain⟨l,hm,rfl⟩:=hx.inv_ptr;exact⟨_,hrun _ hb,by rw[zcM,ybd];exact .ptr hm⟩
    ·cases h
   | rp cells off=>
    dsimp only at h;split at h
    ·rename_i hb;injection h with h
     subst h;obtain⟨b,o,rfl,hz,hrd⟩:=hx.inv_rp;exact⟨_,hrun _ hb,by rw[zcM,ybR];exact .mk_rp hz hrd⟩
    ·cases h
   | _=>cases h
 ·cases h
def zrH{t:TypeId}{n:Option Nat}{cs:List V}{xs:Array Value}{off:Nat}{v:V}(ht:ldn P t=some n)(h:ldc n cs off=some v)(hl:xs.size=cs.length)(h1:∀v∈cs,v.one=true)
  (hr:∀(j:Nat) (v:V) (x:Value),cs[j]?=some v->xs[j]?=some x->Rep m Z w v x):∃r,(part t xs off).run P w = .ok r w/\Rep m Z w v r:=by
 rcases zrP ht with⟨rfl,ha⟩|⟨k,rfl,hk,ha⟩
 ·simp only[ldc]at h;have hj:off<cs.length:=(yax.1 h).1;refine⟨xs[off]'(by omega),?_,hr off v _ h (yar _)⟩;unfold part;simp only[Sem.run_bind,ha,Result.andThen_ok,yaK,if_false];rw[yar (by omega)];rfl
 ·simp only[ldc]at h;split at h
  ·rename_i hle;injection h with h
   subst h;refine⟨.agg (xs.extract off (off+k)),?_,.agg (by simp;omega) (λv hv=>h1 v (yb4 (yb3 hv))) λj v x hv hx=>?_⟩
   ·unfold part;simp only[Sem.run_bind,ha,Result.andThen_ok,if_true,(za4 (w:=w) hk).1,Sem.run_pure]
   ·rw[ybx]at hv;split at hv
    ·rw[yaU]at hv;refine hr _ v x hv ?_;rw[ydd]at hx;split at hx
     ·exact hx
     ·cases hx
    ·cases hv
  ·cases h
def zu3{t e:TypeId}{len s:Nat}{n:Option Nat}{x i v:V}{X I':Value} (ht:P.underlying t=some (.array len e)) (hs:szOf P e=some s) (hl:ldn P e=some n)
  (h:index len s n x i=some v) (hx:Rep m Z w x X) (hi:Rep m Z w i I'):∃r,(Instr.index t X I').run P w = .ok r w/\Rep m Z w v r:=by
 unfold index at h;split at h
 ·rename_i k i cs;split at h
  ·rename_i hb;cases hi;cases hx;rename_i xs hsz h1 hr;obtain⟨r,hrun,hrep⟩:=zrH (P:=P) (w:=w) hl h hsz h1 hr;refine⟨r,?_,hrep⟩;unfold Instr.index;simp only[asIntOf,Sem.run_bind,Sem.run_pure,Result.andThen_ok,run_underlying ht,hb,if_true,and_self,(za4 (w:=w) hs).1,hrun]
  ·cases h
 ·cases h
def zso{t:TypeId}{x i v:V}{X I':Value}(ht:P.underlying t=some .string)(h:sindex x i=some v)(hx:Rep m Z w x X)(hi:Rep m Z w i I') :
  ∃r,(Instr.index t X I').run P w = .ok r w/\Rep m Z w v r:=by
 unfold sindex at h;split at h
 ·rename_i k i s;split at h
  ·rename_i h0;simp only[yac]at h;obtain⟨b,hb,rfl⟩:=h;cases hi;cases hx;refine⟨_,?_,.int _ _⟩;unfold Instr.index;simp only[asIntOf,Sem.run_bind,Sem.run_pure,Result.andThen_ok,run_underlying ht,h0,if_true,hb]
  ·cases h
 ·cases h
def zvm{t:TypeId}{fs:Array Field}{f:Nat}{fd:Field}{n:Option Nat}{x v:V}{X:Value} (ht:P.underlying t=some (.struct fs)) (hf:fs[f]?=some fd) (hl:ldn P fd.type=some n)
  (h:field fd.offset n x=some v) (hx:Rep m Z w x X):∃r,(Instr.field t X f).run P w = .ok r w/\Rep m Z w v r:=by
 unfold field at h;split at h
 ·cases hx;rename_i xs hsz h1 hr;obtain⟨r,hrun,hrep⟩:=zrH (P:=P) (w:=w) hl h hsz h1 hr;refine⟨r,?_,hrep⟩;unfold Instr.field;simp only[Sem.run_bind,run_underlying ht,Result.andThen_ok,hf,asAgg,Sem.run_pure,hrun]
 ·cases h
def ext_run{i:Nat}{x v:V}{X:Value}(h:ext i x=some v)(hx:Rep m Z w x X):∃r,(Instr.extract X i).run P w = .ok r w/\Rep m Z w v r:=by
 unfold ext at h;split at h
 ·cases hx;rename_i vs xs hl hr;have hi:i<vs.length:=(yax.1 h).1;have hx:xs[i]?=some (xs[i]'(by omega)):=yar _;exact⟨_,by simp only[Instr.extract,hx];rfl,hr i v _ h hx⟩
 ·cases h
def len_run{t e ty:TypeId}{x v:V}{X:Value} (ht:P.underlying t=some (.slice e)) (h:vlen x=some v) (hx:Rep m Z w x X):∃r,(Builtin.len_ #[t] ty #[X]).run P w = .ok r w/\Rep m Z w v r:=by
 have hsl:∀a n c,(Builtin.len_ #[t] ty #[.slice a n c]).run P w = .ok (.int .i64 (n:Int)) w:=by
  intro a n c;simp[Builtin.len_,run_underlying ht,goInt]
 unfold vlen at h;split at h
 ·injection h with h
  subst h;cases hx;exact⟨_,hsl _ _ _,.int _ _⟩
 ·injection h with h
  subst h;cases hx
  ·exact⟨_,hsl _ _ _,.int _ _⟩
  ·exact⟨_,hsl _ _ _,.int _ _⟩
 ·injection h with h
  subst h;cases hx;exact⟨_,hsl _ _ _,.int _ _⟩
 ·cases h
def slen_run{t ty:TypeId}{x v:V}{X:Value}(ht:P.underlying t=some .string)(h:slen x=some v)(hx:Rep m Z w x X):∃r,(Builtin.len_ #[t] ty #[X]).run P w = .ok r w/\Rep m Z w v r:=by
 unfold slen at h;split at h
 ·injection h with h
  subst h;cases hx;exact⟨_,by simp[Builtin.len_,run_underlying ht];rfl,.int _ _⟩
 ·cases h
end
def OV(i:Option Int)(x:Option Value):Prop:=(i=none/\x=none)\/∃n k,i=some n/\x=some (.int k n)
section
variable {P:Program} {m:Map} {Z:Nat->Prop} {H:Heap} {w:World} {A:Fr} {a:Act}
def zbY(k:IntKind)(n:Int)(y:Nat)(code:BoundsCode)(h0:0<=n)(h1:n<=y):(Instr.sliceBound (.int k n) y code).run P w = .ok n.toNat w:=by
 simp[Instr.sliceBound,asIntOf,h0,h1]
def zcR{isSlice:Bool}{len cap:Nat}{lo hi mx:Option Value}{l h mm:Option Int}(hl:OV l lo)(hh:OV h hi)(hm:OV mm mx) (hmh:¬(mm.isSome=true/\h.isNone=true))
  (h1:0<=l.getD 0) (h2:l.getD 0<=h.getD len) (h3:h.getD len<=mm.getD cap) (h4:mm.getD cap<=cap) :
  (Instr.sliceBounds isSlice len cap lo hi mx).run P w = .ok ((l.getD 0).toNat,(h.getD len).toNat,(mm.getD cap).toNat) w:=by
 unfold Instr.sliceBounds;rcases hm with⟨rfl,rfl⟩|⟨nm,km,rfl,rfl⟩
 ·rcases hh with⟨rfl,rfl⟩|⟨nh,kh,rfl,rfl⟩
  ·rcases hl with⟨rfl,rfl⟩|⟨nl,kl,rfl,rfl⟩
   ·simp
   ·simp only[yaB,yaQ]at h1 h2;simp[zbY kl nl len _ h1 h2]
  ·simp only[yaB]at h1 h2 h3;have b1:∀c,(Instr.sliceBound (.int kh nh) cap c).run P w = .ok nh.toNat w:=λc=>zbY kh nh cap c (by omega) h3;rcases hl with⟨rfl,rfl⟩|⟨nl,kl,rfl,rfl⟩
   ·simp[b1]
   ·simp only[yaB]at h1 h2;have b2:∀c,(Instr.sliceBound (.int kl nl) nh.toNat c).run P w = .ok nl.toNat w:=λc=>zbY kl nl _ c h1 (by omega);simp[b1,b2]
 ·rcases hh with⟨rfl,rfl⟩|⟨nh,kh,rfl,rfl⟩
  ·exact(hmh ⟨rfl,rfl⟩).elim
  ·simp only[yaB]at h1 h2 h3 h4;have b0:∀c,(Instr.sliceBound (.int km nm) cap c).run P w = .ok nm.toNat w:=λc=>zbY km nm cap c (by omega) h4;have b1:∀c,(Instr.sliceBound (.int kh nh) nm.toNat c).run P w = .ok nh.toNat w:=λc=>zbY kh nh _ c (by omega) (by omega);rcases hl with⟨rfl,rfl⟩|⟨nl,kl,rfl,rfl⟩
   ·simp[b0,b1]
   ·simp only[yaB]at h1 h2;have b2:∀c,(Instr.sliceBound (.int kl nl) nh.toNat c).run P w = .ok nl.toNat w:=λc=>zbY kl nl _ c h1 (by omega);simp[b0,b1,b2]
def zkV{x:Option V}{X:Option Value}{i:Option Int}(h:zbR x=some i) (hx:(x=none/\X=none)\/∃v y,x=some v/\X=some y/\Rep m Z w v y):OV i X:=by
 rcases hx with⟨rfl,rfl⟩|⟨v,y,rfl,rfl,hr⟩
 ·simp[zbR]at h;exact .inl ⟨h.symm,rfl⟩
 ·simp only[zbR,yac]at h;obtain⟨n,hn,rfl⟩:=h;cases v<;>simp only[vint,reduceCtorEq,yab]at hn
  subst hn;cases hr;exact .inr ⟨_,_,rfl,rfl⟩
inductive Cuts (P:Program) (t:TypeId) (esz:Nat):CK->Prop
 | arr {n e} (ht:P.underlying t=some (.array n e)) (hs:szOf P e=some esz):Cuts P t esz (.arr n)
 | sl {e} (ht:P.underlying t=some (.slice e)) (hs:szOf P e=some esz):Cuts P t esz .sl
 | str (ht:P.underlying t=some .string):Cuts P t esz .str
def zcj{t e:TypeId}{esz len cap:Nat}{a:Option Addr}{lo hi mx:Option Value}{l h mm:Nat} (ht:P.underlying t=some (.slice e)) (hs:szOf P e=some esz)
  (hb:(Instr.sliceBounds true len cap lo hi mx).run P w = .ok (l,h,mm) w) :
  (Instr.sliceAt t (.slice a len cap) lo hi mx).run P w = .ok (.slice (if mm=l then a else a.map (·.add (l*esz))) (h-l) (mm-l)) w:=by
 unfold Instr.sliceAt Instr.slice;simp only[Sem.run_bind,run_underlying ht,Result.andThen_ok,hb,(za4 (w:=w) hs).1,Sem.run_pure]
def zl8{t:TypeId}{s:ByteArray}{lo hi:Option Value}{l h mm:Nat}(ht:P.underlying t=some .string)
  (hb:(Instr.sliceBounds false s.size s.size lo hi none).run P w = .ok (l,h,mm) w) :
  (Instr.sliceAt t (.string s) lo hi none).run P w = .ok (.string (s.extract l h)) w:=by
 unfold Instr.sliceAt Instr.slice;simp[run_underlying ht,hb]
def znu{t e:TypeId}{n esz:Nat}{a:Addr}{lo hi mx:Option Value}{l h mm:Nat} (ht:P.underlying t=some (.array n e)) (hs:szOf P e=some esz)
  (hb:(Instr.sliceBounds false n n lo hi mx).run P w = .ok (l,h,mm) w) :
  (Instr.sliceAt t (.pointer (some a)) lo hi mx).run P w = .ok (.slice (some (if mm=l then a else a.add (l*esz))) (h-l) (mm-l)) w:=by
 unfold Instr.sliceAt;simp only[Sem.run_bind,run_underlying ht,Result.andThen_ok,Instr.sureAddr,hb,(za4 (w:=w) hs).1,Sem.run_pure]
def zsm{t:TypeId}{esz:Nat}{ck:CK}{x v:V}{X:Value}{lo hi mx:Option V}{LO HI MX:Option Value}(ht:Cuts P t esz ck)
  (h:zav ck esz x lo hi mx=some v) (hx:Rep m Z w x X)
  (hlo:(lo=none/\LO=none)\/∃v y,lo=some v/\LO=some y/\Rep m Z w v y) (hhi:(hi=none/\HI=none)\/∃v y,hi=some v/\HI=some y/\Rep m Z w v y)
  (hmx:(mx=none/\MX=none)\/∃v y,mx=some v/\MX=some y/\Rep m Z w v y):∃r,(Instr.sliceAt t X LO HI MX).run P w = .ok r w/\Rep m Z w v r:=by
 unfold zav at h;simp only[yaa]at h;obtain⟨l,hl,hh',hh,mm,hm,h⟩:=h;have ol:=zkV hl hlo;have oh:=zkV hh hhi;have om:=zkV hm hmx;clear hl hh hm hlo hhi hmx;split at h
 ·cases h
 ·rename_i hmh;cases x with
  | str s=>
   cases ht with
   | arr ht _=>cases h
   | sl ht _=>cases h
   | str ht=>
    dsimp only at h;split at h
    ·rename_i hb;obtain⟨rfl,h1,h2,h3⟩:=hb;injection h with h
     subst h;cases hx;have hMX:MX=none:=by
      rcases om with⟨_,h⟩|⟨n,k,h,_⟩
      ·exact h
      ·cases h
     subst hMX;exact⟨_,zl8 ht (zcR ol oh (.inl ⟨rfl,rfl⟩) (by simp) h1 h2 (by simpa using h3) (by simp)),.str _⟩
    ·cases h
  | nils=>
   cases ht with
   | arr ht _=>cases h
   | str ht=>cases h
   | sl ht hs=>
    dsimp only at h;split at h
    ·rename_i hb;obtain⟨h1,h2,h3⟩:=hb;injection h with h
     subst h;cases hx;refine⟨_,zcj ht hs (zcR ol oh om hmh (by omega) (by simp only[yb1]at *;omega) (by simp only[yb1]at *;omega) (by simp only[yb1]at *;omega)),?_⟩;simp only[yb1]at h2 h3 ⊢;simp only[h1,h2,h3];exact .nils
    ·cases h
  | rs cells len=>
   cases ht with
   | arr ht _=>cases h
   | str ht=>cases h
   | sl ht hs=>
    dsimp only at h;split at h
    ·rename_i hb;obtain⟨rfl,h1,h2,h3⟩:=hb;injection h with h
     subst h;obtain⟨b,o,a,c,rfl,hlc,h0⟩:=hx.inv_rs;have hrun:=zcj (a:=a) ht hs (zcR (P:=P) (w:=w) (isSlice:=true) (len:=len) (cap:=c) ol oh om hmh h1 h2 (by simp only[yaQ];omega) (by simp));refine⟨_,hrun,?_⟩;simp only[yaQ,yav];by_cases hz:(hh'.getD len).toNat-(l.getD 0).toNat=0
     ·rw[hz];by_cases hc0:c=(l.getD 0).toNat
      ·rw[if_pos hc0];exact hx.rs_zero _ _ _
      ·rw[if_neg hc0];exact hx.rs_zero _ _ _
     ·rcases h0 with h0|⟨rfl,hzz,hrd⟩
      ·omega
      ·rw[if_neg (by omega)];simp only[yas,zcM];exact .mk_rs (by omega) hzz (hrd.drop _)
    ·cases h
  | sl id off len cap=>
   cases ht with
   | arr ht _=>cases h
   | str ht=>cases h
   | sl ht hs=>
    obtain⟨lc,a,c,hmm,rfl,hlc,ha,hcap⟩:=hx.inv_sl;cases cap with
    | fix c'=>
     have hc':c'=c:=by
      rcases hcap with hcap|⟨hcap,_⟩
      ·injection hcap
      ·cases hcap
     subst hc';dsimp only at h;split at h
     ·rename_i hb;obtain⟨h1,h2,h3,h4⟩:=hb;injection h with h
      subst h;refine⟨_,zcj ht hs (zcR ol oh om hmh h1 h2 h3 h4),?_⟩;by_cases hz:(mm.getD c').toNat=(l.getD 0).toNat
      ·rw[if_pos hz];exact .slc hmm (by omega) (.inl (by omega))
      ·rw[if_neg hz];rcases ha with ha|rfl
       ·omega
       ·simp only[yas,zcM];exact .slc hmm (by omega) (.inr (by rw[ybd]))
     ·cases h
    | opn e=>
     obtain⟨rfl,i,hi,hic⟩:e=lc.esz/\∃i,off=i*lc.esz/\i+c=lc.cap:=by
      rcases hcap with hcap|⟨hcap,h⟩
      ·cases hcap
      ·injection hcap with hcap
       exact⟨hcap,h⟩
     cases mm with
     | none=>
      dsimp only at h;split at h
      ·rename_i hb;obtain⟨he,h1,h2,h3⟩:=hb;injection h with h
       subst h;refine⟨_,zcj ht hs (zcR ol oh om hmh h1 h2 (by simp only[yaQ];omega) (by simp)),?_⟩;simp only[yaQ,yav];have hoff:off+(l.getD 0).toNat*esz=(i+(l.getD 0).toNat)*lc.esz:=by rw[hi,he,ybm]
       by_cases hz:c=(l.getD 0).toNat
       ·rw[if_pos hz];exact .slo hmm hoff (by omega) (by omega) (.inl (by omega))
       ·rw[if_neg hz];rcases ha with ha|rfl
        ·omega
        ·simp only[yas,zcM];exact .slo hmm hoff (by omega) (by omega) (.inr (by rw[ybd]))
      ·cases h
     | some mv=>
      dsimp only at h;split at h
      ·rename_i hb;obtain⟨h1,h2,h3,h4⟩:=hb;injection h with h
       subst h;refine⟨_,zcj ht hs (zcR ol oh om hmh h1 h2 (by simpa using h3) (by simp only[yaB];omega)),?_⟩;simp only[yaB];by_cases hz:mv.toNat=(l.getD 0).toNat
       ·rw[if_pos hz];exact .slc hmm (by omega) (.inl (by omega))
       ·rw[if_neg hz];rcases ha with ha|rfl
        ·omega
        ·simp only[yas,zcM];exact .slc hmm (by omega) (.inr (by rw[ybd]))
      ·cases h
  | ptr id off=>
   cases ht with
   | sl ht _=>cases h
   | str ht=>cases h
   | arr ht hs=>
    rename_i n e;dsimp only at h;split at h
    ·rename_i hb;obtain⟨rfl,h1,h2,h3⟩:=hb;injection h with h
     subst h;obtain⟨lc,hmm,rfl⟩:=hx.inv_ptr;refine⟨_,znu ht hs (zcR ol oh om hmh h1 h2 (by simpa using h3) (by simp)),?_⟩;simp only[yaQ,yav];by_cases hz:n=(l.getD 0).toNat
     ·rw[if_pos hz];exact .slc hmm (by omega) (.inl (by omega))
     ·rw[if_neg hz,zcM];exact .slc hmm (by omega) (.inr (by rw[ybd]))
    ·cases h
  | _=>cases ht<;>cases h
def zm0(mx:Bool):∀(xs:List V) (x v:V) (X:Value) (Xs:List Value),minmax mx x xs=some v->Rep m Z w x X->Reps m Z w xs Xs ->
  ∃r,(Xs.foldlM (if mx then Builtin.max2 else Builtin.min2) X).run P w = .ok r w/\Rep m Z w v r:=by
 intro xs
 induction xs with
 | nil=>
  intro x v X Xs h hx hs;have:Xs=[]:=yaz hs.1;subst this;simp only[minmax,yab]at h;subst h;exact⟨X,rfl,hx⟩
 | cons y ys ih=>
  intro x v X Xs h hx hs;cases Xs with
  | nil=>have:=hs.1;simp at this
  | cons Y Ys=>
   simp only[minmax,yaa]at h;obtain⟨u,hu,h⟩:=h;have hY:=hs.2 0 y Y rfl rfl;have hYs:Reps m Z w ys Ys:=⟨by have:=hs.1;simpa using this,λj v x hv hx=>hs.2 (j+1) v x (by simpa using hv) (by simpa using hx)⟩;unfold min2 at hu;split at hu
   ·injection hu with hu
    cases hx;cases hY;rename_i k a k' b;have hone:((if mx then Builtin.max2 else Builtin.min2) (.int k a) (.int k' b)).run P w = .ok (.int k (if mx then (if a<b then b else a) else (if b<a then b else a))) w:=by
     cases mx<;>rfl
    obtain⟨r,hr,hrep⟩:=ih u v (.int k (if mx then (if a<b then b else a) else (if b<a then b else a))) Ys h (hu ▸ .int _ _) hYs;refine⟨r,?_,hrep⟩;rw[List.foldlM_cons,Sem.run_bind,hone];exact hr
   ·cases hu
def Rep.inv_int{k:IntKind}{n:Int}{X:Value} (h:Rep m Z w (.int k n) X):X = .int k n:=by cases h;rfl
def zs8(d:Nat){e:TypeId}{k0:IntKind} (he:P.underlying e=some (.int k0)) (n:Nat):∀(q j:Nat) (xs ys:List V) (XS YS:Array Value) (r:Bool),j+q=n ->
  XS.size=xs.length->YS.size=ys.length->(∀(j:Nat) (v:V) (x:Value),xs[j]?=some v->XS[j]?=some x->Rep m Z w v x)->(∀(j:Nat) (v:V) (x:Value),ys[j]?=some v->YS[j]?=some x->Rep m Z w v x) ->
  xs.length=n->ys.length=n->zfu (xs.drop j) (ys.drop j)=some r->(Op.eqItems (d+1) e 1 XS YS (List.range' j q)).run P w = .ok r w:=by
 intro q
 induction q with
 | zero=>
  intro j xs ys XS YS r hj hX hY hx hy hlx hly h;rw[ybF (by omega),ybF (by omega)]at h;simp only[zfu,yab]at h;subst h;simp[Op.eqItems]
 | succ q ih=>
  intro j xs ys XS YS r hj hX hY hx hy hlx hly h;have hjx:j<xs.length:=by omega
  have hjy:j<ys.length:=by omega
  rw[yaM hjx,yaM hjy]at h;have hrx:=hx j _ _ (yag hjx) (yar (by omega));have hry:=hy j _ _ (yag hjy) (yar (by omega));generalize hxv:xs[j]=xv at h hrx;generalize hyv:ys[j]=yv at h hry;cases xv<;>cases yv<;>simp only[zfu,reduceCtorEq]at h
  rename_i k a k' b;split at h
  ·rename_i hk;subst hk;simp only[yac]at h;obtain⟨r',hr',rfl⟩:=h;have hX':XS[j]?=some (.int k a):=by
    rw[yar (by omega),hrx.inv_int]
   have hY':YS[j]?=some (.int k b):=by
    rw[yar (by omega),hry.inv_int]
   have hagg:(isAgg e).run P w = .ok false w:=by simp[isAgg,run_underlying he]
   have hp:∀(S:Array Value) x,S[j]?=some x->(part e S j).run P w = .ok x w:=λS x hS=>by
    unfold part;simp only[Sem.run_bind,hagg,Result.andThen_ok,yaK,if_false,hS];rfl
   have hrest:=ih (j+1) xs ys XS YS r' (by omega) hX hY hx hy hlx hly hr';rw[List.range'_succ];simp only[Op.eqItems,ybc,Sem.run_bind,hp _ _ hX',hp _ _ hY',Result.andThen_ok,run_equalIn_int w d e k k0 a b he,Sem.run_ite,Sem.run_pure];by_cases hab:(a==b)=true
   ·simp only[hab,ybj,yaK,if_false,yda];exact hrest
   ·simp only[yc0]at hab;simp only[hab,ya9,if_true,yc6]
  ·cases h
def zs9(d:Nat):∀(fs:List Field) (ks:List FK) (j:Nat) (xs ys:List V) (XS YS:Array Value) (r:Bool),zgN P j fs=some ks ->
  XS.size=xs.length->YS.size=ys.length->(∀(j:Nat) (v:V) (x:Value),xs[j]?=some v->XS[j]?=some x->Rep m Z w v x)->(∀(j:Nat) (v:V) (x:Value),ys[j]?=some v->YS[j]?=some x->Rep m Z w v x) ->
  zaG ks (xs.drop j) (ys.drop j)=some r->(Op.eqFields (d+1) XS YS fs).run P w = .ok r w/\(r=true->XS.toList.drop j=YS.toList.drop j):=by
 intro fs
 induction fs with
 | nil=>
  intro ks j xs ys XS YS r hf hX hY hx hy h;simp only[zgN,yab]at hf;subst hf;generalize hxd:xs.drop j=xd at h;generalize hyd:ys.drop j=yd at h;cases xd<;>cases yd<;>simp only[zaG,reduceCtorEq,yab]at h
  subst h;have e1:=congrArg List.length hxd;have e2:=congrArg List.length hyd;simp only[yat,ybz]at e1 e2;exact⟨by simp[Op.eqFields],λ_=>by rw[ybF (by simp;omega),ybF (by simp;omega)]⟩
 | cons f fs ih=>
  intro ks j xs ys XS YS r hf hX hY hx hy h;simp only[zgN]at hf;split at hf
  ·rename_i hfo;obtain⟨ho,hn⟩:=hfo;have cut:∀(zs:List V),zs.drop j=[]\/∃h:j<zs.length,zs.drop j=zs[j]::zs.drop (j+1):=λzs=>by
    rcases ybG j zs.length with h|h
    ·exact .inr ⟨h,yaM h⟩
    ·exact .inl (ybF h)
   have agg:∀d,P.underlying f.type=some d->(d = .bool\/∃k,d = .int k)->∀(S:Array Value) x,S[j]?=some x->(part f.type S f.offset).run P w = .ok x w:=λd hd hdd S x hS=>by
    have hagg:(isAgg f.type).run P w = .ok false w:=by rcases hdd with rfl|⟨k,rfl⟩<;>simp[isAgg,run_underlying hd]
    unfold part;simp only[Sem.run_bind,hagg,Result.andThen_ok,yaK,if_false,ho,hS];rfl
   have hcons:∀(S:Array Value) x,S[j]?=some x->S.toList.drop j=x::S.toList.drop (j+1):=λS x hS=>by
    have hlt:j<S.size:=(yaG.1 hS).1;rw[yaM (by simpa using hlt)];rw[yar hlt]at hS;injection hS with hS
    rw[<-hS];simp
   split at hf
   ·rename_i hu;simp only[yac]at hf;obtain⟨ks',hks,rfl⟩:=hf;rcases cut xs with hxc|⟨hjx,hxc⟩
    ·rw[hxc]at h;simp only[zaG,reduceCtorEq]at h
    rcases cut ys with hyc|⟨hjy,hyc⟩
    ·rw[hxc,hyc]at h;generalize xs[j]=xv at h;cases xv<;>simp only[zaG,reduceCtorEq]at h
    have hrx:=hx j _ _ (yag hjx) (yar (by omega));have hry:=hy j _ _ (yag hjy) (yar (by omega));rw[hxc,hyc]at h;generalize hxv:xs[j]=xv at h hrx;generalize hyv:ys[j]=yv at h hry;cases xv<;>cases yv<;>simp only[zaG,reduceCtorEq,yac]at h
    rename_i a b;obtain⟨r',hr',rfl⟩:=h;have hX':XS[j]?=some (.bool a):=by
     rw[yar (by omega)];generalize XS[j]=z at hrx;cases hrx;rfl
    have hY':YS[j]?=some (.bool b):=by
     rw[yar (by omega)];generalize YS[j]=z at hry;cases hry;rfl
    obtain⟨hrest,heq⟩:=ih ks' (j+1) xs ys XS YS r' hks hX hY hx hy hr';refine⟨?_,λhr=>?_⟩
    ·simp only[Op.eqFields,if_pos hn,Sem.run_bind,agg _ hu (.inl rfl) _ _ hX',agg _ hu (.inl rfl) _ _ hY',Result.andThen_ok,run_equalIn_bool w d f.type a b hu,Sem.run_ite,Sem.run_pure];by_cases hab:(a==b)=true
     ·simp only[hab,ybj,yaK,if_false,yda];exact hrest
     ·simp only[yc0]at hab;simp only[hab,ya9,if_true,yc6]
    ·simp only[yal,beq_iff_eq]at hr;rw[hcons _ _ hX',hcons _ _ hY',heq hr.2,hr.1]
   ·rename_i k0 hu;simp only[yac]at hf;obtain⟨ks',hks,rfl⟩:=hf;rcases cut xs with hxc|⟨hjx,hxc⟩
    ·rw[hxc]at h;simp only[zaG,reduceCtorEq]at h
    rcases cut ys with hyc|⟨hjy,hyc⟩
    ·rw[hxc,hyc]at h;generalize xs[j]=xv at h;cases xv<;>simp only[zaG,reduceCtorEq]at h
    have hrx:=hx j _ _ (yag hjx) (yar (by omega));have hry:=hy j _ _ (yag hjy) (yar (by omega));rw[hxc,hyc]at h;generalize hxv:xs[j]=xv at h hrx;generalize hyv:ys[j]=yv at h hry;cases xv<;>cases yv<;>simp only[zaG,reduceCtorEq]at h
    rename_i k a k' b;split at h
    ·rename_i hk;subst hk;simp only[yac]at h;obtain⟨r',hr',rfl⟩:=h;have hX':XS[j]?=some (.int k a):=by
      rw[yar (by omega),hrx.inv_int]
     have hY':YS[j]?=some (.int k b):=by
      rw[yar (by omega),hry.inv_int]
     obtain⟨hrest,heq⟩:=ih ks' (j+1) xs ys XS YS r' hks hX hY hx hy hr';refine⟨?_,λhr=>?_⟩
     ·simp only[Op.eqFields,if_pos hn,Sem.run_bind,agg _ hu (.inr ⟨_,rfl⟩) _ _ hX',agg _ hu (.inr ⟨_,rfl⟩) _ _ hY',Result.andThen_ok,run_equalIn_int w d f.type k k0 a b hu,Sem.run_ite,Sem.run_pure];by_cases hab:(a==b)=true
      ·simp only[hab,ybj,yaK,if_false,yda];exact hrest
      ·simp only[yc0]at hab;simp only[hab,ya9,if_true,yc6]
     ·simp only[yal,beq_iff_eq]at hr;rw[hcons _ _ hX',hcons _ _ hY',heq hr.2,hr.1]
    ·cases h
   ·cases hf
  ·cases hf
def zhs{t:TypeId}{ks:List FK}(h:zm7 P t=some ks):∃fs:Array Field,P.underlying t=some (.struct fs)/\P.stoodInHeld t=false/\P.eqGuardType P.depth t=false/\zgN P 0 fs.toList=some ks:=by
 unfold zm7 at h;split at h
 ·rename_i fs hu;split at h
  ·rename_i hh;exact⟨fs,hu,hh.1,hh.2,h⟩
  ·cases h
 ·cases h
def zr4{t:TypeId}{ks:List FK}{xs ys:List V}{XS YS:Array Value}{b:Bool}(ht:zm7 P t=some ks)(hX:XS.size=xs.length)(hY:YS.size=ys.length)
  (hx:∀(j:Nat) (v:V) (x:Value),xs[j]?=some v->XS[j]?=some x->Rep m Z w v x) (hy:∀(j:Nat) (v:V) (x:Value),ys[j]?=some v->YS[j]?=some x->Rep m Z w v x) (h:zaG ks xs ys=some b) :
  (Op.equal t (.agg XS) (.agg YS)).run P w = .ok b w/\(b=true->XS=YS):=by
 obtain⟨fs,hu,hs,_,hf⟩:=zhs ht;obtain⟨h1,h2⟩:=zs9 (P:=P) 9998 fs.toList ks 0 xs ys XS YS b hf hX hY hx hy (by simpa using h);refine⟨?_,λhb=>ybN (by simpa using h2 hb)⟩;have hfs:P.fieldsOf t=fs:=by simp[Program.fieldsOf,hu]
 show(Op.equalIn (9999+1) t _ _).run P w = _;rw[run_equalIn_struct w 9999 t XS YS (by rw[hfs];exact hu) hs,hfs];exact h1
def zgg:∀{ks:List FK} {xs ys:List V} {r:Bool},zaG ks xs ys=some r->xs.length=ks.length/\ys.length=ks.length
 | [],[],[],_,_=>⟨rfl,rfl⟩
 | .int::ks,.int k a::xs,.int k' b::ys,r,h=>by
  simp only[zaG]at h;split at h
  ·simp only[yac]at h;obtain⟨r',h',_⟩:=h;obtain⟨h1,h2⟩:=zgg h';exact⟨by rw[yaw,yaw,h1],by rw[yaw,yaw,h2]⟩
  ·cases h
 | .bool::ks,.bool a::xs,.bool b::ys,r,h=>by
  simp only[zaG,yac]at h;obtain⟨r',h',_⟩:=h;obtain⟨h1,h2⟩:=zgg h';exact⟨by rw[yaw,yaw,h1],by rw[yaw,yaw,h2]⟩
def zgh:∀{k1 k2:List FK} {xs ys:List V} {r:Bool},zaG (k1++k2) xs ys=some r ->
  ∃r1 r2,zaG k1 (xs.take k1.length) (ys.take k1.length)=some r1/\zaG k2 (xs.drop k1.length) (ys.drop k1.length)=some r2/\r=(r1&&r2)
 | [],k2,xs,ys,r,h=>⟨true,r,by simp[zaG],by simpa using h,by simp⟩
 | .int::k1,k2,.int k a::xs,.int k' b::ys,r,h=>by
  simp only[yco,zaG]at h;split at h
  ·rename_i hk;simp only[yac]at h;obtain⟨r',h',rfl⟩:=h;obtain⟨r1,r2,h1,h2,rfl⟩:=zgh h';exact⟨a==b&&r1,r2,by simp[zaG,hk,h1],by simpa using h2,by rw[Bool.and_assoc]⟩
  ·cases h
 | .bool::k1,k2,.bool a::xs,.bool b::ys,r,h=>by
  simp only[yco,zaG,yac]at h;obtain⟨r',h',rfl⟩:=h;obtain⟨r1,r2,h1,h2,rfl⟩:=zgh h';exact⟨a==b&&r1,r2,by simp[zaG,h1],by simpa using h2,by rw[Bool.and_assoc]⟩
def Al(m:Map)(Z:Nat->Prop)(w:World)(xs:List V)(XS:Array Value):Prop:=XS.size=xs.length/\∀(j:Nat) (v:V) (x:Value),xs[j]?=some v->XS[j]?=some x->Rep m Z w v x
def Al.part{m:Map}{Z:Nat->Prop}{w:World}{xs:List V}{XS:Array Value}(h:Al m Z w xs XS)(o n:Nat):Al m Z w ((xs.drop o).take n) (XS.extract o (o+n)):=by
 refine⟨by rw[Array.size_extract,yan,yat,h.1];omega,λj v x hv hx=>?_⟩;rw[ybx]at hv;split at hv
 ·rw[yaU]at hv;rw[ydd]at hx;split at hx
  ·exact h.2 _ _ _ hv hx
  ·cases hx
 ·cases hv
def DpAt(P:Program)(m:Map)(Z:Nat->Prop)(w:World)(D:Nat)(t:TypeId)(ks:List FK):Prop:=
 ∀(xs ys:List V) (XS YS:Array Value) (o:Nat) (r:Bool),Al m Z w xs XS->Al m Z w ys YS->zaG ks ((xs.drop o).take ks.length) ((ys.drop o).take ks.length)=some r ->
  ∃X Y,(part t XS o).run P w = .ok X w/\(part t YS o).run P w = .ok Y w/\(Op.equalIn D t X Y).run P w = .ok r w
def znd{D:Nat} {g:TypeId->Option (List FK)} (hg:∀t ks,g t=some ks->DpAt P m Z w D t ks) {xs ys:List V} {XS YS:Array Value} (hX:Al m Z w xs XS) (hY:Al m Z w ys YS) :
  ∀(fs:List Field) (j:Nat) (kk:List FK) (r:Bool),zlO g j fs=some kk->zaG kk (xs.drop j) (ys.drop j)=some r->(Op.eqFields D XS YS fs).run P w = .ok r w
 | [],j,kk,r,hf,h=>by
  simp only[zlO,yab]at hf;subst hf;generalize xs.drop j=a at h;generalize ys.drop j=b at h;cases a<;>cases b<;>simp only[zaG,reduceCtorEq,yab]at h
  subst h;simp[Op.eqFields]
 | f::fs,j,kk,r,hf,h=>by
  simp only[zlO]at hf;split at hf
  ·rename_i hfo;simp only[yaa,yac]at hf;obtain⟨k1,hk1,k2,hk2,rfl⟩:=hf;obtain⟨r1,r2,h1,h2,rfl⟩:=zgh h;rw[ybs,ybs]at h2;obtain⟨X,Y,p1,p2,p3⟩:=hg _ _ hk1 xs ys XS YS j r1 hX hY h1;have hr:=znd hg hX hY fs (j+k1.length) k2 r2 hk2 h2;simp only[Op.eqFields,if_pos hfo.2,Sem.run_bind,hfo.1,p1,p2,p3,Result.andThen_ok,Sem.run_ite,Sem.run_pure];cases r1
   ·simp
   ·simpa using hr
  ·cases hf
def znc{D:Nat}{e:TypeId}{ks:List FK}(hg:DpAt P m Z w D e ks){xs ys:List V}{XS YS:Array Value}(hX:Al m Z w xs XS)(hY:Al m Z w ys YS) :
  ∀(q j:Nat) (r:Bool),zaG (List.replicate q ks).flatten (xs.drop (j*ks.length)) (ys.drop (j*ks.length))=some r->(Op.eqItems D e ks.length XS YS (List.range' j q)).run P w = .ok r w
 | 0,j,r,h=>by
  generalize xs.drop _=a at h;generalize ys.drop _=b at h;cases a<;>cases b<;>simp only[List.replicate_zero,ycn,zaG,reduceCtorEq,yab]at h
  subst h;simp[Op.eqItems]
 | q+1,j,r,h=>by
  rw[ycB,ybk]at h;obtain⟨r1,r2,h1,h2,rfl⟩:=zgh h;rw[ybs,ybs,<-ycQ]at h2;obtain⟨X,Y,p1,p2,p3⟩:=hg xs ys XS YS _ r1 hX hY h1;have hr:=znc hg hX hY q (j+1) r2 h2;rw[List.range'_succ];simp only[Op.eqItems,Sem.run_bind,p1,p2,p3,Result.andThen_ok,Sem.run_ite,Sem.run_pure];cases r1
  ·simp
  ·simpa using hr
def zp6:∀(d:Nat) (t:TypeId) (ks:List FK),zor P d t=some ks->∀D,d<=D->DpAt P m Z w D t ks
 | 0,t,ks,h,D,hD=>by cases h
 | d+1,t,ks,h,D,hD=>by
  obtain⟨D,rfl⟩:∃D',D=D'+1:=⟨D-1,by omega⟩;have hin:=λt ks h=>zp6 d t ks h D (by omega);intro xs ys XS YS o r hX hY he;obtain⟨l1,l2⟩:=zgg he;rw[yan,yat]at l1 l2;have one:∀{u},P.underlying t=some u->(u = .bool\/∃k,u = .int k)->∀(S:Array Value) x,S[o]?=some x->(part t S o).run P w = .ok x w:=λhd hdd S x hS=>by
   have hagg:(isAgg t).run P w = .ok false w:=by rcases hdd with rfl|⟨k,rfl⟩<;>simp[isAgg,run_underlying hd]
   unfold part;simp only[Sem.run_bind,hagg,Result.andThen_ok,yaK,if_false,hS];rfl
  have many:∀{u n},P.underlying t=some u->((∃fs,u = .struct fs)\/∃n e,u = .array n e)->szOf P t=some n->∀(S:Array Value),(part t S o).run P w = .ok (.agg (S.extract o (o+n))) w:=λhd hdd hn S=>by
   have hagg:(isAgg t).run P w = .ok true w:=by rcases hdd with⟨_,rfl⟩|⟨_,_,rfl⟩<;>simp[isAgg,run_underlying hd]
   unfold part;simp only[Sem.run_bind,hagg,Result.andThen_ok,if_true,(za4 (w:=w) hn).1,Sem.run_pure]
  simp only[zor]at h;split at h
  ·rename_i hu;injection h with h
   subst h;simp only[yaw,ybz]at l1 l2 he;have hx:o<xs.length:=by omega
   have hy:o<ys.length:=by omega
   rw[yaM hx,yaM hy,ybr,ybr,ya4,ya4]at he;have hrx:=hX.2 o _ _ (yag hx) (yar (by rw[hX.1];exact hx));have hry:=hY.2 o _ _ (yag hy) (yar (by rw[hY.1];exact hy));have px:=one hu (.inl rfl) XS _ (yar (by rw[hX.1];exact hx));have py:=one hu (.inl rfl) YS _ (yar (by rw[hY.1];exact hy));generalize xs[o]=xv at he hrx;generalize ys[o]=yv at he hry;refine⟨_,_,px,py,?_⟩;generalize XS[o]'_=X at *;generalize YS[o]'_=Y at *;cases xv<;>cases yv<;>simp only[zaG,reduceCtorEq,yas,yab]at he
   rename_i a b;cases hrx;cases hry;rw[run_equalIn_bool w D t a b hu,<-he,yaE]
  ·rename_i k0 hu;injection h with h
   subst h;simp only[yaw,ybz]at l1 l2 he;have hx:o<xs.length:=by omega
   have hy:o<ys.length:=by omega
   rw[yaM hx,yaM hy,ybr,ybr,ya4,ya4]at he;have hrx:=hX.2 o _ _ (yag hx) (yar (by rw[hX.1];exact hx));have hry:=hY.2 o _ _ (yag hy) (yar (by rw[hY.1];exact hy));have px:=one hu (.inr ⟨_,rfl⟩) XS _ (yar (by rw[hX.1];exact hx));have py:=one hu (.inr ⟨_,rfl⟩) YS _ (yar (by rw[hY.1];exact hy));generalize xs[o]=xv at he hrx;generalize ys[o]=yv at he hry;refine⟨_,_,px,py,?_⟩;generalize XS[o]'_=X at *;generalize YS[o]'_=Y at *;cases xv<;>cases yv<;>simp only[zaG,reduceCtorEq]at he
   rename_i k a k' b;split at he
   ·rename_i hk;subst hk;simp only[yas,yab]at he;rw[hrx.inv_int,hry.inv_int,run_equalIn_int w D t k k0 a b hu,<-he,yaE]
   ·cases he
  ·rename_i fs hu;split at h
   ·rename_i hs;simp only[yaa]at h;obtain⟨kk,hk,h⟩:=h;split at h
    ·rename_i hz;injection h with h
     subst h;have hfs:P.fieldsOf t=fs:=by simp[Program.fieldsOf,hu]
     refine⟨_,_,many hu (.inl ⟨_,rfl⟩) hz XS,many hu (.inl ⟨_,rfl⟩) hz YS,?_⟩;rw[run_equalIn_struct w D t _ _ (by rw[hfs];exact hu) hs,hfs];exact znd hin (hX.part o kk.length) (hY.part o kk.length) fs.toList 0 kk r hk he
    ·cases h
   ·cases h
  ·rename_i n e hu;simp only[yaa]at h;obtain⟨kk,hk,h⟩:=h;split at h
   ·rename_i hz;injection h with h
    subst h;obtain⟨_,hc,i,hi,_⟩:=za4 (w:=w) hz.1;have hl:((List.replicate n kk).flatten).length=n*kk.length:=by simp
    rw[hl]at l1 l2 he;refine⟨_,_,many hu (.inr ⟨_,_,rfl⟩) hz.2 XS,many hu (.inr ⟨_,_,rfl⟩) hz.2 YS,?_⟩;rw[run_equalIn_array w D _ _ hu hi,hc,List.range_eq_range'];exact znc (hin e kk hk) (hX.part o (n*kk.length)) (hY.part o (n*kk.length)) n 0 r (by simpa using he)
   ·cases h
  ·cases h
inductive EqOk (P:Program) (t:TypeId):EK->Prop
 | bool (h:P.underlying t=some .bool):EqOk P t .bool
 | ptr {e} (h:P.underlying t=some (.pointer e)):EqOk P t .ptr
 | sl {e} (h:P.underlying t=some (.slice e)):EqOk P t .sl
 | arr {n e k} (h:P.underlying t=some (.array n e)) (he:P.underlying e=some (.int k)) (hs:szOf P e=some 1) (hc:P.cellsOf e=1) (hg:P.eqGuardType P.depth t=false):EqOk P t (.arr n)
 | st {ks} (h:zm7 P t=some ks):EqOk P t (.st ks)
 | dp {fs ks} (hu:P.underlying t=some (.struct fs)) (h:zvs P t=some ks):EqOk P t (.st ks)
def eq_run{t:TypeId}{ox oy:Operand}{k:EK}{neg:Bool}{x y v:V}{X Y:Value}(ht:EqOk P t k)(h:eqr k neg x y=some v)(hx:Rep m Z w x X)(hy:Rep m Z w y Y) :
  ∃r,(do eqGuard (if neg then .neq else .eql) t ox oy X Y;binOp (if neg then .neq else .eql) t X Y:Sem Value).run P w = .ok r w/\Rep m Z w v r:=by
 simp only[eqr,yac]at h;obtain⟨b,hb,rfl⟩:=h;have key:∀(X Y:Value),(eqGuard (if neg then .neq else .eql) t ox oy X Y).run P w = .ok () w->(Op.equal t X Y).run P w = .ok b w ->
   (binOp .eql t X Y=(do pure (.bool (<-Op.equal t X Y)))/\binOp .neq t X Y=(do pure (.bool (!(<-Op.equal t X Y))))) ->
   ∃r,(do eqGuard (if neg then .neq else .eql) t ox oy X Y;binOp (if neg then .neq else .eql) t X Y:Sem Value).run P w = .ok r w/\Rep m Z w (.bool (if neg then !b else b)) r:=by
  intro X Y hg he hbn;refine⟨.bool (if neg then !b else b),?_,.bool _⟩;cases neg
  ·simp only[yaK,if_false]at hg ⊢;simp only[Sem.run_bind,hg,Result.andThen_ok,hbn.1,he,Sem.run_pure]
  ·simp only[if_true]at hg ⊢;simp only[Sem.run_bind,hg,Result.andThen_ok,hbn.2,he,Sem.run_pure]
 cases ht with
 | bool ht=>
  cases x<;>cases y<;>simp only[eqv,reduceCtorEq,yab]at hb
  subst hb;cases hx;cases hy;exact key _ _ (by rw[eqGuard_at_bool];rfl) (run_equalIn_bool w 9999 t _ _ ht) ⟨rfl,rfl⟩
 | ptr ht=>
  have hnil:∀p:Option Addr,(Op.equal t (.pointer p) (.pointer none)).run P w = .ok p.isNone w:=λp=>by
   show(Op.equalIn (9999+1) t _ _).run P w = _;unfold Op.equalIn;simp only[Sem.run_bind,run_underlying ht,Result.andThen_ok];cases p<;>rfl
  cases x<;>cases y<;>simp only[eqv,reduceCtorEq,yab]at hb<;>subst hb<;>cases hy
  ·cases hx;exact key _ _ (by rw[eqGuard_at_pointer];rfl) (hnil _) ⟨rfl,rfl⟩
  ·cases hx;exact key _ _ (by rw[eqGuard_at_pointer];rfl) (hnil _) ⟨rfl,rfl⟩
  ·cases hx;exact key _ _ (by rw[eqGuard_at_pointer];rfl) (hnil _) ⟨rfl,rfl⟩
 | sl ht=>
  have hnil:∀(p:Option Addr) n c,(Op.equal t (.slice p n c) (.slice none 0 0)).run P w = .ok p.isNone w:=λp n c=>by
   show(Op.equalIn (9999+1) t _ _).run P w = _;unfold Op.equalIn;simp only[Sem.run_bind,run_underlying ht,Result.andThen_ok];cases p<;>rfl
  cases x<;>cases y<;>simp only[eqv,reduceCtorEq,yab]at hb<;>subst hb<;>cases hy
  ·cases hx;exact key _ _ (by rw[eqGuard_at_slice];rfl) (hnil _ _ _) ⟨rfl,rfl⟩
  ·obtain⟨_,_,_,_,rfl,_⟩:=hx.inv_sl;exact key _ _ (by rw[eqGuard_at_slice];rfl) (hnil _ _ _) ⟨rfl,rfl⟩
  ·obtain⟨_,_,_,_,rfl,_⟩:=hx.inv_rs;exact key _ _ (by rw[eqGuard_at_slice];rfl) (hnil _ _ _) ⟨rfl,rfl⟩
 | arr ht he hs hc hg=>
  rename_i n e k;cases x<;>cases y<;>simp only[eqv,reduceCtorEq]at hb
  rename_i xs ys;split at hb
  ·rename_i hl;cases hx;cases hy;rename_i XS hX1 hX2 hX3 YS hY1 hY2 hY3;refine key _ _ ?_ ?_ ⟨rfl,rfl⟩
   ·unfold eqGuard;cases neg<;>simp[hg]
   ·obtain⟨_,_,i,hi,_⟩:=za4 (w:=w) hs;show(Op.equalIn (9999+1) t _ _).run P w = _;rw[run_equalIn_array w 9999 XS YS ht hi,hc,List.range_eq_range'];exact zs8 9998 he n n 0 xs ys XS YS b (by omega) hX1 hY1 hX3 hY3 hl.1 hl.2 (by simpa using hb)
  ·cases hb
 | st ht=>
  rename_i ks;cases x<;>cases y<;>simp only[eqv,reduceCtorEq]at hb
  rename_i xs ys;cases hx;cases hy;rename_i XS hX1 hX2 hX3 YS hY1 hY2 hY3;obtain⟨_,_,_,hg,_⟩:=zhs ht;refine key _ _ ?_ (zr4 ht hX1 hY1 hX3 hY3 hb).1 ⟨rfl,rfl⟩;unfold eqGuard;cases neg<;>simp[hg]
 | dp hu ht=>
  rename_i fs ks;cases x<;>cases y<;>simp only[eqv,reduceCtorEq]at hb
  rename_i xs ys;cases hx;cases hy;rename_i XS hX1 hX2 hX3 YS hY1 hY2 hY3;unfold zvs at ht;split at ht
  ·rename_i hg;obtain⟨l1,l2⟩:=zgg hb;have e:zaG ks ((xs.drop 0).take ks.length) ((ys.drop 0).take ks.length)=some b:=by rw[yaH,yaH,yam (by omega),yam (by omega)];exact hb
   refine key _ _ ?_ ?_ ⟨rfl,rfl⟩
   ·unfold eqGuard;cases neg<;>simp[hg]
   ·obtain⟨X,Y,p1,p2,p3⟩:=zp6 (m:=m) (Z:=Z) (w:=w) 8 t ks ht 10000 (by decide) xs ys XS YS 0 b ⟨hX1,hX3⟩ ⟨hY1,hY3⟩ e;have ht':(if P.stoodInHeld t=false then (zlO (zor P 7) 0 fs.toList).bind λks=>if szOf P t=some ks.length then some ks else none else none)=some ks:=by
     have e:zor P 8 t=(match P.underlying t with
      | some .bool=>some [.bool]
      | some (.int _)=>some [.int]
      | some (.struct fs)=>if P.stoodInHeld t=false then (zlO (zor P 7) 0 fs.toList).bind λks=>if szOf P t=some ks.length then some ks else none else none
      | some (.array n e)=>(zor P 7 e).bind λks=>if szOf P e=some ks.length/\szOf P t=some (n*ks.length) then some (List.replicate n ks).flatten else none
      | _=>none):=rfl
     rw[hu]at e;rw[<-ht,e]
    replace ht:=ht';split at ht
    ·simp only[yaa]at ht;obtain⟨kk,_,ht⟩:=ht;split at ht
     ·rename_i hz;injection ht with ht
      subst ht;have hp:∀S:Array Value,S.size=kk.length->(part t S 0).run P w = .ok (.agg S) w:=λS hS=>by
       have hagg:(isAgg t).run P w = .ok true w:=by simp[isAgg,run_underlying hu]
       unfold part;simp only[Sem.run_bind,hagg,Result.andThen_ok,if_true,(za4 (w:=w) hz).1,Sem.run_pure];rw[Array.extract_eq_self_of_le (by omega)]
      rw[hp XS (by omega)]at p1;rw[hp YS (by omega)]at p2;injection p1 with p1
      injection p2 with p2
      subst p1 p2;exact p3
     ·cases ht
    ·cases ht
  ·cases ht
end
section
variable {P:Program} {m:Map} {Z:Nat->Prop} {H:Heap} {w:World} {A:Fr} {a:Act}
def zlU{v:V}{X:Value}(h:Rep m Z w v X)(ho:v.okc=true):Reps m Z w v.cells X.cells.toList/\∀c∈v.cells,c.one=true:=by
 have one:∀(v:V) (X:Value),Rep m Z w v X->X.cells = #[X]->v.cells=[v]->v.one=true->Reps m Z w v.cells X.cells.toList/\∀c∈v.cells,c.one=true:=by
  intro v X h hX hv h1;rw[hX,hv];refine⟨⟨rfl,λj u x hj hx=>?_⟩,λc hc=>?_⟩
  ·cases j with
   | zero=>simp at hj hx;subst hj;subst hx;exact h
   | succ j=>simp at hj
  ·simp at hc;subst hc;exact h1
 cases v with
 | agg cs=>
  cases h with
  | agg hl h1 hr=>exact⟨⟨by simpa [Value.cells,V.cells]using hl,λj u x hj hx=>hr j u x hj (by simpa [Value.cells]using hx)⟩,h1⟩
 | tup vs=>simp[V.okc]at ho
 | lit x=>
  have hX:X=x:=by cases h;rfl
  subst hX;refine one _ _ h ?_ rfl ho;cases X<;>first|rfl|(simp[V.okc,Value.oneCell']at ho)
 | any=>
  have hX:X.oneCell'=true:=by cases h;assumption
  refine one _ _ h ?_ rfl rfl;cases X<;>first|rfl|(simp[Value.oneCell']at hX)
 | _=>cases h<;>exact one _ _ (by constructor<;>assumption) rfl rfl rfl
def zvN{t:TypeId}{x v:V}{X:Value}{H':Heap} (h:mbox t x H=some (v,H')) (hx:Rep m Z w x X) (r:RelH m Z H w) (hfr:Free m H H') :
  ∃m' y w',(Instr.box t X).run P w = .ok y w'/\Rep m' Z w' v y/\RelH m' Z H' w'/\Ext m Z H w m' Z H' w':=by
 unfold mbox at h;split at h
 ·rename_i ho;simp only[yab,yae]at h;obtain⟨rfl,rfl⟩:=h;obtain⟨hr,h1⟩:=zlU hx ho;have hn:=zgc (b:=⟨t,x.cells,none⟩) (cur:=X.cells) (fz:=(0,0)) (l:=⟨w.heap.size,0,0,false,0⟩) r (hfr _ (yaj _) (yaR _)) rfl (λj _=>by simp) (by have:=hr.1;simp at this;simp[this]) (λe he=>by cases he) h1
   (λj v y hv hy=>hr.2 j v y hv (by simpa using hy))
  refine⟨_,_,_,rfl,?_,hn.1,hn.2⟩;exact .ptr (l:=⟨w.heap.size,0,0,false,0⟩) ⟨if_pos rfl,rfl⟩
 ·cases h
/-! ### parts laid over cells -/
def zfq(m:Map)(Z:Nat->Prop)(w:World) (place:Nat->Option (Nat×Nat)):List (Nat×Nat×V)->List (Nat×Value)->Prop
 | [],[]=>True
 | (off,size,v)::ps,(i,x)::qs=>place i=some (off,size)/\Rep m Z w v x/\zfq m Z w place ps qs
 | _,_=>False
def foldl_set(off:Nat):∀(l:List Value) (k:Nat) (cs:Array Value),off+k+l.length<=cs.size ->
  ((l.zipIdx k).foldl (λcs (c,j)=>cs.setIfInBounds (off+j) c) cs).size=cs.size /\
  ∀j,((l.zipIdx k).foldl (λcs (c,j)=>cs.setIfInBounds (off+j) c) cs)[j]?=if off+k<=j/\j<off+k+l.length then l[j-(off+k)]? else cs[j]?:=by
 intro l
 induction l with
 | nil=>intro k cs _;simp;intro j h1 h2;omega
 | cons x l ih=>
  intro k cs h;simp only[yaw]at h;obtain⟨h1,h2⟩:=ih (k+1) (cs.setIfInBounds (off+k) x) (by simp;omega);simp only[List.zipIdx_cons,yct];refine⟨by rw[h1];simp,λj=>?_⟩;rw[h2,yaw];by_cases e:j=off+k
  ·subst e;rw[if_neg (by omega),if_pos (by omega)];simp[show off+k<cs.size by omega]
  ·rw[yaV (ybV e)];by_cases hc:off+k<=j/\j<off+k+(l.length+1)
   ·rw[if_pos (by omega),if_pos hc,show j-(off+k)=(j-(off+(k+1)))+1 from by omega,ybo]
   ·rw[if_neg (by omega),if_neg hc]
def zol {place:Nat->Option (Nat×Nat)}:∀(ps:List (Nat×Nat×V)) (qs:List (Nat×Value)) (cells:List V) (cs:Array Value) (vs:List V),fill cells ps=some vs->zfq m Z w place ps qs ->
  cs.size=cells.length->(∀v∈cells,v.one=true)->(∀(j:Nat) (v:V) (x:Value),cells[j]?=some v->cs[j]?=some x->Rep m Z w v x) ->
  ∃ds,Instr.fill place cs qs=some ds/\ds.size=vs.length/\(∀v∈vs,v.one=true)/\(∀(j:Nat) (v:V) (x:Value),vs[j]?=some v->ds[j]?=some x->Rep m Z w v x):=by
 intro ps
 induction ps with
 | nil=>
  intro qs cells cs vs h hp hs h1 hr;cases qs with
  | nil=>
   simp only[fill,yab]at h;subst h;exact⟨cs,rfl,hs,h1,hr⟩
  | cons q qs=>exact hp.elim
 | cons p ps ih=>
  intro qs cells cs vs h hp hs h1 hr;obtain⟨off,size,v⟩:=p;cases qs with
  | nil=>exact hp.elim
  | cons q qs=>
   obtain⟨i,x⟩:=q;obtain⟨hpl,hx,hrest⟩:=hp;simp only[fill]at h;split at h
   ·rename_i hc;obtain⟨hl,hle,ho⟩:=hc;obtain⟨hcr,hc1⟩:=zlU hx ho;have hxs:x.cells.size=size:=by have:=hcr.1;simp at this;omega
    have hset:=foldl_set off x.cells.toList 0 cs (by simp;omega);have hz:x.cells.zipIdx.foldl (λcs (c,j)=>cs.setIfInBounds (off+j) c) cs=((x.cells.toList.zipIdx 0).foldl (λcs (c,j)=>cs.setIfInBounds (off+j) c) cs):=by
     rw[<-Array.foldl_toList,Array.toList_zipIdx]
    obtain⟨ds,hd,h2,h3,h4⟩:=ih qs (splice cells off v.cells) _ vs h hrest (by rw[hset.1,zcS _ _ _ (by omega),hs]) (λu hu=>by
     rcases ziM hu with hu|hu
     ·exact h1 u hu
     ·exact hc1 u hu) (λj u y hu hy=>by
     rw[hset.2]at hy;rw[zc7 _ _ _ (by omega)]at hu;simp only[ybI,yca]at hy;by_cases hin:off<=j/\j<off+size
     ·rw[if_pos (by omega)]at hu hy;exact hcr.2 (j-off) u y hu hy
     ·rw[if_neg (by omega)]at hu hy;exact hr j u y hu hy)
    refine⟨ds,?_,h2,h3,h4⟩;simp only[Instr.fill,hpl];rw[if_neg (by simp;omega),hz];exact hd
   ·cases h
def zcE{t:TypeId}{z:List V}(h:zeroOf P t=some z):∃zv:Value,(∀w,(zeroValue t).run P w = .ok zv w)/\V.ofCells zv.cells.toList=some z/\zv.cells.size=z.length:=by
 simp only[zeroOf,yaa]at h;obtain⟨zv,⟨i,hi,hz⟩,hc⟩:=h;refine⟨zv,λw=>by simp[zeroValue,typeInfo,hi,hz],hc,?_⟩;have:=(zcf hc).1;simpa using this
def zsD(w:World):∀(fs:List Field),(fs.all λf=>(szOf P f.type).isSome)=true ->
  (fs.mapM λf=>do pure (f.offset,<-sizeOf f.type):Sem (List (Nat×Nat))).run P w = .ok (fs.map λf=>(f.offset,P.cellsOf f.type)) w:=by
 intro fs
 induction fs with
 | nil=>intro _;rfl
 | cons f fs ih=>
  intro h;simp only[yba,yal]at h;obtain⟨n,hn⟩:=Option.isSome_iff_exists.1 h.1;obtain⟨hs,hc,_⟩:=za4 (w:=w) hn;simp only[yc3,Sem.run_bind,hs,Result.andThen_ok,Sem.run_pure,ih h.2,ya5,hc]
def zkj{t:TypeId}{fs:Array Field}{z:List V} {ps:List (Nat×Nat×V)} {qs:Array (Nat×Value)} {v:V} (ht:P.underlying t=some (.struct fs)) (hk:zmR P fs=true) (hz:zeroOf P t=some z)
  (h:build z ps=some v) (hp:zfq m Z w ((fs.map λf=>(f.offset,P.cellsOf f.type))[·]?) ps qs.toList):∃r,(Instr.build t qs).run P w = .ok r w/\Rep m Z w v r:=by
 obtain⟨zv,hzr,hzc,hzs⟩:=zcE hz;obtain⟨_,h1,hr⟩:=zcf hzc;simp only[build,yac]at h;obtain⟨vs,hf,rfl⟩:=h;obtain⟨ds,hd,h2,h3,h4⟩:=zol (m:=m) (Z:=Z) (w:=w) ps qs.toList z zv.cells vs hf hp hzs h1 (λj v x hv hx=>hr j v x hv (by simpa using hx));refine⟨.agg ds,?_,.agg h2 h3 h4⟩;unfold Instr.build;have hpl:(fs.mapM λf=>do pure (f.offset,<-sizeOf f.type):Sem (Array (Nat×Nat))).run P w = .ok (fs.map λf=>(f.offset,P.cellsOf f.type)) w:=by
  rw[yc7,Sem.run_map,zsD w fs.toList hk];simp only[Result.andThen_ok];congr 1;apply ybN;simp
 simp only[Sem.run_bind,hzr,Result.andThen_ok,run_underlying ht,hpl,hd,Sem.run_pure]
def zlX{t e:TypeId}{n s:Nat}{z:List V} {ps:List (Nat×Nat×V)} {qs:Array (Nat×Value)} {v:V} (ht:P.underlying t=some (.array n e)) (hs:szOf P e=some s) (hz:zeroOf P t=some z)
  (h:build z ps=some v) (hp:zfq m Z w (λi=>some (i*s,s)) ps qs.toList):∃r,(Instr.build t qs).run P w = .ok r w/\Rep m Z w v r:=by
 obtain⟨zv,hzr,hzc,hzs⟩:=zcE hz;obtain⟨_,h1,hr⟩:=zcf hzc;simp only[build,yac]at h;obtain⟨vs,hf,rfl⟩:=h;obtain⟨ds,hd,h2,h3,h4⟩:=zol (m:=m) (Z:=Z) (w:=w) ps qs.toList z zv.cells vs hf hp hzs h1 (λj v x hv hx=>hr j v x hv (by simpa using hx));refine⟨.agg ds,?_,.agg h2 h3 h4⟩;unfold Instr.build;simp only[Sem.run_bind,hzr,Result.andThen_ok,run_underlying ht,(za4 (w:=w) hs).1,hd,Sem.run_pure]
def zeros_length(z:List V)(n:Nat):(zeros z n).length=n*z.length:=by
 induction n with
 | zero=>simp[zeros]
 | succ n ih=>simp[zeros,ih,ycQ];omega
def ztw{z:List V}{n:Nat}{v:V}(h:v∈zeros z n):v∈z:=by
 induction n with
 | zero=>simp[zeros]at h
 | succ n ih=>
  simp only[zeros,yaZ]at h;rcases h with h|h
  ·exact h
  ·exact ih h
def ztx(z:List V)(n j:Nat)(h:j<n*z.length):(zeros z n)[j]?=z[j%z.length]?:=by
 induction n generalizing j with
 | zero=>simp at h
 | succ n ih=>
  simp only[zeros,ybi];split
  ·rename_i hj;rw[yap hj]
  ·rename_i hj;rw[ih _ (by rw[ycQ]at h;omega)];congr 1;rw[Nat.mod_eq_sub_mod (a:=j) (by omega)]
def ze4{zv:Value}{z:List V}(hc:V.ofCells zv.cells.toList=some z)(n:Nat) :
  ((Array.range (n*z.length)).map (zv.cells[· % zv.cells.size]!)).size=(zeros z n).length/\(∀v∈zeros z n,v.one=true) /\
  (∀(j:Nat) (v:V) (x:Value),(zeros z n)[j]?=some v->((Array.range (n*z.length)).map (zv.cells[· % zv.cells.size]!))[j]?=some x->Rep m Z w v x):=by
 obtain⟨hl,h1,hr⟩:=zcf hc;simp only[yca]at hl;refine⟨by simp[zeros_length],λv hv=>h1 v (ztw hv),λj v x hv hx=>?_⟩;have hj:j<n*z.length:=by
  have:=(yax.1 hv).1
  rwa [zeros_length]at this
 have hz:0<z.length:=by
  rcases ycF z.length with h|h
  ·rw[h]at hj;omega
  ·exact h
 rw[ztx _ _ _ hj]at hv;have hmod:j%z.length<zv.cells.size:=by rw[hl];exact ybf _ hz
 simp only[ycJ,Array.getElem?_range,hj,if_true,yas,yab]at hx;rw[hl,getElem!_pos zv.cells _ (by rw[<-hl]at hmod;rw[hl]at *;exact hmod)]at hx;refine hr (j%z.length) v x hv ?_;rw[<-hx];simp[hmod]
def slit_run{t e:TypeId}{s len:Nat}{z:List V} {ps:List (Nat×Nat×V)} {qs:Array (Nat×Value)} {v:V} {H':Heap} (ht:P.underlying t=some (.slice e)) (hs:szOf P e=some s) (hz:zeroOf P e=some z)
  (hzl:z.length=s) (hle:len*s<=16777216) (h:mslit e len z ps H=some (v,H')) (hp:zfq m Z w (λi=>some (i*s,s)) ps qs.toList) (r:RelH m Z H w) (hfr:Free m H H') :
  ∃m' y w',(Instr.buildSlice t len qs).run P w = .ok y w'/\Rep m' Z w' v y/\RelH m' Z H' w'/\Ext m Z H w m' Z H' w':=by
 obtain⟨zv,hzr,hzc,hzs⟩:=zcE hz;subst hzl;simp only[mslit,yac,yae]at h;obtain⟨cs,hf,rfl,rfl⟩:=h;obtain⟨hr1,hr2,hr3⟩:=ze4 (m:=m) (Z:=Z) (w:=w) hzc len;obtain⟨ds,hd,h2,h3,h4⟩:=zol (m:=m) (Z:=Z) (w:=w) ps qs.toList (zeros z len) _ cs hf hp hr1 hr2 hr3;have hn:=zgc (b:=⟨e,cs,none⟩) (cur:=ds) (fz:=(0,0)) (l:=⟨w.heap.size,0,0,false,0⟩) r (hfr _ (yaj _) (yaR _)) rfl (λj _=>by simp) (by simp[h2]) (λe he=>by cases he) h3 h4;refine⟨_,.slice (some ⟨w.heap.size,0,none⟩) len len,_,?_,?_,hn.1,hn.2⟩
 ·unfold Instr.buildSlice;simp only[Sem.run_bind,run_underlying ht,Result.andThen_ok,(za4 (w:=w) hs).1,Sem.run_ite];rw[if_neg (by omega)];by_cases h0:len*z.length=0
  ·simp only[h0,if_true,Sem.run_pure,Result.andThen_ok,Array.range_zero',Array.map_empty]at hd ⊢;simp only[hd,newRow,Sem.run_bind,run_newObj,Result.andThen_ok,Sem.run_pure];rfl
  ·simp only[h0,if_false,Sem.run_bind,hzr,Result.andThen_ok,Sem.run_pure,hd,newRow,run_newObj];rfl
 ·exact .slc (l:=⟨w.heap.size,0,0,false,0⟩) ⟨if_pos rfl,rfl⟩ (yaj _) (.inr rfl)
def ztK{t:TypeId}{s:Nat}{p x v:V}{Pv X:Value}{H':Heap}(hs:szOf P t=some s) (h:mstore s p x H=some (v,H')) (hp:Rep m Z w p Pv) (hx:Rep m Z w x X) (r:RelH m Z H w) :
  v = .undef/\∃w',(Instr.storeAt t Pv X).run P w = .ok () w'/\RelH m Z H' w'/\Ext m Z H w m Z H' w':=by
 unfold mstore at h;split at h
 ·rename_i id off;simp only[yaa]at h;obtain⟨b,hb,h⟩:=h;split at h
  ·rename_i hc;obtain⟨hl,hle,ho⟩:=hc;simp only[yab,yae]at h;obtain⟨rfl,rfl⟩:=h;obtain⟨l,hm,rfl⟩:=hp.inv_ptr;obtain⟨cur,fz,hL⟩:=r.at_ hb hm;obtain⟨hcr,hc1⟩:=zlU hx ho;have hxs:X.cells.toList.length=s:=by rw[hcr.1];exact hl
   obtain⟨w',cur',hrun,g1,g2,g3,g4,g5,g6,g7,g8⟩:=zer P l.blk (off+l.bo) b.ty fz X.cells.toList 0 cur w hL.heap hL.free (by have:=hL.len;omega) (λy hy=>by
    obtain⟨j,hj,rfl⟩:=ycD hy;have hjv:j<x.cells.length:=by omega
    exact(hcr.2 j _ _ (yag hjv) (yag hj)).oneCell (hc1 _ (ycm hjv)))
   refine⟨rfl,w',?_,?_,?_⟩
   ·unfold Instr.storeAt storeVar;simp only[Instr.sureAddr,Sem.run_bind,Sem.run_pure,Result.andThen_ok,(za4 (w:=w) hs).1,Sem.run_ite];rw[if_neg (by simp at hxs;omega)];exact hrun
   ·have:=zhJ (id:=id) (l:=l) (b:={ b with cells:=splice b.cells off x.cells }) (cur:=cur') (fz:=fz) (H':=H.set id (some { b with cells:=splice b.cells off x.cells })) (w':=w') r
     (λi=>rfl) (yaj _) (by
      rcases ybG id H.next with h|h
      ·exact h
      ·rw[r.dead id h]at hb;cases hb) (.inr hm.1) g4 (by omega) hL.out (λi b' l' hb' hm' e=>r.inj i id b' b l' l hb' hb hm' hm.1 e) g1 (by rw[g2];exact hL.free)
     (by show(splice b.cells off x.cells).length+l.bo<=_;rw[zcS _ _ _ (by omega),g2];exact hL.len) (λe he=>by rw[g2];exact hL.opn e he)
     (λu hu=>by
      rcases ziM hu with hu|hu
      ·exact hL.one u hu
      ·exact hc1 u hu)
     (λj u y hu hy=>by
      replace hu:(splice b.cells off x.cells)[j]?=some u:=hu;rw[zc7 _ _ _ (by omega)]at hu;rw[g3]at hy;by_cases hin:off<=j/\j<off+x.cells.length
      ·rw[if_pos hin]at hu;rw[if_pos (by omega)]at hy;rw[show j+l.bo-(off+l.bo+0)=j-off by omega]at hy;exact hcr.2 (j-off) u y hu hy
      ·rw[if_neg hin]at hu;rw[if_neg (by omega)]at hy;exact hL.reps j u y hu hy)
    rwa [zeh hm.1]at this
   ·have:=zhu (m:=m) (Z:=Z) (H:=H) (w:=w) (id:=id) (l:=l) (H':=H.set id (some { b with cells:=splice b.cells off x.cells })) (w':=w') (.inr hm.1) (yaj _) (.inr hm.1) (λi b' h=>by
     simp only[Heap.set]at h;split at h
     ·rename_i e;exact .inl e
     ·exact .inr ⟨b',h⟩) g4 (by omega) g6 g7 g8 (.inr ⟨id,b,l,hb,hm.1,rfl⟩)
    rwa [zeh hm.1]at this
  ·cases h
 ·cases h
end
section
variable {P:Program} {m:Map} {Z:Nat->Prop} {H:Heap} {w:World} {A:Fr} {a:Act}
def ziR{esz:Nat}{y:V}{Y:Value}{q:List V×Nat}(h:rcells esz H y=some q)(hy:Rep m Z w y Y)(r:RelH m Z H w) :
  q.1.length=q.2*esz/\(∀v∈q.1,v.one=true)/\(Builtin.lenOf Y).run P w = .ok q.2 w/\(∃a c,Y = .slice a q.2 c) /\
  ∃xs:List Value,Reps m Z w q.1 xs/\(∀k,k<=q.2->∀w',(∀c,w'.cell? c=w.cell? c)->(Builtin.firstCells esz k Y).run P w' = .ok (xs.take (k*esz)).toArray w'):=by
 cases y with
 | nils=>
  simp only[rcells,yab]at h;subst h;cases hy;exact⟨by simp,by simp,rfl,⟨_,_,rfl⟩,[],⟨rfl,by simp⟩,λk _ w' _=>by simp[Builtin.firstCells]⟩
 | sl id off len cap=>
  simp only[rcells,yaa]at h;obtain⟨b,hb,h⟩:=h;split at h
  ·rename_i hle;injection h with h
   subst h;obtain⟨l,ad,c,hm,rfl,hlc,ha,_⟩:=hy.inv_sl;obtain⟨cur,fz,hL⟩:=r.at_ hb hm;obtain⟨xs,hxl,hc,hreps,hone⟩:=hL.rd.values off (len*esz) hle;refine⟨by simp;omega,hone,rfl,⟨_,_,rfl⟩,xs,hreps,λk hk w' hw'=>?_⟩;have hk':k*esz<=len*esz:=ybg _ hk;simp only[Builtin.firstCells];have hlt:(xs.take (k*esz)).length=k*esz:=by simp;omega
   rcases ha with ha|rfl
   ·have:k=0:=by omega
    subst this;simp[loadCells,loadCellsFrom]
   ·have:=zes P w' l.blk (off+l.bo) (xs.take (k*esz)) (λj x hj=>by
     rw[hw'];rw[ybx]at hj;split at hj
     ·have:=hc j x hj
      rwa [ycR l.bo off]at this
     ·cases hj)
    rw[hlt]at this;exact this
  ·cases h
 | rs cells len=>
  simp only[rcells]at h;split at h
  ·rename_i hle;injection h with h
   subst h;obtain⟨b,o,ad,c,rfl,hlc,h0⟩:=hy.inv_rs;rcases h0 with h0|⟨rfl,hz,hrd⟩
   ·subst h0;refine⟨by simp,by simp,rfl,⟨_,_,rfl⟩,[],⟨by simp,by simp⟩,λk hk w' _=>?_⟩;have:k=0:=by omega
    subst this;cases ad<;>simp[Builtin.firstCells,loadCells,loadCellsFrom]
   ·obtain⟨xs,hxl,hc,hreps,hone⟩:=hrd.values 0 (len*esz) (by omega);rw[yaH]at hreps hone;refine⟨by simp;omega,hone,rfl,⟨_,_,rfl⟩,xs,hreps,λk hk w' hw'=>?_⟩;have hk':k*esz<=len*esz:=ybg _ hk;have hlt:(xs.take (k*esz)).length=k*esz:=by simp;omega
    simp only[Builtin.firstCells];have:=zes P w' b o (xs.take (k*esz)) (λj x hj=>by
     rw[hw'];rw[ybx]at hj;split at hj
     ·have:=hc j x hj
      rwa [ybI]at this
     ·cases hj)
    rw[hlt]at this;exact this
  ·cases h
 | _=>simp[rcells]at h
def zni{esz:Nat}{y:V}{Y:Value}{q:List V×Nat}(h:acells esz H y=some q)(hy:Rep m Z w y Y)(r:RelH m Z H w) :
  q.1.length=q.2*esz/\(∀v∈q.1,v.one=true)/\(Builtin.lenOf Y).run P w = .ok q.2 w /\
  ∃xs:List Value,Reps m Z w q.1 xs/\(∀k,k<=q.2->∀w',(∀c,w'.cell? c=w.cell? c)->(Builtin.firstCells esz k Y).run P w' = .ok (xs.take (k*esz)).toArray w'):=by
 unfold acells at h;split at h
 ·rename_i s;split at h
  ·rename_i he;subst he;injection h with h
   subst h;cases hy;have hsz:s.data.toList.length=s.size:=by simp
   refine⟨by simp[strCells],?_,rfl,s.data.toList.map λb=>.int .u8 (b.toNat:Int),⟨by simp[strCells],?_⟩,?_⟩
   ·intro v hv;simp only[strCells,ybp]at hv;obtain⟨b,_,rfl⟩:=hv;rfl
   ·intro j v x hv hx;simp only[strCells,yaT,yac]at hv hx;obtain⟨b,hb,rfl⟩:=hv;obtain⟨b',hb',rfl⟩:=hx;rw[hb]at hb';injection hb' with hb'
    subst hb';exact .int _ _
   ·intro k hk w' _;simp only[Builtin.firstCells,ybc,Sem.run_pure];congr 1;apply ybN;simp[ByteArray.data_extract]
  ·cases h
 ·obtain⟨h1,h2,h3,_,h5⟩:=ziR (P:=P) h hy r;exact⟨h1,h2,h3,h5⟩
def AppTy(P:Program)(u:TypeId):Prop:=(∃e,P.underlying u=some (.slice e))\/P.underlying u=some .string
def zrp{t u ty e:TypeId}{i:TypeInfo}{base:Option Addr}{sLen sCap n:Nat}{Y:Value}{xs:Array Value}{w':World} (ht:P.underlying t=some (.slice e)) (hu:AppTy P u)
  (hi:P.info? e=some i) (hn:(Builtin.lenOf Y).run P w = .ok n w) (hf:(Builtin.firstCells i.size n Y).run P w = .ok xs w) (hle:sLen+n<=sCap)
  (hst:(∃a,base=some a/\(storeCells (a.add (sLen*i.size)) xs.toList).run P w = .ok () w')\/(base=none/\w'=w)) :
  (Builtin.append_ #[t,u] ty #[.slice base sLen sCap,Y]).run P w = .ok (.slice base (sLen+n) sCap) w':=by
 rcases hu with⟨f,hu⟩|hu<;>rcases hst with⟨a,rfl,hst⟩|⟨rfl,rfl⟩ <;>
  simp[Builtin.append_,run_underlying ht,run_underlying hu,sizeOf,typeInfo, *]
def zqf{t u ty e:TypeId}{i:TypeInfo}{z:Value}{base:Option Addr}{sLen sCap n:Nat}{Y:Value}{xs olds:Array Value} (ht:P.underlying t=some (.slice e)) (hu:AppTy P u)
  (hi:P.info? e=some i) (hz:i.zero=some z) (hn:(Builtin.lenOf Y).run P w = .ok n w) (hf:∀w',(∀c,w'.cell? c=w.cell? c)->(Builtin.firstCells i.size n Y).run P w' = .ok xs w')
  (ho:∀w',(∀c,w'.cell? c=w.cell? c)->(Builtin.firstCells i.size sLen (.slice base sLen sCap)).run P w' = .ok olds w') (hlt:sCap<sLen+n)
  (h63:sLen+n<=maxLen) (hb:(sLen+n)*i.bytes<=140737488355328) :
  (Builtin.append_ #[t,u] ty #[.slice base sLen sCap,Y]).run P w =
   .ok (.slice (some ⟨w.heap.size,0,none⟩) (sLen+n) (grownCap w (sLen+n) sCap e))
    (w.drew.alloc (.cells (olds++xs++Builtin.zeroCells z.cells (grownCap w (sLen+n) sCap e-(sLen+n))) e)):=by
 have hn':¬(sLen+n<=sCap):=by omega
 have hb':=growslice_fits (need:=sLen+n) (old:=sCap) (bytes:=i.bytes) hlt hb;have h48:¬(281474976710656<Builtin.nextslicecap (sLen+n) sCap*i.bytes):=by omega
 have h63':¬(9223372036854775807<((sLen:Int)+(n:Int))):=by simp only[maxLen]at h63;omega
 have hf':=hf w.drew (λ_=>rfl);have ho':=ho w.drew (λ_=>rfl);rcases hu with⟨f,hu⟩|hu <;>
  simp[Builtin.append_,run_underlying ht,run_underlying hu,sizeOf,typeInfo,zeroValue,hi,hz,hn,hn',h63',h48,Question.forced,hf',ho',newRow,grownCap]
def zmm(size k c:Nat)(w:World):(Builtin.firstCells size k (.slice none 0 c)).run P w = .ok #[] w:=by simp[Builtin.firstCells]
def zpu{e:TypeId}{i:TypeInfo}{z:Value}{need old:Nat}{olds news:List Value}{vs:List V}(r:RelH m Z H w)(hfr:m H.next=none)(hzs:z.cells.size=i.size)(h0:0<i.size)(h63:need<=maxLen)
  (hl:(olds++news).length=need*i.size) (hr:Reps m Z w vs (olds++news)) (h1:∀v∈vs,v.one=true) :
  ∃m':Map,Rep m' Z (w.drew.alloc (.cells (olds.toArray++news.toArray++Builtin.zeroCells z.cells (grownCap w need old e-need)) e)) (.sl H.next 0 need (.opn i.size)) (.slice (some ⟨w.heap.size,0,none⟩) need (grownCap w need old e)) /\
   RelH m' Z (H.new ⟨e,vs,some i.size⟩) (w.drew.alloc (.cells (olds.toArray++news.toArray++Builtin.zeroCells z.cells (grownCap w need old e-need)) e)) /\
   Ext m Z H w m' Z (H.new ⟨e,vs,some i.size⟩) (w.drew.alloc (.cells (olds.toArray++news.toArray++Builtin.zeroCells z.cells (grownCap w need old e-need)) e)):=by
 have hge:=grownCap_ge w need old e;have hlm:=grownCap_le_maxLen w need old e h63;generalize grownCap w need old e=c at hge hlm ⊢;have hsz:(olds.toArray++news.toArray++Builtin.zeroCells z.cells (c-need)).size=c*i.size:=by
  have h2:(olds++news).length=olds.length+news.length:=yah;rw[Array.size_append,Array.size_append,size_zeroCells,hzs,Nat.sub_mul];simp only[List.size_toArray];have:need*i.size<=c*i.size:=ybg _ hge;omega
 have hd:=r.drew;have hn:=zgc (b:=⟨e,vs,some i.size⟩) (cur:=olds.toArray++news.toArray++Builtin.zeroCells z.cells (c-need)) (fz:=(0,0)) (l:=⟨w.heap.size,c,i.size,false,0⟩) hd hfr rfl (λj _=>by simp)
  (by
   have:=hr.1;have h3:need*i.size<=c*i.size:=ybg _ hge;show vs.length<=_;omega)
  (λe' he=>by
   injection he with he
   subst he;exact⟨rfl,h0,hsz,by simp only[maxLen]at hlm;omega⟩) h1
  (λj v x hv hx=>by
   have hj:j<vs.length:=(yax.1 hv).1;have hj':j<(olds++news).length:=by have:=hr.1;omega
   have hx':(olds++news)[j]?=some x:=by
    rw[<-hx];show _=(olds.toArray++news.toArray++Builtin.zeroCells z.cells (c-need))[j]?;have:(olds.toArray++news.toArray++Builtin.zeroCells z.cells (c-need)).toList=(olds++news)++(Builtin.zeroCells z.cells (c-need)).toList:=by simp
    rw[<-ydj,this,ybO hj']
   exact(hr.2 j v x hv hx').mono (λ_ _ h=>h) (λ_ h=>h) λ_ _=>rfl)
 exact⟨_,.slo (l:=⟨w.heap.size,c,i.size,false,0⟩) (i:=0) ⟨if_pos rfl,rfl⟩ (by simp) (by simp) hge (.inr rfl),hn.1,(Ext.drew m Z H w).trans hn.2⟩
def zkQ{vs us:List V}{xs ys:List Value}(h:Reps m Z w vs xs)(k:Reps m Z w us ys):Reps m Z w (vs++us) (xs++ys):=by
 refine⟨by simp[h.1,k.1],λj v x hv hx=>?_⟩;rw[ybi]at hv hx;have:=h.1;split at hv
 ·rw[if_pos (by omega)]at hx;exact h.2 j v x hv hx
 ·rw[if_neg (by omega)]at hx;rw[this]at hx;exact k.2 _ v x hv hx
def zuf{vs:List V}{xs:List Value}(h:Reps m Z w vs xs)(k:Nat):Reps m Z w (vs.take k) (xs.take k):=by
 refine⟨by simp[h.1],λj v x hv hx=>?_⟩;rw[ybx]at hv hx;split at hv
 ·rename_i hj;rw[if_pos hj]at hx;exact h.2 j v x hv hx
 ·cases hv
def zrG{vs:List V}{xs:List Value}(h:Reps m Z w vs xs)(h1:∀v∈vs,v.one=true):∀x∈xs,x.oneCell'=true:=by
 intro x hx;obtain⟨j,hj,rfl⟩:=ycD hx;have hjv:j<vs.length:=by have:=h.1;omega
 exact(h.2 j _ _ (yag hjv) (yag hj)).oneCell (h1 _ (ycm hjv))
end
section
variable {P:Program} {m:Map} {Z:Nat->Prop} {H:Heap} {w:World} {A:Fr} {a:Act}
def zfz{id:Nat}{b:Blk}{l:Loc}{cs:List V}{xs:List Value}{o:Nat}(r:RelH m Z H w)(hb:H.get id=some b)(hm:AtC m id l)(hr:Reps m Z w cs xs)(h1:∀v∈cs,v.one=true)
  (hle:o+cs.length<=b.cells.length) :
  ∃w',(storeCells ⟨l.blk,o+l.bo,none⟩ xs).run P w = .ok () w'/\RelH m Z (H.set id (some { b with cells:=splice b.cells o cs })) w'/\Ext m Z H w m Z (H.set id (some { b with cells:=splice b.cells o cs })) w':=by
 obtain⟨cur,fz,hL⟩:=r.at_ hb hm;obtain⟨w',cur',hrun,g1,g2,g3,g4,g5,g6,g7,g8⟩:=zer P l.blk (o+l.bo) b.ty fz xs 0 cur w hL.heap hL.free (by have:=hL.len;have:=hr.1;omega) (zrG hr h1);refine⟨w',hrun,?_,?_⟩
 ·have:=zhJ (id:=id) (l:=l) (b:={ b with cells:=splice b.cells o cs }) (cur:=cur') (fz:=fz) (H':=H.set id (some { b with cells:=splice b.cells o cs })) (w':=w') r
   (λi=>rfl) (yaj _) (by
    rcases ybG id H.next with h|h
    ·exact h
    ·rw[r.dead id h]at hb;cases hb) (.inr hm.1) g4 (by omega) hL.out (λi b' l' hb' hm' e=>r.inj i id b' b l' l hb' hb hm' hm.1 e) g1 (by rw[g2];exact hL.free)
   (by show(splice b.cells o cs).length+l.bo<=_;rw[zcS _ _ _ hle,g2];exact hL.len) (λe he=>by rw[g2];exact hL.opn e he)
   (λu hu=>by
    rcases ziM hu with hu|hu
    ·exact hL.one u hu
    ·exact h1 u hu)
   (λj u y hu hy=>by
    replace hu:(splice b.cells o cs)[j]?=some u:=hu;rw[zc7 _ _ _ hle]at hu;rw[g3]at hy;have:=hr.1;by_cases hin:o<=j/\j<o+cs.length
    ·rw[if_pos hin]at hu;rw[if_pos (by omega)]at hy;rw[show j+l.bo-(o+l.bo+0)=j-o by omega]at hy;exact hr.2 (j-o) u y hu hy
    ·rw[if_neg hin]at hu;rw[if_neg (by omega)]at hy;exact hL.reps j u y hu hy)
  rwa [zeh hm.1]at this
 ·have:=zhu (m:=m) (Z:=Z) (H:=H) (w:=w) (id:=id) (l:=l) (H':=H.set id (some { b with cells:=splice b.cells o cs })) (w':=w') (.inr hm.1) (yaj _) (.inr hm.1) (λi b' h=>by
   simp only[Heap.set]at h;split at h
   ·rename_i e;exact .inl e
   ·exact .inr ⟨b',h⟩) g4 (by omega) g6 g7 g8 (.inr ⟨id,b,l,hb,hm.1,rfl⟩)
  rwa [zeh hm.1]at this
def zs7{id:Nat}{b:Blk}{l:Loc}{cs:List V}{xs:List Value}{e d j0:Nat}(r:RelH m Z H w)(hfr:m H.next=none)(hb:H.get id=some b)(hm:AtC m id l)(hr:Reps m Z w cs xs)(h1:∀v∈cs,v.one=true)
  (ho:b.opn=some e) (hd:d=j0*e) (hdl:d<=b.cells.length) (hle:b.cells.length+cs.length<=l.cap*e) :
  ∃w',(storeCells ⟨l.blk,b.cells.length+l.bo,none⟩ xs).run P w = .ok () w' /\
   RelH (λi=>if i=H.next then some ⟨l.blk,l.cap-j0,l.esz,l.mp,d+l.bo⟩ else m i) Z ((H.set id none).new ⟨b.ty,b.cells.drop d++cs,some e⟩) w' /\
   Ext m Z H w (λi=>if i=H.next then some ⟨l.blk,l.cap-j0,l.esz,l.mp,d+l.bo⟩ else m i) Z ((H.set id none).new ⟨b.ty,b.cells.drop d++cs,some e⟩) w':=by
 obtain⟨cur,fz,hL⟩:=r.at_ hb hm;obtain⟨he,h0,hsz,hcap⟩:=hL.opn e ho;have hlr:=hr.1;obtain⟨w',cur',hrun,g1,g2,g3,g4,g5,g6,g7,g8⟩:=zer P l.blk (b.cells.length+l.bo) b.ty fz xs 0 cur w hL.heap hL.free (by omega) (zrG hr h1);have hlt:id<H.next:=by
  rcases ybG id H.next with h|h
  ·exact h
  ·rw[r.dead id h]at hb;cases hb
 have hjc:j0<=l.cap:=by
  have:j0*e<=l.cap*e:=by omega
  exact ycb this h0
 have hsz2:cur.size=(l.cap-j0)*e+(d+l.bo):=by
  have:(l.cap-j0)*e+j0*e=l.cap*e:=by rw[<-ybm,Nat.sub_add_cancel hjc]
  omega
 have rk:=zo7 r id;refine⟨w',hrun,?_,?_⟩
 ·exact zhJ (id:=H.next) (l:=⟨l.blk,l.cap-j0,l.esz,l.mp,d+l.bo⟩) (b:=⟨b.ty,b.cells.drop d++cs,some e⟩) (cur:=cur') (fz:=fz) (H':=(H.set id none).new ⟨b.ty,b.cells.drop d++cs,some e⟩) (w':=w') rk
   (λi=>rfl) (ybH _) (yaR _) (.inl hfr) g4 (by omega) hL.out (λi b' l' hb' hm' e'=>by
    simp only[Heap.set]at hb';split at hb'
    ·cases hb'
    ·rename_i hne;exact(hne (r.inj i id b' b l' l hb' hb hm' hm.1 e')).elim) g1 (by rw[g2];exact hL.free)
   (by show(b.cells.drop d++cs).length+(d+l.bo)<=_;rw[yah,yat,g2,hsz];omega) (λe' he'=>by
    injection he' with he'
    subst he';rw[g2];exact⟨he,h0,hsz2,by dsimp only;omega⟩)
   (λu hu=>by
    rcases yaZ.1 hu with hu|hu
    ·exact hL.one u (yb4 hu)
    ·exact h1 u hu)
   (λj u y hu hy=>by
    replace hu:(b.cells.drop d++cs)[j]?=some u:=hu;rw[ybi,yat]at hu;replace hy:cur'[j+(d+l.bo)]?=some y:=hy;rw[g3]at hy;by_cases hj:j<b.cells.length-d
    ·rw[if_pos hj,yaU]at hu;rw[if_neg (by omega)]at hy;exact hL.reps (d+j) u y hu (by rw[show d+j+l.bo=j+(d+l.bo) by omega];exact hy)
    ·rw[if_neg hj]at hu;have hju:j-(b.cells.length-d)<cs.length:=(yax.1 hu).1;rw[if_pos (by omega),show j+(d+l.bo)-(b.cells.length+l.bo+0)=j-(b.cells.length-d) by omega]at hy;exact hr.2 _ u y hu hy) hm.2
 ·exact zhu (l:=⟨l.blk,l.cap-j0,l.esz,l.mp,d+l.bo⟩) (.inl hfr) (ybH _) (.inl ⟨yaj _,yaR _⟩) (λi b' h=>by
   replace h:(if i=H.next then some (⟨b.ty,b.cells.drop d++cs,some e⟩:Blk) else if i=id then none else H.get i)=some b':=h;by_cases h1:i=H.next
   ·exact .inl h1
   ·rw[if_neg h1]at h;by_cases h2:i=id
    ·rw[if_pos h2]at h;cases h
    ·rw[if_neg h2]at h;exact .inr ⟨b',h⟩) g4 (by omega) g6 g7 g8 (.inr ⟨id,b,l,hb,hm.1,rfl⟩)
def ext_kill(id:Nat):Ext m Z H w m Z (H.set id none) w:=
 ⟨λ_ _ h=>h,yaj _,λ_ _=>rfl,λ_ h=>h,yaj _,rfl,rfl,rfl,λ_ _ _=>rfl,λi b l h hm=>by
  simp only[Heap.set]at h;split at h
  ·cases h
  ·exact .inr ⟨i,b,l,h,hm,rfl⟩,λ_ h=>.inl h⟩
def zl2{t u ty e:TypeId}{i:TypeInfo}{z:Value}{x v:V}{X Y:Value}{H':Heap}(q:List V×Nat)(xs:List Value)
  (h0:0<i.size) (hzs:z.cells.size=i.size) (hql:q.1.length=q.2*i.size) (hq1:∀v∈q.1,v.one=true) (hxr:Reps m Z w q.1 xs)
  (fits:∀{base:Option Addr} {sLen sCap:Nat} {w':World},sLen+q.2<=sCap->((∃a,base=some a/\(storeCells (a.add (sLen*i.size)) xs.toArray.toList).run P w = .ok () w')\/(base=none/\w'=w)) ->
   (Builtin.append_ #[t,u] ty #[.slice base sLen sCap,Y]).run P w = .ok (.slice base (sLen+q.2) sCap) w')
  (grows:∀{base:Option Addr} {sLen sCap:Nat} {olds:Array Value},(∀w',(∀c,w'.cell? c=w.cell? c)->(Builtin.firstCells i.size sLen (.slice base sLen sCap)).run P w' = .ok olds w')->sCap<sLen+q.2->sLen+q.2<=maxLen ->
   (sLen+q.2)*i.bytes<=140737488355328->(Builtin.append_ #[t,u] ty #[.slice base sLen sCap,Y]).run P w =
   .ok (.slice (some ⟨w.heap.size,0,none⟩) (sLen+q.2) (grownCap w (sLen+q.2) sCap e))
    (w.drew.alloc (.cells (olds++xs.toArray++Builtin.zeroCells z.cells (grownCap w (sLen+q.2) sCap e-(sLen+q.2))) e)))
  (h:mappendq e i.size i.bytes q x H=some (v,H')) (hx:Rep m Z w x X) (r:RelH m Z H w) (hfr:Free m H H') :
  ∃m' r' w',(Builtin.append_ #[t,u] ty #[X,Y]).run P w = .ok r' w'/\Rep m' Z w' v r'/\RelH m' Z H' w'/\Ext m Z H w m' Z H' w':=by
 simp only[mappendq]at h;have hxl:xs.length=q.2*i.size:=by rw[hxr.1,hql]
 cases x with
 | nils=>
  cases hx;dsimp only at h;split at h
  ·rename_i hz0;simp only[yab,yae]at h;obtain⟨rfl,rfl⟩:=h;refine⟨m,_,w,fits (by omega) (.inr ⟨rfl,rfl⟩),?_,r,.refl _ _ _ _⟩;rw[hz0];exact .nils
  ·rename_i hz0;split at h
   ·rename_i hb;simp only[yab,yae]at h;obtain⟨rfl,rfl⟩:=h;have hrun:=grows (base:=none) (sLen:=0) (sCap:=0) (olds:=#[]) (λw' _=>zmm _ _ _ _) (by omega) (by rw[ya6];exact hb.2) (by rw[ya6];exact hb.1);obtain⟨m',h1,h2,h3⟩:=zpu (e:=e) (i:=i) (z:=z) (need:=0+q.2) (old:=0) (olds:=[]) (news:=xs) (vs:=q.1) r (hfr _ (yaj _) (yaR _)) hzs h0 (by rw[ya6];exact hb.2) (by simpa using hxl) (by simpa using hxr) hq1;refine⟨m',_,_,hrun,?_,h2,h3⟩;have e1:V.sl H.next 0 (0+q.2) (.opn i.size)=V.sl H.next 0 q.2 (.opn i.size):=by rw[ya6]
    rw[<-e1];exact h1
   ·cases h
 | rs cells len=>
  dsimp only at h;split at h
  ·rename_i hz0;simp only[yab,yae]at h;obtain⟨rfl,rfl⟩:=h;obtain⟨b,o,ad,c,rfl,hlc,_⟩:=hx.inv_rs;have hnil:xs=[]:=yaz (by rw[hxl,hz0,ybw]);refine⟨m,_,w,fits (by omega) ?_,?_,r,.refl _ _ _ _⟩
   ·exact .inl ⟨ad,rfl,by rw[hnil];rfl⟩
   ·rw[hz0];exact hx
  ·cases h
 | sl id off len cap=>
  simp only[yaa]at h;obtain⟨b,hb,h⟩:=h;split at h
  ·rename_i hc;obtain⟨hle,hty⟩:=hc;obtain⟨l,ad,c,hm,rfl,hlc,ha,hcap⟩:=hx.inv_sl;obtain⟨cur,fz,hL⟩:=r.at_ hb hm;have hold:∃os:List Value,os.length=len*i.size/\Reps m Z w ((b.cells.drop off).take (len*i.size)) os/\(∀v∈(b.cells.drop off).take (len*i.size),v.one=true) /\
     ∀w',(∀c,w'.cell? c=w.cell? c)->(Builtin.firstCells i.size len (.slice (some ad) len c)).run P w' = .ok os.toArray w':=by
    have hrc:rcells i.size H (.sl id off len cap)=some ((b.cells.drop off).take (len*i.size),len):=by
     simp only[rcells,hb,Option.bind_some,if_pos hle]
    obtain⟨g1,g2,_,_,os,g3,g4⟩:=ziR (P:=P) hrc hx r;have hol:os.length=len*i.size:=by rw[g3.1,g1]
    refine⟨os,hol,g3,g2,λw' hw'=>?_⟩;have:=g4 len (yaj _) w' hw'
    rwa [show os.take (len*i.size)=os from by rw[<-hol];exact ya7]at this
   obtain⟨os,hol,hor,ho1,hof⟩:=hold;have hgrow:c<len+q.2->len+q.2<=maxLen->(len+q.2)*i.bytes<=140737488355328->∀H0:Heap,H0.next=H.next->m H.next=none->RelH m Z H0 w->Ext m Z H w m Z H0 w ->
     ∃m' r' w',(Builtin.append_ #[t,u] ty #[.slice (some ad) len c,Y]).run P w = .ok r' w'/\Rep m' Z w' (.sl H.next 0 (len+q.2) (.opn i.size)) r' /\
      RelH m' Z (H0.new ⟨e,(b.cells.drop off).take (len*i.size)++q.1,some i.size⟩) w'/\Ext m Z H w m' Z (H0.new ⟨e,(b.cells.drop off).take (len*i.size)++q.1,some i.size⟩) w':=by
    intro hlt h63 hby H0 hnx hm0 r0 e0;have hrun:=grows hof hlt h63 hby;obtain⟨m',h1,h2,h3⟩:=zpu (e:=e) (i:=i) (z:=z) (need:=len+q.2) (old:=c) (olds:=os) (news:=xs) (vs:=(b.cells.drop off).take (len*i.size)++q.1) r0 (by rw[hnx];exact hm0) hzs h0 h63
     (by rw[yah,hol,hxl,ybm]) (zkQ hor hxr) (λv hv=>by
      rcases yaZ.1 hv with hv|hv
      ·exact ho1 v hv
      ·exact hq1 v hv)
    rw[hnx]at h1;exact⟨m',_,_,hrun,h1,h2,e0.trans h3⟩
   cases cap with
   | fix c'=>
    have hcc:c'=c:=by
     rcases hcap with hcap|⟨hcap,_⟩
     ·injection hcap
     ·cases hcap
    subst hcc;dsimp only at h;split at h
    ·rename_i hfit;split at h
     ·rename_i hroom;simp only[yab,yae]at h;obtain⟨rfl,rfl⟩:=h;by_cases hc0:c'=0
      ·-- nothing is there,nothing comes
       have hz0:q.2=0:=by omega
       have hl0:len=0:=by omega
       have hnil:xs=[]:=yaz (by rw[hxl,hz0,ybw]);have hqnil:q.1=[]:=yaz (by rw[hql,hz0,ybw]);have hsame:H.set id (some { b with cells:=splice b.cells (off+len*i.size) q.1 })=H:=by
        have:splice b.cells (off+len*i.size) q.1=b.cells:=by rw[hqnil];simp[splice]
        rw[this];have hget:(λi=>if i=id then some b else H.get i)=H.get:=by
         funext j;by_cases hj:j=id
         ·rw[if_pos hj,hj,hb]
         ·rw[if_neg hj]
        show({ get:=λi=>if i=id then some b else H.get i,next:=H.next }:Heap)=H;rw[hget]
       rw[hsame];refine⟨m,_,w,fits hfit (.inl ⟨ad,rfl,by rw[hnil];rfl⟩),?_,r,.refl _ _ _ _⟩;rw[hz0];exact hx
      ·rcases ha with ha|rfl
       ·exact(hc0 ha).elim
       ·obtain⟨w',hst,hr',he'⟩:=zfz (P:=P) (o:=off+len*i.size) r hb hm hxr hq1 (by rw[hql];rw[ybm]at hroom;omega);refine⟨m,_,w',fits hfit (.inl ⟨_,rfl,by rw[zcM,ybd];exact hst⟩),.slc hm hfit (.inr rfl),hr',he'⟩
     ·cases h
    ·rename_i hfit;split at h
     ·rename_i hby;simp only[yab,yae]at h;obtain⟨rfl,rfl⟩:=h;exact hgrow (by omega) hby.2 hby.1 H rfl (hfr _ (yaj _) (yaR _)) r (.refl _ _ _ _)
     ·cases h
   | opn e'=>
    obtain⟨rfl,j,hj,hjc⟩:e'=l.esz/\∃j,off=j*l.esz/\j+c=l.cap:=by
     rcases hcap with hcap|⟨hcap,h⟩
     ·cases hcap
     ·injection hcap with hcap
      exact⟨hcap,h⟩
    dsimp only at h;split at h
    ·rename_i hop;obtain⟨he,hopn,hlen⟩:=hop;split at h
     ·rename_i hz0;simp only[yab,yae]at h;obtain⟨rfl,rfl⟩:=h;have hnil:xs=[]:=yaz (by rw[hxl,hz0,ybw]);refine⟨m,_,w,fits (by omega) (.inl ⟨ad,rfl,by rw[hnil];rfl⟩),?_,r,.refl _ _ _ _⟩;rw[hz0];exact hx
     ·rename_i hz0;split at h
      ·rename_i hby;simp only[yab,yae]at h;obtain⟨rfl,rfl⟩:=h;have htake:(b.cells.drop off).take (len*i.size)=b.cells.drop off:=yam (by rw[yat];omega);by_cases hfit:len+q.2<=c
       ·rcases ha with ha|rfl
        ·omega
        ·have hroom:b.cells.length+q.1.length<=l.cap*i.size:=by
          have h1:(j+(len+q.2))*i.size<=l.cap*i.size:=ybg _ (by omega);rw[ybm,ybm]at h1;rw[hlen,hql,hj,he];omega
         obtain⟨w',hst,hr',he'⟩:=zs7 (P:=P) (e:=i.size) (d:=off) (j0:=j) r (hfr _ (yaj _) (yaR _)) hb hm hxr hq1 hopn (by rw[hj,he]) (by omega) hroom;rw[hty]at hr' he';refine⟨_,_,w',fits hfit (.inl ⟨_,rfl,by rw[zcM,show off+l.bo+len*i.size=b.cells.length+l.bo by omega];exact hst⟩),?_,hr',he'⟩;rw[<-he];exact .slo (l:=⟨l.blk,l.cap-j,l.esz,l.mp,off+l.bo⟩) (i:=0) ⟨if_pos rfl,hm.2⟩ (by simp) (by dsimp only;omega) hfit (.inr (by dsimp only;rw[ya6]))
       ·have:=hgrow (by omega) hby.2 hby.1 (H.set id none) rfl (hfr _ (yaj _) (yaR _)) (zo7 r id) (ext_kill id)
        rwa [htake]at this
      ·cases h
    ·split at h
     ·rename_i hz0;simp only[yab,yae]at h;obtain⟨rfl,rfl⟩:=h;have hnil:xs=[]:=yaz (by rw[hxl,hz0.2,ybw]);refine⟨m,_,w,fits (by omega) (.inl ⟨ad,rfl,by rw[hnil];rfl⟩),?_,r,.refl _ _ _ _⟩;rw[hz0.2];exact hx
     ·rename_i hz0;split at h
      ·rename_i hroom;obtain⟨he,hopn,hroom⟩:=hroom;simp only[yab,yae]at h;obtain⟨rfl,rfl⟩:=h;obtain⟨ho1',ho2,ho3,ho4⟩:=hL.opn _ hopn;have hlen:=hL.len;have hfit:len+q.2<=c:=by
        have h1:(j+(len+q.2))*i.size<=l.cap*i.size:=by
         rw[ybm,<-he,<-hj,he];omega
        have:=ycb h1 h0;omega
       have hq0:q.2≠0:=λe=>hz0 ⟨he,e⟩;rcases ha with ha|rfl
       ·omega
       ·obtain⟨w',hst,hr',he'⟩:=zfz (P:=P) (o:=off+len*i.size) r hb hm hxr hq1 (by rw[hql];rw[ybm]at hroom;omega);exact⟨m,_,w',fits hfit (.inl ⟨_,rfl,by rw[zcM,ybd];exact hst⟩),.slo hm hj hjc hfit (.inr rfl),hr',he'⟩
      ·cases h
  ·cases h
 | _=>cases h
def ztn{t u ty e:TypeId}{i:TypeInfo}{z:Value}{x y v:V}{X Y:Value}{H':Heap} (ht:P.underlying t=some (.slice e)) (hu:AppTy P u) (hi:P.info? e=some i) (hz:i.zero=some z)
  (h0:0<i.size) (hzs:z.cells.size=i.size) (h:mappend e i.size i.bytes x y H=some (v,H')) (hx:Rep m Z w x X) (hy:Rep m Z w y Y) (r:RelH m Z H w) (hfr:Free m H H') :
  ∃m' r' w',(Builtin.append_ #[t,u] ty #[X,Y]).run P w = .ok r' w'/\Rep m' Z w' v r'/\RelH m' Z H' w'/\Ext m Z H w m' Z H' w':=by
 simp only[mappend,yaa]at h;obtain⟨q,hq,h⟩:=h;obtain⟨hql,hq1,hqn,xs,hxr,hfc⟩:=zni (P:=P) hq hy r;have hxl:xs.length=q.2*i.size:=by rw[hxr.1,hql]
 have hfull:xs.take (q.2*i.size)=xs:=by rw[<-hxl];exact ya7
 have hfull':∀w',(∀c,w'.cell? c=w.cell? c)->(Builtin.firstCells i.size q.2 Y).run P w' = .ok xs.toArray w':=λw' hw'=>by
  have:=hfc q.2 (yaj _) w' hw'
  rwa [hfull]at this
 exact zl2 q xs h0 hzs hql hq1 hxr (λhle hst=>zrp ht hu hi hqn (hfull' w λ_=>rfl) hle hst) (λho hlt h63 hb=>zqf ht hu hi hz hqn hfull' ho hlt h63 hb) h hx r hfr
def copy_run{t u ty e:TypeId}{s:Nat}{x y v:V}{X Y:Value}{H':Heap} (ht:P.underlying t=some (.slice e)) (hs:szOf P e=some s)
  (h:mcopy s x y H=some (v,H')) (hx:Rep m Z w x X) (hy:Rep m Z w y Y) (r:RelH m Z H w) :
  ∃r' w',(Builtin.copy_ #[t,u] ty #[X,Y]).run P w = .ok r' w'/\Rep m Z w' v r'/\RelH m Z H' w'/\Ext m Z H w m Z H' w':=by
 simp only[mcopy,yaa]at h;obtain⟨q,hq,h⟩:=h;obtain⟨hql,hq1,hqn,xs,hxr,hfc⟩:=zni (P:=P) hq hy r;have hsz:=(za4 (w:=w) hs).1;have hrun:∀(base:Option Addr) (dLen dCap:Nat) (w':World),((∃a,base=some a/\(storeCells a (xs.take (min q.2 dLen*s))).run P w = .ok () w')\/(base=none/\w'=w)) ->
   (Builtin.copy_ #[t,u] ty #[.slice base dLen dCap,Y]).run P w = .ok (.int .i64 ((min q.2 dLen:Nat):Int)) w':=by
  intro base dLen dCap w' hst;have hf:=hfc (min q.2 dLen) (Nat.min_le_left _ _) w (λ_=>rfl);have hmin:Nat.min q.2 dLen=min q.2 dLen:=rfl;rcases hst with⟨a,rfl,hst⟩|⟨rfl,rfl⟩ <;>
   simp[Builtin.copy_,run_underlying ht,goInt, *]
 cases x with
 | nils=>
  simp only[yab,yae]at h;obtain⟨rfl,rfl⟩:=h;cases hx;have:=hrun none 0 0 w (.inr ⟨rfl,rfl⟩);rw[Nat.min_zero]at this;exact⟨_,w,this,.int _ _,r,.refl _ _ _ _⟩
 | sl id off len cap=>
  simp only[yaa]at h;obtain⟨b,hb,h⟩:=h;split at h
  ·rename_i hle;simp only[yab,yae]at h;obtain⟨rfl,rfl⟩:=h;obtain⟨l,ad,c,hm,rfl,hlc,ha,_⟩:=hx.inv_sl;have hk:min q.2 len*s<=len*s:=ybg _ (Nat.min_le_right _ _);have hk2:min q.2 len*s<=q.2*s:=ybg _ (Nat.min_le_left _ _);obtain⟨w',hst,hr',he'⟩:=zfz (P:=P) (o:=off) r hb hm (zuf hxr (min q.2 len*s)) (λv hv=>hq1 v (yb3 hv)) (by simp;omega);rcases ha with ha|rfl
   ·have hl0:min q.2 len=0:=by omega
    rw[hl0,ybw,ya4]at hst;have hw:w'=w:=by
     have:(storeCells ⟨l.blk,off+l.bo,none⟩ ([]:List Value)).run P w = .ok () w:=rfl;rw[this]at hst;injection hst with _ hst
     exact hst.symm
    subst hw;exact⟨_,w',hrun (some ad) len c w' (.inl ⟨ad,rfl,by rw[hl0,ybw,ya4];rfl⟩),.int _ _,hr',he'⟩
   ·exact⟨_,w',hrun _ len c w' (.inl ⟨_,rfl,hst⟩),.int _ _,hr',he'⟩
  ·cases h
 | _=>cases h
def zqi:∀{cs:List V} {l:List UInt8} {xs:List Value},zfA cs=some l->Reps m Z w cs xs->∃ns:List Int,xs=ns.map (Value.int .u8)/\l=ns.map λn=>UInt8.ofNat n.toNat:=by
 intro cs
 induction cs with
 | nil=>
  intro l xs h hr;simp only[zfA,yab]at h;subst h;exact⟨[],by simpa using yaz hr.1,rfl⟩
 | cons c cs ih=>
  intro l xs h hr;cases xs with
  | nil=>have:=hr.1;simp at this
  | cons x xs=>
   have hx:=hr.2 0 c x rfl rfl;have hrest:Reps m Z w cs xs:=⟨by have:=hr.1;simpa using this,λj v x hv hx=>hr.2 (j+1) v x (by simpa using hv) (by simpa using hx)⟩;unfold zfA at h;split at h
   ·rename_i heq;cases heq
   ·rename_i n cs' heq;injection heq with h1 h2
    subst h1;subst h2;simp only[yac]at h;obtain⟨l',hl',rfl⟩:=h;obtain⟨ns,rfl,rfl⟩:=ih hl' hrest;cases hx;exact⟨n::ns,rfl,rfl⟩
   ·cases h
def zli(ns:List Int):∀s:ByteArray,ns.foldl (λr n=>r.push (UInt8.ofNat n.toNat)) s=⟨(s.data.toList++ns.map λn=>UInt8.ofNat n.toNat).toArray⟩:=by
 induction ns with
 | nil=>intro s;obtain⟨⟨l⟩⟩:=s;simp
 | cons n ns ih=>
  intro s;rw[yct,ih];congr 1;simp[ByteArray.push]
def zqO{α:Type}(a:Array α)(x:α)(f:α->α):(a.push x).modify a.size f=a.push (f x):=by
 apply Array.ext
 ·simp
 ·intro i h1 h2;simp only[Array.getElem_modify,Array.getElem_push];by_cases hi:i=a.size
  ·subst hi;simp
  ·have:i<a.size:=by simp at h2;omega
   simp only[this,dif_pos];rw[if_neg (λh=>hi h.symm)]
def zgZ{src dst e:TypeId}{x v:V}{X:Value}{H':Heap} (hsrc:P.underlying src=some .string\/∃f,P.underlying src=some (.slice f)) (hdst:P.underlying dst=some (.slice e)) (he:P.underlying e=some (.int .u8))
  (h:mtobytes e x H=some (v,H')) (hx:Rep m Z w x X) (r:RelH m Z H w) (hfr:Free m H H'):∃m' y w',(convert src dst X).run P w = .ok y w'/\Rep m' Z w' v y/\RelH m' Z H' w'/\Ext m Z H w m' Z H' w':=by
 unfold mtobytes at h;split at h
 ·rename_i s;split at h
  ·rename_i hs;simp only[yab,yae]at h;obtain⟨rfl,rfl⟩:=h;cases hx;have hge:=grownCap_ge w s.size 0 e;have hlm:=grownCap_le_maxLen w s.size 0 e hs;have hrun:(convert src dst (.string s)).run P w = .ok (.slice (some ⟨w.heap.size,0,none⟩) s.size (grownCap w s.size 0 e))
     (w.drew.alloc (.cells ((s.data.map λb:UInt8=>Value.int .u8 b.toNat)++Array.replicate (grownCap w s.size 0 e-s.size) (Value.int .u8 0)) e (grownCap w s.size 0 e,grownCap w s.size 0 e+1))):=by
    have hsz:s.size+(grownCap w s.size 0 e-s.size)=grownCap w s.size 0 e:=by omega
    have hsz':s.data.size+(grownCap w s.size 0 e-s.size)=grownCap w s.size 0 e:=hsz;have hconv:(convert src dst (.string s)).run P w=(Conv.stringToBytes e s).run P w:=by
     rcases hsrc with hsrc|⟨f,hsrc⟩<;>simp only[convert,Sem.run_bind,run_underlying hsrc,run_underlying hdst,run_underlying he,Result.andThen_ok]
    rw[hconv];simp only[Conv.stringToBytes,Sem.run_bind];have h1:(choose (.appendCap s.size 0 e)).run P w = .ok (grownCap w s.size 0 e) w.drew:=by simp[Question.forced,grownCap]
    have h2:∀(cells:Array Value) (w':World),(newRow e cells).run P w' = .ok ⟨w'.heap.size,0,none⟩ (w'.alloc (.cells cells e)):=λcells w'=>by simp[newRow]
    have h3:∀(cells:Array Value) (w':World),(markStringish ⟨w'.heap.size,0,none⟩).run P (w'.alloc (.cells cells e)) = .ok () (w'.alloc (.cells cells e (cells.size,cells.size+1))):=λcells w'=>by
     have hsh:(w'.alloc (.cells cells e)).shape? w'.heap.size=some (e,cells.size):=by unfold World.shape?;rw[zfa]
     have hfz:(w'.alloc (.cells cells e)).freeze ⟨w'.heap.size,cells.size,none⟩ 1=w'.alloc (.cells cells e (cells.size,cells.size+1)):=by
      unfold World.freeze;rw[if_neg (by omega)];have:=zqO w'.heap (.cells cells e) fun
       | .cells c elem (lo,hi)=>.cells c elem (if lo==hi then (cells.size,cells.size+1) else (min lo cells.size,max hi (cells.size+1)))
       | o=>o
      exact congrArg (λh=>({ w' with heap:=h }:World)) this
     simp only[markStringish,Sem.run_bind,run_shape,hsh,Result.andThen_ok,run_freeze,hfz]
    simp only[h1,h2,h3,Result.andThen_ok,Sem.run_pure];have:((s.data.map λb:UInt8=>Value.int .u8 b.toNat)++Array.replicate (grownCap w s.size 0 e-s.size) (Value.int .u8 0)).size=grownCap w s.size 0 e:=by simp;exact hsz'
    rw[this];rfl
   generalize grownCap w s.size 0 e=c at hge hlm hrun;have hfn:m H.next=none:=hfr _ (yaj _) (yaR _);have hcs:((s.data.map λb:UInt8=>Value.int .u8 b.toNat)++Array.replicate (c-s.size) (Value.int .u8 0)).size=c:=by
    have:s.data.size=s.size:=rfl;simp[this];omega
   have hl:(strCells s).length=s.size:=by simp only[strCells,yai];rfl
   have hn:=zgc (b:=⟨e,strCells s,some 1⟩) (cur:=(s.data.map λb:UInt8=>Value.int .u8 b.toNat)++Array.replicate (c-s.size) (Value.int .u8 0)) (fz:=(c,c+1)) (l:=⟨w.heap.size,c,1,false,0⟩) r.drew hfn rfl
    (λj hj=>by rw[hcs]at hj;dsimp only;omega) (by rw[hcs];dsimp only;omega)
    (λe' he'=>by injection he' with he';subst he';exact⟨rfl,Nat.one_pos,by rw[hcs,ybc];rfl,by simp only[maxLen]at hlm;dsimp only;omega⟩)
    (λv hv=>by simp only[strCells,ybp]at hv;obtain⟨b,_,rfl⟩:=hv;rfl)
    (λj v x hv hx=>by
     have hj:j<s.size:=by rw[<-hl];exact(yax.1 hv).1
     have hjs:j<s.data.size:=hj;replace hx:((s.data.map λb:UInt8=>Value.int .u8 b.toNat)++Array.replicate (c-s.size) (Value.int .u8 0))[j]?=some x:=hx;simp only[strCells,yaT,ydj,yac]at hv;obtain⟨b,hb,rfl⟩:=hv;rw[Array.getElem?_append_left (by simpa using hjs),ycJ,hb]at hx;simp only[yas,yab]at hx;subst hx;exact .int _ _)
   exact⟨_,_,_,hrun,.slo (l:=⟨w.heap.size,c,1,false,0⟩) (i:=0) ⟨if_pos rfl,rfl⟩ (by simp) (by simp) hge (.inr rfl),hn.1,(Ext.drew m Z H w).trans hn.2⟩
  ·cases h
 ·cases h
def zsB{t e:TypeId}{x v:V}{X:Value}{H':Heap} (hs:P.underlying t=some (.slice e)) (he:P.underlying e=some (.int .u8))
  (h:mremark e x H=some (v,H')) (hx:Rep m Z w x X) (r:RelH m Z H w) (hfr:Free m H H'):∃m' y w',(convert t t X).run P w = .ok y w'/\Rep m' Z w' v y/\RelH m' Z H' w'/\Ext m Z H w m' Z H' w':=by
 unfold mremark at h;split at h
 ·exact zgZ (.inr ⟨e,hs⟩) hs he h hx r hfr
 ·rename_i id off len cap;simp only[yaa]at h;obtain⟨b,hb,h⟩:=h;split at h
  ·cases h
  ·rename_i hl0;simp only[yab,yae]at h;obtain⟨rfl,rfl⟩:=h;have hx0:=hx;obtain⟨l,ad,c,hm,rfl,hlc,ha,_⟩:=hx.inv_sl;rcases ha with ha|rfl
   ·omega
   obtain⟨cur,fz,hL⟩:=r.at_ hb hm;have hsh:w.shape? l.blk=some (b.ty,cur.size):=by unfold World.shape?;rw[hL.heap]
   have hrun:(convert t t (.slice (some ⟨l.blk,off+l.bo,none⟩) len c)).run P w = .ok (.slice (some ⟨l.blk,off+l.bo,none⟩) len c) (w.freeze ⟨l.blk,cur.size,none⟩ 1):=by
    simp only[convert,Sem.run_bind,run_underlying hs,run_underlying he,Result.andThen_ok,beq_self_eq_true,markStringish,run_shape,hsh,run_freeze,Sem.run_pure]
   generalize hw':w.freeze ⟨l.blk,cur.size,none⟩ 1=w' at hrun;obtain⟨fz',hfz',hg1⟩:∃fz':Nat×Nat,(∀j,j<cur.size->¬(fz'.1<=j/\(j<fz'.2\/fz'.1≠fz'.2)))/\w'.heap[l.blk]?=some (.cells cur b.ty fz'):=by
    obtain⟨lo,hi⟩:=fz;have hfree:=hL.free;refine⟨if lo==hi then (cur.size,cur.size+1) else (min lo cur.size,max hi (cur.size+1)),λj hj=>?_,?_⟩
    ·by_cases e0:lo=hi
     ·rw[if_pos (by simpa using e0)];dsimp only;omega
     ·rw[if_neg (by simpa using e0)];have h0:=hfree 0;have hlo:cur.size<=lo:=by
       rcases ybG lo cur.size with h|h
       ·exact absurd ⟨yaj _,.inr e0⟩ (hfree lo h)
       ·exact h
      dsimp only;omega
    ·rw[<-hw'];unfold World.freeze;rw[if_neg (by omega)];simp[ybX,hL.heap]
   have hne:∀k,k≠l.blk->w'.heap[k]?=w.heap[k]?:=λk hk=>by
    rw[<-hw'];unfold World.freeze;rw[if_neg (by omega)];simp only[ybX];rw[if_neg (by simpa using ybV hk)]
   have hsz:w'.heap.size=w.heap.size:=by
    rw[<-hw'];unfold World.freeze;rw[if_neg (by omega)];simp
   have hos:w'.os=w.os/\w'.tape=w.tape/\w'.output=w.output:=by
    rw[<-hw'];unfold World.freeze;rw[if_neg (by omega)];exact⟨rfl,rfl,rfl⟩
   have hlt:id<H.next:=by
    rcases ybG id H.next with h|h
    ·exact h
    ·rw[r.dead id h]at hb;cases hb
   have hr':RelH m Z H w':=by
    have:=zhJ (id:=id) (l:=l) (b:=b) (cur:=cur) (fz:=fz') (H':=H) (w':=w') r (λi=>by
     by_cases hi:i=id
     ·rw[if_pos hi,hi,hb]
     ·rw[if_neg hi]) (yaj _) hlt (.inr hm.1) hne (by omega) hL.out (λi b' l' hb' hm' e=>r.inj i id b' b l' l hb' hb hm' hm.1 e) hg1 hfz' hL.len hL.opn hL.one hL.reps
    rwa [zeh hm.1]at this
   have he':Ext m Z H w m Z H w':=by
    have:=zhu (m:=m) (Z:=Z) (H:=H) (w:=w) (id:=id) (l:=l) (H':=H) (w':=w') (.inr hm.1) (yaj _) (.inr hm.1) (λi b' h=>.inr ⟨b',h⟩) hne (by omega) hos.1 hos.2.1 hos.2.2 (.inr ⟨id,b,l,hb,hm.1,rfl⟩)
    rwa [zeh hm.1]at this
   refine⟨m,_,w',hrun,?_,hr',he'⟩;cases hx0 with
   | slc h1 h2 h3=>exact .slc h1 h2 h3
   | slo h1 h2 h3 h4 h5=>exact .slo h1 h2 h3 h4 h5
 ·cases h
def ztI{src dst e:TypeId}{x v:V}{X:Value}{H':Heap} (hsrc:P.underlying src=some (.slice e)) (hdst:P.underlying dst=some .string) (he:P.underlying e=some (.int .u8))
  (h:mtostr x H=some (v,H')) (hx:Rep m Z w x X) (r:RelH m Z H w):H'=H/\∃y,(convert src dst X).run P w = .ok y w/\Rep m Z w v y:=by
 simp only[mtostr,yaa,yac,yae]at h;obtain⟨q,hq,l,hl,rfl,rfl⟩:=h;obtain⟨hql,hq1,hqn,⟨ad,c,rfl⟩,xs,hxr,hfc⟩:=ziR (P:=P) hq hx r;obtain⟨ns,rfl,rfl⟩:=zqi hl hxr;have hxl:(ns.map (Value.int .u8)).length=q.2*1:=by rw[hxr.1,hql]
 refine⟨rfl,.string ⟨(ns.map λn=>UInt8.ofNat n.toNat).toArray⟩,?_,.str _⟩;have hcv:(convert src dst (.slice ad q.2 c)).run P w=(Conv.bytesToString (.slice ad q.2 c)).run P w:=by
  simp[convert,run_underlying hsrc,run_underlying hdst,run_underlying he]
 rw[hcv];cases ad with
 | none=>
  have hf:=hfc q.2 (yaj _) w λ_=>rfl;have h0:ns=[]:=by
   simp only[Builtin.firstCells,Sem.run_pure]at hf;injection hf with hf
   have:=congrArg Array.size hf;simp only[List.size_toArray,yan,hxl,Nat.min_self]at this;rw[yai]at hxl;exact yaz (by rw[hxl,<-this];rfl)
  subst h0;rfl
 | some ad=>
  have hf:=hfc q.2 (yaj _) w λ_=>rfl;rw[<-hxl,ya7]at hf;simp only[Builtin.firstCells,ybc]at hf;rw[run_bytesToString w ad q.2 c ns hf,zli];rfl
def zro{t u ty e:TypeId}{k:IntKind}{i:TypeInfo}{z:List V}{x y v:V}{X Y:Value}{H':Heap} (ht:P.underlying t=some (.slice e)) (hu:P.underlying u=some (.int k)) (hi:P.info? e=some i) (hz:zeroOf P e=some z)
  (hzl:z.length=i.size) (h0:0<i.size) (h:mappendz e i.bytes z x y H=some (v,H')) (hx:Rep m Z w x X) (hy:Rep m Z w y Y) (r:RelH m Z H w) (hfr:Free m H H') :
  ∃m' r' w',(Builtin.append_ #[t,u] ty #[X,Y]).run P w = .ok r' w'/\Rep m' Z w' v r'/\RelH m' Z H' w'/\Ext m Z H w m' Z H' w':=by
 obtain⟨zv,hzr,hzc,hzs⟩:=zcE hz;have hcs:zv.cells.size=z.length:=by have:=(zcf hzc).1;simpa using this
 have hiz:i.zero=some zv:=by
  simp only[zeroOf,hi,Option.bind_some,yaa]at hz;obtain⟨zz,hzz,_⟩:=hz;have h1:(zeroValue e).run P w = .ok zz w:=by simp[zeroValue,typeInfo,hi,hzz]
  have h2:(zeroValue e).run P w = .ok zv w:=hzr w;rw[h1]at h2;injection h2 with h2 _
  rw[hzz,h2]
 unfold mappendz at h;split at h
 ·rename_i kk l;cases hy;split at h
  ·rename_i hb;rw[hzl]at h;generalize hn:(IntKind.i64.wrap l).toNat=n at h;have hln:IntKind.i64.wrap l=(n:Int):=by omega
   have hrow:Builtin.zeroCells zv.cells n=(Array.range (n*z.length)).map (zv.cells[· % zv.cells.size]!):=by rw[<-hcs];rfl
   obtain⟨hr1,hr2,hr3⟩:=ze4 (m:=m) (Z:=Z) (w:=w) hzc n;have hneg:¬((n:Int)<0):=by omega
   have h48:¬((281474976710656:Int)<(n:Int)*(i.bytes:Int)):=by have:=hb.2;rw[hln]at this;omega
   have hxr:Reps m Z w (zeros z n) (Builtin.zeroCells zv.cells n).toList:=⟨by rw[hrow];simpa using hr1,λj a b ha hb'=>hr3 j a b ha (by rw[<-hrow];simpa using hb')⟩;have hz00:n*i.size=0->Builtin.zeroCells zv.cells n = #[]:=λhz0=>by
     have:n=0:=by
      rcases ycF n with h|h
      ·exact h
      ·have:=Nat.mul_pos h h0;omega
     subst this;simp[Builtin.zeroCells]
   refine zl2 (t:=t) (u:=u) (ty:=ty) (e:=e) (i:=i) (z:=zv) (Y:=.int kk l) (zeros z n,n) (Builtin.zeroCells zv.cells n).toList h0 (by rw[hcs,hzl]) (by rw[zeros_length,hzl]) hr2 hxr (λ{base sLen sCap w'} hle hst=>?_) (λ{base sLen sCap olds} ho hlt h63 hby=>?_) h hx r hfr
   ·rcases hst with⟨a,rfl,hst⟩|⟨rfl,rfl⟩
    ·simp[Builtin.append_,run_underlying ht,run_underlying hu,sizeOf,typeInfo,asInt,asIntOf,hi,hln,hneg,h48,hle];split
     ·rename_i hz0;have hst':(storeCells (a.add (sLen*i.size)) []).run P w = .ok () w':=by simpa [hz00 hz0]using hst
      simp[hst']
     ·have hst':(storeCells (a.add (sLen*i.size)) (Builtin.zeroCells zv.cells n).toList).run P w = .ok () w':=by simpa using hst
      simp[hzr w,hst']
    ·simp[Builtin.append_,run_underlying ht,run_underlying hu,sizeOf,typeInfo,asInt,asIntOf,hi,hln,hneg,h48,hle];intro _;simp[hzr]
   ·have hn':¬(sLen+n<=sCap):=by omega
    have hb':=growslice_fits (need:=sLen+n) (old:=sCap) (bytes:=i.bytes) hlt hby;have h48':¬(281474976710656<Builtin.nextslicecap (sLen+n) sCap*i.bytes):=by omega
    have h63':¬(9223372036854775807<((sLen:Int)+(n:Int))):=by simp only[maxLen]at h63;omega
    have ho':=ho w.drew (λ_=>rfl);simp[Builtin.append_,run_underlying ht,run_underlying hu,sizeOf,typeInfo,asInt,asIntOf,hi,hiz,hln,hneg,h48,hn',h48',h63',Question.forced,newRow,grownCap,zeroValue,ho'];intro hz0;rw[hz00 hz0];simp
  ·cases h
 ·cases h
def zsn{t e:TypeId}{esz:Nat}{x lo hi v:V}{X LO HI:Value}{H':Heap} (ht:P.underlying t=some (.slice e)) (hs:szOf P e=some esz) (h0:0<esz)
  (h:mslice2 esz x lo hi H=some (v,H')) (hx:Rep m Z w x X) (hlo:Rep m Z w lo LO) (hhi:Rep m Z w hi HI) (r:RelH m Z H w) :
  H'=H/\∃r',(Instr.sliceAt t X (some LO) (some HI) none).run P w = .ok r' w/\Rep m Z w v r':=by
 unfold mslice2 at h;split at h
 ·rename_i id off len e' kl l kh hh;simp only[yaa]at h;obtain⟨b,hb,h⟩:=h;split at h
  ·rename_i hc;obtain⟨he,hopn,h1,h2,h3⟩:=hc;simp only[yab,yae]at h;obtain⟨rfl,rfl⟩:=h;cases hlo;cases hhi;refine⟨rfl,?_⟩;obtain⟨lc,a,c,hm,rfl,hlc,ha,hcap⟩:=hx.inv_sl;obtain⟨cur,fz,hL⟩:=r.at_ hb hm;obtain⟨rfl,i,hi,hic⟩:e'=lc.esz/\∃i,off=i*lc.esz/\i+c=lc.cap:=by
    rcases hcap with hcap|⟨hcap,h⟩
    ·cases hcap
    ·injection hcap with hcap
     exact⟨hcap,h⟩
   obtain⟨_,_,ho3,_⟩:=hL.opn _ hopn;have hlen:=hL.len;have hfit:hh.toNat<=c:=by
    have h4:(i+hh.toNat)*esz<=lc.cap*esz:=by
     rw[ybm,<-he,<-hi,he];omega
    have:=ycb h4 h0;omega
   have hb:=zcR (P:=P) (w:=w) (isSlice:=true) (len:=len) (cap:=c) (l:=some l) (h:=some hh) (mm:=none) (.inr ⟨_,kl,rfl,rfl⟩) (.inr ⟨_,kh,rfl,rfl⟩) (.inl ⟨rfl,rfl⟩) (by simp) (by simpa using h1) (by simpa using h2) (by simp only[yaB,yaQ];omega) (by simp);refine⟨_,zcj ht hs hb,?_⟩;simp only[yaB,yaQ,yav];have hoff:off+l.toNat*esz=(i+l.toNat)*lc.esz:=by rw[hi,he,ybm]
   by_cases hz:c=l.toNat
   ·rw[if_pos hz];exact .slo hm hoff (by omega) (by omega) (.inl (by omega))
   ·rw[if_neg hz];rcases ha with ha|rfl
    ·omega
    ·simp only[yas,zcM];exact .slo hm hoff (by omega) (by omega) (.inr (by rw[ybd]))
  ·cases h
 ·cases h
def zvy{t ty e:TypeId}{z:List V}{x v:V}{X:Value}{H':Heap} (ht:P.underlying t=some (.slice e)) (hz:zeroOf P e=some z) (hzl:0<z.length)
  (h:mclear z x H=some (v,H')) (hx:Rep m Z w x X) (r:RelH m Z H w) :
  ∃r' w',(Builtin.clear_ #[t] ty #[X]).run P w = .ok r' w'/\Rep m Z w' v r'/\RelH m Z H' w'/\Ext m Z H w m Z H' w':=by
 have hun:Rep m Z w .undef (.tuple #[]):=.tup rfl λj v x hv _=>by cases hv
 have hun':∀w',Rep m Z w' .undef (.tuple #[]):=λw'=>.tup rfl λj v x hv _=>by cases hv
 unfold mclear at h;split at h
 ·rename_i id off len cap;obtain⟨l,ad,c,hm,rfl,hlc,ha,_⟩:=hx.inv_sl;split at h
  ·rename_i hl0;simp only[yab,yae]at h;obtain⟨rfl,rfl⟩:=h;subst hl0;exact⟨_,w,by simp[Builtin.clear_,run_underlying ht],hun,r,.refl _ _ _ _⟩
  ·rename_i hl0;simp only[yaa]at h;obtain⟨b,hb,h⟩:=h;split at h
   ·rename_i hle;simp only[yab,yae]at h;obtain⟨rfl,rfl⟩:=h;obtain⟨zv,hzr,hzc,hzs⟩:=zcE hz;have hcs:zv.cells.size=z.length:=by have:=(zcf hzc).1;simpa using this
    have hrow:Builtin.zeroCells zv.cells len=(Array.range (len*z.length)).map (zv.cells[· % zv.cells.size]!):=by rw[<-hcs];rfl
    obtain⟨hr1,hr2,hr3⟩:=ze4 (m:=m) (Z:=Z) (w:=w) hzc len;have hxr:Reps m Z w (zeros z len) (Builtin.zeroCells zv.cells len).toList:=⟨by rw[hrow];simpa using hr1,λj a b ha hb'=>hr3 j a b ha (by rw[<-hrow];simpa using hb')⟩;rcases ha with ha|rfl
    ·omega
    ·obtain⟨w',hst,hr',he'⟩:=zfz (P:=P) (o:=off) r hb hm hxr hr2 (by rw[zeros_length];exact hle);refine⟨_,w',?_,hun' w',hr',he'⟩;obtain⟨n,rfl⟩:∃n,len=n+1:=⟨len-1,by omega⟩;simp[Builtin.clear_,run_underlying ht,hzr w,hst]
   ·cases h
 ·cases h
def itof_run{src dst:TypeId}{k k0:_}{x v:V}{X:Value} (hs:P.underlying src=some (.int k0)) (hd:P.underlying dst=some (.float k)) (h:op1 (.itof k) x=some v) (hx:Rep m Z w x X) :
  ∃r,(convert src dst X).run P w = .ok r w/\Rep m Z w v r:=by
 unfold op1 at h;split at h<;>first|cases h;done|skip
 all_goals (rename_i hh;first|cases hh;done|skip)
 injection h with h
 subst h;cases hx;rename_i hh;injection hh with hh
 subst hh;exact⟨_,by simp[convert,run_underlying hs,run_underlying hd,Conv.intToFloat],.lit _⟩
def s2a_run{t e:TypeId}{n:Nat}{x v:V}{X:Value} (ht:P.underlying t=some (.array n e)) (h:op1 (.s2a n) x=some v) (hx:Rep m Z w x X) :
  ∃r,(Instr.arrayAt t X).run P w = .ok r w/\Rep m Z w v r:=by
 cases x<;>simp only[op1,reduceCtorEq]at h
 case sl id off len cap=>
  split at h
  ·rename_i hc;injection h with h
   subst h;obtain⟨l,ad,c,hm,rfl,hlc,ha,_⟩:=hx.inv_sl;rcases ha with ha|rfl
   ·omega
   ·have:¬len<n:=by omega
    exact⟨_,by simp[Instr.arrayAt,run_underlying ht,this],.ptr hm⟩
  ·cases h
 case rs cells len=>
  split at h
  ·rename_i hc;injection h with h
   subst h;cases hx with
   | rs b o x hl h0 h1 h2=>
    rcases h0 with h0|⟨rfl,hz,hcell⟩
    ·omega
    ·have:¬len<n:=by omega
     exact⟨_,by simp[Instr.arrayAt,run_underlying ht,this],.rp (o:=o) (off:=0) x hz hcell h1 h2⟩
  ·cases h
def zlN:∀(n t:Nat) (acc:Array Value),(Extern.BytealgMakeNoZero.digits n t acc).size=acc.size+n
 | 0,_,_=>rfl
 | n+1,t,acc=>by
  rw[Extern.BytealgMakeNoZero.digits,zlN n];simp;omega
def znb:∀(n t:Nat) (acc:Array Value),(∀x∈acc.toList,x.oneCell'=true)->∀x∈(Extern.BytealgMakeNoZero.digits n t acc).toList,x.oneCell'=true
 | 0,_,_,h=>h
 | n+1,t,acc,h=>by
  rw[Extern.BytealgMakeNoZero.digits];refine znb n _ _ λx hx=>?_;simp only[ycP,yaZ,ya0]at hx;rcases hx with hx|rfl
  ·exact h x hx
  ·rfl
def mknz_run {t e:TypeId} {ps:Array TypeId} {x v:V} {X:Value} {H':Heap} (ht:P.underlying t = some (.slice e)) (h:mmknz e x H = some (v,H')) (hx:Rep m Z w x X) (r:RelH m Z H w) (hfr:Free m H H') :
  ∃ m' y w',(Extern.BytealgMakeNoZero.makeNoZero ps #[t] #[X]).run P w = .ok y w' /\ Rep m' Z w' v y /\ RelH m' Z H' w' /\ Ext m Z H w m' Z H' w':=by
 unfold mmknz at h;split at h
 ·rename_i n0;split at h
  ·rename_i hc;simp only [yab,yae] at h;obtain ⟨rfl,rfl⟩:=h;cases hx;obtain ⟨n,rfl⟩:∃ n:Nat,n0 = n:=⟨n0.toNat,by omega⟩;simp only [yav];have hdef:Extern.BytealgMakeNoZero.makeNoZero ps #[t] #[.int .i64 n] =
     (do
      let .slice elem <- underlying t | stuck "bytealg.MakeNoZero: slice type expected"
      if (n:Int) < 0 || (n:Int) > 2 ^ 48 then runtimePanic (.error "makeslice: len out of range")
      let cap <- choose (.appendCap (n:Int).toNat 0 elem)
      askRoom cap
      let bytes <- choose (.extern "internal/bytealg.MakeNoZero.bytes" 0)
      let a <- newRow elem (Extern.BytealgMakeNoZero.digits cap bytes #[])
      pure (.slice (some a) (n:Int).toNat cap)):=rfl
   have h1:¬ (n:Int) < 0:=by omega
   have h2:¬ (281474976710656:Int) < (n:Int):=by omega
   obtain ⟨c,hcd⟩:∃ c,grownCap w n 0 e = c:=⟨_,rfl⟩;obtain ⟨B,hB⟩:∃ B,(Question.extern "internal/bytealg.MakeNoZero.bytes" 0).cut (w.tape (w.drawn + 1) (.extern "internal/bytealg.MakeNoZero.bytes" 0)) = B:=⟨_,rfl⟩
   have hge:n <= c:=by have:=grownCap_ge w n 0 e;omega
   have hmx:c <= maxLen:=by have:=grownCap_le_maxLen w n 0 e (by simp only [maxLen];omega);omega
   have hcs:(Extern.BytealgMakeNoZero.digits c B #[]).size = c:=by rw [zlN];simp
   have hone:=znb c B #[] (by simp);generalize hD:Extern.BytealgMakeNoZero.digits c B #[] = D at hcs hone;have hrun:(Extern.BytealgMakeNoZero.makeNoZero ps #[t] #[.int .i64 n]).run P w = .ok (.slice (some ⟨w.heap.size,0,none⟩) n c) (w.drew.drew.alloc (.cells D e)):=by
    rw [hdef];simp only [grownCap] at hcd;simp [run_underlying ht,h1,h2,Question.forced,newRow,hcd,hB,hD]
   have hR:=(r.drew).drew;have hE:=(Ext.drew m Z H w).trans (Ext.drew m Z H w.drew);have hn:=zgc (b:=⟨e,List.replicate n .any,some 1⟩) (cur:=D) (fz:=(0,0)) (l:=⟨w.heap.size,c,1,false,0⟩) hR (hfr _ (yaj _) (yaR _)) rfl (fun j _=>by simp) (by simp [hcs,hge])
    (fun e' he'=>by
     simp only [yab] at he';subst he';exact ⟨rfl,Nat.one_pos,by simp [hcs],by simpa [maxLen] using hmx⟩)
    (fun v hv=>by rw [ybQ hv];rfl)
    (fun j v x hv hx=>by
     have:=ybh hv;rw [ybQ this];exact .any x (hone x (by rw [Array.mem_toList_iff];exact Array.mem_of_getElem? hx)))
   exact ⟨_,_,_,hrun,.slo (l:=⟨w.heap.size,c,1,false,0⟩) (i:=0) (c:=c) ⟨if_pos rfl,rfl⟩ (by simp) (by simp) hge (.inr rfl),hn.1,hE.trans hn.2⟩
  ·cases h
 ·cases h
def zqP{t e:TypeId}{i:TypeInfo}{z:List V}{l c v:V}{L C':Value}{H':Heap} (ht:P.underlying t=some (.slice e)) (hi:P.info? e=some i) (hz:zeroOf P e=some z) (hzl:z.length=i.size) (h0:0<i.size)
  (h:mmkslice e i.bytes z l c H=some (v,H')) (hl:Rep m Z w l L) (hc:Rep m Z w c C') (r:RelH m Z H w) (hfr:Free m H H') :
  ∃m' y w',(Instr.makeSlice t L C').run P w = .ok y w'/\Rep m' Z w' v y/\RelH m' Z H' w'/\Ext m Z H w m' Z H' w':=by
 obtain⟨zv,hzr,hzc,hzs⟩:=zcE hz;unfold mmkslice at h;split at h
 ·rename_i ln cn;split at h
  ·rename_i hb;obtain⟨h1,h2,h3,h4⟩:=hb;simp only[yab,yae]at h;obtain⟨rfl,rfl⟩:=h;cases hl;cases hc;obtain⟨hr1,hr2,hr3⟩:=ze4 (m:=m) (Z:=Z) (w:=w) hzc cn.toNat;have hn:=zgc (b:=⟨e,zeros z cn.toNat,none⟩) (cur:=(Array.range (cn.toNat*z.length)).map (zv.cells[· % zv.cells.size]!)) (fz:=(0,0)) (l:=⟨w.heap.size,0,0,false,0⟩) r (hfr _ (yaj _) (yaR _)) rfl (λj _=>by simp) (by rw[hr1];exact yaj _) (λe he=>by cases he) hr2 hr3;refine⟨_,.slice (some ⟨w.heap.size,0,none⟩) ln.toNat cn.toNat,_,?_,.slc (l:=⟨w.heap.size,0,0,false,0⟩) ⟨if_pos rfl,rfl⟩ (by omega) (.inr rfl),hn.1,hn.2⟩;have hwl:IntKind.i64.wrap ln=ln:=by rw[IntKind.wrap_i64];omega
   have hwc:IntKind.i64.wrap cn=cn:=by rw[IntKind.wrap_i64];omega
   have hmul:(i.bytes:Int)*cn<=281474976710656:=by rw[Int.mul_comm];exact h3
   unfold Instr.makeSlice;simp only[Sem.run_bind,run_underlying ht,Result.andThen_ok,asInt,asIntOf,Sem.run_pure,run_typeInfo w hi,hwl,hwc,Sem.run_ite,run_askRoom,run_sizeOf w hi,Program.cellsOf,hi];rw[if_neg (by simp;omega)];by_cases hn0:cn.toNat*i.size=0
   ·have hc0:cn.toNat=0:=by
     rcases ycF cn.toNat with h|h
     ·exact h
     ·have:=Nat.mul_pos h h0;omega
    have hrow:(Array.range (cn.toNat*i.size)).map (λx=>(#[]:Array Value)[x%(#[]:Array Value).size]!)=(Array.range (cn.toNat*z.length)).map (zv.cells[· % zv.cells.size]!):=by
     rw[hc0,ybw,ybw];simp
    simp only[yas,yaB,if_pos hn0,Sem.run_pure,Result.andThen_ok,newRow,Sem.run_bind,run_newObj,hrow];rfl
   ·simp only[yas,yaB,hn0,if_false,hzr,Result.andThen_ok,newRow,Sem.run_bind,run_newObj,Sem.run_pure,hzl];rfl
  ·cases h
 ·cases h
end
end Go.Ax
