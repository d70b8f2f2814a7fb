/-
  Texts of mine, put together by program (wip/slim.py), for law_seatKnown: part 12.
-/
import Derived.Test.YtboeopafnogfmaaGreatZk11
noncomputable section
set_option linter.unusedVariables false
set_option linter.unusedSimpArgs false
set_option linter.defProp false
set_option maxRecDepth 100000
/- Ax46 -/
namespace Go.Ax
mutual
def V.still:V→Bool
 | .ptr _ _=>false
 | .mp _=>false
 | .sl _ _ _ _=>false
 | .rs cells _=>V.stills cells
 | .rp cells _=>V.stills cells
 | .fn _ caps=>V.stills caps
 | .agg cells=>V.stills cells
 | .tup vs=>V.stills vs
 | .lit (.int _ _)=>false
 | _=>true
def V.stills:List V→Bool
 | []=>true
 | x::xs=>x.still&&V.stills xs
end
mutual
theorem zoT{d:Rn}:∀v:V,v.still=true→sh d v=v
 | .ptr _ _,h=>by cases h
 | .mp _,h=>by cases h
 | .sl _ _ _ _,h=>by cases h
 | .rs cells _,h=>by simp only[V.still]at h; simp only[sh,zbN cells h]
 | .rp cells _,h=>by simp only[V.still]at h; simp only[sh,zbN cells h]
 | .fn _ caps,h=>by simp only[V.still]at h; simp only[sh,zbN caps h]
 | .agg cells,h=>by simp only[V.still]at h; simp only[sh,zbN cells h]
 | .tup vs,h=>by simp only[V.still]at h; simp only[sh,zbN vs h]
 | .bool _,_=>rfl
 | .int _ _,_=>rfl
 | .str _,_=>rfl
 | .nilp,_=>rfl
 | .nils,_=>rfl
 | .lit _,_=>rfl
 | .any,_=>rfl
theorem zbN{d:Rn}:∀l:List V,V.stills l=true→shL d l=l
 | [],_=>rfl
 | x::xs,h=>by
  simp only[V.stills,Bool.and_eq_true]at h;simp only[shL,zoT x h.1,zbN xs h.2]
end
def Arg.still:Arg→Bool
 | .s _=>true
 | .c v=>v.still
def zjW:Option Arg→Bool
 | none=>true
 | some x=>x.still
def I.still:I→Bool
 | .mkmap _=>true
 | .maplen x | .aload _ x | .mv x | .box _ x | .load _ x | .nilck x | .un _ x | .cint _ x | .tostr x | .tobytes _ x | .faddr _ x | .field _ _ x | .ext _ x | .len x | .slen x | .op1 _ x | .mknz _ x | .remark _ x=>x.still
 | .clear z x=>V.stills z&&x.still
 | .pick c a b | .slice2 _ c a b | .mapset _ c a b=>c.still&&(a.still&&b.still)
 | .build z ps | .slit _ _ z ps=>V.stills z&&ps.all λp=>p.2.2.still
 | .store _ p x | .aadd _ p x | .mdrop _ _ p x=>p.still&&x.still
 | .lookup _ z _ p x=>z.still&&(p.still&&x.still)
 | .bin _ x y | .eq _ _ x y | .iaddr _ _ x y | .index _ _ _ x y | .sindex x y | .append _ _ _ x y | .copy _ x y=>x.still&&y.still
 | .appendz _ _ z x y | .mkslice _ _ z x y=>V.stills z&&(x.still&&y.still)
 | .slice _ _ x lo hi mx=>x.still&&(zjW lo&&(zjW hi&&zjW mx))
 | .minmax _ x xs=>x.still&&xs.all Arg.still
 | .call _ xs | .mkfn _ xs=>xs.all Arg.still
 | .callv x xs=>x.still&&xs.all Arg.still
def AO.still(o:AO):Bool:=o.ins.still
def C.still:C→Bool
 | .done | .bad | .exit _ | .ret=>true
 | .ops l k=>l.all AO.still&&k.still
 | .draw l _ k=>l.all AO.still&&k.still
 | .cond x a b=>x.still&&(a.still&&b.still)
 | .condJ x a b _ _ k=>x.still&&(a.still&&(b.still&&k.still))
 | .blk _ a _ _ k=>a.still&&k.still
 | .loop a _ _=>a.still
section
variable {d:Rn} {R:Nat→Option Blk} {g g':Sem'}
def shF(d:Rn)(A:Fr):Fr:=A.map λp=>(p.1,sh d p.2)
theorem zmw(A:Fr)(t:Nat):Fr.get (shF d A) t=(Fr.get A t).map (sh d):=by
 induction A with
 | nil=>rfl
 | cons p A ih =>
  obtain⟨k,v⟩:=p;show(if k=t then some (sh d v) else Fr.get (shF d A) t)=(if k=t then some v else Fr.get A t).map (sh d);split
  ·rfl
  ·exact ih
theorem zkP(A:Fr)(o:Option Nat)(v:V):(shF d A).put o (sh d v)=shF d (A.put o v):=by cases o<;>rfl
theorem shF_drop(W:List Nat)(A:Fr):(shF d A).drop W=shF d (A.drop W):=by
 induction A with
 | nil=>rfl
 | cons p A ih =>
  obtain⟨k,v⟩:=p;show(if W.contains k then Fr.drop W (shF d A) else (k,sh d v)::Fr.drop W (shF d A))=shF d (if W.contains k then Fr.drop W A else (k,v)::Fr.drop W A);split
  ·exact ih
  ·rw[ih]; rfl
theorem sh_getD(L:List V)(i:Nat):(shL d L).getD i .undef=sh d (L.getD i .undef):=by
 rw[List.getD_eq_getElem?_getD,List.getD_eq_getElem?_getD,zmv];cases L[i]?<;>rfl
theorem zp8(L:List V):∀(J:List Nat) (i:Nat),zq4 (shL d L) i J=shF d (zq4 L i J)
 | [],i=>rfl
 | t::ts,i=>by
  simp only[zq4];rw[sh_getD,zp8 L ts (i+1)];rfl
theorem zlZ(A:Fr)(J W:List Nat)(L:List V):(shF d A).join J W (shL d L)=shF d (A.join J W L):=by
 unfold Fr.join;rw[zp8,shF_drop];unfold shF;rw[List.map_append]
theorem zrR{A:Fr}{x:Arg}(h:x.still=true):x.ev (shF d A)=(x.ev A).map (sh d):=by
 cases x with
 | s t=>exact zmw A t
 | c v=>show some v=some (sh d v); rw[zoT v h]
theorem evs_sh{A:Fr}:∀{xs:List Arg},xs.all Arg.still=true→evs (shF d A) xs=(evs A xs).map (shL d)
 | [],_=>rfl
 | x::xs,h=>by
  simp only[List.all_cons,Bool.and_eq_true]at h;simp only[evs];rw[zrR h.1,evs_sh h.2];cases x.ev A with
  | none=>rfl
  | some v=>simp only[Option.map_some,Option.bind_some,Option.map_map]; rfl
theorem zk6{A:Fr}:∀{ps:List (Nat×Nat×Arg)},ps.all (λp=>p.2.2.still)=true→zaW (shF d A) ps=(zaW A ps).map (λl=>l.map λp=>(p.1,p.2.1,sh d p.2.2))
 | [],_=>rfl
 | (o,s,x)::ps,h=>by
  simp only[List.all_cons,Bool.and_eq_true]at h;simp only[zaW];rw[zrR h.1,zk6 h.2];cases x.ev A with
  | none=>rfl
  | some v=>simp only[Option.map_some,Option.bind_some,Option.map_map]; rfl
theorem zps{A:Fr}{o:Option Arg}(h:zjW o=true):zcs (shF d A) o=(zcs A o).map (Option.map (sh d)):=by
 cases o with
 | none=>rfl
 | some x =>
  simp only[zcs];rw[zrR h];cases x.ev A<;>rfl
theorem zaq{A:Fr}{x:Arg}{k k':V→M V}(h:x.still=true) (hk:∀v,ShR d R (sh d) (k v) (k' (sh d v))):ShR d R (sh d) (with1 A x k) (with1 (shF d A) x k'):=by
 unfold with1;rw[zrR h];cases x.ev A with
 | none=>exact zb0
 | some v=>exact hk v
theorem zlW{A:Fr}{xs:List Arg}{k k':List V→M V}(h:xs.all Arg.still=true) (hk:∀v,ShR d R (sh d) (k v) (k' (shL d v))):ShR d R (sh d) (withs A xs k) (withs (shF d A) xs k'):=by
 unfold withs;rw[evs_sh h];cases evs A xs with
 | none=>exact zb0
 | some v=>exact hk v
theorem sr_callv (hg:∀f args,ShR d R (sh d) (g f args) (g' f (shL d args))) (x:V) (args:List V):ShR d R (sh d) (callv g x args) (callv g' (sh d x) (shL d args)):=by
 cases x<;>first|exact zb0|skip
 simp only[callv,sh];rw[←zkO];exact hg _ _
theorem sr_run (hg:∀f args,ShR d R (sh d) (g f args) (g' f (shL d args))) (A:Fr) (i:I) (h:i.still=true):ShR d R (sh d) (i.run g A) (i.run g' (shF d A)):=by
 cases i<;>simp only[I.still,Bool.and_eq_true]at h<;>simp only[I.run]
 case build z ps =>
  rw[zk6 h.2];cases zaW A ps with
  | none=>exact zb0
  | some l=>exact zbO (by have:=sh_build (d:=d) z l; rw[zbN z h.1]at this; exact this)
 case slit ty l z ps =>
  rw[zk6 h.2];cases zaW A ps with
  | none=>exact zb0
  | some q=>have:=sr_slit (d:=d) (R:=R) ty l z q; rw[zbN z h.1]at this; exact this
 case slice ck e x lo hi mx =>
  refine zaq h.1 λv=>?_;rw[zps h.2.1,zps h.2.2.1,zps h.2.2.2];cases zcs A lo with
  | none=>exact zb0
  | some lo =>
  cases zcs A hi with
  | none=>exact zb0
  | some hi =>
  cases zcs A mx with
  | none=>exact zb0
  | some mx=>exact zbO (zu2 ck e v lo hi mx)
 case minmax mx x xs=>exact zaq h.1 λv=>zlW h.2 λl=>zbO (zp5 mx l v)
 case call f xs=>exact zlW h λl=>hg f l
 case callv x xs=>exact zaq h.1 λv=>zlW h.2 λl=>sr_callv hg v l
 case mkfn f xs=>exact zlW h λl=>zck (sh d) (V.fn f l)
 case mkmap ty=>exact sr_mkmap ty
 case clear z x=>exact zaq h.2 λv=>by have:=sr_clear (d:=d) (R:=R) z v; rw[zbN z h.1]at this; exact this
 case appendz ty b z x y=>exact zaq h.2.1 λv=>zaq h.2.2 λw=>by have:=ztc (d:=d) (R:=R) ty b z v w; rw[zbN z h.1]at this; exact this
 case mkslice ty b z x y=>exact zaq h.2.1 λv=>zaq h.2.2 λw=>by have:=zs9 (d:=d) (R:=R) ty b z v w; rw[zbN z h.1]at this; exact this
 case lookup mk z ok x k=>exact zaq h.2.1 λv=>zaq h.2.2 λw=>by have:=zuP (d:=d) (R:=R) mk z ok v w; rw[zoT z h.1]at this; exact this
 case mv x=>exact zaq h λv=>zck (sh d) v
 case pick c a b=>exact zaq h.1 λu=>zaq h.2.1 λv=>zaq h.2.2 λw=>zbO (sh_pick u v w)
 case slice2 e c a b=>exact zaq h.1 λu=>zaq h.2.1 λv=>zaq h.2.2 λw=>zuL e u v w
 case mapset mk c a b=>exact zaq h.1 λu=>zaq h.2.1 λv=>zaq h.2.2 λw=>zuN mk u v w
 case box ty x=>exact zaq h λv=>sr_box ty v
 case load n x=>exact zaq h λv=>zrh n v
 case store n p x=>exact zaq h.1 λv=>zaq h.2 λw=>sr_store n v w
 case nilck x=>exact zaq h λv=>zbO (sh_nilck v)
 case bin op x y=>exact zaq h.1 λv=>zaq h.2 λw=>zbO (sh_bin op v w)
 case eq k n x y=>exact zaq h.1 λv=>zaq h.2 λw=>zbO (sh_eqr k n v w)
 case un op x=>exact zaq h λv=>zbO (sh_un op v)
 case cint k x=>exact zaq h λv=>zbO (sh_cint k v)
 case tostr x=>exact zaq h λv=>sr_tostr v
 case tobytes ty x=>exact zaq h λv=>zoe ty v
 case faddr o x=>exact zaq h λv=>zbO (sh_faddr o v)
 case iaddr al e x y=>exact zaq h.1 λv=>zaq h.2 λw=>zbO (sh_iaddr al e v w)
 case index l e n x y=>exact zaq h.1 λv=>zaq h.2 λw=>zbO (sh_index l e n v w)
 case sindex x y=>exact zaq h.1 λv=>zaq h.2 λw=>zbO (zu5 v w)
 case field o n x=>exact zaq h λv=>zbO (sh_field o n v)
 case ext i x=>exact zaq h λv=>zbO (sh_ext i v)
 case len x=>exact zaq h λv=>zbO (sh_vlen v)
 case slen x=>exact zaq h λv=>zbO (sh_slen v)
 case append ty e b x y=>exact zaq h.1 λv=>zaq h.2 λw=>zuT ty e b v w
 case copy e x y=>exact zaq h.1 λv=>zaq h.2 λw=>sr_copy e v w
 case op1 k x=>exact zaq h λv=>zbO (sh_op1 k v)
 case mknz ty x=>exact zaq h λv=>sr_mknz ty v
 case remark ty x=>exact zaq h λv=>zuM ty v
 case maplen x=>exact zaq h λv=>zuO v
 case aload k x=>exact zaq h λv=>sr_aload k v
 case aadd k x y=>exact zaq h.1 λv=>zaq h.2 λw=>sr_aadd k v w
 case mdrop p o x y=>exact zaq h.1 λv=>zaq h.2 λw=>zta p o v w
theorem ztb{A:Fr} {gd:Option (Nat×Bool)} {x y:M V} (h:ShR d R (sh d) x y):ShR d R (sh d) (guarded A gd x) (guarded (shF d A) gd y):=by
 unfold guarded;cases gd with
 | none=>exact h
 | some p =>
  dsimp only;rw[zmw];cases Fr.get A p.1 with
  | none=>exact zb0
  | some v =>
   cases v with
   | bool b =>
    simp only[Option.map_some,sh];by_cases hb:b=p.2
    ·rw[if_pos hb,if_pos hb]; exact h
    ·rw[if_neg hb,if_neg hb]; exact zck (sh d) V.undef
   | tup vs=>cases vs with|nil=>exact zck (sh d) V.undef|cons _ _=>exact zb0
   | _=>exact zb0
theorem ztd (hg:∀f args,ShR d R (sh d) (g f args) (g' f (shL d args))) (A:Fr) (o:AO) (h:o.still=true):ShR d R (sh d) (o.run g A) (o.run g' (shF d A)):=ztb (sr_run hg A o.ins h)
theorem sr_ops (hg:∀f args,ShR d R (sh d) (g f args) (g' f (shL d args))):∀(l:List AO) (A:Fr),l.all AO.still=true→ShR d R (shF d) (zeE g l A) (zeE g' l (shF d A))
 | [],A,_=>zck (shF d) A
 | o::l,A,h=>by
  simp only[List.all_cons,Bool.and_eq_true]at h;refine zbx (ztd hg A o h.1) λv=>?_;rw[zkP];exact sr_ops hg l _ h.2
theorem sh_pid(v:V):(sh d v).pid=v.pid.map d.f:=by cases v<;>rfl
theorem zuK(v:V)(h h':Heap):ShR d R (λ_:Unit=>()) (M.unch v h h') (M.unch (sh d v) (h.up d R) (h'.up d R)):=by
 intro H a H' hd e;unfold M.unch at e ⊢;split at e
 ·rename_i hp;rw[if_pos]
  ·cases e; exact⟨rfl,hd⟩
  ·intro id hid;rw[sh_pid]at hid;cases hv:v.pid with
   | none=>rw[hv]at hid; cases hid
   | some j =>
    rw[hv]at hid;have hid:d.f j=id:=Option.some.inj hid;subst hid;rw[zmh,zmh,hp j hv]
 ·cases e
def shJ(d:Rn)(R:Nat→Option Blk) (js:List (Nat×Heap×Heap)):List (Nat×Heap×Heap):=js.map λq=>(q.1,q.2.1.up d R,q.2.2.up d R)
theorem zoV (un:List (Nat×Nat)) (j:Nat) (h h':Heap):∀rs,ShR d R (λ_:Unit=>()) (zbf un j h h' rs) (zbf un j (h.up d R) (h'.up d R) (shF d rs))
 | []=>zck (λ_:Unit=>()) ()
 | (i,a)::rs=>by
  show ShR d R _ (zbf un j h h' ((i,a)::rs)) (zbf un j (h.up d R) (h'.up d R) ((i,sh d a)::shF d rs));unfold zbf;by_cases hc:un.contains (i,j)=true
  ·rw[if_pos hc,if_pos hc]; exact zbx (zuK a h h') λ_=>zoV un j h h' rs
  ·rw[if_neg hc,if_neg hc]; exact zoV un j h h' rs
theorem zoW (un:List (Nat×Nat)) (i:Nat) (a:V):∀js,ShR d R (λ_:Unit=>()) (zbd un i a js) (zbd un i (sh d a) (shJ d R js))
 | []=>zck (λ_:Unit=>()) ()
 | (j,h,h')::js=>by
  show ShR d R _ (zbd un i a ((j,h,h')::js)) (zbd un i (sh d a) ((j,h.up d R,h'.up d R)::shJ d R js));unfold zbd;by_cases hc:un.contains (i,j)=true
  ·rw[if_pos hc,if_pos hc]; exact zbx (zuK a h h') λ_=>zoW un i a js
  ·rw[if_neg hc,if_neg hc]; exact zoW un i a js
theorem zuR{α β:Type}{f:α→β}{k:Heap→M α}{k':Heap→M β} (h:∀H,ShR d R f (k H) (k' (H.up d R))):ShR d R f (M.getH.bind k) (M.getH.bind k'):=by
 intro H a H' hd e;exact h H H a H' hd e
theorem sr_draw (hg:∀f args,ShR d R (sh d) (g f args) (g' f (shL d args))) (un:List (Nat×Nat)):∀(l:List AO) (p:Nat) (rs:List (Nat×V)) (js:List (Nat×Heap×Heap)) (A:Fr),l.all AO.still=true→ShR d R (shF d) (zaN g un p rs js l A) (zaN g' un p (shF d rs) (shJ d R js) l (shF d A)):=by
 intro l
 induction l with
 | nil=>intro p rs js A _; exact zck (shF d) A
 | cons o l ih =>
  intro p rs js A h;simp only[List.all_cons,Bool.and_eq_true]at h;have hk:∀x,o.ins.kind = .read x→x.still=true:=λx hx=>by
   have h1:=h.1;unfold AO.still at h1;cases hi:o.ins<;>rw[hi]at h1 hx<;>first|(simp only[I.kind,zmR]at hx; done)|(simp only[I.kind]at hx; cases hx; done)|(simp only[I.kind]at hx; cases hx; exact h1)
  unfold zaN;cases hkk:o.ins.kind with
  | read x =>
   dsimp only;unfold zaN.with1';rw[zrR (hk x hkk)];cases x.ev A with
   | none=>refine zbx (ztd hg A o h.1) λv=>?_; rw[zkP]; exact zbx (zoW un p V.undef js) λ_=>ih _ ((p,V.undef)::rs) js _ h.2
   | some a=>refine zbx (ztd hg A o h.1) λv=>?_; rw[zkP]; exact zbx (zoW un p a js) λ_=>ih _ ((p,a)::rs) js _ h.2
  | act=>exact zuR λh0=>zbx (ztd hg A o h.1) λv=>zuR λh1=>zbx (zoV un p h0 h1 rs) λ_=>by rw[zkP]; exact ih _ rs ((p,h0,h1)::js) _ h.2
  | pure=>refine zbx (ztd hg A o h.1) λv=>?_; rw[zkP]; exact ih _ rs js _ h.2
  | new=>refine zbx (ztd hg A o h.1) λv=>?_; rw[zkP]; exact ih _ rs js _ h.2
def zhV(d:Rn):Res→Res
 | .nrm L=>.nrm (shL d L)
 | .ex id L=>.ex id (shL d L)
 | .ret L=>.ret (shL d L)
theorem zuQ{x y:M Res}{k k':List V→M Res} (h:ShR d R (zhV d) x y) (hk:∀L,ShR d R (zhV d) (k L) (k' (shL d L))):ShR d R (zhV d) (M.join x k) (M.join y k'):=by
 refine zbx h λr=>?_;cases r with
 | nrm L=>exact hk L
 | ex id L=>exact zck (zhV d) (.ex id L)
 | ret L=>exact zck (zhV d) (.ret L)
theorem sr_iter{body body':List V→M Res} (h:∀L,ShR d R (zhV d) (body L) (body' (shL d L))) (L:List V):ShR d R (zhV d) (M.iter body L) (M.iter body' (shL d L)):=by
 intro H a H' hd e;obtain⟨n,hn⟩:=zee e;have key:∀(n:Nat) (L:List V),ShR d R (zhV d) (iterN body n L) (iterN body' n (shL d L)):=by
  intro n
  induction n with
  | zero=>intro L; exact zb0
  | succ n ih=>intro L; exact zuQ (h L) ih
 obtain⟨e1,d1⟩:=key n L H a H' hd hn;exact⟨zes e1,d1⟩
theorem zjR(A:Fr):∀J:List Nat,zbw (shF d A) J=(zbw A J).map (shL d)
 | []=>rfl
 | t::ts=>by
  simp only[zbw];rw[zmw,zjR A ts];cases Fr.get A t with
  | none=>rfl
  | some v=>simp only[Option.map_some,Option.bind_some,Option.map_map]; rfl
theorem sr_ite{α β:Type}{f:α→β}(c:V){x x':M α}{y y':M β}(h:ShR d R f x y)(k:ShR d R f x' y'):ShR d R f (M.ite c x x') (M.ite (sh d c) y y'):=by
 cases c<;>first|exact zb0|skip
 rename_i b;cases b
 ·exact k
 ·exact h
theorem zkK(A:Fr):∀rv,ShR d R (shL d) (results A rv) (results (shF d A) rv)
 | []=>zck (shL d) []
 | .tmp t::rs=>zbx (zbO (zmw A t)) λv=>zbx (zkK A rs) λvs=>zck (shL d) (v::vs)
 | .cell t n::rs=>zbx (zbO (zmw A t)) λa=>zbx (zrh n a) λv=>zbx (zkK A rs) λvs=>zck (shL d) (v::vs)
theorem sr_exec (hg:∀f args,ShR d R (sh d) (g f args) (g' f (shL d args))) (rv:List RV):∀(c:C) (cx:List (Nat×List Nat)) (J:List Nat) (A:Fr),c.still=true→ShR d R (zhV d) (exec g rv c cx J A) (exec g' rv c cx J (shF d A)):=by
 intro c
 induction c with
 | done=>intro cx J A _; exact zbx (zbO (zjR A J)) λL=>zck (zhV d) (.nrm L)
 | bad=>intro cx J A _; exact zb0
 | ops l k ih=>intro cx J A h; simp only[C.still,Bool.and_eq_true]at h; exact zbx (sr_ops hg l A h.1) λA'=>ih _ _ _ h.2
 | draw l un k ih=>intro cx J A h; simp only[C.still,Bool.and_eq_true]at h; exact zbx (sr_draw hg un l 0 [] [] A h.1) λA'=>ih _ _ _ h.2
 | cond x a b iha ihb =>
  intro cx J A h;simp only[C.still,Bool.and_eq_true]at h;simp only[exec];rw[zrR h.1];cases x.ev A with
  | none=>exact zb0
  | some c=>exact sr_ite c (iha _ _ _ h.2.1) (ihb _ _ _ h.2.2)
 | condJ x a b J' W k iha ihb ihk =>
  intro cx J A h;simp only[C.still,Bool.and_eq_true]at h;simp only[exec];rw[zrR h.1];cases x.ev A with
  | none=>exact zb0
  | some c =>
   refine zuQ (sr_ite c (iha _ _ _ h.2.1) (ihb _ _ _ h.2.2.1)) λL=>?_;rw[zlZ];exact ihk _ _ _ h.2.2.2
 | blk id a J' W k iha ihk =>
  intro cx J A h;simp only[C.still,Bool.and_eq_true]at h;simp only[exec,M.blk];refine zbx (iha _ _ _ h.1) λr=>?_;cases r with
  | nrm L=>simp only[zhV]; rw[zlZ]; exact ihk _ _ _ h.2
  | ex i L =>
   simp only[zhV];by_cases e:i=id
   ·simp only[if_pos e]; rw[zlZ]; exact ihk _ _ _ h.2
   ·simp only[if_neg e]; exact zck (zhV d) (.ex i L)
  | ret L=>exact zck (zhV d) (.ret L)
 | loop a K W iha =>
  intro cx J A h;refine zbx (zbO (zjR A K)) λL=>sr_iter (λL=>?_) L;rw[zlZ];exact iha _ _ _ h
 | exit id =>
  intro cx J A _;simp only[exec];cases zi5 cx id with
  | none=>exact zb0
  | some J=>exact zbx (zbO (zjR A J)) λL=>zck (zhV d) (.ex id L)
 | ret=>intro cx J A _; exact zbx (zkK A rv) λL=>zck (zhV d) (.ret L)
theorem ztm(l:List V):∀i,params i (shL d l)=shF d (params i l):=by
 induction l with
 | nil=>intro i; rfl
 | cons v vs ih=>intro i; simp only[shL,params]; rw[ih]; rfl
theorem zu3(L:List V):zdW (shL d L)=sh d (zdW L):=by
 rcases L with _|⟨a,_|⟨b,L⟩⟩<;>rfl
theorem sr_fn (hg:∀f args,ShR d R (sh d) (g f args) (g' f (shL d args))) (f:Fn') (args:List V) (h:f.body.still=true):ShR d R (sh d) (f.run g args) (f.run g' (shL d args)):=by
 unfold Fn'.run;rw[ztm];refine zbx (sr_exec hg _ _ _ _ _ h) λr=>?_;cases r with
 | ret L=>simp only[zhV]; rw[zu3]; exact zck (sh d) (zdW L)
 | nrm L=>exact zb0
 | ex id L=>exact zb0
end
theorem zuS{d:Rn}{R:Nat→Option Blk}{T0 T:FuncId→Option Fn'}(hT:∀f ir,T0 f=some ir→T f=some ir∧ir.body.still=true):∀(n:Nat) (f:FuncId) (args:List V),ShR d R (sh d) (deep T0 n f args) (deep T n f (shL d args))
 | 0,f,args=>zb0
 | n+1,f,args=>by
  unfold deep;cases hf:T0 f with
  | none=>exact zb0
  | some ir =>
   rw[(hT f ir hf).1];dsimp only;rw[zb1];split
   ·exact sr_fn (zuS hT n) ir args (hT f ir hf).2
   ·exact zb0
theorem sr_sem{d:Rn}{R:Nat→Option Blk}{T0 T:FuncId→Option Fn'}(hT:∀f ir,T0 f=some ir→T f=some ir∧ir.body.still=true)(f:FuncId)(args:List V):ShR d R (sh d) (sem T0 f args) (sem T f (shL d args)):=by
 intro H a H' hd e;unfold sem at e;split at e
 ·obtain⟨e1,d1⟩:=zuS hT _ f args H a H' hd e;exact⟨zgP e1,d1⟩
 ·cases e
end Go.Ax
/- Ax47 -/
namespace Go.Ax
theorem zax{α β:Type}{o:Option α}{f:α→Option β}{b:β}(h:o.bind f=some b):∃a,o=some a∧f a=some b:=by
 cases o with
 | none=>cases h
 | some a=>exact⟨a,rfl,h⟩
theorem zbg{α β:Type}{o:Option α}{f:α→β}{b:β}(h:o.map f=some b):∃a,o=some a∧f a=b:=by
 cases o with
 | none=>cases h
 | some a=>exact⟨a,rfl,by injection h⟩
theorem zj1{x:Value}{v:V}(h:V.ofValue x=some v):v.still=true:=by
 unfold V.ofValue at h;split at h<;>first|(injection h with h; subst h; rfl)|cases h
theorem zgS:∀{l:List Value} {vs:List V},V.ofCells l=some vs→V.stills vs=true
 | [],_,h=>by injection h with h; subst h; rfl
 | x::xs,_,h=>by
  obtain⟨v,h1,h⟩:=zax h;obtain⟨vs,h2,h⟩:=zbg h;subst h;simp only[V.stills,zj1 h1,zgS h2,Bool.and_true]
theorem zj2{x:Value}{v:V}(h:V.ofConst x=some v):v.still=true:=by
 unfold V.ofConst at h;split at h
 ·obtain⟨vs,h1,h⟩:=zbg h;subst h;exact zgS h1
 ·exact zj1 h
theorem zah{x:Operand}{a:Arg}(h:zar x=some a):a.still=true:=by
 unfold zar at h;split at h
 ·injection h with h; subst h; rfl
 ·obtain⟨v,h1,h⟩:=zbg h;subst h;exact zj2 h1
 ·injection h with h; subst h; rfl
 ·cases h
theorem zcI:∀{l:List Operand} {vs:List Arg},zbX l=some vs→vs.all Arg.still=true
 | [],_,h=>by injection h with h; subst h; rfl
 | x::xs,_,h=>by
  obtain⟨v,h1,h⟩:=zax h;obtain⟨vs,h2,h⟩:=zbg h;subst h;simp only[List.all_cons,zah h1,zcI h2,Bool.and_true]
theorem zhl{x:Option Operand}{a:Option Arg}(h:zhm x=some a):zjW a=true:=by
 unfold zhm at h;split at h
 ·injection h with h; subst h; rfl
 ·obtain⟨v,h1,h⟩:=zbg h;subst h;exact zah h1
theorem zcS{P:Program}{t:TypeId}{z:List V}(h:zeroOf P t=some z):V.stills z=true:=by
 obtain⟨v,h1,h⟩:=zax h;exact zgS h
theorem zs2{P:Program}{t:TypeId}{z:V}(h:zvOf P t=some z):z.still=true:=by
 obtain⟨v,h1,h⟩:=zax h;exact zj2 h
theorem zhz{P:Program}{fs:Array Field}:∀{l:List (Nat×Operand)} {ps:List (Nat×Nat×Arg)},ze0 P fs l=some ps→(ps.all λp=>p.2.2.still)=true
 | [],_,h=>by injection h with h; subst h; rfl
 | (i,x)::xs,_,h=>by
  obtain⟨f,h1,h⟩:=zax h;obtain⟨s,h2,h⟩:=zax h;obtain⟨a,h3,h⟩:=zax h;obtain⟨vs,h4,h⟩:=zbg h;subst h;simp only[List.all_cons,zah h3,zhz h4,Bool.and_true]
theorem zfA{s:Nat}:∀{l:List (Nat×Operand)} {ps:List (Nat×Nat×Arg)},zfB s l=some ps→(ps.all λp=>p.2.2.still)=true
 | [],_,h=>by injection h with h; subst h; rfl
 | (i,x)::xs,_,h=>by
  obtain⟨a,h3,h⟩:=zax h;obtain⟨vs,h4,h⟩:=zbg h;subst h;simp only[List.all_cons,zah h3,zfA h4,Bool.and_true]
theorem if_s{c:Prop}[Decidable c]{α:Type}{x:Option α}{y:α} (h:(if c then x else none)=some y):x=some y:=by
 by_cases hc:c
 ·rw[if_pos hc]at h; exact h
 ·rw[if_neg hc]at h; cases h
theorem zob{P:Program}{e:TypeId}{i:TypeInfo}{u:TypeId}{x y:Operand}{o:I}(h:zl7 P e i u x y=some o):o.still=true:=by
 unfold zl7 at h;split at h
 ·obtain⟨z,h1,h⟩:=zax h;obtain⟨a,h3,h⟩:=zax (if_s h);obtain⟨b,h4,h⟩:=zbg h;subst h;simp only[I.still,zcS h1,zah h3,zah h4,Bool.and_true]
 ·cases h
theorem zk8{P:Program}{b:Builtin}{es:List Operand}{ts:List TypeId}{o:I}(h:zhp P b es ts=some o):o.still=true:=by
 unfold zhp at h;split at h
 ·split at h
  ·obtain⟨a,h3,h⟩:=zbg h; subst h; exact zah h3
  ·obtain⟨a,h3,h⟩:=zbg h; subst h; exact zah h3
  ·injection h with h; subst h; rfl
  ·obtain⟨a,h3,h⟩:=zbg h; subst h; exact zah h3
  ·cases h
 ·obtain⟨e,h1,h⟩:=zax h;obtain⟨i,h2,h⟩:=zax h;obtain⟨z,h5,h⟩:=zax h;split at h
  ·obtain⟨a,h3,h⟩:=zax h;obtain⟨b,h4,h⟩:=zbg h;subst h;simp only[I.still,zah h3,zah h4,Bool.and_true]
  ·exact zob h
 ·obtain⟨e,h1,h⟩:=zax h;obtain⟨i,h2,h⟩:=zax h;obtain⟨a,h3,h⟩:=zax h;obtain⟨b,h4,h⟩:=zbg h;subst h;simp only[I.still,zah h3,zah h4,Bool.and_true]
 ·obtain⟨e,h1,h⟩:=zax h;obtain⟨z,h2,h⟩:=zax h;obtain⟨a,h3,h⟩:=zbg (if_s h);subst h;simp only[I.still,zcS h2,zah h3,Bool.and_true]
 ·obtain⟨a,h3,h⟩:=zax h;obtain⟨b,h4,h⟩:=zbg h;subst h;simp only[I.still,zah h3,zcI h4,Bool.and_true]
 ·obtain⟨a,h3,h⟩:=zax h;obtain⟨b,h4,h⟩:=zbg h;subst h;simp only[I.still,zah h3,zcI h4,Bool.and_true]
 ·cases h
theorem zlz{P:Program}{n:Bool}{t:TypeId}{x y:Arg}{o:I}(hx:x.still=true)(hy:y.still=true)(h:zoG P n t x y=some o):o.still=true:=by
 have key:(x.still&&y.still)=true:=by rw[hx,hy]; rfl
 unfold zoG at h;split at h
 ·injection h with h; subst h; exact key
 ·injection h with h; subst h; exact key
 ·injection h with h; subst h; exact key
 ·split at h
  ·have h:=if_s h;injection h with h; subst h; exact key
  ·cases h
 ·split at h
  ·injection h with h; subst h; exact key
  ·obtain⟨a,h3,h⟩:=zbg h; subst h; exact key
 ·cases h
theorem zpD{P:Program}{op:BinOp}{t:TypeId}{x y:Arg}{o:I}(hx:x.still=true)(hy:y.still=true)(h:znp P op t x y=some o):o.still=true:=by
 have key:(x.still&&y.still)=true:=by rw[hx,hy]; rfl
 unfold znp at h;split at h
 ·injection h with h; subst h; exact key
 ·injection h with h; subst h; exact key
 ·injection h with h; subst h; exact key
 ·split at h
  ·exact zlz hx hy h
  ·exact zlz hx hy h
  ·cases h
 ·cases h
theorem zpC{k:Xk}{es:List Arg}{o:I}(ha:es.all Arg.still=true)(h:ziA k es=some o):o.still=true:=by
 unfold ziA at h;split at h<;>first
  | cases h; done
  | (injection h with h; subst h; simp only[List.all_cons,List.all_nil,Bool.and_true]at ha; exact ha)
theorem zoa{P:Program}{f:FuncId}{es:List Arg}{o:I}(ha:es.all Arg.still=true)(h:zl6 P f es=some o):o.still=true:=by
 unfold zl6 at h;split at h
 ·split at h
  ·obtain⟨k,h1,h⟩:=zax (if_s h);exact zpC ha h
  ·injection h with h; subst h; exact ha
 ·cases h
theorem zly{P:Program}{o:Op}{i:I}(h:zoF P o=some i):i.still=true:=by
 unfold zoF at h;split at h
 case h_1=>obtain⟨a,h3,h⟩:=zbg h; subst h; exact zah h3
 case h_2=>obtain⟨a,h3,h⟩:=zbg h; subst h; exact zah h3
 case h_3 =>
  obtain⟨a,h1,h⟩:=zax h;obtain⟨b,h2,h⟩:=zax h;obtain⟨c,h3,h⟩:=zbg h;subst h;simp only[I.still,zah h1,zah h2,zah h3,Bool.and_true]
 case h_4=>obtain⟨a,h3,h⟩:=zbg h; subst h; exact zcS h3
 case h_5=>obtain⟨a,h3,h⟩:=zbg h; subst h; exact zah h3
 case h_6 =>
  obtain⟨z,h1,h⟩:=zax h;split at h
  ·obtain⟨a,h3,h⟩:=zbg (if_s h);subst h;simp only[I.still,zcS h1,zhz h3,Bool.and_true]
  ·obtain⟨s,h2,h⟩:=zax h;obtain⟨a,h3,h⟩:=zbg h;subst h;simp only[I.still,zcS h1,zfA h3,Bool.and_true]
  ·cases h
 case h_7 =>
  obtain⟨e,h1,h⟩:=zax h;obtain⟨s,h2,h⟩:=zax h;obtain⟨z,h4,h⟩:=zax h;obtain⟨a,h3,h⟩:=zbg (if_s h);subst h;simp only[I.still,zcS h4,zfA h3,Bool.and_true]
 case h_8 =>
  obtain⟨n,h1,h⟩:=zax h;obtain⟨a,h3,h⟩:=zbg h;subst h;exact zah h3
 case h_9 =>
  obtain⟨n,h1,h⟩:=zax h;obtain⟨b,h2,h⟩:=zax h;obtain⟨a,h3,h⟩:=zbg h;subst h;simp only[I.still,zah h2,zah h3,Bool.and_true]
 case h_10=>obtain⟨a,h3,h⟩:=zbg h; subst h; exact zah h3
 case h_11 =>
  obtain⟨a,h1,h⟩:=zax h;obtain⟨b,h2,h⟩:=zax h;exact zpD (zah h1) (zah h2) h
 case h_12=>obtain⟨a,h3,h⟩:=zbg h; subst h; exact zah h3
 case h_13 =>
  split at h
  ·obtain⟨a,h3,h⟩:=zbg h; subst h; exact zah h3
  ·obtain⟨a,h3,h⟩:=zbg h; subst h; exact zah h3
  ·split at h
   ·obtain⟨a,h3,h⟩:=zbg h; subst h; exact zah h3
   ·cases h
  ·split at h
   ·obtain⟨a,h3,h⟩:=zbg h; subst h; exact zah h3
   ·cases h
  ·split at h
   ·split at h
    ·obtain⟨a,h3,h⟩:=zbg h; subst h; exact zah h3
    ·obtain⟨a,h3,h⟩:=zbg h; subst h; exact zah h3
   ·cases h
  ·cases h
 case h_14 =>
  split at h
  ·obtain⟨f,h1,h⟩:=zax h;obtain⟨n,h2,h⟩:=zax h;obtain⟨a,h3,h⟩:=zbg (if_s h);subst h;exact zah h3
  ·cases h
 case h_15 =>
  split at h
  ·obtain⟨n,h2,h⟩:=zax h;obtain⟨a,h1,h⟩:=zax h;obtain⟨b,h3,h⟩:=zbg h;subst h;simp only[I.still,zah h1,zah h3,Bool.and_true]
  ·obtain⟨n,h2,h⟩:=zax h;obtain⟨a,h1,h⟩:=zax h;obtain⟨b,h3,h⟩:=zbg h;subst h;simp only[I.still,zah h1,zah h3,Bool.and_true]
  ·cases h
 case h_16 =>
  split at h
  ·obtain⟨n,h2,h⟩:=zax h;obtain⟨l,h4,h⟩:=zax h;obtain⟨a,h1,h⟩:=zax h;obtain⟨b,h3,h⟩:=zbg h;subst h;simp only[I.still,zah h1,zah h3,Bool.and_true]
  ·obtain⟨a,h1,h⟩:=zax h;obtain⟨b,h3,h⟩:=zbg h;subst h;simp only[I.still,zah h1,zah h3,Bool.and_true]
  ·cases h
 case h_17 =>
  split at h
  ·obtain⟨f,h1,h⟩:=zax h;obtain⟨n,h2,h⟩:=zax h;obtain⟨a,h3,h⟩:=zbg h;subst h;exact zah h3
  ·cases h
 case h_18=>obtain⟨a,h3,h⟩:=zbg h; subst h; exact zah h3
 case h_19 =>
  split at h
  ·obtain⟨a,h3,h⟩:=zbg h; subst h; exact zah h3
  ·cases h
 case h_20 =>
  obtain⟨a,h1,h⟩:=zax h;obtain⟨b,h2,h⟩:=zax h;obtain⟨c,h3,h⟩:=zax h;obtain⟨d,h4,h⟩:=zax h;have e1:=zah h1;have e2:=zhl h2;have e3:=zhl h3;have e4:=zhl h4;have key:(a.still&&(zjW b&&(zjW c&&zjW d)))=true:=by rw[e1,e2,e3,e4]; rfl
  split at h
  ·obtain⟨s,h5,h⟩:=zax h;split at h
   ·have h:=if_s h;injection h with h; subst h
    simp only[zjW]at e2 e3;simp only[I.still,e1,e2,e3,Bool.and_true]
   ·injection h with h; subst h; exact key
  ·obtain⟨s,h5,h⟩:=zbg h;subst h; exact key
  ·injection h with h; subst h; exact key
  ·cases h
 case h_21 =>
  obtain⟨e,h1,h⟩:=zax h;obtain⟨i,h2,h⟩:=zax h;obtain⟨z,h5,h⟩:=zax h;obtain⟨a,h3,h⟩:=zax (if_s h);obtain⟨b,h4,h⟩:=zbg h;subst h;simp only[I.still,zcS h5,zah h3,zah h4,Bool.and_true]
 case h_22 =>
  obtain⟨a,h3,h⟩:=zbg (if_s h);subst h;exact zcI h3
 case h_23 =>
  split at h
  ·injection h with h; subst h; rfl
  ·cases h
 case h_24 =>
  obtain⟨q,h1,h⟩:=zax h;obtain⟨z,h2,h⟩:=zax h;obtain⟨a,h3,h⟩:=zax h;obtain⟨b,h4,h⟩:=zbg h;subst h;simp only[I.still,zs2 h2,zah h3,zah h4,Bool.and_true]
 case h_25 =>
  obtain⟨q,h1,h⟩:=zax h;obtain⟨a,h2,h⟩:=zax h;obtain⟨b,h3,h⟩:=zax h;obtain⟨c,h4,h⟩:=zbg h;subst h;simp only[I.still,zah h2,zah h3,zah h4,Bool.and_true]
 case h_26 =>
  obtain⟨q,h1,h⟩:=zax h;obtain⟨a,h2,h⟩:=zax h;obtain⟨b,h3,h⟩:=zax h;obtain⟨c,h4,h⟩:=zbg h;subst h;simp only[I.still,zah h2,zah h3,zah h4,Bool.and_true]
 case h_27 =>
  obtain⟨a,h2,h⟩:=zax h;exact zoa (zcI h2) h
 case h_28 =>
  obtain⟨a,h2,h⟩:=zax h;obtain⟨b,h3,h⟩:=zbg h;subst h;simp only[I.still,zah h2,zcI h3,Bool.and_true]
 case h_29=>exact zk8 h
 case h_30=>cases h
theorem zlB{P:Program}{ops:Array Oper}{o:Oper}{a:AO}(h:zji P ops o=some a):a.still=true:=by
 obtain⟨i,h1,h⟩:=zax h;split at h
 ·injection h with h; subst h; exact zly h1
 ·obtain⟨s,h2,h⟩:=zbg h;subst h;exact zly h1
theorem zkB{P:Program}{ops:Array Oper}:∀{l:List Oper} {es:List AO},zhn P ops l=some es→es.all AO.still=true
 | [],_,h=>by injection h with h; subst h; rfl
 | x::xs,_,h=>by
  obtain⟨a,h3,h⟩:=zax h;obtain⟨vs,h4,h⟩:=zbg h;subst h;simp only[List.all_cons,zlB h3,zkB h4,Bool.and_true]
theorem zkC{P:Program}{ops:Array Oper}:∀{l:List Nat} {es:List (Nat×AO)},zjM P ops l=some es→(es.map (·.2)).all AO.still=true
 | [],_,h=>by injection h with h; subst h; rfl
 | x::xs,_,h=>by
  obtain⟨o,h1,h⟩:=zax h;obtain⟨a,h3,h⟩:=zax h;obtain⟨vs,h4,h⟩:=zbg h;subst h;simp only[List.map_cons,List.all_cons,zlB h3,zkC h4,Bool.and_true]
theorem zn9{P:Program}{ops:Array Oper}{ord:List Nat} {r:List AO×List (Nat×Nat)} (h:zho P ops ord=some r):r.1.all AO.still=true:=by
 unfold zho at h;obtain⟨l,h1,h⟩:=zax h;have h:=if_s h;injection h with h; subst h
 exact zkC h1
theorem zt8{P:Program}:∀{c:Code} {k:C} {h:List (List Nat)} {r:C×List (List Nat)},k.still=true→comp P c k h=some r→r.1.still=true:=by
 intro c
 induction c with
 | skip=>intro k h r hk e; injection e with e; subst e; exact hk
 | region _ ops d =>
  intro k h r hk e;unfold comp at e;split at e
  ·injection e with e; subst e; rfl
  ·split at e
   ·obtain⟨l,h1,e⟩:=zbg e;subst e;simp only[C.still,zkB h1,hk,Bool.and_true]
   ·split at e
    ·obtain⟨l,h1,e⟩:=zbg (if_s e);subst e;simp only[C.still,zn9 h1,hk,Bool.and_true]
    ·cases e
 | seq a b iha ihb =>
  intro k h r hk e;unfold comp at e;obtain⟨s,h1,e⟩:=zax e;exact iha (ihb hk h1) e
 | cond x a b iha ihb =>
  intro k h r hk e;unfold comp at e;obtain⟨x',hx,e⟩:=zax e;split at e
  ·obtain⟨s,h1,e⟩:=zax e;obtain⟨t,h2,e⟩:=zbg e;subst e;have e1:=iha rfl h1;have e2:=ihb hk h2;simp only[C.still,zah hx,e1,e2,Bool.and_true]
  ·split at e
   ·obtain⟨s,h1,e⟩:=zax e;obtain⟨t,h2,e⟩:=zbg e;subst e;have e1:=iha hk h1;have e2:=ihb rfl h2;simp only[C.still,zah hx,e1,e2,Bool.and_true]
   ·split at e
    ·obtain⟨s,h1,e⟩:=zax e;obtain⟨t,h2,e⟩:=zbg e;subst e;have e1:=iha rfl h1;have e2:=ihb rfl h2;simp only[C.still,zah hx,e1,e2,hk,Bool.and_true]
    ·cases e
 | block id a iha =>
  intro k h r hk e;unfold comp at e;split at e
  ·obtain⟨s,h1,e⟩:=zbg e;subst e;have e1:=iha rfl h1;simp only[C.still,e1,hk,Bool.and_true]
  ·cases e
 | loop a iha =>
  intro k h r hk e;unfold comp at e;split at e
  ·obtain⟨s,h1,e⟩:=zbg e;subst e;have e1:=iha (k:=.done) rfl h1;exact e1
  ·cases e
 | exit id=>intro k h r hk e; injection e with e; subst e; rfl
 | ret=>intro k h r hk e; injection e with e; subst e; rfl
 | _=>intros; rename_i e; cases e
theorem zqU{P:Program}{fn:Func} {h:List (List Nat)} {ir:Fn'} (e:zno P fn h=some ir):ir.body.still=true:=by
 unfold zno at e;obtain⟨b,h1,e⟩:=zax e;obtain⟨r,h2,e⟩:=zax e;obtain⟨rv,h3,e⟩:=zax e;have e:=if_s e;injection e with e; subst e
 exact zt8 (k:=.ret) rfl h2
theorem zpA{P:Program}{fn:Func} {h:List (List Nat)} {ir:Fn'} (e:zpB P fn h=some ir):ir.body.still=true:=by
 unfold zpB at e;split at e
 ·injection e with e; subst e; rfl
 ·split at e
  ·injection e with e; subst e; rfl
  ·exact zqU e
theorem zpY{P:Program} {h:FuncId→List (List Nat)} {f:FuncId} {ir:Fn'} (e:zod P h f=some ir):ir.body.still=true:=by
 obtain⟨fn,h1,e⟩:=zax e;exact zpA e
end Go.Ax
/- Ax48 -/
namespace Go.Ax.Cc
def cd(T:FuncId→Option Fn'):Nat→Sem'
 | 0=>λ_ _=>M.fail
 | n+1=>λf args=>match T f with
  | some ir=>if Nat.ble args.length ir.ntmps=true then fin (execK (cd T n) ir.rv ir.body [] [] (params 0 args)) else M.fail
  | none=>M.fail
theorem sims_cd{T:FuncId→Option Fn'}:∀n,Sims (cd T n) (sem T)
 | 0=>λ_ _=>sim_fail
 | n+1=>λf args=>by
  unfold cd;cases hT:T f with
  | none=>exact sim_fail
  | some ir =>
   dsimp only;by_cases h:Nat.ble args.length ir.ntmps=true
   ·rw[if_pos h]; exact sim_fn hT (Nat.le_of_ble_eq_true h) (sims_cd n) rfl
   ·rw[if_neg h]; exact sim_fail
def hp:List (Option Blk)→Heap
 | []=>⟨.e,0⟩
 | some b::bs=>(hp bs).new b
 | none::bs=>⟨(hp bs).t,(hp bs).next+1⟩
theorem hp_next:∀bs:List (Option Blk),(hp bs).abs.next=bs.length
 | []=>rfl
 | some b::bs=>by
  show((hp bs).new b).abs.next = _;rw[zeC,zaf,hp_next bs];rfl
 | none::bs=>by
  show(hp bs).abs.next+1 = _;rw[hp_next bs];rfl
theorem hp_cl:∀bs:List (Option Blk),(hp bs).abs.Cl
 | []=>λi _=>rfl
 | some b::bs=>by
  show((hp bs).new b).abs.Cl;rw[zeC];exact zdV (hp_cl bs) b
 | none::bs=>λi hi=>by
  have hi:(hp bs).abs.next+1≤i:=hi;exact hp_cl bs i (by omega)
theorem hp_get:∀(bs:List (Option Blk)) (i:Nat),i<bs.length→(hp bs).abs.get i=(bs[bs.length-1-i]?).join
 | [],i,h=>by cases h
 | some b::bs,i,h=>by
  show((hp bs).new b).abs.get i = _;rw[zeC];rw[List.length_cons]at h ⊢;by_cases e:i=bs.length
  ·subst e;have:=zag (hp bs).abs b;rw[hp_next]at this;rw[this,show bs.length+1-1-bs.length=0 by omega];rfl
  ·rw[zaM _ _ (by rw[hp_next]; exact e),hp_get bs i (by omega),show bs.length+1-1-i=bs.length-1-i+1 by omega,List.getElem?_cons_succ]
 | none::bs,i,h=>by
  show(hp bs).abs.get i = _;rw[List.length_cons]at h ⊢;by_cases e:i=bs.length
  ·subst e;rw[hp_cl bs _ (by rw[hp_next]; exact Nat.le_refl _),show bs.length+1-1-bs.length=0 by omega];rfl
  ·rw[hp_get bs i (by omega),show bs.length+1-1-i=bs.length-1-i+1 by omega,List.getElem?_cons_succ]
theorem hp_none {bs:List (Option Blk)} {i:Nat} (h:bs.length≤i):(hp bs).abs.get i=none:=hp_cl bs i (by rw[hp_next]; exact h)
end Go.Ax.Cc
namespace Go.Ax
def rnF(s:List Nat)(n i:Nat):Nat:=if h:i<s.length then s[i] else n+(i-s.length)
def rnG(s:List Nat)(n j:Nat):Option Nat:=if n≤j then some (j-n+s.length) else s.findIdx? (· == j)
theorem rnG_F{s:List Nat}{n:Nat}(hs:s.Nodup)(hn:∀j∈s,j<n)(i:Nat):rnG s n (rnF s n i)=some i:=by
 unfold rnG rnF;by_cases h:i<s.length
 ·rw[dif_pos h,if_neg (by have:=hn _ (List.getElem_mem h); omega),List.findIdx?_eq_some_iff_getElem];refine⟨h,by simp,λj hj=>?_⟩;have:s[j]'(by omega)≠s[i]:=λe=>by
   have:=(List.getElem_inj hs).1 e;omega
  simpa using this
 ·rw[dif_neg h,if_pos (by omega)];congr 1;omega
theorem rnF_G{s:List Nat}{n:Nat}(i j:Nat)(h:rnG s n j=some i):rnF s n i=j:=by
 unfold rnG at h;unfold rnF;by_cases hj:n≤j
 ·rw[if_pos hj]at h;injection h with h
  rw[dif_neg (by omega)];omega
 ·rw[if_neg hj,List.findIdx?_eq_some_iff_getElem]at h;obtain⟨h1,h2,-⟩:=h;rw[dif_pos h1];simpa using h2
def rnOf(s:List Nat)(n:Nat)(hs:s.Nodup)(hn:∀j∈s,j<n):Rn where
 f:=rnF s n
 g:=rnG s n
 k:=s.length
 gf:=rnG_F hs hn
 fg:=rnF_G
 suc:=λm hm=>by unfold rnF; rw[dif_neg (by omega),dif_neg (by omega)]; omega
theorem ren_ok{T:FuncId→Option Fn'}(hT:∀f ir,T f=some ir→ir.body.still=true){f:FuncId}{args:List V}{m:Nat}{v:V} {bs:List (Option Blk)} {c:Cc.Heap} (h:Cc.cd T m f args (Cc.hp bs)=some (v,c)) {H:Heap} (hc:H.Cl) {s:List Nat} (hl:s.length=bs.length) (hs:s.Nodup) (hn:∀j∈s,j<H.next)
  (hg:∀i (hi:i<s.length),H.get s[i]=((bs[bs.length-1-i]?).join).map (shB (rnOf s H.next hs hn))) :
  Ok (sem T f (shL (rnOf s H.next hs hn) args)) H λr H'=>r=sh (rnOf s H.next hs hn) v∧H'=c.abs.up (rnOf s H.next hs hn) H.get∧H.next≤H'.next∧(∀i,i<H.next→i∉s→H'.get i=H.get i)∧H'.Cl:=by
 have h1:sem T f args (Cc.hp bs).abs=some (v,c.abs):=Cc.sims_cd m f args _ _ _ h;obtain⟨h2,d2⟩:=sr_sem (d:=rnOf s H.next hs hn) (R:=H.get) (λf ir h=>⟨h,hT f ir h⟩) f args _ _ _ ⟨Cc.hp_cl bs,by rw[Cc.hp_next,←hl]; exact Nat.le_refl _⟩ h1;have e:(Cc.hp bs).abs.up (rnOf s H.next hs hn) H.get=H:=by
  show Heap.mk _ _=H;cases H with
  | mk g n =>
   congr 1
   ·funext j;show(match rnG s n j with|none=>g j|some i=>((Cc.hp bs).abs.get i).map _)=g j;cases hj:rnG s n j with
    | none=>rfl
    | some i =>
     dsimp only;have hF:=rnF_G i j hj;by_cases hi:i<s.length
     ·have:=hg i hi;rw[Cc.hp_get bs i (by omega),←this];have hF2:rnF s n i=s[i]:=by unfold rnF; rw[dif_pos hi]
      rw[←hF,hF2]
     ·rw[Cc.hp_none (by omega)];have hF2:rnF s n i=n+(i-s.length):=by unfold rnF; rw[dif_neg hi]
      exact(hc j (by show n≤j; omega)).symm
   ·show rnF s n (Cc.hp bs).abs.next=n;rw[Cc.hp_next,←hl];unfold rnF;rw[dif_neg (by omega)];omega
 rw[e]at h2;have hlo:s.length≤c.abs.next:=d2.lo;refine⟨_,_,h2,rfl,rfl,?_,λi hi hni=>?_,?_⟩
 ·show H.next≤rnF s H.next c.abs.next;unfold rnF;rw[dif_neg (by omega)];omega
 ·show(match rnG s H.next i with|none=>H.get i|some k=>_)=H.get i;cases hj:rnG s H.next i with
  | none=>rfl
  | some k =>
   unfold rnG at hj;rw[if_neg (by omega),List.findIdx?_eq_some_iff_getElem]at hj;obtain⟨k1,k2,-⟩:=hj;have:s[k]=i:=by simpa using k2
   exact absurd (this ▸ List.getElem_mem k1) hni
 ·have:=(zwR (G:=⟨0⟩) f _ H _ _ ⟨hc,Nat.zero_le _⟩ h2).2.cl;exact this
end Go.Ax
/- Ax32 -/
namespace Go.Ax
structure Rst where
 g:Nat→Option Blk
 r:Nat→Bool
 n:Nat
 sub:∀i b,g i=some b→r i=true
def Heap.plus(H:Heap)(G:Rst):Heap:=⟨λi=>match G.g i with|some b=>some b|none=>H.get i,H.next⟩
structure Dj (H:Heap) (G:Rst):Prop where
 low:G.n≤H.next
 non':∀i,G.r i=true→H.get i=none∧i<G.n
section
variable {G:Rst} {H H':Heap}
theorem Dj.non(h:Dj H G){id:Nat}{b:Blk}(hb:H.get id=some b):G.g id=none:=by
 cases hg:G.g id with
 | none=>rfl
 | some c=>rw[(h.non' id (G.sub _ _ hg)).1]at hb; cases hb
theorem Dj.get(h:Dj H G){id:Nat}{b:Blk}(hb:H.get id=some b):(H.plus G).get id=some b:=by
 show(match G.g id with|some b=>some b|none=>H.get id) = _;rw[h.non hb]; exact hb
theorem Dj.set(h:Dj H G){id:Nat}{b:Blk}(hb:H.get id=some b)(o:Option Blk):(H.plus G).set id o=(H.set id o).plus G∧Dj (H.set id o) G:=by
 have hg:=h.non hb;refine⟨?_,h.low,λi hi=>?_⟩
 ·show Heap.mk _ _=Heap.mk _ _;congr 1;funext i;show(if i=id then o else (match G.g i with|some b=>some b|none=>H.get i))=(match G.g i with|some b=>some b|none=>if i=id then o else H.get i);by_cases e:i=id
  ·subst e; rw[hg,if_pos rfl]
  ·rw[if_neg e,if_neg e]
 ·obtain⟨h1,h2⟩:=h.non' i hi;refine⟨?_,h2⟩;rw[zaj]
  ·exact h1
  ·intro e; subst e; rw[h1]at hb; cases hb
theorem Dj.new(h:Dj H G)(b:Blk):(H.plus G).new b=(H.new b).plus G∧Dj (H.new b) G:=by
 have hl:=h.low;have hg:G.g H.next=none:=by
  cases hg:G.g H.next with
  | none=>rfl
  | some c=>have:=(h.non' _ (G.sub _ _ hg)).2; omega
 refine⟨?_,by rw[zaf]; omega,λi hi=>?_⟩
 ·show Heap.mk _ _=Heap.mk _ _;congr 1;funext i;show(if i=H.next then some b else (match G.g i with|some b=>some b|none=>H.get i))=(match G.g i with|some b=>some b|none=>if i=H.next then some b else H.get i);by_cases e:i=H.next
  ·subst e; rw[hg,if_pos rfl]
  ·rw[if_neg e,if_neg e]
 ·obtain⟨h1,h2⟩:=h.non' i hi;exact⟨by rw[zaM _ _ (by omega)]; exact h1,h2⟩
def FrR(G:Rst){α:Type}(x y:M α):Prop:=∀H a H',Dj H G→x H=some (a,H')→y (H.plus G)=some (a,H'.plus G)∧Dj H' G
abbrev FrM(G:Rst){α:Type}(x:M α):Prop:=FrR G x x
section
variable {α β:Type}
theorem zb2(v:α):FrM G (M.pure v):=by
 intro H a H' hd h;simp only[M.pure,Option.some.injEq,Prod.mk.injEq]at h ⊢;obtain⟨rfl,rfl⟩:=h;exact⟨⟨rfl,rfl⟩,hd⟩
theorem zcm{y:M α}:FrR G M.fail y:=by intro H a H' hd h; cases h
theorem zfa(o:Option α):FrM G (M.lift o):=by
 intro H a H' hd h;cases o with
 | none=>cases h
 | some v=>exact zb2 v H a H' hd h
theorem zbt{x x':M α}{f g:α→M β}(h:FrR G x x') (k:∀v,FrR G (f v) (g v)):FrR G (x.bind f) (x'.bind g):=by
 intro H a H' hd e;obtain⟨v,H1,h1,h2⟩:=bind_some e;obtain⟨e1,d1⟩:=h H v H1 hd h1;obtain⟨e2,d2⟩:=k v H1 a H' d1 h2;exact⟨by rw[bind_ok e1]; exact e2,d2⟩
theorem fr_ite(c:V){x x' y y':M α}(h:FrR G x y)(k:FrR G x' y'):FrR G (M.ite c x x') (M.ite c y y'):=by
 cases c<;>first|exact zcm|skip
 rename_i b;cases b
 ·exact k
 ·exact h
theorem zdv{H:Heap}{a v:α}{H':Heap}(hd:Dj H G) (h:(v,H)=(a,H')):(some (v,H.plus G):Option (α×Heap))=some (a,H'.plus G)∧Dj H' G:=by
 injection h with h1 h2
 subst h1 h2;exact⟨rfl,hd⟩
theorem zln{H:Heap}{a v:α}{H':Heap}{id:Nat}{b:Blk}{o:Option Blk}(hd:Dj H G)(hb:H.get id=some b) (h:(v,H.set id o)=(a,H')):(some (v,(H.plus G).set id o):Option (α×Heap))=some (a,H'.plus G)∧Dj H' G:=by
 injection h with h1 h2
 subst h1 h2;obtain⟨e,d⟩:=hd.set hb o;exact⟨by rw[e],d⟩
theorem zlo{H:Heap}{a v:α}{H':Heap}{b:Blk}(hd:Dj H G) (h:(v,H.new b)=(a,H')):(some (v,(H.plus G).new b):Option (α×Heap))=some (a,H'.plus G)∧Dj H' G:=by
 injection h with h1 h2
 subst h1 h2;obtain⟨e,d⟩:=hd.new b;exact⟨by rw[e],d⟩
theorem fr_snew{H:Heap}{a v:α}{H':Heap}{id:Nat}{b c:Blk}{o:Option Blk}(hd:Dj H G)(hb:H.get id=some b) (h:(v,(H.set id o).new c)=(a,H')):(some (v,((H.plus G).set id o).new c):Option (α×Heap))=some (a,H'.plus G)∧Dj H' G:=by
 injection h with h1 h2
 subst h1 h2;obtain⟨e,d⟩:=hd.set hb o;obtain⟨e',d'⟩:=d.new c;exact⟨by rw[e,e'],d'⟩
theorem zd1{p:Prop}[Decidable p] {X Y:Option (α×Heap)} {X' Y':Option (α×Heap)} {a:α} {H':Heap} {R:Prop} (h1:X=some (a,H')→X'=some (a,H'.plus G)∧R) (h2:Y=some (a,H')→Y'=some (a,H'.plus G)∧R) (h:(if p then X else Y)=some (a,H')):(if p then X' else Y')=some (a,H'.plus G)∧R:=by
 by_cases hp:p
 ·rw[if_pos hp]at h ⊢; exact h1 h
 ·rw[if_neg hp]at h ⊢; exact h2 h
theorem zaO{a:α}{H':Heap}{X:Prop} (h:(none:Option (α×Heap))=some (a,H')):X:=by cases h
theorem zgr{H:Heap}{id:Nat} {k k':Blk→Option (α×Heap)} {a:α} {H':Heap} (hd:Dj H G) (h:(H.get id).bind k=some (a,H')) (hk:∀b,H.get id=some b→k b=some (a,H')→k' b=some (a,H'.plus G)∧Dj H' G):((H.plus G).get id).bind k'=some (a,H'.plus G)∧Dj H' G:=by
 rw[Option.bind_eq_some_iff]at h;obtain⟨b,hb,h⟩:=h;rw[hd.get hb];exact hk b hb h
theorem zmX{γ:Type}{o:Option γ}{k k':γ→α×Heap}{a:α}{H':Heap}{R:Prop} (h:o.map k=some (a,H')) (hk:∀b,some (k b)=some (a,H')→some (k' b)=some (a,H'.plus G)∧R):o.map k'=some (a,H'.plus G)∧R:=by
 cases o with
 | none=>cases h
 | some b=>exact hk b h
end
theorem za8{γ:Type}{x y:γ}(h:some x=some y):x=y:=Option.some.inj h
theorem zrL(n:Option Nat)(p:V):FrM G (mload n p):=by
 intro H a H' hd h;cases p<;>first|exact zaO h|skip
 ·exact zgr hd h λb hb h=>zmX h λv h=>zdv hd (za8 h)
 ·exact zmX h λv h=>zdv hd (za8 h)
theorem fr_store(n:Nat)(p x:V):FrM G (mstore n p x):=by
 intro H a H' hd h;cases p<;>first|exact zaO h|skip
 exact zgr hd h λb hb h=>zd1 (λh=>zln hd hb (za8 h)) zaO h
theorem fr_box(ty:TypeId)(x:V):FrM G (mbox ty x):=by
 intro H a H' hd h;exact zd1 (λh=>zlo hd (za8 h)) zaO h
theorem fr_slit(ty:TypeId)(l:Nat)(z:List V) (ps:List (Nat×Nat×V)):FrM G (mslit ty l z ps):=by
 intro H a H' hd h;exact zmX h λcs h=>zlo hd (za8 h)
theorem zmA(hd:Dj H G){e:Nat}{v:V}{q:List V×Nat}(h:rcells e H v=some q):rcells e (H.plus G) v=some q:=by
 cases v<;>first|exact h|skip
 simp only[rcells,Option.bind_eq_some_iff]at h ⊢;obtain⟨b,hb,h⟩:=h;exact⟨b,hd.get hb,h⟩
theorem zr7(hd:Dj H G){e:Nat}{v:V}{q:List V×Nat}(h:acells e H v=some q):acells e (H.plus G) v=some q:=by
 cases v with
 | sl id off len cap=>exact zmA (v:=.sl id off len cap) hd h
 | _=>exact h
theorem fr_ac{α:Type}{H:Heap}{e:Nat}{v:V} {k k':List V×Nat→Option (α×Heap)} {a:α} {H':Heap} (hd:Dj H G) (h:(acells e H v).bind k=some (a,H')) (hk:∀q,k q=some (a,H')→k' q=some (a,H'.plus G)∧Dj H' G):(acells e (H.plus G) v).bind k'=some (a,H'.plus G)∧Dj H' G:=by
 rw[Option.bind_eq_some_iff]at h;obtain⟨q,hq,h⟩:=h;rw[zr7 hd hq];exact hk q h
theorem fr_rc{α:Type}{H:Heap}{e:Nat}{v:V} {k k':List V×Nat→Option (α×Heap)} {a:α} {H':Heap} (hd:Dj H G) (h:(rcells e H v).bind k=some (a,H')) (hk:∀q,k q=some (a,H')→k' q=some (a,H'.plus G)∧Dj H' G):(rcells e (H.plus G) v).bind k'=some (a,H'.plus G)∧Dj H' G:=by
 rw[Option.bind_eq_some_iff]at h;obtain⟨q,hq,h⟩:=h;rw[zmA hd hq];exact hk q h
theorem zow(ty e b:Nat)(q:List V×Nat)(x:V):FrM G (mappendq ty e b q x):=by
 intro H a H' hd h;cases x<;>first|exact zaO h|skip
 ·exact zd1 (λh=>zdv hd (za8 h)) (zd1 (λh=>zlo hd (za8 h)) zaO) h
 ·rename_i id off len cap;refine zgr hd h λb hb h=>zd1 (λh=>?_) zaO h;cases cap with
  | fix c=>exact zd1 (zd1 (λh=>zln hd hb (za8 h)) zaO) (zd1 (λh=>zlo hd (za8 h)) zaO) h
  | opn ee=>exact zd1 (zd1 (λh=>zdv hd (za8 h)) (zd1 (λh=>fr_snew hd hb (za8 h)) zaO)) (zd1 (λh=>zdv hd (za8 h)) (zd1 (λh=>zln hd hb (za8 h)) zaO)) h
 ·exact zd1 (λh=>zdv hd (za8 h)) zaO h
theorem zwv(ty e b:Nat)(x y:V):FrM G (mappend ty e b x y):=by
 intro H a H' hd h;exact fr_ac hd h λq h=>zow ty e b q x H a H' hd h
theorem ztZ(ty b:Nat)(z:List V)(x y:V):FrM G (mappendz ty b z x y):=by
 intro H a H' hd h;cases y<;>first|exact zaO h|skip
 exact zd1 (λh=>zow _ _ _ _ _ H a H' hd h) zaO h
theorem fr_copy(e:Nat)(x y:V):FrM G (mcopy e x y):=by
 intro H a H' hd h;refine fr_ac hd h λq h=>?_;cases x<;>first|exact zaO h|skip
 ·exact zdv hd (za8 h)
 ·exact zgr hd h λb hb h=>zd1 (λh=>zln hd hb (za8 h)) zaO h
theorem fr_tostr(x:V):FrM G (mtostr x):=by
 intro H a H' hd h;exact fr_rc hd h λq h=>zmX h λv h=>zdv hd (za8 h)
theorem zov(ty:TypeId)(x:V):FrM G (mtobytes ty x):=by
 intro H a H' hd h;cases x<;>first|exact zaO h|skip
 exact zd1 (λh=>zlo hd (za8 h)) zaO h
theorem zwp(ty:TypeId)(x:V):FrM G (mremark ty x):=by
 intro H a H' hd h;cases x<;>first|exact zaO h|skip
 ·exact zov ty (.str _) H a H' hd h
 ·exact zgr hd h λb hb h=>zd1 zaO (λh=>zdv hd (za8 h)) h
theorem ztW(ty b:Nat)(z:List V)(l c:V):FrM G (mmkslice ty b z l c):=by
 intro H a H' hd h;unfold mmkslice at h ⊢;split at h
 ·exact zd1 (λh=>zlo hd (za8 h)) zaO h
 ·exact zaO h
theorem fr_mknz(ty:TypeId)(x:V):FrM G (mmknz ty x):=by
 intro H a H' hd h;unfold mmknz at h ⊢;split at h
 ·exact zd1 (λh=>zlo hd (za8 h)) zaO h
 ·exact zaO h
theorem zwo(e:Nat)(x lo hi:V):FrM G (mslice2 e x lo hi):=by
 intro H a H' hd h;unfold mslice2 at h ⊢;split at h
 ·exact zgr hd h λb hb h=>zd1 (λh=>zdv hd (za8 h)) zaO h
 ·exact zaO h
theorem fr_clear(z:List V)(x:V):FrM G (mclear z x):=by
 intro H a H' hd h;cases x<;>first|exact zaO h|skip
 exact zd1 (λh=>zdv hd (za8 h)) (λh=>zgr hd h λb hb h=>zd1 (λh=>zln hd hb (za8 h)) zaO h) h
theorem fr_mkmap(ty:TypeId):FrM G (mmkmap ty):=by
 intro H a H' hd h;exact zlo hd (za8 h)
theorem zws(mk:MK)(z:V)(ok:Bool)(x k:V):FrM G (mlookup mk z ok x k):=by
 intro H a H' hd h;cases x<;>first|exact zaO h|skip
 exact zgr hd h λb hb h=>zd1 (λh=>zmX h λv h=>zdv hd (za8 h)) zaO h
theorem zwq(mk:MK)(x k v:V):FrM G (mmapset mk x k v):=by
 intro H a H' hd h;cases x<;>first|exact zaO h|skip
 exact zgr hd h λb hb h=>zd1 (λh=>zmX h λv h=>zln hd hb (za8 h)) zaO h
theorem zwr(x:V):FrM G (mmaplen x):=by
 intro H a H' hd h;cases x<;>first|exact zaO h|skip
 rename_i id;have h':(H.get id).bind (λb=>some (V.int .i64 ((b.cells.length/2:Nat):Int),H))=some (a,H'):=by rw[←h]; simp only[mmaplen]; cases H.get id<;>rfl
 have:=zgr (k':=λb=>some (V.int .i64 ((b.cells.length/2:Nat):Int),H.plus G)) hd h' λb hb h=>zdv hd (za8 h);rw[←this.1];exact⟨by simp only[mmaplen]; cases (H.plus G).get id<;>rfl,this.2⟩
theorem fr_aload(k:IntKind)(p:V):FrM G (matoload k p):=by
 intro H a H' hd h;unfold matoload at h ⊢;rw[Option.bind_eq_some_iff]at h;obtain⟨⟨v,H1⟩,h1,h⟩:=h;obtain⟨e1,d1⟩:=zrL none p H v H1 hd h1;rw[e1];dsimp only[Option.bind_some]at h ⊢;cases v<;>first|exact zaO h|skip
 exact zd1 (λh=>zdv d1 (za8 h)) zaO h
theorem fr_aadd(k:IntKind)(p y:V):FrM G (matoadd k p y):=by
 intro H a H' hd h;unfold matoadd at h ⊢;split at h
 ·refine zgr hd h λb hb h=>?_;split at h
  ·rename_i hc;exact zd1 (λh=>zln hd hb (za8 h)) zaO h
  ·exact zaO h
 ·exact zaO h
theorem ztX(p:Bool)(o:Nat)(x n:V):FrM G (mmapdrop p o x n):=by
 intro H a H' hd h;unfold mmapdrop at h ⊢;split at h
 ·refine zgr hd h λb hb h=>?_;split at h
  ·rename_i hc;exact zgr hd h λb hb h=>zmX h λv h=>zln hd hb (za8 h)
  ·exact zaO h
 ·exact zaO h
section
variable {g:Sem'}
theorem zaC{A:Fr}{x:Arg}{k:V→M V} (h:∀v,FrM G (k v)):FrM G (with1 A x k):=by
 unfold with1;cases x.ev A with
 | none=>exact zcm
 | some v=>exact h v
theorem zl5{A:Fr}{xs:List Arg}{k:List V→M V} (h:∀v,FrM G (k v)):FrM G (withs A xs k):=by
 unfold withs;cases evs A xs with
 | none=>exact zcm
 | some v=>exact h v
theorem fr_run (hg:∀f args,FrM G (g f args)) (A:Fr) (ins:I):FrM G (ins.run g A):=by
 cases ins<;>unfold I.run<;>dsimp only
 case mkmap=>exact fr_mkmap _
 case build zero parts=>cases zaW A parts with|none=>exact zcm|some ps=>exact zfa _
 case slit=>rename_i ps; cases zaW A ps with|none=>exact zcm|some ps=>exact fr_slit _ _ _ _
 case call f args=>exact zl5 λv=>hg f v
 case mkfn f caps=>exact zl5 λv=>zb2 _
 case callv x args=>exact zaC λv=>zl5 λvs=>by cases v<;>first|exact zcm|exact hg _ _
 case slice ck esz x lo hi mx =>
  refine zaC λv=>?_;split
  ·exact zfa _
  ·exact zcm
 case minmax=>exact zaC λv=>zl5 λvs=>zfa _
 all_goals first
  | exact zaC λv=>zb2 _
  | exact zaC λv=>zfa _
  | exact zaC λv=>zaC λw=>zfa _
  | exact zaC λv=>zaC λw=>zaC λu=>zfa _
  | exact zaC λv=>fr_box _ _
  | exact zaC λv=>zrL _ _
  | exact zaC λv=>fr_tostr _
  | exact zaC λv=>zov _ _
  | exact zaC λv=>zwp _ _
  | exact zaC λv=>fr_mknz _ _
  | exact zaC λv=>fr_clear _ _
  | exact zaC λv=>zwr _
  | exact zaC λv=>fr_aload _ _
  | exact zaC λv=>zaC λw=>fr_store _ _ _
  | exact zaC λv=>zaC λw=>zwv _ _ _ _ _
  | exact zaC λv=>zaC λw=>ztZ _ _ _ _ _
  | exact zaC λv=>zaC λw=>fr_copy _ _ _
  | exact zaC λv=>zaC λw=>ztW _ _ _ _ _
  | exact zaC λv=>zaC λw=>zws _ _ _ _ _
  | exact zaC λv=>zaC λw=>fr_aadd _ _ _
  | exact zaC λv=>zaC λw=>ztX _ _ _ _
  | exact zaC λv=>zaC λw=>zaC λu=>zwo _ _ _ _
  | exact zaC λv=>zaC λw=>zaC λu=>zwq _ _ _ _
theorem ztY{A:Fr} {gd:Option (Nat×Bool)} {x:M V} (h:FrM G x):FrM G (guarded A gd x):=by
 unfold guarded;cases gd with
 | none=>exact h
 | some p =>
  dsimp only;cases A.get p.1 with
  | none=>exact zcm
  | some v =>
   cases v with
   | bool b =>
    dsimp only;by_cases hb:b=p.2
    ·rw[if_pos hb]; exact h
    ·rw[if_neg hb]; exact zb2 _
   | tup vs=>cases vs with|nil=>exact zb2 _|cons _ _=>exact zcm
   | _=>exact zcm
theorem zt0 (hg:∀f args,FrM G (g f args)) (A:Fr) (o:AO):FrM G (o.run g A):=ztY (fr_run hg A o.ins)
theorem fr_ops (hg:∀f args,FrM G (g f args)):∀(l:List AO) (A:Fr),FrM G (zeE g l A)
 | [],A=>zb2 A
 | o::l,A=>zbt (zt0 hg A o) λv=>fr_ops hg l _
theorem zwn(v:V)(h h':Heap):FrR G (M.unch v h h') (M.unch v (h.plus G) (h'.plus G)):=by
 intro H a H' hd e;unfold M.unch at e ⊢;split at e
 ·rename_i hp;rw[if_pos]
  ·exact zdv hd (za8 e)
  ·intro id hid;show(match G.g id with|some b=>some b|none=>h'.get id)=(match G.g id with|some b=>some b|none=>h.get id);rw[hp id hid]
 ·exact zaO e
theorem zpk (un:List (Nat×Nat)) (j:Nat) (h h':Heap):∀rs,FrR G (zbf un j h h' rs) (zbf un j (h.plus G) (h'.plus G) rs)
 | []=>zb2 ()
 | (i,a)::rs=>by
  unfold zbf;by_cases hc:un.contains (i,j)=true
  ·rw[if_pos hc,if_pos hc]; exact zbt (zwn a h h') λ_=>zpk un j h h' rs
  ·rw[if_neg hc,if_neg hc]; exact zpk un j h h' rs
theorem zpl (un:List (Nat×Nat)) (i:Nat) (a:V):∀js,FrR G (zbd un i a js) (zbd un i a (js.map λq=>(q.1,q.2.1.plus G,q.2.2.plus G)))
 | []=>zb2 ()
 | (j,h,h')::js=>by
  show FrR G (zbd un i a ((j,h,h')::js)) (zbd un i a ((j,h.plus G,h'.plus G)::js.map λq=>(q.1,q.2.1.plus G,q.2.2.plus G)));unfold zbd;by_cases hc:un.contains (i,j)=true
  ·rw[if_pos hc,if_pos hc]; exact zbt (zwn a h h') λ_=>zpl un i a js
  ·rw[if_neg hc,if_neg hc]; exact zpl un i a js
theorem zwt{α:Type}{f f':Heap→M α} (h:∀H,Dj H G→FrR G (f H) (f' (H.plus G))):FrR G (M.getH.bind f) (M.getH.bind f'):=by
 intro H a H' hd e;exact h H hd H a H' hd e
theorem fr_draw (hg:∀f args,FrM G (g f args)) (un:List (Nat×Nat)):∀(l:List AO) (p:Nat) (rs:List (Nat×V)) (js:List (Nat×Heap×Heap)) (A:Fr),FrR G (zaN g un p rs js l A) (zaN g un p rs (js.map λq=>(q.1,q.2.1.plus G,q.2.2.plus G)) l A):=by
 intro l
 induction l with
 | nil=>intro p rs js A; exact zb2 A
 | cons o l ih =>
  intro p rs js A;unfold zaN;cases hk:o.ins.kind with
  | read x =>
   dsimp only;unfold zaN.with1';cases x.ev A with
   | none=>exact zbt (zt0 hg A o) λv=>zbt (zpl un p _ js) λ_=>ih _ _ _ _
   | some a=>exact zbt (zt0 hg A o) λv=>zbt (zpl un p _ js) λ_=>ih _ _ _ _
  | act=>exact zwt λh hd=>zbt (zt0 hg A o) λv=>zwt λh' hd'=>zbt (zpk un p h h' rs) λ_=>ih _ _ ((p,h,h')::js) _
  | pure=>exact zbt (zt0 hg A o) λv=>ih _ _ _ _
  | new=>exact zbt (zt0 hg A o) λv=>ih _ _ _ _
theorem fr_iter{body:List V→M Res} (h:∀L,FrM G (body L)) (L:List V):FrM G (M.iter body L):=by
 intro H a H' hd e;obtain⟨n,hn⟩:=zee e;have key:∀(n:Nat) (L:List V),FrM G (iterN body n L):=by
  intro n
  induction n with
  | zero=>intro L; exact zcm
  | succ n ih =>
   intro L;show FrM G (M.join (body L) (iterN body n));refine zbt (h L) λr=>?_;cases r with
   | nrm L'=>exact ih L'
   | ex id L'=>exact zb2 _
   | ret L'=>exact zb2 _
 obtain⟨e1,d1⟩:=key n L H a H' hd hn;exact⟨zes e1,d1⟩
theorem zkZ(A:Fr):∀rv,FrM G (results A rv)
 | []=>zb2 _
 | .tmp t::rs=>zbt (zfa _) λv=>zbt (zkZ A rs) λvs=>zb2 _
 | .cell t n::rs=>zbt (zfa _) λa=>zbt (zrL n a) λv=>zbt (zkZ A rs) λvs=>zb2 _
theorem fr_exec (hg:∀f args,FrM G (g f args)) (rv:List RV):∀(c:C) (cx:List (Nat×List Nat)) (J:List Nat) (A:Fr),FrM G (exec g rv c cx J A):=by
 intro c
 induction c with
 | done=>intro cx J A; exact zbt (zfa _) λL=>zb2 _
 | bad=>intro cx J A; exact zcm
 | ops l k ih=>intro cx J A; exact zbt (fr_ops hg l A) λA'=>ih _ _ _
 | draw l un k ih=>intro cx J A; exact zbt (fr_draw hg un l 0 [] [] A) λA'=>ih _ _ _
 | cond x a b iha ihb =>
  intro cx J A;simp only[exec];cases x.ev A with
  | none=>exact zcm
  | some c=>exact fr_ite c (iha _ _ _) (ihb _ _ _)
 | condJ x a b J' W k iha ihb ihk =>
  intro cx J A;simp only[exec];cases x.ev A with
  | none=>exact zcm
  | some c =>
   refine zbt (fr_ite c (iha _ _ _) (ihb _ _ _)) λr=>?_;cases r with
   | nrm L=>exact ihk _ _ _
   | ex id L=>exact zb2 _
   | ret L=>exact zb2 _
 | blk id a J' W k iha ihk =>
  intro cx J A;simp only[exec,M.blk];refine zbt (iha _ _ _) λr=>?_;cases r with
  | nrm L=>exact ihk _ _ _
  | ex i L =>
   dsimp only;by_cases e:i=id
   ·simp only[if_pos e]; exact ihk _ _ _
   ·simp only[if_neg e]; exact zb2 _
  | ret L=>exact zb2 _
 | loop a K W iha =>
  intro cx J A;exact zbt (zfa _) λL=>fr_iter (λL=>iha _ _ _) L
 | exit id =>
  intro cx J A;simp only[exec];cases zi5 cx id with
  | none=>exact zcm
  | some J=>exact zbt (zfa _) λL=>zb2 _
 | ret=>intro cx J A; exact zbt (zkZ A rv) λL=>zb2 _
theorem fr_fn (hg:∀f args,FrM G (g f args)) (f:Fn') (args:List V):FrM G (f.run g args):=zbt (fr_exec hg _ _ _ _ _) λr=>by
 cases r with
 | ret L=>exact zb2 _
 | nrm L=>exact zcm
 | ex id L=>exact zcm
end
theorem zwu{T:FuncId→Option Fn'}:∀(n:Nat) (f:FuncId) (args:List V),FrM G (deep T n f args)
 | 0,f,args=>zcm
 | n+1,f,args=>by
  unfold deep;cases T f with
  | none=>exact zcm
  | some ir =>
   dsimp only;split
   ·exact fr_fn (zwu n) ir args
   ·exact zcm
theorem fr_sem{T:FuncId→Option Fn'}(f:FuncId)(args:List V):FrM G (sem T f args):=by
 intro H a H' hd e;unfold sem at e;split at e
 ·obtain⟨e1,d1⟩:=zwu _ f args H a H' hd e;exact⟨zgP e1,d1⟩
 ·cases e
def Heap.sans(H:Heap)(N:Nat→Bool):Heap:=⟨λi=>if i<H.next∧N i=true then none else H.get i,H.next⟩
theorem ok_sans{T:FuncId→Option Fn'}{f:FuncId}{args:List V}{H:Heap}{Q:V→Heap→Prop}(N:Nat→Bool) (h:Ok (sem T f args) (H.sans N) Q) :
  Ok (sem T f args) H λv H'=>∃H1,Q v H1∧H'.next=H1.next∧H.next≤H'.next∧(∀i,i<H.next→N i=true→H'.get i=H.get i)∧∀i,¬(i<H.next∧N i=true)→H'.get i=H1.get i:=by
 obtain⟨v,H1,h1,hq⟩:=h;have hG:∀i b,(if i<H.next∧N i=true then H.get i else none)=some b→decide (i<H.next∧N i=true)=true:=λi b hb=>by
  by_cases hc:i<H.next∧N i=true
  ·exact decide_eq_true hc
  ·rw[if_neg hc]at hb; cases hb
 generalize hR:(⟨λi=>if i<H.next∧N i=true then H.get i else none,λi=>decide (i<H.next∧N i=true),H.next,hG⟩:Rst)=G;have hg:∀i,G.g i=if i<H.next∧N i=true then H.get i else none:=λi=>by rw[←hR]
 have hr:∀i,G.r i=decide (i<H.next∧N i=true):=λi=>by rw[←hR]
 have hn:G.n=H.next:=by rw[←hR]
 have hd:Dj (H.sans N) G:=by
  refine⟨by rw[hn]; exact Nat.le_refl _,λi hb=>?_⟩;rw[hr]at hb;have hb:=of_decide_eq_true hb;exact⟨if_pos hb,by rw[hn]; exact hb.1⟩
 have e:(H.sans N).plus G=H:=by
  show Heap.mk _ _=H;congr 1;funext i;rw[hg];by_cases hc:i<H.next∧N i=true
  ·rw[if_pos hc];cases hgi:H.get i with
   | none=>show(if i<H.next∧N i=true then none else H.get i)=none; rw[if_pos hc]
   | some b=>rfl
  ·rw[if_neg hc];exact if_neg hc
 obtain⟨e1,d1⟩:=fr_sem f args (H.sans N) v H1 hd h1;rw[e]at e1;refine⟨v,_,e1,H1,hq,rfl,by have:=d1.low; rw[hn]at this; exact this,λi h1 h2=>?_,λi hi=>?_⟩
 ·have hz:=(d1.non' i (by rw[hr]; exact decide_eq_true ⟨h1,h2⟩)).1;show(match G.g i with|some b=>some b|none=>H1.get i)=H.get i;rw[hg,if_pos ⟨h1,h2⟩,hz];cases H.get i<;>rfl
 ·show(match G.g i with|some b=>some b|none=>H1.get i)=H1.get i;rw[hg,if_neg hi]
end
end Go.Ax
/- Ax49 -/
namespace Go.Ax
structure KnB (d:Rn) (H:Heap) (s:List Nat) (bs:List (Option Blk)):Prop where
 len:s.length=bs.length
 nd:s.Nodup
 lt:∀j∈s,j<H.next
 get:∀i (hi:i<s.length) b,bs[bs.length-1-i]?=some (some b)→H.get s[i]=some (shB d b)
def look(l:List Nat) (r:Option (V×Cc.Heap)):Option (V×List (Option Blk)):=r.map λq=>(q.1,l.map q.2.get)
theorem zpJ{T:FuncId→Option Fn'}(hT:∀f ir,T f=some ir→ir.body.still=true){f:FuncId}{args:List V}{m:Nat}{v:V} {bs:List (Option Blk)} {l:List Nat} {os:List (Option Blk)} (h:look l (Cc.cd T m f args (Cc.hp bs))=some (v,os)) {H:Heap} (hc:H.Cl) {s:List Nat} (hs:s.Nodup) (hn:∀j∈s,j<H.next)
  (hk:KnB (rnOf s H.next hs hn) H s bs) (hv:∀j∈l,bs.length≤j∨∃b,bs[bs.length-1-j]?=some (some b)) :
  Ok (sem T f (shL (rnOf s H.next hs hn) args)) H λr H'=>r=sh (rnOf s H.next hs hn) v∧H.next≤H'.next∧(∀i,i<H.next→(∀j (hj:j<s.length) b,bs[bs.length-1-j]?=some (some b)→s[j]≠i)→H'.get i=H.get i) ∧
   (∀j (hj:j<l.length),H'.get (rnF s H.next l[j])=(os[j]?.join).map (shB (rnOf s H.next hs hn)))∧H'.Cl:=by
 classical
 obtain⟨c,hcd,rfl⟩:∃c,Cc.cd T m f args (Cc.hp bs)=some (v,c)∧os=l.map c.get:=by
  unfold look at h;cases hr:Cc.cd T m f args (Cc.hp bs) with
  | none=>rw[hr]at h; cases h
  | some q =>
   rw[hr]at h;simp only[Option.map_some,Option.some.injEq,Prod.mk.injEq]at h;obtain⟨rfl,rfl⟩:=h;exact⟨q.2,rfl,rfl⟩
 let vis:Nat→Prop:=λi=>∃j,∃hj:j<s.length,(∃b,bs[bs.length-1-j]?=some (some b))∧s[j]=i
 let N:Nat→Bool:=λi=>decide (¬vis i)
 have hl:=hk.len;have hcs:(H.sans N).Cl:=λi hi=>by
  have hi:H.next≤i:=hi;show(if i<H.next∧N i=true then none else H.get i)=none;rw[if_neg (by omega)];exact hc i hi
 have hg:∀i (hi:i<s.length),(H.sans N).get s[i]=((bs[bs.length-1-i]?).join).map (shB (rnOf s H.next hs hn)):=λi hi=>by
  have hlt:=hn s[i] (List.getElem_mem hi);show(if s[i]<H.next∧N s[i]=true then none else H.get s[i]) = _;have hb:bs[bs.length-1-i]?=some (bs[bs.length-1-i]'(by omega)):=List.getElem?_eq_getElem _;by_cases hvis:vis s[i]
  ·rw[if_neg (by simp[N,hvis])];obtain⟨j,hj,⟨b,hbj⟩,e⟩:=hvis;have:j=i:=(List.getElem_inj hs).1 e;subst this;rw[hk.get j hi b hbj,hbj];rfl
  ·rw[if_pos ⟨hlt,by simp[N,hvis]⟩];cases hx:bs[bs.length-1-i]'(by omega) with
   | none=>rw[hb,hx]; rfl
   | some b=>exact absurd ⟨i,hi,⟨b,by rw[hb,hx]⟩,rfl⟩ hvis
 have h1:=ren_ok hT hcd (H:=H.sans N) hcs hl hs hn hg;obtain⟨r,H',e,⟨H1,⟨rfl,rfl,hn1,-,-⟩,hnx,hge,hsm,hot⟩⟩:=ok_sans N h1;refine⟨_,H',e,rfl,hge,λi hi hni=>hsm i hi ?_,λj hj=>?_,?_⟩
 ·show decide (¬vis i)=true;refine decide_eq_true ?_;rintro⟨j,hj,⟨b,hb⟩,e⟩;exact hni j hj b hb e
 ·have hlj:=hv l[j] (List.getElem_mem hj);have hnot:¬(rnF s H.next l[j]<H.next∧N (rnF s H.next l[j])=true):=by
   rintro⟨h1,h2⟩;have h2:=of_decide_eq_true h2;unfold rnF at h1 h2;by_cases hjs:l[j]<s.length
   ·rw[dif_pos hjs]at h2;rcases hlj with h3|⟨b,h3⟩
    ·omega
    ·exact h2 ⟨l[j],hjs,⟨b,h3⟩,rfl⟩
   ·rw[dif_neg hjs]at h1;omega
  rw[hot _ hnot,List.getElem?_map,List.getElem?_eq_getElem hj];exact zmh (d:=rnOf s H.next hs hn) (R:=(H.sans N).get) c.abs l[j]
 ·exact(zwR (G:=⟨0⟩) f _ H _ _ ⟨hc,Nat.zero_le _⟩ e).2.cl
end Go.Ax
/- St1 -/
namespace Go.Ax.SU
open Go.Ax Go.Proofs
theorem hT:∀f ir,T f=some ir→ir.body.still=true:=λf ir h=>zpY h
def rn0(n:Nat):Rn:=rnOf [] n List.nodup_nil (λ_ h=>by cases h)
theorem zkD{f:FuncId}{args:List V}{m:Nat}{v:V}{l:List Nat} {os:List (Option Blk)} (h:Ax.look l (Cc.cd T m f args (Cc.hp []))=some (v,os)) (ha:V.stills args=true) {H:Heap} (hc:H.Cl) :
  Ok (sem T f args) H λr H'=>r=sh (rn0 H.next) v∧Grow H H'∧(∀j (hj:j<l.length),H'.get (H.next+l[j])=(os[j]?.join).map (shB (rn0 H.next)))∧H'.Cl:=by
 have:=zpJ hT (s:=[]) (bs:=[]) h hc List.nodup_nil (λ_ h=>by cases h) ⟨rfl,List.nodup_nil,λ_ h=>(by cases h),λi hi=>absurd hi (Nat.not_lt_zero _)⟩ (λj _=>.inl (Nat.zero_le j));rw[zbN args ha]at this;refine zam this ?_;rintro r H' ⟨rfl,h1,h2,h3,h4⟩;exact⟨rfl,⟨h1,λi hi=>h2 i hi λj hj=>absurd hj (Nat.not_lt_zero _)⟩,h3,h4⟩
theorem zfM:∀l:List Nat,V.stills (l.map by8)=true
 | []=>rfl
 | x::l=>by show((V.int .u8 (x:Nat)).still&&V.stills (l.map by8))=true; rw[zfM l]; rfl
theorem zsO{f:FuncId}{args:List V}{m j n:Nat}{l:List Nat} (h:Ax.look [j] (Cc.cd T m f args (Cc.hp []))=some (.sl j 0 n (.opn 1),[some ⟨zaa,l.map by8,some 1⟩])) (ha:V.stills args=true) (hn:n=l.length) {H:Heap} (hc:H.Cl) :
  Ok (sem T f args) H λr H'=>Ab H.next H' r l∧Grow H H'∧H'.Cl:=by
 refine zam (zkD h ha hc) ?_;rintro r H' ⟨rfl,s,hg,c⟩;have g:H'.get (H.next+j)=some (shB (rn0 H.next) ⟨zaa,l.map by8,some 1⟩):=hg 0 Nat.zero_lt_one;have e:shB (rn0 H.next) ⟨zaa,l.map by8,some 1⟩=⟨zaa,l.map by8,some 1⟩:=by
  unfold shB;rw[zbN _ (zfM l)]
 rw[e]at g;subst hn;have hlt:H.next+j<H'.next:=by
  by_cases h:H.next+j<H'.next
  ·exact h
  ·rw[c _ (by omega)]at g; cases g
 refine⟨.app (.opn (.inr ⟨H.next+j,rfl,g,by rw[List.length_map,Nat.mul_one]⟩) λi hi=>?_),s,c⟩;injection hi with hi
 subst hi;exact⟨Nat.le_add_right _ _,hlt⟩
theorem num_w{H:Heap}(hc:H.Cl):Ok (sem T zdo [.int .i64 1,.int .i64 4]) H λr H'=>Ab H.next H' r [0,0,0,1]∧Grow H H'∧H'.Cl :=
 zsO (m:=5) (j:=7) (n:=4) (by kernel_rfl) rfl rfl hc
theorem num_e{H:Heap}(hc:H.Cl){e:Nat}(he:e=0∨e=1∨e=3):Ok (sem T zdo [.int .i64 (e:Nat),.int .i64 2]) H λr H'=>Ab H.next H' r [0,e]∧Grow H H'∧H'.Cl:=by
 rcases he with rfl|rfl|rfl
 ·exact zsO (m:=5) (j:=3) (n:=2) (by kernel_rfl) rfl rfl hc
 ·exact zsO (m:=5) (j:=3) (n:=2) (by kernel_rfl) rfl rfl hc
 ·exact zsO (m:=5) (j:=3) (n:=2) (by kernel_rfl) rfl rfl hc
theorem okb_boxq{β:Type}{H:Heap}{ty:TypeId}{n:Nat}{zs cs:List V}{f:V→V→M β}{Q:β→Heap→Prop}(hz:zs.length=n)(hl:cs.length=n) (k:∀q H',q=H.next→H'.get q=some ⟨ty,cs,none⟩→Grow H H'→H'.next=H.next+1→Ok (f (.ptr q 0) .undef) H' Q) :
  Ok ((mbox ty (.agg zs)).bind λt=>(mstore n t (.agg cs)).bind λu=>f t u) H Q:=by
 refine zaB (zeG rfl ?_);rw[zaz];have g:=zag H ⟨ty,zs,none⟩;refine zaB (zss g (by rw[zaz]; exact hl) (by show 0+n≤zs.length; omega) rfl ?_);refine k _ _ rfl ?_ ((Grow.new _ _).set (Nat.le_refl _) _) rfl;rw[zai,zaz];congr 2;unfold splice;rw[List.take_zero,List.nil_append,List.drop_of_length_le (by show zs.length≤0+cs.length; omega),List.append_nil]
theorem zl2{β:Type}{H:Heap}{ty:TypeId}{zs:List V}{f:V→M β}{Q:β→Heap→Prop} (k:∀q H',q=H.next→H'.get q=some ⟨ty,zs,none⟩→Grow H H'→H'.next=H.next+1→(H.Cl→H'.Cl)→Ok (f (.ptr q 0)) H' Q):Ok ((mbox ty (.agg zs)).bind f) H Q:=by
 refine zaB (zeG rfl ?_);rw[zaz];exact k _ _ rfl (zag _ _) (Grow.new _ _) rfl λhc=>zdV hc _
theorem zgm{β:Type}{H:Heap}{ty:TypeId}{n:Nat}{zs cs:List V}{f:V→V→M β}{Q:β→Heap→Prop}(hc:H.Cl)(hz:zs.length=n)(hl:cs.length=n) (k:∀q H',q=H.next→H'.get q=some ⟨ty,cs,none⟩→Grow H H'→H'.next=H.next+1→H'.Cl→Ok (f (.ptr q 0) .undef) H' Q) :
  Ok ((mbox ty (.agg zs)).bind λt=>(mstore n t (.agg cs)).bind λu=>f t u) H Q:=by
 refine zaB (zeG rfl ?_);rw[zaz];have g:=zag H ⟨ty,zs,none⟩;refine zaB (zss g (by rw[zaz]; exact hl) (by show 0+n≤zs.length; omega) rfl ?_);refine k _ _ rfl ?_ ((Grow.new _ _).set (Nat.le_refl _) _) rfl (zbZ (zdV hc _) (by rw[zaf]; omega) _);rw[zai,zaz];congr 2;unfold splice;rw[List.take_zero,List.nil_append,List.drop_of_length_le (by show zs.length≤0+cs.length; omega),List.append_nil]
def znU(salt key info:List Nat):List Nat:=(hkdf kc (hmac kc salt key) info 1).1.take 32
theorem zqy(salt key info:List Nat):(znU salt key info).length=32:=by unfold znU; rw[List.length_take,ziJ]; omega
theorem zvZ(salt key info:List Nat):Ok8 (znU salt key info):=Ok8.take (zmW kc _ _ _).1 _
def sOwn:List Nat:=[111,119,110]
theorem zvW{lo lo':Nat}{H:Heap}{kv iv:V}{key info:List Nat}(hk:By lo H kv key)(k8:Ok8 key)(kl:key.length≤1099511627776)(hi:By lo' H iv info)(i8:Ok8 info)(il:info.length≤1099511000000) :
  Ok (sem T zfR [.str ⟨#[111,119,110]⟩,kv,iv]) H λr H'=>By H.next H' r (znU sOwn key info)∧Grow H H':=by
 refine zqn ?_;unfold zm6 uL uT uE uO uc;have t0:mtobytes zaa (.str ⟨#[111,119,110]⟩) H=some (.sl H.next 0 3 (.opn 1),H.new ⟨zaa,sOwn.map by8,some 1⟩):=rfl;refine zaB ⟨_,_,t0,?_⟩;have s0:=Grow.new H ⟨zaa,sOwn.map by8,some 1⟩;have g0:(H.new ⟨zaa,sOwn.map by8,some 1⟩).get H.next=some ⟨zaa,sOwn.map by8,some 1⟩:=zag _ _;have n0:(H.new ⟨zaa,sOwn.map by8,some 1⟩).next=H.next+1:=zaf _ _;generalize H.new _=H0 at *;have ha:Ab H.next H0 (.sl H.next 0 3 (.opn 1)) sOwn:=.app (.opn (.inr ⟨H.next,rfl,g0,rfl⟩) λi hi=>by injection hi with hi; omega);refine zae (zoM ha.by (all8 rfl) (by decide) (hk.ext s0) k8 kl) ?_;rintro _ H1 ⟨rfl,s1⟩;have n1:=s1.next;have sl:(hmac kc sOwn key).length=32:=zeP _ _ _;have s8:Ok8 (hmac kc sOwn key):=zmV _ _ _;have sp:=sp32 sl;have l32:((hmac kc sOwn key).map by8).length=32:=by rw[List.length_map,sl]
 have vs:=zmf (n:=32) (id:=H1.next);refine okb_boxq rfl (by rw[List.length_map,sl]) λq H2 e2 g2 s2 n2=>?_;have vs:=zmf (n:=32) (id:=q);simp(maxSteps:=1000000) (disch:=first|omega|(simp only[RY]<;>omega)|decide)only[↓RD,RZ,eq_self,Int.reduceToNat,Int.reduceAdd,Int.reduceSub,Int.reduceMul,Nat.reduceAdd,Nat.reduceSub,Nat.reduceMul,Nat.reduceDiv,Nat.reduceMod,Nat.reduceBEq,Nat.reduceLeDiff,vs];refine zae (znB (n:=32) (zkG (lo:=0) g2 sl (by omega) (by omega)) s8 (by omega) (hi.ext ((s0.trans s1).trans s2)) i8 il (by decide)) ?_;rintro _ H7 ⟨key',rfl,hkey,s7⟩;simp(maxSteps:=1000000) (disch:=first|omega|(simp only[RY]<;>omega)|decide)only[↓RD,RZ,eq_self,Int.reduceToNat,Int.reduceAdd,Int.reduceSub,Int.reduceMul,Nat.reduceAdd,Nat.reduceSub,Nat.reduceMul,Nat.reduceDiv,Nat.reduceMod,Nat.reduceBEq,Nat.reduceLeDiff];exact⟨hkey.low (by omega),((s0.trans s1).trans s2).trans s7⟩
theorem own_ok{s lo e:Nat}{H:Heap}{sv:V}{seed:List Nat}{cs:List V}(hc:H.Cl) (hg:H.get s=some ⟨zac,cs,none⟩) (h2:cs[2]?=some sv) (h4:cs[4]?=some (.int .i64 1)) (hv:By lo H sv seed) (v8:Ok8 seed) (vl:seed.length≤1099511627776) (he:e=0∨e=1∨e=3) :
  Ok (sem T zcE [.ptr s 0,.int .i64 (e:Nat)]) H λr H'=>By H.next H' r (znU sOwn seed [0,0,0,1,0,e])∧Grow H H'∧H'.Cl:=by
 have hlt:s<H.next:=by
  by_cases h:s<H.next
  ·exact h
  ·rw[hc s (by omega)]at hg; cases hg
 refine zam (zkW hc (Q:=λr H'=>By H.next H' r (znU sOwn seed [0,0,0,1,0,e])∧Grow H H') ?_) λ_ _ h=>⟨h.1.1,h.1.2,h.2⟩;refine zlH ?_;unfold ziu uM uNFM uNF uU uc;simp(maxSteps:=1000000) (disch:=first|omega|(simp only[RY]<;>omega)|decide)only[↓RD,RZ,eq_self,Int.reduceToNat,Int.reduceAdd,Int.reduceSub,Int.reduceMul,Nat.reduceAdd,Nat.reduceSub,Nat.reduceMul,Nat.reduceDiv,Nat.reduceMod,Nat.reduceBEq,Nat.reduceLeDiff,hg,h2,h4];refine zae (num_w hc) ?_;rintro x1 H1 ⟨hx1,s1,c1⟩;have g1:=(s1.same s hlt).trans hg;simp(maxSteps:=1000000) (disch:=first|omega|(simp only[RY]<;>omega)|decide)only[↓RD,RZ,eq_self,Int.reduceToNat,Int.reduceAdd,Int.reduceSub,Int.reduceMul,Nat.reduceAdd,Nat.reduceSub,Nat.reduceMul,Nat.reduceDiv,Nat.reduceMod,Nat.reduceBEq,Nat.reduceLeDiff,g1,hg];refine zae (num_e c1 he) ?_;rintro x2 H2 ⟨hx2,s2,c2⟩;have g2:=(s2.same s (by have:=s1.next; omega)).trans g1;have n1:=s1.next;have n2:=s2.next;simp(maxSteps:=1000000) (disch:=first|omega|(simp only[RY]<;>omega)|decide)only[↓RD,RZ,eq_self,Int.reduceToNat,Int.reduceAdd,Int.reduceSub,Int.reduceMul,Nat.reduceAdd,Nat.reduceSub,Nat.reduceMul,Nat.reduceDiv,Nat.reduceMod,Nat.reduceBEq,Nat.reduceLeDiff,g2,g1];rw[zaT];refine okb_ab (m:=[0,e]) (hx1.keep (s2.keep _)) (by omega) hx2.by.ac (by simp) λx3 H3 h3 b3=>?_;have sT:Grow H H3:=Grow.bel' (s1.trans s2) (Nat.le_refl _) b3;have g3:=(b3.same s hlt).trans g2;simp(maxSteps:=1000000) (disch:=first|omega|(simp only[RY]<;>omega)|decide)only[↓RD,RZ,eq_self,Int.reduceToNat,Int.reduceAdd,Int.reduceSub,Int.reduceMul,Nat.reduceAdd,Nat.reduceSub,Nat.reduceMul,Nat.reduceDiv,Nat.reduceMod,Nat.reduceBEq,Nat.reduceLeDiff,g2,g3];refine zae (zvW (hv.ext sT) v8 vl h3.by (by intro y hy; simp at hy; omega) (by simp)) ?_;rintro r H4 ⟨hr,s4⟩;simp(maxSteps:=1000000) (disch:=first|omega|(simp only[RY]<;>omega)|decide)only[↓RD,RZ,eq_self,Int.reduceToNat,Int.reduceAdd,Int.reduceSub,Int.reduceMul,Nat.reduceAdd,Nat.reduceSub,Nat.reduceMul,Nat.reduceDiv,Nat.reduceMod,Nat.reduceBEq,Nat.reduceLeDiff];exact⟨hr.low sT.next,sT.trans s4⟩
end Go.Ax.SU
/- Lk6 -/
namespace Go.Ax.SU
open Go.Ax
theorem Apf.ty{ty e lo n:Nat}{H:Heap}{v:V}{cs:List V}(h:Apf ty e lo H v cs n):∀i,v.pid=some i→∃b,H.get i=some b∧b.ty=ty:=by
 intro i hi;cases h with
 | full h _ _ _=>simp only[V.pid,Option.some.injEq]at hi; subst hi; exact⟨_,h,rfl⟩
 | app h =>
  cases h with
  | lit h _ _=>simp only[V.pid,Option.some.injEq]at hi; subst hi; exact⟨_,h,rfl⟩
  | opn h _ =>
   rcases h with⟨rfl,_,_⟩|⟨id,rfl,h,_⟩
   ·cases hi
   ·simp only[V.pid,Option.some.injEq]at hi; subst hi; exact⟨_,h,rfl⟩
def OddR(b:Blk):Prop:=Odd b∧b.ty≠zaa∧b.ty≠zcD
structure ChainM (lo:Nat) (H:Heap) (q st:Nat) (base:List Nat):Prop where
 low:q<H.next
 lo':lo≤q
 mem:∃bv,H.get q=some ⟨zcD,[.int .i64 (st:Nat),bv],none⟩∧By lo H bv base∧∀i,bv.pid=some i→∃b,H.get i=some b∧b.ty=zaa
 b8:Ok8 base
 bl:base.length≤1099511627
 st31:st≤31
theorem ChainM.atS{lo:Nat}{S:List Nat}{H H':Heap}{q st:Nat}{base:List Nat}(h:ChainM lo H q st base)(s:AtS S H H')(hS:∀i∈S,i<lo∨∃b,H.get i=some b∧OddR b):ChainM lo H' q st base:=by
 obtain⟨bv,h1,h2,h3⟩:=h.mem;have hq:q∉S:=λe=>by
  rcases hS q e with h4|⟨b,hb,ho⟩
  ·have:=h.lo'; omega
  ·rw[h1]at hb; injection hb with hb; subst hb; exact ho.2.2 rfl
 have hv:∀i,bv.pid=some i→i∉S:=λi hi e=>by
  rcases hS i e with h4|⟨b,hb,ho⟩
  ·have:=(h2.own i hi).1; omega
  ·obtain⟨b',hb',ht⟩:=h3 i hi;rw[hb]at hb'; injection hb' with hb'; subst hb'; exact ho.2.1 ht
 exact⟨Nat.lt_of_lt_of_le h.low s.next,h.lo',⟨bv,(s.same q h.low hq).trans h1,Lc.atS h2 s hv,λi hi=>by
  obtain⟨b,hb,ht⟩:=h3 i hi;exact⟨b,(s.same i (h2.own i hi).2 (hv i hi)).trans hb,ht⟩⟩,h.b8,h.bl,h.st31⟩
theorem ChainM.grow{lo:Nat}{H H':Heap}{q st:Nat}{base:List Nat}(h:ChainM lo H q st base)(s:Grow H H'):ChainM lo H' q st base:=h.atS (Grow.atS s []) λi hi=>by simp at hi
structure Rc where
 id:Nat
 ch:List ((Int×Int)×(Nat×List Nat))
 win:List (Nat×WS)
 ks:List (Nat×Ky)
def Al{α β γ:Type}(P:β→γ→Prop):List (α×β)→List (α×γ)→Prop
 | [],[]=>True
 | p::l,q::m=>p.1=q.1∧P p.2 q.2∧Al P l m
 | _,_=>False
theorem Al.mono{α β γ:Type}{P Q:β→γ→Prop}(h:∀b c,P b c→Q b c):∀{l:List (α×β)} {m:List (α×γ)},Al P l m→Al Q l m
 | [],[],_=>trivial
 | _ :: _,_ :: _,⟨h1,h2,h3⟩=>⟨h1,h _ _ h2,Al.mono h h3⟩
 | [],_ :: _,h=>h.elim
 | _ :: _,[],h=>h.elim
theorem Al.len{α β γ:Type}{P:β→γ→Prop}:∀{l:List (α×β)} {m:List (α×γ)},Al P l m→l.length=m.length
 | [],[],_=>rfl
 | _ :: _,_ :: _,⟨_,_,h3⟩=>by rw[List.length_cons,List.length_cons,Al.len h3]
 | [],_ :: _,h=>h.elim
 | _ :: _,[],h=>h.elim
theorem Al.look{α β γ:Type}[DecidableEq α]{P:β→γ→Prop}(a:α):∀{l:List (α×β)} {m:List (α×γ)},Al P l m→(look a l=none∧look a m=none)∨∃x y,look a l=some x∧look a m=some y∧P x y
 | [],[],_=>.inl ⟨rfl,rfl⟩
 | (k,v)::l,(k',v')::m,⟨h1,h2,h3⟩=>by
  have h1:k=k':=h1;subst h1;simp only[SU.look];by_cases e:a=k
  ·rw[if_pos e,if_pos e]; exact .inr ⟨_,_,rfl,rfl,h2⟩
  ·rw[if_neg e,if_neg e]; exact Al.look a h3
 | [],_ :: _,h=>h.elim
 | _ :: _,[],h=>h.elim
theorem Al.put{α β γ:Type}[DecidableEq α]{P:β→γ→Prop}(a:α){x:β}{y:γ}(hp:P x y):∀{l:List (α×β)} {m:List (α×γ)},Al P l m→Al P (putl a x l) (putl a y m)
 | [],[],_=>⟨rfl,hp,trivial⟩
 | (k,v)::l,(k',v')::m,⟨h1,h2,h3⟩=>by
  have h1:k=k':=h1;subst h1;simp only[putl];by_cases e:a=k
  ·rw[if_pos e,if_pos e]; exact⟨rfl,hp,h3⟩
  ·rw[if_neg e,if_neg e]; exact⟨rfl,h2,Al.put a hp h3⟩
 | [],_ :: _,h=>h.elim
 | _ :: _,[],h=>h.elim
def mapv{α β:Type}(f:β→V) (l:List (α×β)):List (α×V):=l.map λp=>(p.1,f p.2)
def ptrv(k:Nat):V:=.ptr k 0
theorem zrT{α:Type}{ek:α→V} {l:List (α×V)} (h1:∀a n,ek a≠.int .u8 n) (h2:∀p∈l,∀n,p.2≠.int .u8 n):∀v∈encM ek l,∀n,v≠.int .u8 n:=by
 intro v hv n;unfold encM at hv;obtain⟨p,hp,hv⟩:=List.mem_flatMap.1 hv;simp only[List.mem_cons,List.not_mem_nil,or_false]at hv;rcases hv with rfl|rfl
 ·exact h1 _ _
 ·exact h2 p hp n
abbrev tyC:=zb7
abbrev tyW:=zcU
abbrev tyK:=zde
theorem odd_c (l:List ((Int×Int)×Nat)):OddR ⟨tyC,encM eplc (mapv ptrv l),none⟩ :=
 ⟨⟨show tyC≠zaU by decide,show tyC≠zaY by decide,show tyC≠zav by decide,zrT (λ_ _ h=>by cases h) λp hp n h=>by
  obtain⟨q,_,rfl⟩:=List.mem_map.1 hp;cases h⟩,show tyC≠zaa by decide,show tyC≠zcD by decide⟩
theorem odd_w (l:List (Nat×WS)):OddR ⟨tyW,encM ekid (mapv wsv l),none⟩ :=
 ⟨⟨show tyW≠zaU by decide,show tyW≠zaY by decide,show tyW≠zav by decide,zrT (λ_ _ h=>by cases h) λp hp n h=>by
  obtain⟨q,_,rfl⟩:=List.mem_map.1 hp;cases h⟩,show tyW≠zaa by decide,show tyW≠zcD by decide⟩
theorem odd_k (l:List (Nat×Nat)):OddR ⟨tyK,encM ekid (mapv ptrv l),none⟩ :=
 ⟨⟨show tyK≠zaU by decide,show tyK≠zaY by decide,show tyK≠zav by decide,zrT (λ_ _ h=>by cases h) λp hp n h=>by
  obtain⟨q,_,rfl⟩:=List.mem_map.1 hp;cases h⟩,show tyK≠zaa by decide,show tyK≠zcD by decide⟩
structure RcM (H:Heap) (c:Nat) (R:Rc):Prop where
 top:c+4≤H.next
 rcd:H.get (c+3)=some ⟨zb4,[.int .i64 (R.id:Nat),.mp c,.mp (c+1),.mp (c+2)],none⟩
 ch:∃lc:List ((Int×Int)×Nat),H.get c=some ⟨tyC,encM eplc (mapv ptrv lc),none⟩∧Al (λq x=>ChainM (c+4) H q x.1 x.2) lc R.ch
 win:H.get (c+1)=some ⟨tyW,encM ekid (mapv wsv R.win),none⟩
 wr:∀p∈R.win,wsR p.2
 ks:∃lk:List (Nat×Nat),H.get (c+2)=some ⟨tyK,encM ekid (mapv ptrv lk),none⟩∧Al (λq x=>KeyM H q x) lk R.ks
theorem RcM.atS{S:List Nat}{H H':Heap}{c:Nat}{R:Rc}(h:RcM H c R)(s:AtS S H H')(hc:∀i∈S,i<c∨c+4≤i)(hS:∀i∈S,∃b,H.get i=some b∧OddR b):RcM H' c R:=by
 have ht:=h.top;have hn:∀i,c≤i→i<c+4→H'.get i=H.get i:=λi h1 h2=>s.same i (by omega) λe=>by have:=hc i e; omega
 obtain⟨lc,h1,h2⟩:=h.ch;obtain⟨lk,h3,h4⟩:=h.ks;exact⟨Nat.le_trans ht s.next,(hn _ (by omega) (by omega)).trans h.rcd,⟨lc,(hn _ (by omega) (by omega)).trans h1,h2.mono λ_ _ g=>g.atS s λi hi=>.inr (hS i hi)⟩,
  (hn _ (by omega) (by omega)).trans h.win,h.wr,⟨lk,(hn _ (by omega) (by omega)).trans h3,h4.mono λ_ _ g=>g.atS s λi hi=>by
   obtain⟨b,hb,ho⟩:=hS i hi;exact⟨b,hb,ho.1⟩⟩⟩
theorem RcM.grow{H H':Heap}{c:Nat}{R:Rc}(h:RcM H c R)(s:Grow H H'):RcM H' c R:=h.atS (Grow.atS s []) (λi hi=>by simp at hi) λi hi=>by simp at hi
theorem RcM.odd{H:Heap}{c:Nat}{R:Rc}(h:RcM H c R):∀i,c≤i→i<c+3→∃b,H.get i=some b∧OddR b:=by
 intro i h1 h2;obtain⟨lc,g1,_⟩:=h.ch;obtain⟨lk,g3,_⟩:=h.ks;have:i=c∨i=c+1∨i=c+2:=by omega
 rcases this with rfl|rfl|rfl
 ·exact⟨_,g1,odd_c _⟩
 ·exact⟨_,h.win,odd_w _⟩
 ·exact⟨_,g3,odd_k _⟩
theorem zjj{H:Heap}(id:Int)(h0:-9223372036854775808≤id):Ok (sem T zcz [.int .i64 id]) H λr H'=>Grow H H' ∧
  ((id<0∨szs id.toNat=none)∧r = .tup [.nilp,.int .i64 1] ∨
   ∃n t c,0≤id∧szs id.toNat=some (n,t)∧r = .tup [.ptr (c+3) 0,.int .i64 0]∧RcM H' c ⟨id.toNat,[],[],[]⟩∧H.next≤c):=by
 refine zjv ?_;unfold zfZ uL uE uO uc;refine zae (zp2 id h0) ?_;rintro _ H ⟨rfl,rfl⟩;by_cases hz:id<0∨szs id.toNat=none
 ·rw[zsd hz];simp(disch:=omega)only[↓RD,RZ];exact⟨Grow.refl _,.inl hz⟩
 ·obtain⟨⟨n,t⟩,hs⟩:∃q,szs id.toNat=some q:=by
   cases h:szs id.toNat with
   | none=>exact absurd (.inr h) hz
   | some q=>exact⟨q,rfl⟩
  have h0':0≤id:=by
   rcases Int.lt_or_le id 0 with h|h
   ·exact absurd (.inl h) hz
   ·exact h
  rw[zlV h0' hs];simp(disch:=omega)only[↓RD,RZ];refine zaB ⟨.mp H.next,H.new ⟨tyC,[],none⟩,rfl,?_⟩;have a1:=Grow.new H ⟨tyC,[],none⟩;have b1:(H.new ⟨tyC,[],none⟩).get H.next=some ⟨tyC,[],none⟩:=zag _ _;have c1:(H.new ⟨tyC,[],none⟩).next=H.next+1:=zaf _ _;generalize hc:H.next=c at *;generalize H.new _=H1 at *;refine zaB ⟨.mp H1.next,H1.new ⟨tyW,[],none⟩,rfl,?_⟩;have a2:=Grow.new H1 ⟨tyW,[],none⟩;have b2:(H1.new ⟨tyW,[],none⟩).get H1.next=some ⟨tyW,[],none⟩:=zag _ _;have c2:(H1.new ⟨tyW,[],none⟩).next=H1.next+1:=zaf _ _;rw[c1]at b2 c2 ⊢;generalize H1.new _=H2 at *;refine zaB ⟨.mp H2.next,H2.new ⟨tyK,[],none⟩,rfl,?_⟩;have a3:=Grow.new H2 ⟨tyK,[],none⟩;have b3:(H2.new ⟨tyK,[],none⟩).get H2.next=some ⟨tyK,[],none⟩:=zag _ _;have c3:(H2.new ⟨tyK,[],none⟩).next=H2.next+1:=zaf _ _;rw[c2]at b3 c3 ⊢;generalize H2.new _=H3 at *;obtain⟨i,rfl⟩:∃i:Nat,id=(i:Nat):=⟨id.toNat,by omega⟩;refine zbe rfl ?_;refine zaB (zeG rfl ?_);have a4:=Grow.new H3 ⟨zb4,[.int .i64 (i:Nat),.mp c,.mp (c+1),.mp (c+1+1)],none⟩;have b4:(H3.new ⟨zb4,[.int .i64 (i:Nat),.mp c,.mp (c+1),.mp (c+1+1)],none⟩).get H3.next = _:=zag _ _;have c4:(H3.new ⟨zb4,[.int .i64 (i:Nat),.mp c,.mp (c+1),.mp (c+1+1)],none⟩).next=H3.next+1:=zaf _ _;rw[c3]at b4 c4 ⊢;show Ok (M.pure _) (H3.new ⟨zb4,[.int .i64 (i:Nat),.mp c,.mp (c+1),.mp (c+1+1)],none⟩) _;generalize H3.new _=H4 at *;have e1:=(((a4.same c (by omega)).trans (a3.same c (by omega))).trans (a2.same c (by omega))).trans b1;have e2:=((a4.same (c+1) (by omega)).trans (a3.same (c+1) (by omega))).trans b2;have e3:=(a4.same (c+1+1) (by omega)).trans b3;exact zh0 ⟨_,rfl,((a1.trans a2).trans a3).trans a4,.inr ⟨n,t,c,by omega,hs,rfl,⟨by omega,b4,⟨[],e1,trivial⟩,e2,by simp,⟨[],e3,trivial⟩⟩,by omega⟩⟩
end Go.Ax.SU
/- St2 -/
namespace Go.Ax.SU
open Go.Ax Go.Proofs
theorem zer{body:List V→M Res}{L:List V}{H:Heap}{Q:Res→Heap→Prop} (h:Ok (body L) H (Then (M.iter body) Q)):Ok (M.iter body L) H Q:=by
 obtain⟨r,H1,e,hq⟩:=h;cases r with
 | nrm L' =>
  obtain⟨r',H2,e2,hq2⟩:=hq;obtain⟨n,hn⟩:=zee e2;refine⟨r',H2,zes (n:=n+1) ?_,hq2⟩;show(M.join (body L) (iterN body n)) H = _;unfold M.join;rw[bind_ok e];exact hn
 | ex i L'=>exact⟨.ex i L',H1,zes (n:=1) (by show(M.join (body L) (iterN body 0)) H = _; unfold M.join; rw[bind_ok e]; rfl),hq⟩
 | ret L'=>exact⟨.ret L',H1,zes (n:=1) (by show(M.join (body L) (iterN body 0)) H = _; unfold M.join; rw[bind_ok e]; rfl),hq⟩
def stN(a id:Nat)(sv rv:V):List V:=[.int .i64 (a:Nat),.int .i64 (id:Nat),sv,rv,.int .i64 0,.int .u64 0,.bool false,.int .i64 0,.int .i64 0,.int .i64 0,.int .i64 0,.int .i64 0,.int .i64 0,.int .i64 0,.int .i64 0,.int .i64 0,.int .i64 0,.int .i64 0,.int .i64 0,.int .i64 0,.int .i64 0,.int .i64 0,.nilp,.nilp,.int .i64 0,.int .u16 0,.bool false,.bool false,.int .i64 0,.int .u16 0,.bool false,.bool false,.int .i64 0,.int .u16 0,.bool false,.bool false]
def stF(a id:Nat)(sv rv:V):List V:=[.int .i64 (a:Nat),.int .i64 (id:Nat),sv,rv,.int .i64 0,.int .u64 0,.bool false,.int .i64 0,.int .i64 0,.int .i64 0,.int .i64 0,.int .i64 0,.int .i64 0,.int .i64 0,.int .i64 0,.int .i64 0,.int .i64 0,.int .i64 0,.int .i64 0,.int .i64 0,.int .i64 0,.int .i64 (-1),.nilp,.nilp,.int .i64 0,.int .u16 0,.bool false,.bool false,.int .i64 0,.int .u16 0,.bool false,.bool false,.int .i64 0,.int .u16 0,.bool false,.bool false]
theorem zsE{s a id:Nat}{sv rv:V}{H:Heap} (hg:H.get s=some ⟨zac,stN a id sv rv,none⟩) :
  Ok (sem T zbp [.ptr s 0]) H λr H'=>r = .tup []∧H'=H.set s (some ⟨zac,stF a id sv rv,none⟩):=by
 refine ze5 ?_;unfold zdQ uL uT uNF uc;unfold stF;unfold stN at hg;simp(maxSteps:=1000000) (disch:=first|omega|(simp only[RY]<;>omega)|decide)only[↓RD,RZ,eq_self,Int.reduceToNat,Int.reduceAdd,Int.reduceSub,Int.reduceMul,Nat.reduceAdd,Nat.reduceSub,Nat.reduceMul,Nat.reduceDiv,Nat.reduceMod,Nat.reduceBEq,Nat.reduceLeDiff,hg,zaI];rfl
def stR(a id:Nat)(sv rv:V)(sl ad e:Nat)(snd rcv:V)(f q:Nat)(b o:Bool):List V:=[.int .i64 (a:Nat),.int .i64 (id:Nat),sv,rv,.int .i64 1,.int .u64 0,.bool true,.int .i64 0,.int .i64 (sl:Nat),.int .i64 (2 ^ sl:Nat),.int .i64 (if sl=0 then ad else 0:Nat),.int .i64 0,.int .i64 (if sl=2 then ad else 0:Nat),.int .i64 0,.int .i64 0,.int .i64 0,.int .i64 0,.int .i64 0,.int .i64 (e:Nat),.int .i64 (e:Nat),.int .i64 0,.int .i64 (-1),snd,rcv,.int .i64 (f:Nat),.int .u16 (q:Nat),.bool b,.bool o,.int .i64 0,.int .u16 0,.bool false,.bool false,.int .i64 0,.int .u16 0,.bool false,.bool false]
theorem zsp{s sl m:Nat}{H:Heap}{cs:List V} (hi:(sl=0∧m=1)∨(sl=2∧m=4)) (hg:H.get s=some ⟨zac,cs,none⟩) (h8:cs[8]?=some (.int .i64 (sl:Nat))) (h9:cs[9]?=some (.int .i64 (m:Nat))):Ok (sem T zbS [.ptr s 0]) H λr H'=>r = .nils∧H'=H:=by
 refine zjt ?_;unfold zfX uc ug;rcases hi with⟨rfl,rfl⟩|⟨rfl,rfl⟩
 all_goals
  have h8:cs[8]?=some (.int .i64 _):=h8;simp(maxSteps:=1000000) (disch:=first|omega|(simp only[RY]<;>omega)|decide)only[↓RD,RZ,eq_self,Int.reduceToNat,Int.reduceAdd,Int.reduceSub,Int.reduceMul,Nat.reduceAdd,Nat.reduceSub,Nat.reduceMul,Nat.reduceDiv,Nat.reduceMod,Nat.reduceBEq,Nat.reduceLeDiff];refine zer ?_;unfold zeI uL uNFM uB uG uH uc ug;simp(maxSteps:=1000000) (disch:=first|omega|(simp only[RY]<;>omega)|decide)only[↓RD,RZ,eq_self,Int.reduceToNat,Int.reduceAdd,Int.reduceSub,Int.reduceMul,Nat.reduceAdd,Nat.reduceSub,Nat.reduceMul,Nat.reduceDiv,Nat.reduceMod,Nat.reduceBEq,Nat.reduceLeDiff,hg,h8,h9]
  iterate 8
   refine zer ?_;simp(maxSteps:=1000000) (disch:=first|omega|(simp only[RY]<;>omega)|decide)only[↓RD,RZ,eq_self,Int.reduceToNat,Int.reduceAdd,Int.reduceSub,Int.reduceMul,Nat.reduceAdd,Nat.reduceSub,Nat.reduceMul,Nat.reduceDiv,Nat.reduceMod,Nat.reduceBEq,Nat.reduceLeDiff,hg,h8,h9]
theorem all_1{s:Nat}{e:Int}{H:Heap}{cs:List V} (hg:H.get s=some ⟨zac,cs,none⟩) (h18:cs[18]?=some (.int .i64 e)) (h19:cs[19]?=some (.int .i64 e)):Ok (sem T zdq [.ptr s 0]) H λr H'=>r = .nils∧H'=H:=by
 refine zlI ?_;unfold ziv uL uT uNFM uNF uB uG uH uc;have d:decide (e≤e)=true:=decide_eq_true (Int.le_refl e);simp(maxSteps:=1000000) (disch:=first|omega|(simp only[RY]<;>omega)|decide)only[↓RD,RZ,eq_self,Int.reduceToNat,Int.reduceAdd,Int.reduceSub,Int.reduceMul,Nat.reduceAdd,Nat.reduceSub,Nat.reduceMul,Nat.reduceDiv,Nat.reduceMod,Nat.reduceBEq,Nat.reduceLeDiff,hg,h18,h19,d]
theorem zs6{s a id n t lo lb:Nat}{H:Heap}{sv rv bv:V}{seed:List Nat}(hc:H.Cl) (hg:H.get s=some ⟨zac,stN a id sv rv,none⟩) (hv:By lo H sv seed) (hvs:∀i,sv.pid=some i→i≠s) (v8:Ok8 seed) (vl:seed.length≤1099511627776) (hsz:szs id=some (n,t)) {sl e ad:Nat} {B:List Nat} (hi:(sl=0∧e=3∧ad=5∧B=[5,255,255,255,255,255,255,255])∨(sl=2∧e=0∧ad=3∧B=[255,255,3,255,255,255,255,255])) (hb:By lb H bv B) (hlb:s<lb) :
  Ok (sem T zch [.ptr s 0,.agg [.int .i64 17,.int .i64 0,.int .i64 (sl:Nat),.int .i64 (e:Nat),.int .i64 (2 ^ sl:Nat),.int .i64 (e:Nat),bv]]) H λr H'=>r = .nils∧∃sn rc,H'.get s=some ⟨zac,stR a id sv rv sl ad e (.ptr sn 0) (.ptr rc 0) 0 0 false false,none⟩ ∧
   SndM (s+1) H' sn (id:Nat) (sl:Nat) (useS (id:Nat) (sl:Nat) n t none (e:Nat) (0:Nat) (znU sOwn seed [0,0,0,1,0,e])).1∧sn≠s∧AtS [s] H H'∧H'.Cl:=by
 have hlt:s<H.next:=by
  by_cases h:s<H.next
  ·exact h
  ·rw[hc s (by omega)]at hg; cases hg
 refine ziP ?_;unfold zft uL uM uT uF uFM uNFM uNF uE uB uO uU uc ug;rcases hi with⟨rfl,rfl,rfl,rfl⟩|⟨rfl,rfl,rfl,rfl⟩
 ·have vc:=hb.cells1;have vo:=hb.okc;refine zl2 λq H1 eq g1 s1 n1 c1=>?_;have c1:=c1 hc;have gs1:=(s1.same s hlt).trans hg;have nq:s≠q:=by omega
  have nq':q≠s:=by omega
  refine zae (zsE gs1) ?_;rintro _ H2 ⟨rfl,rfl⟩;unfold stF;simp(maxSteps:=1000000) (disch:=first|omega|(simp only[RY]<;>omega)|decide)only[↓RD,RZ,eq_self,Int.reduceToNat,Int.reduceAdd,Int.reduceSub,Int.reduceMul,Nat.reduceAdd,Nat.reduceSub,Nat.reduceMul,Nat.reduceDiv,Nat.reduceMod,Nat.reduceBEq,Nat.reduceLeDiff,g1,nq,nq',zaI];generalize hX:Heap.set H1 s _=H3;have g3:H3.get s=some ⟨zac,[.int .i64 (a:Nat),.int .i64 (id:Nat),sv,rv,.int .i64 0,.int .u64 0,.bool true,.int .i64 0,.int .i64 0,.int .i64 1,.int .i64 0,.int .i64 0,.int .i64 0,.int .i64 0,.int .i64 0,.int .i64 0,.int .i64 0,.int .i64 0,.int .i64 3,.int .i64 3,.int .i64 0,.int .i64 (-1),.nilp,.nilp,.int .i64 0,.int .u16 0,.bool false,.bool false,.int .i64 0,.int .u16 0,.bool false,.bool false,.int .i64 0,.int .u16 0,.bool false,.bool false],none⟩:=by rw[←hX]; exact zai _ _ _
  have a3:AtS [s] H H3:=by rw[←hX]; exact(Grow.atS s1 _).trans (AtS.set _ (by simp) _)
  have c3:H3.Cl:=by rw[←hX]; exact zbZ c1 (by omega) _
  have gq3:H3.get q = _:=(by rw[←hX]; exact zaj _ _ nq':H3.get q=H1.get q).trans g1;clear hX;have hb3:By lb H3 bv _:=hb.keep ⟨a3.next,λi h1 h2=>a3.same i h2 (by simp; omega)⟩;obtain⟨p,hp,hld,-⟩:=zpK hb3 (i:=0) (by decide) (by decide);have hld:LdR none H3 p (.int .u8 5):=hld;have w5:IntKind.i64.wrap 5=5:=rfl;refine zer ?_;unfold zc1 uL uT uFM uNFM uNF uB uI uIM uc ug;simp(maxSteps:=1000000) (disch:=first|omega|(simp only[RY]<;>omega)|decide)only[↓RD,RZ,eq_self,Int.reduceToNat,Int.reduceAdd,Int.reduceSub,Int.reduceMul,Nat.reduceAdd,Nat.reduceSub,Nat.reduceMul,Nat.reduceDiv,Nat.reduceMod,Nat.reduceBEq,Nat.reduceLeDiff,g3,gq3,hp,hld,w5,nq']
  iterate 8
   refine zer ?_;simp(maxSteps:=1000000) (disch:=first|omega|(simp only[RY]<;>omega)|decide)only[↓RD,RZ,eq_self,Int.reduceToNat,Int.reduceAdd,Int.reduceSub,Int.reduceMul,Nat.reduceAdd,Nat.reduceSub,Nat.reduceMul,Nat.reduceDiv,Nat.reduceMod,Nat.reduceBEq,Nat.reduceLeDiff,g3,gq3,hp,hld,w5,nq']
  generalize hX:Heap.set (Heap.set H3 s _) s _=H4;have g4:H4.get s=some ⟨zac,[.int .i64 (a:Nat),.int .i64 (id:Nat),sv,rv,.int .i64 1,.int .u64 0,.bool true,.int .i64 0,.int .i64 0,.int .i64 1,.int .i64 5,.int .i64 0,.int .i64 0,.int .i64 0,.int .i64 0,.int .i64 0,.int .i64 0,.int .i64 0,.int .i64 3,.int .i64 3,.int .i64 0,.int .i64 (-1),.nilp,.nilp,.int .i64 0,.int .u16 0,.bool false,.bool false,.int .i64 0,.int .u16 0,.bool false,.bool false,.int .i64 0,.int .u16 0,.bool false,.bool false],none⟩:=by rw[←hX]; exact zai _ _ _
  have a4:AtS [s] H H4:=by rw[←hX]; exact(a3.trans (AtS.set _ (by simp) _)).trans (AtS.set _ (by simp) _)
  have c4:H4.Cl:=by rw[←hX]; exact zbZ (zbZ c3 (by have:=a3.next; omega) _) (by rw[zan]; have:=a3.next; omega) _
  clear hX;refine zae (zkW c4 (zlF (id:Nat) 0 (by omega))) ?_;rintro r5 H5 ⟨⟨s5,h5|⟨n',t',sn,-,hs',-,-,rfl,hsn,hsl⟩⟩,c5⟩
  ·rcases h5 with⟨h5|h5|h5,-⟩
   ·rw[zlV (by omega) (by rw[Int.toNat_natCast]; exact hsz)]at h5; cases h5
   ·exact absurd h5 (by decide)
   ·exact absurd h5 (by decide)
  have n4:=a4.next;have g5:=(s5.same s (by omega)).trans g4;have n5:=s5.next;have hs0:=hsn (s+1);have hsn5:=hs0.1;simp(maxSteps:=1000000) (disch:=first|omega|(simp only[RY]<;>omega)|decide)only[↓RD,RZ,eq_self,Int.reduceToNat,Int.reduceAdd,Int.reduceSub,Int.reduceMul,Nat.reduceAdd,Nat.reduceSub,Nat.reduceMul,Nat.reduceDiv,Nat.reduceMod,Nat.reduceBEq,Nat.reduceLeDiff,g5];generalize hX:Heap.set H5 s _=H6;have g6:H6.get s=some ⟨zac,[.int .i64 (a:Nat),.int .i64 (id:Nat),sv,rv,.int .i64 1,.int .u64 0,.bool true,.int .i64 0,.int .i64 0,.int .i64 1,.int .i64 5,.int .i64 0,.int .i64 0,.int .i64 0,.int .i64 0,.int .i64 0,.int .i64 0,.int .i64 0,.int .i64 3,.int .i64 3,.int .i64 0,.int .i64 (-1),.ptr sn 0,.nilp,.int .i64 0,.int .u16 0,.bool false,.bool false,.int .i64 0,.int .u16 0,.bool false,.bool false,.int .i64 0,.int .u16 0,.bool false,.bool false],none⟩:=by rw[←hX]; exact zai _ _ _
  have t6:AtS [s] H5 H6:=by rw[←hX]; exact AtS.set _ (by simp) _
  have c6:H6.Cl:=by rw[←hX]; exact zbZ c5 (by omega) _
  clear hX;have hne:sn≠s:=by omega
  have hs6:SndM (s+1) H6 sn (id:Nat) (0:Nat) none:=⟨by have:=t6.next; omega,(t6.same sn hsn5 (by simp; exact hne)).trans hs0.2⟩;refine zae (zkW c6 (zjj (id:Nat) (by omega))) ?_;rintro r7 H7 ⟨⟨s7,⟨h7,-⟩|⟨n'',t'',c,-,-,rfl,hrc,hcl⟩⟩,c7⟩
  ·rcases h7 with h7|h7
   ·omega
   ·rw[Int.toNat_natCast,hsz]at h7; cases h7
  have n6:=t6.next;have n7:=s7.next;have g7:=(s7.same s (by omega)).trans g6;have hs7:=hs6.grow s7;simp(maxSteps:=1000000) (disch:=first|omega|(simp only[RY]<;>omega)|decide)only[↓RD,RZ,eq_self,Int.reduceToNat,Int.reduceAdd,Int.reduceSub,Int.reduceMul,Nat.reduceAdd,Nat.reduceSub,Nat.reduceMul,Nat.reduceDiv,Nat.reduceMod,Nat.reduceBEq,Nat.reduceLeDiff,g7];refine zer ?_;unfold zc0 uF uNF uB uI uc ug;simp(maxSteps:=1000000) (disch:=first|omega|(simp only[RY]<;>omega)|decide)only[↓RD,RZ,eq_self,Int.reduceToNat,Int.reduceAdd,Int.reduceSub,Int.reduceMul,Nat.reduceAdd,Nat.reduceSub,Nat.reduceMul,Nat.reduceDiv,Nat.reduceMod,Nat.reduceBEq,Nat.reduceLeDiff,zaI]
  iterate 3
   refine zer ?_;simp(maxSteps:=1000000) (disch:=first|omega|(simp only[RY]<;>omega)|decide)only[↓RD,RZ,eq_self,Int.reduceToNat,Int.reduceAdd,Int.reduceSub,Int.reduceMul,Nat.reduceAdd,Nat.reduceSub,Nat.reduceMul,Nat.reduceDiv,Nat.reduceMod,Nat.reduceBEq,Nat.reduceLeDiff,zaI]
  generalize hX:Heap.set H7 s _=H8;have g8:H8.get s=some ⟨zac,[.int .i64 (a:Nat),.int .i64 (id:Nat),sv,rv,.int .i64 1,.int .u64 0,.bool true,.int .i64 0,.int .i64 0,.int .i64 1,.int .i64 5,.int .i64 0,.int .i64 0,.int .i64 0,.int .i64 0,.int .i64 0,.int .i64 0,.int .i64 0,.int .i64 3,.int .i64 3,.int .i64 0,.int .i64 (-1),.ptr sn 0,.ptr (c+3) 0,.int .i64 0,.int .u16 0,.bool false,.bool false,.int .i64 0,.int .u16 0,.bool false,.bool false,.int .i64 0,.int .u16 0,.bool false,.bool false],none⟩:=by rw[←hX]; exact zai _ _ _
  have t8:AtS [s] H7 H8:=by rw[←hX]; exact AtS.set _ (by simp) _
  have c8:H8.Cl:=by rw[←hX]; exact zbZ c7 (by omega) _
  clear hX;have n8:=t8.next;have hs8:SndM (s+1) H8 sn (id:Nat) (0:Nat) none:=⟨by have:=hs7.1; omega,(t8.same sn hs7.1 (by simp; exact hne)).trans hs7.2⟩;have aT:AtS [s] H H8:=(((a4.trans (Grow.atS s5 _)).trans t6).trans (Grow.atS s7 _)).trans t8;have hv8:By lo H8 sv seed:=Lc.atS hv aT λi hi=>by simp only[List.mem_singleton]; exact hvs i hi
  refine zae (own_ok (e:=3) c8 g8 rfl rfl hv8 v8 vl (by decide)) ?_;rintro bx H9 ⟨hbx,s9,c9⟩;have n9:=s9.next;have g9:=(s9.same s (by omega)).trans g8;have hs9:=hs8.grow s9;simp(maxSteps:=1000000) (disch:=first|omega|(simp only[RY]<;>omega)|decide)only[↓RD,RZ,eq_self,Int.reduceToNat,Int.reduceAdd,Int.reduceSub,Int.reduceMul,Nat.reduceAdd,Nat.reduceSub,Nat.reduceMul,Nat.reduceDiv,Nat.reduceMod,Nat.reduceBEq,Nat.reduceLeDiff,g8,g9];refine zae (zkW c9 (Use_ok hs9 (by omega) (by rw[Int.toNat_natCast]; exact hsz) (3:Nat) (0:Nat) hbx (zvZ _ _ _) (by rw[zqy]; decide))) ?_;rintro _ H10 ⟨⟨rfl,hs10,t10⟩,c10⟩;have n10:=t10.next;have g10:=(t10.same s (by omega) (by simp; exact hne.symm)).trans g9;refine zae (zsp (.inl ⟨rfl,rfl⟩) g10 rfl rfl) ?_;rintro _ _ ⟨rfl,rfl⟩;simp(maxSteps:=1000000) (disch:=first|omega|(simp only[RY]<;>omega)|decide)only[↓RD,RZ,eq_self,Int.reduceToNat,Int.reduceAdd,Int.reduceSub,Int.reduceMul,Nat.reduceAdd,Nat.reduceSub,Nat.reduceMul,Nat.reduceDiv,Nat.reduceMod,Nat.reduceBEq,Nat.reduceLeDiff];refine zer ?_;unfold zcZ uM uNFM uNF uB uIM uU uc ug;simp(maxSteps:=1000000) (disch:=first|omega|(simp only[RY]<;>omega)|decide)only[↓RD,RZ,eq_self,Int.reduceToNat,Int.reduceAdd,Int.reduceSub,Int.reduceMul,Nat.reduceAdd,Nat.reduceSub,Nat.reduceMul,Nat.reduceDiv,Nat.reduceMod,Nat.reduceBEq,Nat.reduceLeDiff];refine zae (all_1 g10 rfl rfl) ?_;rintro _ H11 ⟨rfl,rfl⟩;simp(maxSteps:=1000000) (disch:=first|omega|(simp only[RY]<;>omega)|decide)only[↓RD,RZ,eq_self,Int.reduceToNat,Int.reduceAdd,Int.reduceSub,Int.reduceMul,Nat.reduceAdd,Nat.reduceSub,Nat.reduceMul,Nat.reduceDiv,Nat.reduceMod,Nat.reduceBEq,Nat.reduceLeDiff];rw[zaT];refine zaB ⟨_,_,rfl,?_⟩;simp(maxSteps:=1000000) (disch:=first|omega|(simp only[RY]<;>omega)|decide)only[↓RD,RZ,eq_self,Int.reduceToNat,Int.reduceAdd,Int.reduceSub,Int.reduceMul,Nat.reduceAdd,Nat.reduceSub,Nat.reduceMul,Nat.reduceDiv,Nat.reduceMod,Nat.reduceBEq,Nat.reduceLeDiff];refine⟨sn,c+3,g10,hs10,hne,⟨by omega,λi hi hn=>?_⟩,c10⟩;rw[t10.same i (by have:=aT.next; omega) (by simp; omega),s9.same i (by have:=aT.next; omega)];exact aT.same i hi hn
 ·have vc:=hb.cells1;have vo:=hb.okc;refine zl2 λq H1 eq g1 s1 n1 c1=>?_;have c1:=c1 hc;have gs1:=(s1.same s hlt).trans hg;have nq:s≠q:=by omega
  have nq':q≠s:=by omega
  refine zae (zsE gs1) ?_;rintro _ H2 ⟨rfl,rfl⟩;unfold stF;simp(maxSteps:=1000000) (disch:=first|omega|(simp only[RY]<;>omega)|decide)only[↓RD,RZ,eq_self,Int.reduceToNat,Int.reduceAdd,Int.reduceSub,Int.reduceMul,Nat.reduceAdd,Nat.reduceSub,Nat.reduceMul,Nat.reduceDiv,Nat.reduceMod,Nat.reduceBEq,Nat.reduceLeDiff,g1,nq,nq',zaI];generalize hX:Heap.set H1 s _=H3;have g3:H3.get s=some ⟨zac,[.int .i64 (a:Nat),.int .i64 (id:Nat),sv,rv,.int .i64 0,.int .u64 0,.bool true,.int .i64 0,.int .i64 2,.int .i64 4,.int .i64 0,.int .i64 0,.int .i64 0,.int .i64 0,.int .i64 0,.int .i64 0,.int .i64 0,.int .i64 0,.int .i64 0,.int .i64 0,.int .i64 0,.int .i64 (-1),.nilp,.nilp,.int .i64 0,.int .u16 0,.bool false,.bool false,.int .i64 0,.int .u16 0,.bool false,.bool false,.int .i64 0,.int .u16 0,.bool false,.bool false],none⟩:=by rw[←hX]; exact zai _ _ _
  have a3:AtS [s] H H3:=by rw[←hX]; exact(Grow.atS s1 _).trans (AtS.set _ (by simp) _)
  have c3:H3.Cl:=by rw[←hX]; exact zbZ c1 (by omega) _
  have gq3:H3.get q = _:=(by rw[←hX]; exact zaj _ _ nq':H3.get q=H1.get q).trans g1;clear hX;have hb3:By lb H3 bv _:=hb.keep ⟨a3.next,λi h1 h2=>a3.same i h2 (by simp; omega)⟩;obtain⟨p,hp,hld,-⟩:=zpK hb3 (i:=2) (by decide) (by decide);have hld:LdR none H3 p (.int .u8 3):=hld;have w5:IntKind.i64.wrap 3=3:=rfl;refine zer ?_;unfold zc1 uL uT uFM uNFM uNF uB uI uIM uc ug;simp(maxSteps:=1000000) (disch:=first|omega|(simp only[RY]<;>omega)|decide)only[↓RD,RZ,eq_self,Int.reduceToNat,Int.reduceAdd,Int.reduceSub,Int.reduceMul,Nat.reduceAdd,Nat.reduceSub,Nat.reduceMul,Nat.reduceDiv,Nat.reduceMod,Nat.reduceBEq,Nat.reduceLeDiff,g3,gq3,hp,hld,w5,nq']
  iterate 8
   refine zer ?_;simp(maxSteps:=1000000) (disch:=first|omega|(simp only[RY]<;>omega)|decide)only[↓RD,RZ,eq_self,Int.reduceToNat,Int.reduceAdd,Int.reduceSub,Int.reduceMul,Nat.reduceAdd,Nat.reduceSub,Nat.reduceMul,Nat.reduceDiv,Nat.reduceMod,Nat.reduceBEq,Nat.reduceLeDiff,g3,gq3,hp,hld,w5,nq']
  generalize hX:Heap.set (Heap.set H3 s _) s _=H4;have g4:H4.get s=some ⟨zac,[.int .i64 (a:Nat),.int .i64 (id:Nat),sv,rv,.int .i64 1,.int .u64 0,.bool true,.int .i64 0,.int .i64 2,.int .i64 4,.int .i64 0,.int .i64 0,.int .i64 3,.int .i64 0,.int .i64 0,.int .i64 0,.int .i64 0,.int .i64 0,.int .i64 0,.int .i64 0,.int .i64 0,.int .i64 (-1),.nilp,.nilp,.int .i64 0,.int .u16 0,.bool false,.bool false,.int .i64 0,.int .u16 0,.bool false,.bool false,.int .i64 0,.int .u16 0,.bool false,.bool false],none⟩:=by rw[←hX]; exact zai _ _ _
  have a4:AtS [s] H H4:=by rw[←hX]; exact(a3.trans (AtS.set _ (by simp) _)).trans (AtS.set _ (by simp) _)
  have c4:H4.Cl:=by rw[←hX]; exact zbZ (zbZ c3 (by have:=a3.next; omega) _) (by rw[zan]; have:=a3.next; omega) _
  clear hX;refine zae (zkW c4 (zlF (id:Nat) 2 (by omega))) ?_;rintro r5 H5 ⟨⟨s5,h5|⟨n',t',sn,-,hs',-,-,rfl,hsn,hsl⟩⟩,c5⟩
  ·rcases h5 with⟨h5|h5|h5,-⟩
   ·rw[zlV (by omega) (by rw[Int.toNat_natCast]; exact hsz)]at h5; cases h5
   ·exact absurd h5 (by decide)
   ·exact absurd h5 (by decide)
  have n4:=a4.next;have g5:=(s5.same s (by omega)).trans g4;have n5:=s5.next;have hs0:=hsn (s+1);have hsn5:=hs0.1;simp(maxSteps:=1000000) (disch:=first|omega|(simp only[RY]<;>omega)|decide)only[↓RD,RZ,eq_self,Int.reduceToNat,Int.reduceAdd,Int.reduceSub,Int.reduceMul,Nat.reduceAdd,Nat.reduceSub,Nat.reduceMul,Nat.reduceDiv,Nat.reduceMod,Nat.reduceBEq,Nat.reduceLeDiff,g5];generalize hX:Heap.set H5 s _=H6;have g6:H6.get s=some ⟨zac,[.int .i64 (a:Nat),.int .i64 (id:Nat),sv,rv,.int .i64 1,.int .u64 0,.bool true,.int .i64 0,.int .i64 2,.int .i64 4,.int .i64 0,.int .i64 0,.int .i64 3,.int .i64 0,.int .i64 0,.int .i64 0,.int .i64 0,.int .i64 0,.int .i64 0,.int .i64 0,.int .i64 0,.int .i64 (-1),.ptr sn 0,.nilp,.int .i64 0,.int .u16 0,.bool false,.bool false,.int .i64 0,.int .u16 0,.bool false,.bool false,.int .i64 0,.int .u16 0,.bool false,.bool false],none⟩:=by rw[←hX]; exact zai _ _ _
  have t6:AtS [s] H5 H6:=by rw[←hX]; exact AtS.set _ (by simp) _
  have c6:H6.Cl:=by rw[←hX]; exact zbZ c5 (by omega) _
  clear hX;have hne:sn≠s:=by omega
  have hs6:SndM (s+1) H6 sn (id:Nat) (2:Nat) none:=⟨by have:=t6.next; omega,(t6.same sn hsn5 (by simp; exact hne)).trans hs0.2⟩;refine zae (zkW c6 (zjj (id:Nat) (by omega))) ?_;rintro r7 H7 ⟨⟨s7,⟨h7,-⟩|⟨n'',t'',c,-,-,rfl,hrc,hcl⟩⟩,c7⟩
  ·rcases h7 with h7|h7
   ·omega
   ·rw[Int.toNat_natCast,hsz]at h7; cases h7
  have n6:=t6.next;have n7:=s7.next;have g7:=(s7.same s (by omega)).trans g6;have hs7:=hs6.grow s7;simp(maxSteps:=1000000) (disch:=first|omega|(simp only[RY]<;>omega)|decide)only[↓RD,RZ,eq_self,Int.reduceToNat,Int.reduceAdd,Int.reduceSub,Int.reduceMul,Nat.reduceAdd,Nat.reduceSub,Nat.reduceMul,Nat.reduceDiv,Nat.reduceMod,Nat.reduceBEq,Nat.reduceLeDiff,g7];refine zer ?_;unfold zc0 uF uNF uB uI uc ug;simp(maxSteps:=1000000) (disch:=first|omega|(simp only[RY]<;>omega)|decide)only[↓RD,RZ,eq_self,Int.reduceToNat,Int.reduceAdd,Int.reduceSub,Int.reduceMul,Nat.reduceAdd,Nat.reduceSub,Nat.reduceMul,Nat.reduceDiv,Nat.reduceMod,Nat.reduceBEq,Nat.reduceLeDiff,zaI]
  iterate 3
   refine zer ?_;simp(maxSteps:=1000000) (disch:=first|omega|(simp only[RY]<;>omega)|decide)only[↓RD,RZ,eq_self,Int.reduceToNat,Int.reduceAdd,Int.reduceSub,Int.reduceMul,Nat.reduceAdd,Nat.reduceSub,Nat.reduceMul,Nat.reduceDiv,Nat.reduceMod,Nat.reduceBEq,Nat.reduceLeDiff,zaI]
  generalize hX:Heap.set H7 s _=H8;have g8:H8.get s=some ⟨zac,[.int .i64 (a:Nat),.int .i64 (id:Nat),sv,rv,.int .i64 1,.int .u64 0,.bool true,.int .i64 0,.int .i64 2,.int .i64 4,.int .i64 0,.int .i64 0,.int .i64 3,.int .i64 0,.int .i64 0,.int .i64 0,.int .i64 0,.int .i64 0,.int .i64 0,.int .i64 0,.int .i64 0,.int .i64 (-1),.ptr sn 0,.ptr (c+3) 0,.int .i64 0,.int .u16 0,.bool false,.bool false,.int .i64 0,.int .u16 0,.bool false,.bool false,.int .i64 0,.int .u16 0,.bool false,.bool false],none⟩:=by rw[←hX]; exact zai _ _ _
  have t8:AtS [s] H7 H8:=by rw[←hX]; exact AtS.set _ (by simp) _
  have c8:H8.Cl:=by rw[←hX]; exact zbZ c7 (by omega) _
  clear hX;have n8:=t8.next;have hs8:SndM (s+1) H8 sn (id:Nat) (2:Nat) none:=⟨by have:=hs7.1; omega,(t8.same sn hs7.1 (by simp; exact hne)).trans hs7.2⟩;have aT:AtS [s] H H8:=(((a4.trans (Grow.atS s5 _)).trans t6).trans (Grow.atS s7 _)).trans t8;have hv8:By lo H8 sv seed:=Lc.atS hv aT λi hi=>by simp only[List.mem_singleton]; exact hvs i hi
  refine zae (own_ok (e:=0) c8 g8 rfl rfl hv8 v8 vl (by decide)) ?_;rintro bx H9 ⟨hbx,s9,c9⟩;have n9:=s9.next;have g9:=(s9.same s (by omega)).trans g8;have hs9:=hs8.grow s9;simp(maxSteps:=1000000) (disch:=first|omega|(simp only[RY]<;>omega)|decide)only[↓RD,RZ,eq_self,Int.reduceToNat,Int.reduceAdd,Int.reduceSub,Int.reduceMul,Nat.reduceAdd,Nat.reduceSub,Nat.reduceMul,Nat.reduceDiv,Nat.reduceMod,Nat.reduceBEq,Nat.reduceLeDiff,g8,g9];refine zae (zkW c9 (Use_ok hs9 (by omega) (by rw[Int.toNat_natCast]; exact hsz) (0:Nat) (0:Nat) hbx (zvZ _ _ _) (by rw[zqy]; decide))) ?_;rintro _ H10 ⟨⟨rfl,hs10,t10⟩,c10⟩;have n10:=t10.next;have g10:=(t10.same s (by omega) (by simp; exact hne.symm)).trans g9;refine zae (zsp (.inr ⟨rfl,rfl⟩) g10 rfl rfl) ?_;rintro _ _ ⟨rfl,rfl⟩;simp(maxSteps:=1000000) (disch:=first|omega|(simp only[RY]<;>omega)|decide)only[↓RD,RZ,eq_self,Int.reduceToNat,Int.reduceAdd,Int.reduceSub,Int.reduceMul,Nat.reduceAdd,Nat.reduceSub,Nat.reduceMul,Nat.reduceDiv,Nat.reduceMod,Nat.reduceBEq,Nat.reduceLeDiff];refine zer ?_;unfold zcZ uM uNFM uNF uB uIM uU uc ug;simp(maxSteps:=1000000) (disch:=first|omega|(simp only[RY]<;>omega)|decide)only[↓RD,RZ,eq_self,Int.reduceToNat,Int.reduceAdd,Int.reduceSub,Int.reduceMul,Nat.reduceAdd,Nat.reduceSub,Nat.reduceMul,Nat.reduceDiv,Nat.reduceMod,Nat.reduceBEq,Nat.reduceLeDiff];refine zae (all_1 g10 rfl rfl) ?_;rintro _ H11 ⟨rfl,rfl⟩;simp(maxSteps:=1000000) (disch:=first|omega|(simp only[RY]<;>omega)|decide)only[↓RD,RZ,eq_self,Int.reduceToNat,Int.reduceAdd,Int.reduceSub,Int.reduceMul,Nat.reduceAdd,Nat.reduceSub,Nat.reduceMul,Nat.reduceDiv,Nat.reduceMod,Nat.reduceBEq,Nat.reduceLeDiff];rw[zaT];refine zaB ⟨_,_,rfl,?_⟩;simp(maxSteps:=1000000) (disch:=first|omega|(simp only[RY]<;>omega)|decide)only[↓RD,RZ,eq_self,Int.reduceToNat,Int.reduceAdd,Int.reduceSub,Int.reduceMul,Nat.reduceAdd,Nat.reduceSub,Nat.reduceMul,Nat.reduceDiv,Nat.reduceMod,Nat.reduceBEq,Nat.reduceLeDiff];refine⟨sn,c+3,g10,hs10,hne,⟨by omega,λi hi hn=>?_⟩,c10⟩;rw[t10.same i (by have:=aT.next; omega) (by simp; omega),s9.same i (by have:=aT.next; omega)];exact aT.same i hi hn
end Go.Ax.SU
/- St3 -/
namespace Go.Ax.SU
open Go.Ax Go.Proofs
theorem za1{H:Heap}(hc:H.Cl){i:Nat}{b:Blk}(hg:H.get i=some b):i<H.next:=by
 by_cases h:i<H.next
 ·exact h
 ·rw[hc i (by omega)]at hg; cases hg
theorem nd1(i:Nat):[i].Nodup:=by simp
def rn1(i n:Nat)(h:i<n):Rn:=rnOf [i] n (nd1 i) (λj hj=>by rw[List.mem_singleton]at hj; omega)
theorem zhq{f:FuncId}{args:List V}{m i:Nat}{v:V}{b:Blk}{l:List Nat} {os:List (Option Blk)} (h:Ax.look (0::l) (Cc.cd T m f args (Cc.hp [some b]))=some (v,some b::os)) {H:Heap} (hc:H.Cl) (hg:H.get i=some b) (hb:V.stills b.cells=true) :
  Ok (sem T f (shL (rn1 i H.next (za1 hc hg)) args)) H λr H'=>r=sh (rn1 i H.next (za1 hc hg)) v∧Grow H H'∧(∀j (hj:j<l.length),H'.get (rnF [i] H.next l[j])=(os[j]?.join).map (shB (rn1 i H.next (za1 hc hg))))∧H'.Cl:=by
 have hi:=za1 hc hg;have eb:shB (rn1 i H.next hi) b=b:=by
  unfold shB;rw[zbN _ hb]
 refine zam (zpJ hT (s:=[i]) (bs:=[some b]) h hc (nd1 i) (λj hj=>by rw[List.mem_singleton]at hj; omega) ⟨rfl,nd1 i,λj hj=>(by rw[List.mem_singleton]at hj; omega),λk hk b' hb'=>?_⟩ (λj hj=>?_)) ?_
 ·have:k=0:=by simpa using hk
  subst this;have e:b=b':=by simpa using hb'
  subst e;show H.get i=some (shB (rn1 i H.next hi) b);rw[eb]; exact hg
 ·by_cases e:1≤j
  ·exact .inl e
  ·refine .inr ⟨b,?_⟩;have:j=0:=by omega
   subst this;rfl
 ·rintro r H' ⟨rfl,h1,h2,h3,h4⟩;have g0:H'.get i=some b:=by
   have:=h3 0 (Nat.zero_lt_succ _);exact this.trans (congrArg some eb)
  refine⟨rfl,⟨h1,λk hk=>?_⟩,λj hj=>h3 (j+1) (Nat.succ_lt_succ hj),h4⟩;by_cases e:k=i
  ·subst e; rw[g0,hg]
  ·refine h2 k hk λj hj b' hb'=>?_;have:j=0:=by simpa using hj
   subst this;exact λe'=>e e'.symm
theorem zlc{H:Heap}{d:Rn}{lo k n:Nat}{l:List Nat} (g:H.get k=some (shB d ⟨zaa,l.map by8,some 1⟩)) (hc:H.Cl) (hk:lo≤k) (hn:l.length=n:=by rfl):By lo H (.sl k 0 n (.opn 1)) l:=by
 subst hn;unfold shB at g;rw[zbN _ (zfM l)]at g;refine⟨?_,λi h=>?_,rfl⟩
 ·simp only[rcells,g,Option.bind_some,List.length_map,Nat.zero_add,Nat.mul_one,List.drop_zero];rw[if_pos (Nat.le_refl _),List.take_of_length_le (by rw[List.length_map]; exact Nat.le_refl _)]
 ·injection h with h
  subst h;exact⟨hk,za1 hc g⟩
def welB(sl e ad:Nat):List Nat:=[17,0,sl,0,e,0,2 ^ sl,0,e,0,8]++(List.replicate 8 255).set sl ad
theorem parse_w{H:Heap}{i sl e ad:Nat} (hi:(sl=0∧e=3∧ad=5)∨(sl=2∧e=0∧ad=3)) (hc:H.Cl) (hg:H.get i=some ⟨zaa,(welB sl e ad).map by8,some 1⟩) :
  Ok (sem T zcx [.sl i 0 19 (.opn 1)]) H λr H'=>∃bv,r = .tup [.agg [.int .i64 17,.int .i64 0,.int .i64 (sl:Nat),.int .i64 (e:Nat),.int .i64 (2 ^ sl:Nat),.int .i64 (e:Nat),bv],.int .i64 0]∧By H.next H' bv ((List.replicate 8 255).set sl ad)∧Grow H H'∧H'.Cl:=by
 rcases hi with⟨rfl,rfl,rfl⟩|⟨rfl,rfl,rfl⟩
 ·have hr:Ax.look [0,5] (Cc.cd T 20 zcx [.sl 0 0 19 (.opn 1)] (Cc.hp [some ⟨zaa,(welB 0 3 5).map by8,some 1⟩]))=some (.tup [.agg [.int .i64 17,.int .i64 0,.int .i64 0,.int .i64 3,.int .i64 1,.int .i64 3,.sl 5 0 8 (.opn 1)],.int .i64 0],[some ⟨zaa,(welB 0 3 5).map by8,some 1⟩,some ⟨zaa,([5,255,255,255,255,255,255,255]:List Nat).map by8,some 1⟩]):=by kernel_rfl
  refine zam (zhq (l:=[5]) hr hc hg (zfM _)) ?_;rintro r H' ⟨rfl,s,h,c⟩;have g:H'.get (H.next+4)=some (shB (rn1 i H.next (za1 hc hg)) ⟨zaa,([5,255,255,255,255,255,255,255]:List Nat).map by8,some 1⟩):=h 0 Nat.zero_lt_one;exact⟨_,rfl,zlc g c (Nat.le_add_right _ _),s,c⟩
 ·have hr:Ax.look [0,5] (Cc.cd T 20 zcx [.sl 0 0 19 (.opn 1)] (Cc.hp [some ⟨zaa,(welB 2 0 3).map by8,some 1⟩]))=some (.tup [.agg [.int .i64 17,.int .i64 0,.int .i64 2,.int .i64 0,.int .i64 4,.int .i64 0,.sl 5 0 8 (.opn 1)],.int .i64 0],[some ⟨zaa,(welB 2 0 3).map by8,some 1⟩,some ⟨zaa,([255,255,3,255,255,255,255,255]:List Nat).map by8,some 1⟩]):=by kernel_rfl
  refine zam (zhq (l:=[5]) hr hc hg (zfM _)) ?_;rintro r H' ⟨rfl,s,h,c⟩;have g:H'.get (H.next+4)=some (shB (rn1 i H.next (za1 hc hg)) ⟨zaa,([255,255,3,255,255,255,255,255]:List Nat).map by8,some 1⟩):=h 0 Nat.zero_lt_one;exact⟨_,rfl,zlc g c (Nat.le_add_right _ _),s,c⟩
end Go.Ax.SU
/- St4 -/
namespace Go.Ax.SU
open Go.Ax Go.Proofs
theorem said_0{H:Heap}(hc:H.Cl):Ok (sem T zcX [.nils]) H λr H'=>r = .nils∧Grow H H'∧H'.Cl:=by
 have hr:Ax.look [] (Cc.cd T 5 zcX [.nils] (Cc.hp []))=some (.nils,[]):=by kernel_rfl
 exact zam (zkD hr rfl hc) λr H' h=>⟨h.1,h.2.1,h.2.2.2⟩
theorem hear_w{s i a id n t lo:Nat}{H:Heap}{sv rv:V}{seed:List Nat}(hc:H.Cl) (hg:H.get s=some ⟨zac,stN a id sv rv,none⟩) (hv:By lo H sv seed) (hvs:∀i,sv.pid=some i→i≠s) (v8:Ok8 seed) (vl:seed.length≤1099511627776) (hsz:szs id=some (n,t)) {sl e ad:Nat} (hi:(sl=0∧e=3∧ad=5)∨(sl=2∧e=0∧ad=3)) (hb:H.get i=some ⟨zaa,(welB sl e ad).map by8,some 1⟩) :
  Ok (sem T zaK [.ptr s 0,.sl i 0 19 (.opn 1)]) H λr H'=>r = .nils∧∃sn rc,H'.get s=some ⟨zac,stR a id sv rv sl ad e (.ptr sn 0) (.ptr rc 0) 0 0 false false,none⟩ ∧
   SndM (s+1) H' sn (id:Nat) (sl:Nat) (useS (id:Nat) (sl:Nat) n t none (e:Nat) (0:Nat) (znU sOwn seed [0,0,0,1,0,e])).1∧sn≠s∧AtS [s] H H'∧H'.Cl:=by
 have hlt:=za1 hc hg;refine zgo ?_;unfold zez uL uS uT uFM uNFM uE uB uO uc;refine zae (parse_w hi hc hb) ?_;rintro _ H1 ⟨bv,rfl,hbv,s1,c1⟩;refine zbe rfl ?_;refine zbe rfl ?_;refine zgm c1 rfl rfl λq H2 e2 g2 s2 n2 c2=>?_;have n1:=s1.next;have gs2:=((s1.trans s2).same s hlt).trans hg;simp(maxSteps:=1000000) (disch:=first|omega|(simp only[RY]<;>omega)|decide)only[↓RD,RZ,eq_self,Int.reduceToNat,Int.reduceAdd,Int.reduceSub,Int.reduceMul,Nat.reduceAdd,Nat.reduceSub,Nat.reduceMul,Nat.reduceDiv,Nat.reduceMod,Nat.reduceBEq,Nat.reduceLeDiff,g2];have hi':(sl=0∧e=3∧ad=5∧(List.replicate 8 255).set sl ad=[5,255,255,255,255,255,255,255])∨(sl=2∧e=0∧ad=3∧(List.replicate 8 255).set sl ad=[255,255,3,255,255,255,255,255]):=by
  rcases hi with⟨rfl,rfl,rfl⟩|⟨rfl,rfl,rfl⟩
  ·exact .inl ⟨rfl,rfl,rfl,rfl⟩
  ·exact .inr ⟨rfl,rfl,rfl,rfl⟩
 have hw:=zs6 (lb:=H.next) c2 gs2 (hv.ext (s1.trans s2)) hvs v8 vl hsz (B:=(List.replicate 8 255).set sl ad) hi' (hbv.ext s2) hlt;refine zae hw ?_;rintro _ H3 ⟨rfl,sn,rc,g3,hs3,hne,a3,c3⟩;refine zae (said_0 c3) ?_;rintro _ H4 ⟨rfl,s4,c4⟩;simp(maxSteps:=1000000) (disch:=first|omega|(simp only[RY]<;>omega)|decide)only[↓RD,RZ,eq_self,Int.reduceToNat,Int.reduceAdd,Int.reduceSub,Int.reduceMul,Nat.reduceAdd,Nat.reduceSub,Nat.reduceMul,Nat.reduceDiv,Nat.reduceMod,Nat.reduceBEq,Nat.reduceLeDiff];have l3:=za1 c3 g3;exact⟨sn,rc,(s4.same s l3).trans g3,hs3.grow s4,hne,((Grow.atS (s1.trans s2) _).trans a3).trans (Grow.atS s4 _),c4⟩
end Go.Ax.SU
/- St5 -/
namespace Go.Ax.SU
open Go.Ax Go.Proofs
theorem zse{H:Heap}{k:Int}(hk:k=0∨k=1∨k=2):Ok (sem T zb5 [.int .i64 k]) H λr H'=>r = .bool true∧H'=H:=by
 refine zhu ?_;unfold zfs uL uB uG uH uc;rcases hk with rfl|rfl|rfl<;>simp(maxSteps:=1000000) (disch:=first|omega|(simp only[RY]<;>omega)|decide)only[↓RD,RZ,eq_self,Int.reduceToNat,Int.reduceAdd,Int.reduceSub,Int.reduceMul,Nat.reduceAdd,Nat.reduceSub,Nat.reduceMul,Nat.reduceDiv,Nat.reduceMod,Nat.reduceBEq,Nat.reduceLeDiff,RG]
theorem zuJ{H:Heap}{k:Int}(hk:k=3∨k = -1):Ok (sem T zb5 [.int .i64 k]) H λr H'=>r = .bool false∧H'=H:=by
 refine zhu ?_;unfold zfs uL uB uG uH uc;rcases hk with rfl|rfl<;>simp(maxSteps:=1000000) (disch:=first|omega|(simp only[RY]<;>omega)|decide)only[↓RD,RZ,eq_self,Int.reduceToNat,Int.reduceAdd,Int.reduceSub,Int.reduceMul,Nat.reduceAdd,Nat.reduceSub,Nat.reduceMul,Nat.reduceDiv,Nat.reduceMod,Nat.reduceBEq,Nat.reduceLeDiff,RG]
theorem zrg{H:Heap}{s:Nat}{a k r:Int}{cs:List V} (hg:H.get s=some ⟨zac,cs,none⟩) (h0:cs[0]?=some (.int .i64 a)) (hr:(a=5∧k=1∧r=1516)∨(a=3∧k=2∧r=1332)∨(a=3∧k=0∧r=1300)):Ok (sem T zaJ [.ptr s 0,.int .i64 k]) H λv H'=>v = .int .u32 r∧H'=H:=by
 refine zgn ?_;unfold zey uL uNFM uB uc;refine zae (zse (k:=k) (by omega)) ?_;rintro _ _ ⟨rfl,rfl⟩;rcases hr with⟨rfl,rfl,rfl⟩|⟨rfl,rfl,rfl⟩|⟨rfl,rfl,rfl⟩<;>simp(maxSteps:=1000000) (disch:=first|omega|(simp only[RY]<;>omega)|decide)only[↓RD,RZ,eq_self,Int.reduceToNat,Int.reduceAdd,Int.reduceSub,Int.reduceMul,Nat.reduceAdd,Nat.reduceSub,Nat.reduceMul,Nat.reduceDiv,Nat.reduceMod,Nat.reduceBEq,Nat.reduceLeDiff,hg,h0]<;>rfl
theorem ssrc_out{H:Heap}{s:Nat}:Ok (sem T zaJ [.ptr s 0,.int .i64 (-1)]) H λv H'=>v = .int .u32 0∧H'=H:=by
 refine zgn ?_;unfold zey uL uNFM uB uc;refine zae (zuJ (k:=-1) (.inr rfl)) ?_;rintro _ _ ⟨rfl,rfl⟩;simp(maxSteps:=1000000) (disch:=first|omega|(simp only[RY]<;>omega)|decide)only[↓RD,RZ,eq_self,Int.reduceToNat,Int.reduceAdd,Int.reduceSub,Int.reduceMul,Nat.reduceAdd,Nat.reduceSub,Nat.reduceMul,Nat.reduceDiv,Nat.reduceMod,Nat.reduceBEq,Nat.reduceLeDiff]
theorem mem_ok{H:Heap}{s:Nat}{v:V}{cs:List V} (hg:H.get s=some ⟨zac,cs,none⟩) (h9:cs[9]?=some v):Ok (sem T zbB [.ptr s 0]) H λr H'=>r=v∧H'=H:=by
 refine ziQ ?_;unfold zfu uNFM;simp(maxSteps:=1000000) (disch:=first|omega|(simp only[RY]<;>omega)|decide)only[↓RD,RZ,eq_self,Int.reduceToNat,Int.reduceAdd,Int.reduceSub,Int.reduceMul,Nat.reduceAdd,Nat.reduceSub,Nat.reduceMul,Nat.reduceDiv,Nat.reduceMod,Nat.reduceBEq,Nat.reduceLeDiff,hg,h9]
theorem in_out{H:Heap}{s:Nat}{cs:List V} (hg:H.get s=some ⟨zac,cs,none⟩) (h6:cs[6]?=some (.bool false)):Ok (sem T zbT [.ptr s 0]) H λr H'=>r = .tup [.int .i64 0,.int .i64 0,.int .i64 0,.bool false]∧H'=H:=by
 refine zhZ ?_;unfold zgd uL uNFM uc;simp(maxSteps:=1000000) (disch:=first|omega|(simp only[RY]<;>omega)|decide)only[↓RD,RZ,eq_self,Int.reduceToNat,Int.reduceAdd,Int.reduceSub,Int.reduceMul,Nat.reduceAdd,Nat.reduceSub,Nat.reduceMul,Nat.reduceDiv,Nat.reduceMod,Nat.reduceBEq,Nat.reduceLeDiff,hg,h6]
theorem in_in{H:Heap}{s:Nat}{a b c:V}{cs:List V} (hg:H.get s=some ⟨zac,cs,none⟩) (h6:cs[6]?=some (.bool true)) (h7:cs[7]?=some a) (h8:cs[8]?=some b) (h18:cs[18]?=some c):Ok (sem T zbT [.ptr s 0]) H λr H'=>r = .tup [a,b,c,.bool true]∧H'=H:=by
 refine zhZ ?_;unfold zgd uL uNFM uc;simp(maxSteps:=1000000) (disch:=first|omega|(simp only[RY]<;>omega)|decide)only[↓RD,RZ,eq_self,Int.reduceToNat,Int.reduceAdd,Int.reduceSub,Int.reduceMul,Nat.reduceAdd,Nat.reduceSub,Nat.reduceMul,Nat.reduceDiv,Nat.reduceMod,Nat.reduceBEq,Nat.reduceLeDiff,hg,h6,h7,h8,h18]
theorem new51{H:Heap}{i j:Nat}(hc:H.Cl) (hi:H.get i=some ⟨zaa,[.int .u8 115],none⟩) (hj:H.get j=some ⟨zaa,[.int .u8 114],none⟩) (ne:i≠j) :
  Ok (sem T zby [.int .i64 5,.int .i64 1,.sl i 0 1 (.fix 1),.sl j 0 1 (.fix 1)]) H λr H'=>∃s a b,r = .tup [.ptr s 0,.int .i64 0]∧H'.get s=some ⟨zac,stN 5 1 (.sl a 0 1 (.opn 1)) (.sl b 0 1 (.opn 1)),none⟩ ∧
   By H.next H' (.sl a 0 1 (.opn 1)) [115]∧a≠s∧H.next≤s∧Grow H H'∧H'.Cl:=by
 have hr:Ax.look [0,1,3,6] (Cc.cd T 20 zby [.int .i64 5,.int .i64 1,.sl 0 0 1 (.fix 1),.sl 1 0 1 (.fix 1)] (Cc.hp [some ⟨zaa,[.int .u8 114],none⟩,some ⟨zaa,[.int .u8 115],none⟩]))=some (.tup [.ptr 6 0,.int .i64 0],[some ⟨zaa,[.int .u8 115],none⟩,some ⟨zaa,[.int .u8 114],none⟩,some ⟨zaa,[.int .u8 115],some 1⟩,some ⟨zac,stN 5 1 (.sl 3 0 1 (.opn 1)) (.sl 5 0 1 (.opn 1)),none⟩]):=by kernel_rfl
 have li:=za1 hc hi;have lj:=za1 hc hj;have nd:[i,j].Nodup:=by simp[ne]
 have lt:∀k∈[i,j],k<H.next:=by simp; omega
 refine zam (zpJ hT (s:=[i,j]) hr hc nd lt ⟨rfl,nd,lt,λk hk b' hb'=>?_⟩ (λj hj=>?_)) ?_
 ·have:k=0∨k=1:=by simp at hk; omega
  rcases this with rfl|rfl
  ·have e:(⟨zaa,[.int .u8 115],none⟩:Blk)=b':=Option.some.inj (Option.some.inj hb');subst e; exact hi
  ·have e:(⟨zaa,[.int .u8 114],none⟩:Blk)=b':=Option.some.inj (Option.some.inj hb');subst e; exact hj
 ·by_cases e:2≤j
  ·exact .inl e
  ·refine .inr ?_;have:j=0∨j=1:=by omega
   rcases this with rfl|rfl<;>exact⟨_,rfl⟩
 ·rintro r H' ⟨rfl,h1,h2,h3,h4⟩;have g0:H'.get i=some ⟨zaa,[.int .u8 115],none⟩:=h3 0 (by decide);have g1:H'.get j=some ⟨zaa,[.int .u8 114],none⟩:=h3 1 (by decide);have g2:H'.get (H.next+1)=some (shB (rnOf [i,j] H.next nd lt) ⟨zaa,([115]:List Nat).map by8,some 1⟩):=h3 2 (by decide);have g3:H'.get (H.next+4)=some ⟨zac,stN 5 1 (.sl (H.next+1) 0 1 (.opn 1)) (.sl (H.next+3) 0 1 (.opn 1)),none⟩:=h3 3 (by decide);refine⟨H.next+4,H.next+1,H.next+3,rfl,g3,zlc (l:=[115]) g2 h4 (by omega),by omega,by omega,⟨h1,λk hk=>?_⟩,h4⟩;by_cases ei:k=i
  ·subst ei; exact g0.trans hi.symm
  ·by_cases ej:k=j
   ·subst ej; exact g1.trans hj.symm
   ·refine h2 k hk λm hm b hb=>?_;have:m=0∨m=1:=by simp at hm; omega
    rcases this with rfl|rfl
    ·exact λe=>ei e.symm
    ·exact λe=>ej e.symm
theorem wel_ok{H:Heap}{sl e ad:Nat} (hi:(sl=0∧e=3∧ad=5)∨(sl=2∧e=0∧ad=3)) (hc:H.Cl) {A:List V} (hA:A=((List.replicate 8 0).set sl ad).map by8) :
  Ok (sem T zaS [.int .i64 (sl:Nat),.int .i64 (e:Nat),.int .i64 (2 ^ sl:Nat),.int .i64 (e:Nat),.agg A]) H λr H'=>∃i,r = .agg [.int .i64 17,.int .i64 0,.int .i64 (sl:Nat),.int .i64 (e:Nat),.int .i64 (2 ^ sl:Nat),.int .i64 (e:Nat),.sl i 0 8 (.fix 8)] ∧
   H'.get i=some ⟨zaa,((List.replicate 8 255).set sl ad).map by8,none⟩∧Grow H H'∧H'.Cl:=by
 subst hA;rcases hi with⟨rfl,rfl,rfl⟩|⟨rfl,rfl,rfl⟩
 ·have hr:Ax.look [2] (Cc.cd T 20 zaS [.int .i64 0,.int .i64 3,.int .i64 1,.int .i64 3,.agg (([5,0,0,0,0,0,0,0]:List Nat).map by8)] (Cc.hp []))=some (.agg [.int .i64 17,.int .i64 0,.int .i64 0,.int .i64 3,.int .i64 1,.int .i64 3,.sl 2 0 8 (.fix 8)],[some ⟨zaa,([5,255,255,255,255,255,255,255]:List Nat).map by8,none⟩]):=by kernel_rfl
  refine zam (zkD hr rfl hc) ?_;rintro r H' ⟨rfl,s,h,c⟩;exact⟨_,rfl,h 0 Nat.zero_lt_one,s,c⟩
 ·have hr:Ax.look [2] (Cc.cd T 20 zaS [.int .i64 2,.int .i64 0,.int .i64 4,.int .i64 0,.agg (([0,0,3,0,0,0,0,0]:List Nat).map by8)] (Cc.hp []))=some (.agg [.int .i64 17,.int .i64 0,.int .i64 2,.int .i64 0,.int .i64 4,.int .i64 0,.sl 2 0 8 (.fix 8)],[some ⟨zaa,([255,255,3,255,255,255,255,255]:List Nat).map by8,none⟩]):=by kernel_rfl
  refine zam (zkD hr rfl hc) ?_;rintro r H' ⟨rfl,s,h,c⟩;exact⟨_,rfl,h 0 Nat.zero_lt_one,s,c⟩
theorem says_w{H:Heap}{i sl e ad:Nat} (hi:(sl=0∧e=3∧ad=5)∨(sl=2∧e=0∧ad=3)) (hc:H.Cl) (hg:H.get i=some ⟨zaa,((List.replicate 8 255).set sl ad).map by8,none⟩) :
  Ok (sem T zaG [.agg [.int .i64 17,.int .i64 0,.int .i64 (sl:Nat),.int .i64 (e:Nat),.int .i64 (2 ^ sl:Nat),.int .i64 (e:Nat),.sl i 0 8 (.fix 8)]]) H λr H'=>∃i,r = .sl i 0 19 (.opn 1)∧H'.get i=some ⟨zaa,(welB sl e ad).map by8,some 1⟩∧Grow H H'∧H'.Cl:=by
 rcases hi with⟨rfl,rfl,rfl⟩|⟨rfl,rfl,rfl⟩
 ·have hr:Ax.look [0,30] (Cc.cd T 20 zaG [.agg [.int .i64 17,.int .i64 0,.int .i64 0,.int .i64 3,.int .i64 1,.int .i64 3,.sl 0 0 8 (.fix 8)]] (Cc.hp [some ⟨zaa,([5,255,255,255,255,255,255,255]:List Nat).map by8,none⟩]))=some (.sl 30 0 19 (.opn 1),[some ⟨zaa,([5,255,255,255,255,255,255,255]:List Nat).map by8,none⟩,some ⟨zaa,(welB 0 3 5).map by8,some 1⟩]):=by kernel_rfl
  refine zam (zhq (l:=[30]) hr hc hg (zfM _)) ?_;rintro r H' ⟨rfl,s,h,c⟩;exact⟨_,rfl,h 0 Nat.zero_lt_one,s,c⟩
 ·have hr:Ax.look [0,30] (Cc.cd T 20 zaG [.agg [.int .i64 17,.int .i64 0,.int .i64 2,.int .i64 0,.int .i64 4,.int .i64 0,.sl 0 0 8 (.fix 8)]] (Cc.hp [some ⟨zaa,([255,255,3,255,255,255,255,255]:List Nat).map by8,none⟩]))=some (.sl 30 0 19 (.opn 1),[some ⟨zaa,([255,255,3,255,255,255,255,255]:List Nat).map by8,none⟩,some ⟨zaa,(welB 2 0 3).map by8,some 1⟩]):=by kernel_rfl
  refine zam (zhq (l:=[30]) hr hc hg (zfM _)) ?_;rintro r H' ⟨rfl,s,h,c⟩;exact⟨_,rfl,h 0 Nat.zero_lt_one,s,c⟩
end Go.Ax.SU
/- St6 -/
namespace Go.Ax.SU
open Go.Ax Go.Proofs
theorem zjq{β:Type}{H:Heap}{ty:TypeId}{id off len:Nat}{cap:Cap}{b:Blk}{f:V→M β}{Q:β→Heap→Prop}(hb:H.get id=some b)(hl:len≠0) (k:Ok (f (.sl id off len cap)) H Q):Ok ((mremark ty (.sl id off len cap)).bind f) H Q:=by
 refine zaB ⟨.sl id off len cap,H,?_,k⟩;simp only[mremark,hb,Option.bind_some];rw[if_neg hl]
theorem awake_28{H:Heap}(hc:H.Cl):Ok (sem T zbE []) H λr H'=>r = .bool true∧Grow H H'∧H'.Cl:=by
 refine zgR ?_;unfold zdY uL uE uB uG uH uc ub;refine zaB (zo8 (cs:=[.int .u8 115]) rfl ?_);have g1:(H.new ⟨zaa,[.int .u8 115],none⟩).get H.next = _:=zag _ _;have s1:=Grow.new H ⟨zaa,[.int .u8 115],none⟩;have c1:=zdV hc ⟨zaa,[.int .u8 115],none⟩;have n1:(H.new ⟨zaa,[.int .u8 115],none⟩).next=H.next+1:=zaf _ _;generalize H.new _=H1 at *;refine zjq g1 (by decide) ?_;refine zaB (zo8 (cs:=[.int .u8 114]) rfl ?_);have g2:(H1.new ⟨zaa,[.int .u8 114],none⟩).get H1.next = _:=zag _ _;have s2:=Grow.new H1 ⟨zaa,[.int .u8 114],none⟩;have c2:=zdV c1 ⟨zaa,[.int .u8 114],none⟩;generalize H1.new _=H2 at *;refine zjq g2 (by decide) ?_;have gi:=(s2.same H.next (by omega)).trans g1;refine zae (new51 c2 gi g2 (by omega)) ?_;rintro _ H3 ⟨s,a,b,rfl,g3,hv,ha,hs,s3,c3⟩;have l3:=za1 c3 g3;simp(maxSteps:=1000000) (disch:=first|omega|(simp only[RY]<;>omega)|decide)only[↓RD,RZ,eq_self,Int.reduceToNat,Int.reduceAdd,Int.reduceSub,Int.reduceMul,Nat.reduceAdd,Nat.reduceSub,Nat.reduceMul,Nat.reduceDiv,Nat.reduceMod,Nat.reduceBEq,Nat.reduceLeDiff,RG];refine zae (in_out g3 rfl) ?_;rintro _ _ ⟨rfl,rfl⟩;simp(maxSteps:=1000000) (disch:=first|omega|(simp only[RY]<;>omega)|decide)only[↓RD,RZ,eq_self,Int.reduceToNat,Int.reduceAdd,Int.reduceSub,Int.reduceMul,Nat.reduceAdd,Nat.reduceSub,Nat.reduceMul,Nat.reduceDiv,Nat.reduceMod,Nat.reduceBEq,Nat.reduceLeDiff,RG];refine zae (wel_ok (sl:=0) (e:=3) (ad:=5) (.inl ⟨rfl,rfl,rfl⟩) c3 rfl) ?_;rintro _ H4 ⟨i,rfl,g4,s4,c4⟩;refine zae (says_w (.inl ⟨rfl,rfl,rfl⟩) c4 g4) ?_;rintro _ H5 ⟨j,rfl,g5,s5,c5⟩;have gs5:=((s4.trans s5).same s l3).trans g3;refine zae (hear_w (n:=16) (t:=10) c5 gs5 (hv.ext (s4.trans s5)) (λi hi=>by injection hi with hi; omega) (all8 rfl) (by decide) rfl (.inl ⟨rfl,rfl,rfl⟩) g5) ?_;rintro _ H6 ⟨rfl,sn,rc,g6,-,-,a6,c6⟩;simp(maxSteps:=1000000) (disch:=first|omega|(simp only[RY]<;>omega)|decide)only[↓RD,RZ,eq_self,Int.reduceToNat,Int.reduceAdd,Int.reduceSub,Int.reduceMul,Nat.reduceAdd,Nat.reduceSub,Nat.reduceMul,Nat.reduceDiv,Nat.reduceMod,Nat.reduceBEq,Nat.reduceLeDiff,RG];refine zae (in_in g6 rfl rfl rfl rfl) ?_;rintro _ _ ⟨rfl,rfl⟩;simp(maxSteps:=1000000) (disch:=first|omega|(simp only[RY]<;>omega)|decide)only[↓RD,RZ,eq_self,Int.reduceToNat,Int.reduceAdd,Int.reduceSub,Int.reduceMul,Nat.reduceAdd,Nat.reduceSub,Nat.reduceMul,Nat.reduceDiv,Nat.reduceMod,Nat.reduceBEq,Nat.reduceLeDiff,RG];refine zae (zrg g6 rfl (.inl ⟨rfl,rfl,rfl⟩)) ?_;rintro _ _ ⟨rfl,rfl⟩;simp(maxSteps:=1000000) (disch:=first|omega|(simp only[RY]<;>omega)|decide)only[↓RD,RZ,eq_self,Int.reduceToNat,Int.reduceAdd,Int.reduceSub,Int.reduceMul,Nat.reduceAdd,Nat.reduceSub,Nat.reduceMul,Nat.reduceDiv,Nat.reduceMod,Nat.reduceBEq,Nat.reduceLeDiff,RG];refine zae (mem_ok g6 rfl) ?_;rintro _ _ ⟨rfl,rfl⟩;simp(maxSteps:=1000000) (disch:=first|omega|(simp only[RY]<;>omega)|decide)only[↓RD,RZ,eq_self,Int.reduceToNat,Int.reduceAdd,Int.reduceSub,Int.reduceMul,Nat.reduceAdd,Nat.reduceSub,Nat.reduceMul,Nat.reduceDiv,Nat.reduceMod,Nat.reduceBEq,Nat.reduceLeDiff,RG]
 have sT:=((((s1.trans s2).trans s3).trans s4).trans s5);refine⟨⟨by have:=sT.next; have:=a6.next; omega,λi hi=>?_⟩,c6⟩;rw[a6.same i (by have:=sT.next; omega) (by have:=(s1.trans s2).next; simp; omega)];exact sT.same i hi
end Go.Ax.SU
/- St7 -/
namespace Go.Ax.SU
open Go.Ax Go.Proofs
def Has(H:Heap) (L:List (Nat×Blk)):Prop:=∀p∈L,H.get p.1=some p.2
theorem Has.lt{H:Heap} {L:List (Nat×Blk)} (h:Has H L) (hc:H.Cl):∀j∈L.map Prod.fst,j<H.next:=λj hj=>by
 obtain⟨p,hp,rfl⟩:=List.mem_map.1 hj;exact za1 hc (h p hp)
theorem Has.grow{H H':Heap} {L:List (Nat×Blk)} (h:Has H L) (hc:H.Cl) (g:Grow H H'):Has H' L:=λp hp=>(g.same p.1 (za1 hc (h p hp))).trans (h p hp)
theorem Has.atS{H H':Heap}{S:List Nat} {L:List (Nat×Blk)} (h:Has H L) (hc:H.Cl) (g:AtS S H H') (hS:∀i∈S,i∉L.map Prod.fst):Has H' L:=λp hp=>(g.same p.1 (za1 hc (h p hp)) λe=>hS _ e (List.mem_map_of_mem hp)).trans (h p hp)
theorem Has.app{H:Heap} {L L':List (Nat×Blk)} (h:Has H L) (h':Has H L'):Has H (L++L'):=λp hp=>(List.mem_append.1 hp).elim (h p) (h' p)
theorem zf2{f:FuncId}{args:List V}{m:Nat}{v:V}{bs:List Blk}{l:List Nat} {os:List (Option Blk)} (h:Ax.look (List.range bs.length++l) (Cc.cd T m f args (Cc.hp (bs.reverse.map some)))=some (v,bs.map some++os)) {H:Heap} (hc:H.Cl) {L:List (Nat×Blk)} (hL:Has H L) (nd:(L.map Prod.fst).Nodup) (hl:L.length=bs.length)
  (e:L.map Prod.snd=bs.map (shB (rnOf (L.map Prod.fst) H.next nd (hL.lt hc)))) (hv:∀j∈l,bs.length≤j) :
  Ok (sem T f (shL (rnOf (L.map Prod.fst) H.next nd (hL.lt hc)) args)) H λr H'=>r=sh (rnOf (L.map Prod.fst) H.next nd (hL.lt hc)) v∧Grow H H'∧(∀j (hj:j<l.length),H'.get (rnF (L.map Prod.fst) H.next l[j])=(os[j]?.join).map (shB (rnOf (L.map Prod.fst) H.next nd (hL.lt hc))))∧H'.Cl:=by
 have lt:=hL.lt hc;have hb:∀i (hi:i<bs.length),(bs.reverse.map some)[(bs.reverse.map some).length-1-i]?=some (some bs[i]):=λi hi=>by
  rw[List.getElem?_map,List.length_map,List.length_reverse,List.getElem?_reverse (by omega)];have:bs.length-1-(bs.length-1-i)=i:=by omega
  rw[this,List.getElem?_eq_getElem hi];rfl
 have hs:∀i (hi:i<L.length) (hi':i<bs.length),H.get (L[i]).1=some (shB (rnOf (L.map Prod.fst) H.next nd lt) bs[i]):=λi hi hi'=>by
  rw[hL _ (List.getElem_mem hi)];have h1:(L.map Prod.snd)[i]?=some (L[i]).2:=by rw[List.getElem?_map,List.getElem?_eq_getElem hi]; rfl
  rw[e,List.getElem?_map,List.getElem?_eq_getElem hi']at h1;exact h1.symm
 refine zam (zpJ hT h hc nd lt ⟨by rw[List.length_map,hl,List.length_map,List.length_reverse],nd,lt,λi hi b hb'=>?_⟩ λj hj=>?_) ?_
 ·have hi':i<L.length:=by rw[List.length_map]at hi; exact hi
  rw[hb i (by omega)]at hb';injection hb' with hb'
  injection hb' with hb'
  subst hb';rw[List.getElem_map];exact hs i hi' (by omega)
 ·rcases List.mem_append.1 hj with hj|hj
  ·refine .inr ⟨_,hb j (List.mem_range.1 hj)⟩
  ·exact .inl (by rw[List.length_map,List.length_reverse]; exact hv j hj)
 ·rintro r H' ⟨rfl,h1,h2,h3,h4⟩;refine⟨rfl,⟨h1,λk hk=>?_⟩,λj hj=>?_,h4⟩
  ·by_cases hx:k∈L.map Prod.fst
   ·obtain⟨i,hi,e'⟩:=List.mem_iff_getElem.1 hx;have hi':i<L.length:=by rw[List.length_map]at hi; exact hi
    have:=h3 i (by rw[List.length_append,List.length_range]; omega);have e1:(List.range bs.length++l)[i]'(by rw[List.length_append,List.length_range]; omega)=i:=by rw[List.getElem_append_left (by rw[List.length_range]; omega),List.getElem_range]
    rw[e1]at this;have e2:rnF (L.map Prod.fst) H.next i=k:=by unfold rnF; rw[dif_pos hi]; exact e'
    rw[e2,List.getElem?_append_left (by rw[List.length_map]; omega),List.getElem?_map,List.getElem?_eq_getElem (by omega)]at this;rw[this];have h5:=hs i hi' (by omega);rw[List.getElem_map]at e';rw[e']at h5;exact h5.symm
   ·refine h2 k hk λj hj b _ e'=>hx ?_;rw[←e'];exact List.getElem_mem hj
  ·have:=h3 (bs.length+j) (by rw[List.length_append,List.length_range]; omega);have e1:(List.range bs.length++l)[bs.length+j]'(by rw[List.length_append,List.length_range]; omega)=l[j]:=by
    rw[List.getElem_append_right (by rw[List.length_range]; omega)];congr 1;rw[List.length_range]; omega
   rw[e1,List.getElem?_append_right (by rw[List.length_map]; omega)]at this;rw[this];congr 3;rw[List.length_map]; omega
def strL(k:Nat):List (Nat×Blk):=[(k,⟨zdf,[.int .i64 2,.int .i64 2],none⟩),(k+1,⟨zdf,[.int .i64 0],none⟩),(k+2,⟨zdf,[.int .i64 2,.int .i64 2],none⟩),(k+3,⟨zdf,[.int .i64 2],none⟩),(k+4,⟨zdf,[.int .i64 2],none⟩),(k+5,⟨zdf,[.int .i64 1,.int .i64 0],none⟩),(k+6,⟨zdf,[.int .i64 1],none⟩),(k+7,⟨zdf,[.int .i64 1],none⟩),
 (k+8,⟨zfL,[.int .i64 0,.int .i64 0,.sl k 0 2 (.fix 2),.nils,.sl (k+1) 0 1 (.fix 1),.int .i64 0,.int .i64 0,.sl (k+2) 0 2 (.fix 2),.sl (k+3) 0 1 (.fix 1),.sl (k+4) 0 1 (.fix 1),.int .i64 0,.int .i64 1,.sl (k+5) 0 2 (.fix 2),.sl (k+6) 0 1 (.fix 1),.sl (k+7) 0 1 (.fix 1)],none⟩),(k+9,⟨zdf,[.int .i64 0,.int .i64 0],none⟩)]
def strV(k:Nat):List V:=[.int .i64 0,.int .i64 2,.sl (k+8) 0 3 (.fix 3),.int .i64 1,.sl (k+9) 0 2 (.fix 2),.nils]
theorem zhU{H:Heap}(hc:H.Cl):Ok (sem T zbL []) H λr H'=>∃k,r = .agg (strV k)∧H.next≤k∧Has H' (strL k)∧Grow H H'∧H'.Cl:=by
 have hr:Ax.look [1,2,3,4,5,6,7,8,9,10] (Cc.cd T 5 zbL [] (Cc.hp []))=some (.agg (strV 1),(strL 1).map λp=>some p.2):=by kernel_rfl
 refine zam (zkD hr rfl hc) ?_;rintro r H' ⟨rfl,s,h,c⟩;refine⟨H.next+1,rfl,Nat.le_succ _,?_,s,c⟩;intro p hp;simp only[strL,List.mem_cons,List.not_mem_nil,or_false]at hp;rcases hp with rfl|rfl|rfl|rfl|rfl|rfl|rfl|rfl|rfl|rfl
 ·exact h 0 (by decide)
 ·exact h 1 (by decide)
 ·exact h 2 (by decide)
 ·exact h 3 (by decide)
 ·exact h 4 (by decide)
 ·exact h 5 (by decide)
 ·exact h 6 (by decide)
 ·exact h 7 (by decide)
 ·exact h 8 (by decide)
 ·exact h 9 (by decide)
theorem zgO{k:Nat}:∀j∈(strL k).map Prod.fst,k≤j∧j≤k+9:=by
 intro j hj;simp only[strL,List.map_cons,List.map_nil,List.mem_cons,List.not_mem_nil,or_false]at hj;omega
theorem zkJ(k:Nat):((strL k).map Prod.fst).Nodup:=by
 simp[strL]
theorem strL2_nd{k k':Nat}(h:k+9<k'):((strL k++strL k').map Prod.fst).Nodup:=by
 rw[List.map_append,List.nodup_append];refine⟨zkJ k,zkJ k',λa ha b hb=>?_⟩;have:=zgO a ha;have:=zgO b hb;omega
end Go.Ax.SU
/- St8 -/
namespace Go.Ax.SU
open Go.Ax Go.Proofs
def frA(st en:Bool)(id f:Nat)(new:Bool)(S:List V)(a b c:V):List V:=[.bool st,.bool en,.int .i64 (id:Nat),.int .u16 (f:Nat),.bool new]++S++[.bool false,.int .u32 0,.bool false,.bool false,.bool false,a,b,c]
def nS:List V:=[.int .i64 0,.int .i64 0,.nils,.int .i64 0,.nils,.nils]
def frL(i j:Nat):List (Nat×Blk):=[(i,⟨zdf,[.int .i64 2,.int .i64 2],some 1⟩),(j,⟨zdf,[.int .i64 0],some 1⟩)]
def frL2(i j l:Nat):List (Nat×Blk):=[(i,⟨zdf,[.int .i64 1,.int .i64 0],some 1⟩),(j,⟨zdf,[.int .i64 1],some 1⟩),(l,⟨zdf,[.int .i64 1],some 1⟩)]
def ddB(st en:Bool)(id f:Nat)(new:Bool):List Nat:=[(if st then 128 else 0)+(if en then 64 else 0)+id,0,f]++if new then [128,1,30,169,17,65,1,8] else []
theorem of_new{H:Heap}{k k' f:Nat}(hc:H.Cl) (h1:Has H (strL k)) (h2:Has H (strL k')) (hk:k+9<k') (hf:f=0∨f=1) :
  Ok (sem T zdF [.agg (frA false false 0 f true (strV k) .nils .nils .nils),.agg (strV k')]) H λr H'=>∃i j b,r = .tup [.agg [.int .i64 0,.int .i64 0,.sl i 0 2 (.opn 1),.nils,.sl j 0 1 (.opn 1)],b]∧H.next≤i∧i<j∧Has H' (frL i j)∧Grow H H'∧H'.Cl:=by
 have hr:Ax.look (List.range 20++[73,75]) (Cc.cd T 30 zdF [.agg (frA false false 0 f true (strV 0) .nils .nils .nils),.agg (strV 10)] (Cc.hp (((strL 0).map Prod.snd++(strL 10).map Prod.snd).reverse.map some)))=some (.tup [.agg [.int .i64 0,.int .i64 0,.sl 73 0 2 (.opn 1),.nils,.sl 75 0 1 (.opn 1)],.bool true],((strL 0).map Prod.snd++(strL 10).map Prod.snd).map some++[some ⟨zdf,[.int .i64 2,.int .i64 2],some 1⟩,some ⟨zdf,[.int .i64 0],some 1⟩]):=by
  rcases hf with rfl|rfl<;>kernel_rfl
 refine zam (zf2 (bs:=(strL 0).map Prod.snd++(strL 10).map Prod.snd) (l:=[73,75]) hr hc (h1.app h2) (strL2_nd hk) rfl rfl (by decide)) ?_;rintro r H' ⟨rfl,s,h,c⟩;refine⟨H.next+53,H.next+55,_,rfl,by omega,by omega,?_,s,c⟩;intro p hp;simp only[frL,List.mem_cons,List.not_mem_nil,or_false]at hp;rcases hp with rfl|rfl
 ·exact h 0 (by decide)
 ·exact h 1 (by decide)
theorem of_two{H:Heap}{k':Nat}(hc:H.Cl) (h2:Has H (strL k')) :
  Ok (sem T zdF [.agg (frA false false 2 1 false nS .nils .nils .nils),.agg (strV k')]) H λr H'=>∃i j l b,r = .tup [.agg [.int .i64 0,.int .i64 1,.sl i 0 2 (.opn 1),.sl j 0 1 (.opn 1),.sl l 0 1 (.opn 1)],b]∧H.next≤i∧i<j∧j<l∧Has H' (frL2 i j l)∧Grow H H'∧H'.Cl:=by
 have hr:Ax.look (List.range 10++[63,65,67]) (Cc.cd T 30 zdF [.agg (frA false false 2 1 false nS .nils .nils .nils),.agg (strV 0)] (Cc.hp (((strL 0).map Prod.snd).reverse.map some)))=some (.tup [.agg [.int .i64 0,.int .i64 1,.sl 63 0 2 (.opn 1),.sl 65 0 1 (.opn 1),.sl 67 0 1 (.opn 1)],.bool true],((strL 0).map Prod.snd).map some++[some ⟨zdf,[.int .i64 1,.int .i64 0],some 1⟩,some ⟨zdf,[.int .i64 1],some 1⟩,some ⟨zdf,[.int .i64 1],some 1⟩]):=by
  kernel_rfl
 refine zam (zf2 (bs:=(strL 0).map Prod.snd) (l:=[63,65,67]) hr hc h2 (zkJ _) rfl rfl (by decide)) ?_;rintro r H' ⟨rfl,s,h,c⟩;refine⟨H.next+53,H.next+55,H.next+57,_,rfl,by omega,by omega,by omega,?_,s,c⟩;intro p hp;simp only[frL2,List.mem_cons,List.not_mem_nil,or_false]at hp;rcases hp with rfl|rfl|rfl
 ·exact h 0 (by decide)
 ·exact h 1 (by decide)
 ·exact h 2 (by decide)
theorem frL_nd{i j k':Nat}(h:i<j)(h':j<k'):((frL i j++strL k').map Prod.fst).Nodup:=by
 rw[List.map_append,List.nodup_append];refine⟨by simp[frL]; omega,zkJ k',λa ha b hb=>?_⟩;have:=zgO b hb;simp[frL]at ha;omega
theorem frL2_nd{i j l k':Nat}(h:i<j)(h1:j<l)(h':l<k'):((frL2 i j l++strL k').map Prod.fst).Nodup:=by
 rw[List.map_append,List.nodup_append];refine⟨by simp[frL2]; omega,zkJ k',λa ha b hb=>?_⟩;have:=zgO b hb;simp[frL2]at ha;omega
theorem frLk_nd{k i j k':Nat}(hk:k+9<i)(h:i<j)(h':j<k'):((strL k++(frL i j++strL k')).map Prod.fst).Nodup:=by
 rw[List.map_append,List.nodup_append];refine⟨zkJ k,frL_nd h h',λa ha b hb=>?_⟩;have:=zgO a ha;rw[List.map_append,List.mem_append]at hb;rcases hb with hb|hb
 ·simp[frL]at hb;omega
 ·have:=zgO b hb;omega
theorem ddb_new{H:Heap}{k i j k' f:Nat}{en:Bool}(hc:H.Cl) (h1:Has H (strL k)) (h3:Has H (frL i j)) (h2:Has H (strL k')) (hk:k+9<i) (hi:i<j) (hj:j<k') (hf:f=0∨f=1) :
  Ok (sem T zaZ [.agg (frA true en 0 f true (strV k) (.sl i 0 2 (.opn 1)) .nils (.sl j 0 1 (.opn 1))),.agg (strV k')]) H λr H'=>∃v,r = .tup [v,.int .i64 0]∧By H.next H' v (ddB true en 0 f true)∧Grow H H'∧H'.Cl:=by
 have hr:Ax.look (List.range 22++[177]) (Cc.cd T 40 zaZ [.agg (frA true en 0 f true (strV 0) (.sl 10 0 2 (.opn 1)) .nils (.sl 11 0 1 (.opn 1))),.agg (strV 12)] (Cc.hp (((strL 0).map Prod.snd++((frL 10 11).map Prod.snd++(strL 12).map Prod.snd)).reverse.map some)))=some (.tup [.sl 177 0 11 (.opn 1),.int .i64 0],((strL 0).map Prod.snd++((frL 10 11).map Prod.snd++(strL 12).map Prod.snd)).map some++[some ⟨zaa,(ddB true en 0 f true).map by8,some 1⟩]):=by
  rcases hf with rfl|rfl<;>cases en<;>kernel_rfl
 refine zam (zf2 (bs:=(strL 0).map Prod.snd++((frL 10 11).map Prod.snd++(strL 12).map Prod.snd)) (l:=[177]) hr hc (h1.app (h3.app h2)) (frLk_nd hk hi hj) rfl rfl (by decide)) ?_;rintro r H' ⟨rfl,s,h,c⟩;exact⟨_,rfl,zlc (h 0 (by decide)) c (Nat.le_add_right _ _),s,c⟩
theorem ddb_mid{H:Heap}{i j k' f:Nat}{en:Bool}(hc:H.Cl) (h3:Has H (frL i j)) (h2:Has H (strL k')) (hi:i<j) (hj:j<k') (hf:f=0∨f=1) :
  Ok (sem T zaZ [.agg (frA false en 0 f false nS (.sl i 0 2 (.opn 1)) .nils (.sl j 0 1 (.opn 1))),.agg (strV k')]) H λr H'=>∃v,r = .tup [v,.int .i64 0]∧By H.next H' v (ddB false en 0 f false)∧Grow H H'∧H'.Cl:=by
 have hr:Ax.look (List.range 12++[92]) (Cc.cd T 40 zaZ [.agg (frA false en 0 f false nS (.sl 0 0 2 (.opn 1)) .nils (.sl 1 0 1 (.opn 1))),.agg (strV 2)] (Cc.hp (((frL 0 1).map Prod.snd++(strL 2).map Prod.snd).reverse.map some)))=some (.tup [.sl 92 0 3 (.opn 1),.int .i64 0],((frL 0 1).map Prod.snd++(strL 2).map Prod.snd).map some++[some ⟨zaa,(ddB false en 0 f false).map by8,some 1⟩]):=by
  rcases hf with rfl|rfl<;>cases en<;>kernel_rfl
 refine zam (zf2 (bs:=(frL 0 1).map Prod.snd++(strL 2).map Prod.snd) (l:=[92]) hr hc (h3.app h2) (frL_nd hi hj) rfl rfl (by decide)) ?_;rintro r H' ⟨rfl,s,h,c⟩;exact⟨_,rfl,zlc (h 0 (by decide)) c (Nat.le_add_right _ _),s,c⟩
theorem zwJ{H:Heap}{i j l k':Nat}{st en:Bool}(hc:H.Cl) (h3:Has H (frL2 i j l)) (h2:Has H (strL k')) (hi:i<j) (hj:j<l) (hl:l<k') :
  Ok (sem T zaZ [.agg (frA st en 2 1 false nS (.sl i 0 2 (.opn 1)) (.sl j 0 1 (.opn 1)) (.sl l 0 1 (.opn 1))),.agg (strV k')]) H λr H'=>∃v,r = .tup [v,.int .i64 0]∧By H.next H' v (ddB st en 2 1 false)∧Grow H H'∧H'.Cl:=by
 have hr:Ax.look (List.range 13++[95]) (Cc.cd T 40 zaZ [.agg (frA st en 2 1 false nS (.sl 0 0 2 (.opn 1)) (.sl 1 0 1 (.opn 1)) (.sl 2 0 1 (.opn 1))),.agg (strV 3)] (Cc.hp (((frL2 0 1 2).map Prod.snd++(strL 3).map Prod.snd).reverse.map some)))=some (.tup [.sl 95 0 3 (.opn 1),.int .i64 0],((frL2 0 1 2).map Prod.snd++(strL 3).map Prod.snd).map some++[some ⟨zaa,(ddB st en 2 1 false).map by8,some 1⟩]):=by
  cases st<;>cases en<;>kernel_rfl
 refine zam (zf2 (bs:=(frL2 0 1 2).map Prod.snd++(strL 3).map Prod.snd) (l:=[95]) hr hc (h3.app h2) (frL2_nd hi hj hl) rfl rfl (by decide)) ?_;rintro r H' ⟨rfl,s,h,c⟩;exact⟨_,rfl,zlc (h 0 (by decide)) c (Nat.le_add_right _ _),s,c⟩
end Go.Ax.SU
/- St9 -/
namespace Go.Ax.SU
open Go.Ax Go.Proofs
theorem ztp{H:Heap}{s a id sl ad e f q:Nat}{sv rv snd rcv:V}{b o key:Bool}(hc:H.Cl) (hg:H.get s=some ⟨zac,stR a id sv rv sl ad e snd rcv f q b o,none⟩) (hk:key=true∨b=false) (hf:f=0∨f=1) :
  Ok (sem T zbA [.ptr s 24,.bool key]) H λr H'=>∃k i j,r = .agg (frA false false 0 f true (strV k) (.sl i 0 2 (.opn 1)) .nils (.sl j 0 1 (.opn 1)))∧H'.get s=some ⟨zac,stR a id sv rv sl ad e snd rcv f q true false,none⟩ ∧
   H.next≤k∧k+9<i∧i<j∧Has H' (strL k)∧Has H' (frL i j)∧AtS [s] H H'∧H'.Cl:=by
 have hlt:=za1 hc hg;have w:IntKind.u16.wrap ((f:Nat):Int)=(f:Nat):=by rcases hf with rfl|rfl<;>rfl
 refine zeF ?_;unfold zdw uL uM uS uT uF uFM uNFM uNF uE uG uH uO uU uc;refine zl2 λq0 H1 e1 g1 s1 n1 c1=>?_;have c1:=c1 hc;have gs1:=(s1.same s hlt).trans hg;have l1:s<H1.next:=by omega
 unfold stR at gs1;rcases hk with rfl|rfl
 all_goals
  simp(maxSteps:=1000000) (disch:=first|omega|(simp only[RY]<;>omega)|decide)only[↓RD,RZ,eq_self,Int.reduceToNat,Int.reduceAdd,Int.reduceSub,Int.reduceMul,Nat.reduceAdd,Nat.reduceSub,Nat.reduceMul,Nat.reduceDiv,Nat.reduceMod,Nat.reduceBEq,Nat.reduceLeDiff,RG,gs1,w,zaI,Bool.or_true];rw[zaT];generalize hX:Heap.set (Heap.set (Heap.new H1 _) _ _) s _=H2;have n2:H2.next=H1.next+1:=by rw[←hX]; rfl
  have g2s:H2.get s=some ⟨zac,stR a id sv rv sl ad e snd rcv f q true false,none⟩:=by rw[←hX]; exact zai _ _ _
  have g2q:H2.get H1.next=some ⟨zaL,frA false false 0 f false nS .nils .nils .nils,none⟩:=by rw[←hX]; exact(zaj _ _ (by omega)).trans (zai _ _ _)
  have a2:AtS [s] H1 H2:=by rw[←hX]; exact(Grow.atS ((Grow.new _ _).set (Nat.le_refl _) _) _).trans (AtS.set _ (by simp) _)
  have c2:H2.Cl:=by rw[←hX]; exact zbZ (zbZ (zdV c1 _) (by rw[zaf]; omega) _) (by rw[zan,zaf]; omega) _
  clear hX;refine zae (zhU c2) ?_;rintro _ H3 ⟨k,rfl,lk,hk,s3,c3⟩;have n3:=s3.next;have g3q:=(s3.same _ (by omega)).trans g2q;have g3s:=(s3.same _ (by omega)).trans g2s;simp only[frA,nS,List.cons_append,List.nil_append]at g3q;simp only[strV];simp(maxSteps:=1000000) (disch:=first|omega|(simp only[RY]<;>omega)|decide)only[↓RD,RZ,eq_self,Int.reduceToNat,Int.reduceAdd,Int.reduceSub,Int.reduceMul,Nat.reduceAdd,Nat.reduceSub,Nat.reduceMul,Nat.reduceDiv,Nat.reduceMod,Nat.reduceBEq,Nat.reduceLeDiff,RG,g3q,zaI];rw[zaT];generalize hX:Heap.set H3 _ _=H4;have n4:H4.next=H3.next:=by rw[←hX]; rfl
  have g4q:H4.get H1.next=some ⟨zaL,frA false false 0 f true (strV k) .nils .nils .nils,none⟩:=by rw[←hX]; exact zai _ _ _
  have g4s:H4.get s=some ⟨zac,stR a id sv rv sl ad e snd rcv f q true false,none⟩:=by rw[←hX]; exact(zaj _ _ (by omega)).trans g3s
  have a4:AtS [H1.next] H3 H4:=by rw[←hX]; exact AtS.set _ (by simp) _
  have c4:H4.Cl:=by rw[←hX]; exact zbZ c3 (by omega) _
  clear hX;refine zae (zhU c4) ?_;rintro _ H5 ⟨k',rfl,lk',hk',s5,c5⟩;have n5:=s5.next;have g5q:=(s5.same _ (by omega)).trans g4q;have g5s:=(s5.same _ (by omega)).trans g4s;have hk4:=hk.atS c3 a4 (by simp only[List.mem_singleton]; rintro x rfl hx; have:=zgO _ hx; omega);have hk5:=hk4.grow c4 s5;simp(maxSteps:=1000000) (disch:=first|omega|(simp only[RY]<;>omega)|decide)only[↓RD,RZ,eq_self,Int.reduceToNat,Int.reduceAdd,Int.reduceSub,Int.reduceMul,Nat.reduceAdd,Nat.reduceSub,Nat.reduceMul,Nat.reduceDiv,Nat.reduceMod,Nat.reduceBEq,Nat.reduceLeDiff,RG,g4q,g5q];have lk9:k+9<H4.next:=za1 c4 (hk4 (k+9,⟨zdf,[.int .i64 0,.int .i64 0],none⟩) (by simp[strL]));refine zae (of_new c5 hk5 hk' (by omega) hf) ?_;rintro _ H6 ⟨i,j,b1,rfl,li,lij,hij,s6,c6⟩;have n6:=s6.next;have g6q:=(s6.same _ (by omega)).trans g5q;have g6s:=(s6.same _ (by omega)).trans g5s;simp only[frA,strV,List.cons_append,List.nil_append]at g6q;have l6:H1.next<H6.next:=by omega
  have l6':H1.next≠H6.next:=by omega
  have g6a:=((s6.same _ (by omega)).trans ((s5.same _ (by omega)).trans ((a4.same _ (by omega) (by simp; omega)).trans ((s3.same _ (by omega)).trans (a2.same q0 (by omega) (by simp; omega)))))).trans g1;have nq:q0≠H1.next:=by omega
  have nq':H1.next≠q0:=by omega
  have l0:q0<H6.next:=by omega
  have hlt0:q0≠H6.next:=by omega
  simp(maxSteps:=1000000) (disch:=first|omega|(simp only[RY]<;>omega)|decide)only[↓RD,RZ,eq_self,Int.reduceToNat,Int.reduceAdd,Int.reduceSub,Int.reduceMul,Nat.reduceAdd,Nat.reduceSub,Nat.reduceMul,Nat.reduceDiv,Nat.reduceMod,Nat.reduceBEq,Nat.reduceLeDiff,RG,g6q,g6a,zaI];generalize hX:Heap.set (Heap.set (Heap.set (Heap.new H6 _) _ _) _ _) _ _=H7;have n7:H7.next=H6.next+1:=by rw[←hX]; rfl
  have a7:AtS [H1.next,q0] H6 H7:=by rw[←hX]; exact((Grow.atS ((Grow.new _ _).set (Nat.le_refl _) _) _).trans (AtS.set _ (by simp) _)).trans (AtS.set _ (by simp) _)
  have c7:H7.Cl:=by rw[←hX]; exact zbZ (zbZ (zbZ (zdV c6 _) (by rw[zaf]; omega) _) (by rw[zan,zaf]; omega) _) (by rw[zan,zan,zaf]; omega) _
  clear hX;refine⟨k,i,j,rfl,g6s,by omega,by omega,lij,(hk5.grow c5 s6).atS c6 a7 ?_,hij.atS c6 a7 ?_,⟨by omega,λx hx hn=>?_⟩,c7⟩
  ·intro x hx hx';have:=zgO _ hx';simp at hx;omega
  ·intro x hx hx';simp[frL]at hx hx';omega
  ·have hn':x≠s:=by simpa using hn
   rw[a7.same x (by omega) (by simp; omega),s6.same x (by omega),s5.same x (by omega),a4.same x (by omega) (by simp; omega),s3.same x (by omega),a2.same x (by omega) hn,s1.same x (by omega)]
theorem zto{H:Heap}{s a id sl ad e q:Nat}{sv rv snd rcv:V}(hc:H.Cl) (hg:H.get s=some ⟨zac,stR a id sv rv sl ad e snd rcv 1 q true false,none⟩) :
  Ok (sem T zbA [.ptr s 24,.bool false]) H λr H'=>∃i j l,r = .agg (frA false false 2 1 false nS (.sl i 0 2 (.opn 1)) (.sl j 0 1 (.opn 1)) (.sl l 0 1 (.opn 1)))∧H'.get s=some ⟨zac,stR a id sv rv sl ad e snd rcv 1 q true true,none⟩ ∧
   H.next≤i∧i<j∧j<l∧Has H' (frL2 i j l)∧AtS [s] H H'∧H'.Cl:=by
 have hlt:=za1 hc hg;have w:IntKind.u16.wrap (((1:Nat):Nat):Int)=(1:Nat):=rfl;refine zeF ?_;unfold zdw uL uM uS uT uF uFM uNFM uNF uE uG uH uO uU uc;refine zl2 λq0 H1 e1 g1 s1 n1 c1=>?_;have c1:=c1 hc;have gs1:=(s1.same s hlt).trans hg;have l1:s<H1.next:=by omega
 unfold stR at gs1;simp(maxSteps:=1000000) (disch:=first|omega|(simp only[RY]<;>omega)|decide)only[↓RD,RZ,eq_self,Int.reduceToNat,Int.reduceAdd,Int.reduceSub,Int.reduceMul,Nat.reduceAdd,Nat.reduceSub,Nat.reduceMul,Nat.reduceDiv,Nat.reduceMod,Nat.reduceBEq,Nat.reduceLeDiff,RG,gs1,w,zaI,Bool.or_true];rw[zaT];generalize hX:Heap.set (Heap.set (Heap.new H1 _) _ _) s _=H4;have n2:H4.next=H1.next+1:=by rw[←hX]; rfl
 have g4s:H4.get s=some ⟨zac,stR a id sv rv sl ad e snd rcv 1 q true true,none⟩:=by rw[←hX]; exact zai _ _ _
 have g4q:H4.get H1.next=some ⟨zaL,frA false false 2 1 false nS .nils .nils .nils,none⟩:=by rw[←hX]; exact(zaj _ _ (by omega)).trans (zai _ _ _)
 have a2:AtS [s] H1 H4:=by rw[←hX]; exact(Grow.atS ((Grow.new _ _).set (Nat.le_refl _) _) _).trans (AtS.set _ (by simp) _)
 have c4:H4.Cl:=by rw[←hX]; exact zbZ (zbZ (zdV c1 _) (by rw[zaf]; omega) _) (by rw[zan,zaf]; omega) _
 clear hX;refine zae (zhU c4) ?_;rintro _ H5 ⟨k',rfl,lk',hk',s5,c5⟩;have n5:=s5.next;have g5q:=(s5.same _ (by omega)).trans g4q;have g5s:=(s5.same _ (by omega)).trans g4s;simp(maxSteps:=1000000) (disch:=first|omega|(simp only[RY]<;>omega)|decide)only[↓RD,RZ,eq_self,Int.reduceToNat,Int.reduceAdd,Int.reduceSub,Int.reduceMul,Nat.reduceAdd,Nat.reduceSub,Nat.reduceMul,Nat.reduceDiv,Nat.reduceMod,Nat.reduceBEq,Nat.reduceLeDiff,RG,g4q,g5q];refine zae (of_two c5 hk') ?_;rintro _ H6 ⟨i,j,l,b1,rfl,li,lij,ljl,hij,s6,c6⟩;have n6:=s6.next;have g6q:=(s6.same _ (by omega)).trans g5q;have g6s:=(s6.same _ (by omega)).trans g5s;simp only[frA,nS,List.cons_append,List.nil_append]at g6q;have l6:H1.next<H6.next:=by omega
 have l6':H1.next≠H6.next:=by omega
 have g6a:=((s6.same _ (by omega)).trans ((s5.same _ (by omega)).trans (a2.same q0 (by omega) (by simp; omega)))).trans g1;have nq:q0≠H1.next:=by omega
 have nq':H1.next≠q0:=by omega
 have l0:q0<H6.next:=by omega
 have hlt0:q0≠H6.next:=by omega
 simp(maxSteps:=1000000) (disch:=first|omega|(simp only[RY]<;>omega)|decide)only[↓RD,RZ,eq_self,Int.reduceToNat,Int.reduceAdd,Int.reduceSub,Int.reduceMul,Nat.reduceAdd,Nat.reduceSub,Nat.reduceMul,Nat.reduceDiv,Nat.reduceMod,Nat.reduceBEq,Nat.reduceLeDiff,RG,g6q,g6a,zaI];generalize hX:Heap.set (Heap.set (Heap.set (Heap.new H6 _) _ _) _ _) _ _=H7;have n7:H7.next=H6.next+1:=by rw[←hX]; rfl
 have a7:AtS [H1.next,q0] H6 H7:=by rw[←hX]; exact((Grow.atS ((Grow.new _ _).set (Nat.le_refl _) _) _).trans (AtS.set _ (by simp) _)).trans (AtS.set _ (by simp) _)
 have c7:H7.Cl:=by rw[←hX]; exact zbZ (zbZ (zbZ (zdV c6 _) (by rw[zaf]; omega) _) (by rw[zan,zaf]; omega) _) (by rw[zan,zan,zaf]; omega) _
 clear hX;refine⟨i,j,l,rfl,g6s,by omega,by omega,by omega,hij.atS c6 a7 ?_,⟨by omega,λx hx hn=>?_⟩,c7⟩
 ·intro x hx hx';simp[frL2]at hx hx';omega
 ·have hn':x≠s:=by simpa using hn
  rw[a7.same x (by omega) (by simp; omega),s6.same x (by omega),s5.same x (by omega),a2.same x (by omega) hn,s1.same x (by omega)]
end Go.Ax.SU
/- Rtp1 -/
namespace Go.Ax.R7
open Go.Ax
abbrev By(lo:Nat)(H:Heap)(v:V)(l:List Nat):Prop:=Lc 1 lo H v (l.map by8) l.length
theorem take_snoc{l:List Nat}{i:Nat}(h:i<l.length):l.take (i+1)=l.take i++[l.getD i 0]:=by
 rw[List.take_add_one,List.getElem?_eq_getElem h,List.getD_eq_getElem?_getD,List.getElem?_eq_getElem h]; rfl
end Go.Ax.R7
/- Rtp2 -/
namespace Go.Ax
theorem Lc.step{e lo n:Nat}{H H':Heap}{F F':List Nat}{v:V}{cells:List V}(h:Lc e lo H v cells n)(s:Step H H' F F')(hd:∀id,v.pid=some id→id∉F):Lc e lo H' v cells n :=
 ⟨by rw[ze4 λi hi=>s.same i (h.own i hi).2 (hd i hi)]; exact h.rc,λi hi=>⟨(h.own i hi).1,Nat.lt_of_lt_of_le (h.own i hi).2 s.next⟩,h.cap⟩
theorem Lc.newn{e lo n:Nat}{H:Heap}{v:V}{cells:List V}(h:Lc e lo H v cells n)(b:Blk):Lc e lo (H.new b) v cells n:=h.ext (Grow.new H b)
end Go.Ax
namespace Go.Ax.R7
open Go.Ax
abbrev X:Type:=Int×List Nat
def xc(w:X×V):List V:=[.int .i64 w.1.1,w.2]
structure Exs (lo:Nat) (H:Heap) (v:V) (xs:List X):Prop where
 ex:∃ws:List (X×V),ws.map (·.1)=xs∧Lc 2 lo H v (ws.map xc).flatten ws.length∧∀w∈ws,By lo H w.2 w.1.2
theorem Exs.nil{lo:Nat}{H:Heap}:Exs lo H .nils []:=⟨[],rfl,Lc.nil,λw h=>by cases h⟩
theorem Exs.keep{lo:Nat}{H H':Heap}{v:V}{xs:List X}(h:Exs lo H v xs)(k:Keep lo H H'):Exs lo H' v xs:=by
 obtain⟨ws,h1,h2,h3⟩:=h;exact⟨ws,h1,h2.keep k,λw hw=>(h3 w hw).keep k⟩
theorem Exs.ext{lo:Nat}{H H':Heap}{v:V}{xs:List X}(h:Exs lo H v xs)(k:Grow H H'):Exs lo H' v xs:=h.keep (k.keep lo)
theorem Exs.low{lo lo':Nat}{H:Heap}{v:V}{xs:List X}(h:Exs lo H v xs)(hl:lo'≤lo):Exs lo' H v xs:=by
 obtain⟨ws,h1,h2,h3⟩:=h;exact⟨ws,h1,h2.low hl,λw hw=>(h3 w hw).low hl⟩
theorem Exs.vlen{lo:Nat}{H:Heap}{v:V}{xs:List X}(h:Exs lo H v xs):Ax.vlen v=some (.int .i64 (xs.length:Nat)):=by
 obtain⟨ws,rfl,h2,h3⟩:=h;rw[h2.vlen,List.length_map]
theorem Exs.cells1{lo:Nat}{H:Heap}{v:V}{xs:List X}(h:Exs lo H v xs):v.cells=[v]:=by
 obtain⟨ws,rfl,h2,h3⟩:=h;exact h2.cells1
theorem Exs.okc{lo:Nat}{H:Heap}{v:V}{xs:List X}(h:Exs lo H v xs):v.okc=true:=by
 obtain⟨ws,rfl,h2,h3⟩:=h;exact h2.okc
theorem zox{α:Type}{k:Nat} (es:List (List α)) (h:∀x∈es,x.length=k) (i:Nat) (hi:i<es.length):(es.flatten.drop (i*k)).take k=es[i]:=(zwx es h i es[i] (List.getElem?_eq_getElem hi)).1
theorem xc_len (ws:List (X×V)):∀x∈ws.map xc,x.length=2:=λx hx=>by
 obtain⟨w,_,rfl⟩:=List.mem_map.1 hx;rfl
theorem Exs.at{lo:Nat}{H:Heap}{v:V}{xs:List X}(h:Exs lo H v xs){i:Nat}(hi:i<xs.length):∃p bv,(∀{k:IntKind},Ax.iaddr none 2 v (.int k i)=some p)∧Pl H p [.int .i64 xs[i].1,bv] v.pid∧By lo H bv xs[i].2:=by
 obtain⟨ws,rfl,h2,h3⟩:=h;rw[List.length_map]at hi;obtain⟨p,hp,hl⟩:=h2.at (i:=(i:Nat)) (by omega) (by omega);have e:((ws.map xc).flatten.drop (i*2)).take 2=[.int .i64 ws[i].1.1,ws[i].2]:=by
  rw[zox _ (xc_len ws) i (by rw[List.length_map]; exact hi),List.getElem_map]; rfl
 rw[Int.toNat_natCast,e]at hl;refine⟨p,ws[i].2,hp,?_,?_⟩
 ·simpa using hl
 ·simpa using h3 _ (List.getElem_mem hi)
structure AppX (ty lo:Nat) (H:Heap) (v:V) (xs:List X):Prop where
 ex:∃ws:List (X×V),ws.map (·.1)=xs∧App ty 2 lo H v (ws.map xc).flatten ws.length∧∀w∈ws,By lo H w.2 w.1.2∧∀id,w.2.pid=some id→v.pid≠some id
theorem AppX.nil{ty lo:Nat}{H:Heap}:AppX ty lo H .nils []:=⟨[],rfl,App.nil,λw h=>by cases h⟩
theorem App.keep{ty e lo n:Nat}{H H':Heap}{v:V}{cells:List V}(h:App ty e lo H v cells n)(k:Keep lo H H'):App ty e lo H' v cells n:=by
 cases h with
 | opn h ho=>exact .opn (h.to λi hi=>k.same i (ho i hi).1 (ho i hi).2) λi hi=>⟨(ho i hi).1,Nat.lt_of_lt_of_le (ho i hi).2 k.next⟩
 | lit h h0 h1=>exact .lit (by rw[k.same _ h0 h1,h]) h0 (Nat.lt_of_lt_of_le h1 k.next)
theorem AppX.keep{ty lo:Nat}{H H':Heap}{v:V}{xs:List X}(h:AppX ty lo H v xs)(k:Keep lo H H'):AppX ty lo H' v xs:=by
 obtain⟨ws,h1,h2,h3⟩:=h;exact⟨ws,h1,App.keep h2 k,λw hw=>⟨(h3 w hw).1.keep k,(h3 w hw).2⟩⟩
/-! One element. -/
def eid(one:Bool)(l:List Nat):Nat:=if one then l.getD 0 0/16 else l.getD 0 0
def efrom(one:Bool):Nat:=if one then 1 else 2
def enum(one:Bool)(l:List Nat):Nat:=if one then l.getD 0 0%16+1 else l.getD 1 0
def ebad(one:Bool)(l:List Nat):Prop:=eid one l=0∨l.length<efrom one+enum one l
instance (one:Bool) (l:List Nat):Decidable (ebad one l):=by unfold ebad; infer_instance
end Go.Ax.R7
/- Rtp3 -/
namespace Go.Ax.R7
open Go.Ax
end Go.Ax.R7
/- Rtp4 -/
namespace Go.Ax.R7
open Go.Ax
def by32(n:Nat):V:=.int .u32 n
structure Pkt where
 mark:Bool
 typ:Int
 seq:Nat
 ts:Nat
 ssrc:Nat
 csrc:List Nat
 prof:Int
 exts:List X
 pad:Int
 pay:List Nat
def zgk(p:Pkt)(cv xv pv:V):List V:=[.bool p.mark,.int .i64 p.typ,.int .u16 p.seq,.int .u32 p.ts,.int .u32 p.ssrc,cv,.int .i64 p.prof,xv,.int .i64 p.pad,pv]
structure PkR (lo:Nat) (H:Heap) (v:V) (p:Pkt):Prop where
 ex:∃cv xv pv,v = .agg (zgk p cv xv pv)∧Lc 1 lo H cv (p.csrc.map by32) p.csrc.length∧Exs lo H xv p.exts∧By lo H pv p.pay
theorem PkR.keep{lo:Nat}{H H':Heap}{v:V}{p:Pkt}(h:PkR lo H v p)(k:Keep lo H H'):PkR lo H' v p:=by
 obtain⟨cv,xv,pv,h1,h2,h3,h4⟩:=h;exact⟨cv,xv,pv,h1,h2.keep k,h3.keep k,h4.keep k⟩
theorem PkR.ext{lo:Nat}{H H':Heap}{v:V}{p:Pkt}(h:PkR lo H v p)(k:Grow H H'):PkR lo H' v p:=h.keep (k.keep lo)
theorem PkR.low{lo lo':Nat}{H:Heap}{v:V}{p:Pkt}(h:PkR lo H v p)(hl:lo'≤lo):PkR lo' H v p:=by
 obtain⟨cv,xv,pv,h1,h2,h3,h4⟩:=h;exact⟨cv,xv,pv,h1,h2.low hl,h3.low hl,h4.low hl⟩
def zeroP:Pkt:=⟨false,0,0,0,0,[],0,[],0,[]⟩
theorem PkR.zero{lo:Nat}{H:Heap}:PkR lo H (.agg [.bool false,.int .i64 0,.int .u16 0,.int .u32 0,.int .u32 0,.nils,.int .i64 0,.nils,.int .i64 0,.nils]) zeroP:=⟨.nils,.nils,.nils,rfl,Lc.nil,Exs.nil,Lc.nil⟩
end Go.Ax.R7
/- Rtp5 -/
namespace Go.Ax.R7
open Go.Ax
end Go.Ax.R7
/- Rtp6 -/
namespace Go.Ax.R7
open Go.Ax
end Go.Ax.R7
/- Rtp7 -/
namespace Go.Ax.R7
open Go.Ax
theorem w_at{lo:Nat}{H:Heap}{v:V}{l:List Nat} (h:Lc 1 lo H v (l.map by32) l.length) {i:Nat} (hi:i<l.length):∃p,(∀{k:IntKind},Ax.iaddr none 1 v (.int k i)=some p)∧LdR none H p (.int .u32 (l[i]:Nat)):=by
 obtain⟨p,hp,hl⟩:=h.at (i:=(i:Nat)) (by omega) (by omega);have e:((l.map by32).drop ((i:Int).toNat*1)).take 1=[by32 l[i]]:=by
  rw[Nat.mul_one,Int.toNat_natCast,←List.map_drop,List.drop_eq_getElem_cons hi]; rfl
 rw[e]at hl;refine⟨p,hp,λf Q=>?_⟩;rw[hl.ld0 (by simp)];exact zq6
theorem Exs.own{lo:Nat}{H:Heap}{v:V}{xs:List X}(h:Exs lo H v xs):∀id,v.pid=some id→lo≤id∧id<H.next:=by
 obtain⟨ws,rfl,h2,h3⟩:=h;exact h2.own
end Go.Ax.R7
/- Rtp8 -/
namespace Go.Ax.R7
open Go.Ax
structure Fit (p:Pkt):Prop where
 a:p.csrc.length≤15
 b:p.exts.length≤1200
 c:p.pay.length≤1200
 d:∀x∈p.exts,x.2.length≤1200
end Go.Ax.R7
namespace Go.Ax
open R7
end Go.Ax
/- Rtp9 -/
namespace Go.Ax.R7
open Go.Ax
structure Sml (p:Pkt):Prop where
 a:p.csrc.length≤1048576
 b:p.exts.length≤1048576
 c:p.pay.length≤1048576
 d:∀x∈p.exts,x.2.length≤1048576
def idxV:Option Nat→V
 | some i=>.int .i64 (i:Nat)
 | none=>.int .i64 (-1)
theorem zq9{lo:Nat}{H:Heap}{v f:V}{xs:List X}(h:Exs lo H v xs)(P:X→Bool)(hn:xs.length≤1099511627776)
  (hf:∀H',Grow H H'→∀(x:X) (bv:V),By lo H' bv x.2→Ok (callv (sem T) f [.agg [.int .i64 x.1,bv]]) H' λr H''=>r = .bool (P x)∧Grow H' H'') :
  Ok (sem T zaQ [v,f]) H λr H'=>r=idxV (xs.findIdx? P)∧Grow H H':=by
 refine zdu ?_;unfold zbY uL uc;simp(disch:=omega)only[↓RD,RZ,h.vlen];refine zaV (λk L H'=>L=[.int .i64 (k:Nat)]∧Grow H H'∧∀j (hj:j<xs.length),j<k→P xs[j]=false) xs.length ?_ ?_ ?_
 ·exact⟨rfl,Grow.refl _,λj hj hk=>absurd hk (by omega)⟩
 ·rintro k L H1 hk ⟨rfl,s1,hP⟩;obtain⟨q,bv,i1,l1,w1⟩:=(h.ext s1).at hk;have l2:=l1.all;dsimp only[List.length_cons,List.length_nil]at l2;unfold zbb uS uB uI uc ug;simp(disch:=omega)only[↓RD,RZ,i1,l2];refine zae (hf H1 s1 _ bv w1) ?_;rintro _ H2 ⟨rfl,s2⟩;cases hp:P xs[k]with
  | true =>
   simp(disch:=omega)only[↓RD,RZ];refine⟨?_,s1.trans s2⟩;have:xs.findIdx? P=some k:=List.findIdx?_eq_some_iff_getElem.2 ⟨hk,hp,λj hj=>by rw[hP j (by omega) hj]; decide⟩;rw[this]; rfl
  | false =>
   simp(disch:=omega)only[↓RD,RZ];refine⟨by rfl,s1.trans s2,λj hj hjk=>?_⟩;rcases Nat.lt_or_ge j k with h|h
   ·exact hP j hj h
   ·have:j=k:=by omega
    subst this; exact hp
 ·rintro L H1 ⟨rfl,s1,hP⟩;unfold zbb uS uB uI uc ug;simp(disch:=omega)only[↓RD,RZ];refine⟨?_,s1⟩;have:xs.findIdx? P=none:=List.findIdx?_eq_none_iff.2 λx hx=>by
   obtain⟨j,hj,rfl⟩:=List.getElem_of_mem hx;exact hP j hj hj
  rw[this]; rfl
def fd(a:Int)(xs:List X):Option Nat:=xs.findIdx? λx=>x.1==a
end Go.Ax.R7
/- Rtp10 -/
namespace Go.Ax.R7
open Go.Ax
theorem zrz{β:Type}{ty size id off:Nat}{x:V}{H:Heap}{f:V→M β}{Q:β→Heap→Prop}{cells cells':List V}{o:Option Nat} (hb:H.get id=some ⟨ty,cells,o⟩) (hc:x.cells.length=size∧off+size≤cells.length∧x.okc=true) (he:splice cells off x.cells=cells')
  (h:Ok (f .undef) (H.set id (some ⟨ty,cells',o⟩)) Q):@StK β (H.get id) size id off x H ⟨f⟩ ⟨Q⟩:=by
 rw[hb];exact⟨hc,by rw[he]; exact h⟩
def fl (ws:List (X×V)):List V:=(ws.map xc).flatten
theorem fl_len (ws:List (X×V)):(fl ws).length=ws.length*2:=by
 unfold fl
 induction ws with
 | nil=>rfl
 | cons w ws ih=>simp only[List.map_cons,List.flatten_cons,List.length_append,ih,List.length_cons]; simp[xc]; omega
structure Own (ty lo:Nat) (H:Heap) (v:V) (ws:List (X×V)):Prop where
 ex:(v = .nils∧ws=[])∨∃id cap o,v = .sl id 0 ws.length cap∧H.get id=some ⟨ty,fl ws,o⟩∧lo≤id∧id<H.next∧V.capOk 2 v
theorem Own.lc{ty lo:Nat}{H:Heap}{v:V} {ws:List (X×V)} (h:Own ty lo H v ws):Lc 2 lo H v (fl ws) ws.length:=by
 rcases h.ex with⟨rfl,rfl⟩|⟨id,cap,o,rfl,hb,h1,h2,h3⟩
 ·exact Lc.nil
 ·refine⟨?_,λi hi=>?_,h3⟩
  ·simp only[rcells,hb,Option.bind_some];rw[if_pos (by rw[fl_len]; omega),List.drop_zero,List.take_of_length_le (by rw[fl_len]; exact Nat.le_refl _)]
  ·simp only[V.pid,Option.some.injEq]at hi; subst hi; exact⟨h1,h2⟩
theorem Own.to{ty lo:Nat}{H H':Heap}{v:V} {ws:List (X×V)} (h:Own ty lo H v ws) (hs:∀id,v.pid=some id→H'.get id=H.get id) (hn:H.next≤H'.next):Own ty lo H' v ws:=by
 rcases h.ex with⟨rfl,rfl⟩|⟨id,cap,o,rfl,hb,h1,h2,h3⟩
 ·exact⟨.inl ⟨rfl,rfl⟩⟩
 ·exact⟨.inr ⟨id,cap,o,rfl,by rw[hs id rfl]; exact hb,h1,by omega,h3⟩⟩
theorem Own.at{ty lo:Nat}{H:Heap}{v:V} {ws:List (X×V)} (h:Own ty lo H v ws) {i:Nat} (hi:i<ws.length):∃id cap o,v = .sl id 0 ws.length cap∧H.get id=some ⟨ty,fl ws,o⟩∧lo≤id∧id<H.next∧(∀{k:IntKind},Ax.iaddr none 2 v (.int k i)=some (.ptr id (i*2)))∧∀ws':List (X×V),ws'.length=ws.length→∀H',H'.get id=some ⟨ty,fl ws',o⟩→H.next≤H'.next→Own ty lo H' v ws':=by
 rcases h.ex with⟨rfl,rfl⟩|⟨id,cap,o,rfl,hb,h1,h2,h3⟩
 ·simp at hi
 ·refine⟨id,cap,o,rfl,hb,h1,h2,λ{k}=>?_,λws' hl H' hb' hn=>⟨.inr ⟨id,cap,o,by rw[hl],hb',h1,by omega,by simpa [V.capOk,hl]using h3⟩⟩⟩;have:=zj7 (id:=id) (off:=0) (len:=ws.length) (c:=cap) (k:=k) (i:=((i:Nat):Int)) (e:=2) (by omega) (by omega);simpa using this
structure PkO (ty lo:Nat) (H:Heap) (v:V) (p:Pkt):Prop where
 ex:∃cv xv pv ws m1 m2,v = .agg (zgk p cv xv pv)∧Lc 1 lo H cv (p.csrc.map by32) p.csrc.length∧By lo H pv p.pay∧Own ty m1 H xv ws∧(∀id,xv.pid=some id→id<m2)∧ws.map (·.1)=p.exts∧(∀w∈ws,By m2 H w.2 w.1.2) ∧
  (∀id,cv.pid=some id→id<m1)∧(∀id,pv.pid=some id→id<m1)∧lo≤m1∧m1≤m2
theorem PkO.ext{ty lo:Nat}{H H':Heap}{v:V}{p:Pkt}(h:PkO ty lo H v p)(s:Grow H H'):PkO ty lo H' v p:=by
 obtain⟨cv,xv,pv,ws,m1,m2,h1,h2,h3,h4,h5,h6,h7,h8,h9,h10,h11⟩:=h;exact⟨cv,xv,pv,ws,m1,m2,h1,h2.ext s,h3.ext s,h4.to (λid hi=>s.same id (h4.lc.own id hi).2) s.next,h5,h6,λw hw=>(h7 w hw).ext s,h8,h9,h10,h11⟩
end Go.Ax.R7
/- Rtp11 -/
namespace Go.Ax.R7
open Go.Ax
end Go.Ax.R7
/- Rtp12 -/
namespace Go.Ax.R7
open Go.Ax
end Go.Ax.R7
namespace Go.Ax
open R7
end Go.Ax
/- Rtp13 -/
namespace Go.Ax.R7
open Go.Ax
inductive Apf (ty e lo:Nat) (H:Heap):V→List V→Nat→Prop
 | app {v:V} {cells:List V} {n:Nat} (h:App ty e lo H v cells n):Apf ty e lo H v cells n
 | full {id n:Nat} {cells:List V} (h:H.get id=some ⟨ty,cells,none⟩) (hl:cells.length=n*e) (h0:lo≤id) (h1:id<H.next):Apf ty e lo H (.sl id 0 n (.fix n)) cells n
theorem Apf.lc{ty e lo n:Nat}{H:Heap}{v:V}{cells:List V}(h:Apf ty e lo H v cells n):Lc e lo H v cells n:=by
 cases h with
 | app h=>exact h.lc
 | full h hl h0 h1 =>
  refine⟨?_,λid hi=>by simp only[V.pid,Option.some.injEq]at hi; subst hi; exact⟨h0,h1⟩,Nat.le_refl _⟩;simp only[rcells,h,Option.bind_some];rw[if_pos (by omega),List.drop_zero,List.take_of_length_le (by omega)]
theorem Apf.keep{ty e lo n:Nat}{H H':Heap}{v:V}{cells:List V}(h:Apf ty e lo H v cells n)(k:Keep lo H H'):Apf ty e lo H' v cells n:=by
 cases h with
 | app h=>exact .app (App.keep h k)
 | full h hl h0 h1=>exact .full (by rw[k.same _ h0 h1,h]) hl h0 (Nat.lt_of_lt_of_le h1 k.next)
structure Bel (lo:Nat) (H H':Heap):Prop where
 next:H.next≤H'.next
 same:∀i,i<lo→H'.get i=H.get i
theorem Bel.refl(lo:Nat)(H:Heap):Bel lo H H:=⟨Nat.le_refl _,λ_ _=>rfl⟩
theorem Bel.trans{lo:Nat}{H H1 H2:Heap}(h:Bel lo H H1)(k:Bel lo H1 H2):Bel lo H H2:=⟨Nat.le_trans h.next k.next,λi hi=>by rw[k.same i hi,h.same i hi]⟩
theorem Bel.low{lo lo':Nat}{H H':Heap}(h:Bel lo H H')(hl:lo'≤lo):Bel lo' H H':=⟨h.next,λi hi=>h.same i (by omega)⟩
theorem _root_.Go.Ax.Grow.bel7{H H':Heap}(h:Grow H H'){lo:Nat}(hl:lo≤H.next):Bel lo H H':=⟨h.next,λi hi=>h.same i (by omega)⟩
theorem Bel.grow{H H':Heap}(h:Bel H.next H H'):Grow H H':=⟨h.next,λi hi=>h.same i hi⟩
theorem _root_.Go.Ax.Grow.bel7'{H0 H H':Heap}{lo:Nat}(h0:Grow H0 H)(hl:H0.next≤lo)(h:Bel lo H H'):Grow H0 H':=⟨Nat.le_trans h0.next h.next,λi hi=>by rw[h.same i (by omega),h0.same i hi]⟩
theorem okb_apf{β:Type}{ty e bytes lo n m:Nat}{H:Heap}{x y:V}{cells q:List V}{f:V→M β}{Q:β→Heap→Prop}(hx:Apf ty e lo H x cells n)(hlo:lo≤H.next) (hy:acells e H y=some (q,m)) (hq:q.length=m*e)
  (hb:(n+m)*bytes≤140737488355328) (hm:n+m≤140737488355328)
  (k:∀x' H',Apf ty e lo H' x' (cells++q) (n+m)→Bel lo H H'→Step H H' x.pid.toList x'.pid.toList→Ok (f x') H' Q):Ok ((mappend ty e bytes x y).bind f) H Q:=by
 cases hx with
 | app h =>
  refine zo7 h hlo hy hq hb hm λx' H' h1 hs=>k x' H' (.app h1) ⟨hs.next,λi hi=>hs.same i (by omega) λe=>?_⟩ hs;have:=(h.lc.own i (by simpa [zcK]using e)).1;omega
 | full h hl h0 h1 =>
  rename_i id;have hml:n+m≤maxLen:=Nat.le_trans hm zgK;by_cases hz:m=0
  ·subst hz;have hq0:q=[]:=List.eq_nil_of_length_eq_zero (by omega);subst hq0;refine zaB ⟨.sl id 0 n (.fix n),H.set id (some ⟨ty,cells,none⟩),?_,k _ _ ?_ ⟨by rw[zan]; exact Nat.le_refl _,λi hi=>zaj _ _ (by omega)⟩ (Step.set _ (by simp[V.pid]))⟩
   ·simp only[mappend,hy,Option.bind_some,mappendq,h];rw[if_pos ⟨by omega,trivial⟩];simp only[Nat.add_zero,Nat.le_refl,if_true];rw[if_pos (by omega)];simp[splice]
   ·rw[List.append_nil];exact .full (zai _ _ _) hl h0 h1
  ·refine zaB ⟨.sl H.next 0 (n+m) (.opn e),H.new ⟨ty,cells++q,some e⟩,?_,?_⟩
   ·simp only[mappend,hy,Option.bind_some,mappendq,h];rw[if_pos ⟨by omega,trivial⟩,if_neg (by omega),if_pos ⟨hb,hml⟩,List.drop_zero,List.take_of_length_le (by omega)]
   ·refine k _ _ (.app (.opn (.inr ⟨H.next,rfl,zag _ _,by simp[hl,hq,Nat.add_mul]⟩) λi hi=>?_)) ⟨by rw[zaf]; omega,λi hi=>zaM _ _ (by omega)⟩ ⟨by rw[zaf]; omega,λi hi _=>zaM _ _ (by omega),λi hi=>.inr (by simp only[V.pid,Option.toList_some,List.mem_singleton]at hi; subst hi; exact⟨Nat.le_refl _,by rw[zaf]; omega⟩)⟩;simp only[V.pid,Option.some.injEq]at hi;subst hi;exact⟨hlo,by rw[zaf]; omega⟩
theorem okb_apfz{β:Type}{ty bytes lo n m:Nat}{z:V}{H:Heap}{x:V}{cells:List V}{f:V→M β}{Q:β→Heap→Prop}(hx:Apf ty 1 lo H x cells n)(hlo:lo≤H.next)
  (hb:(n+m)*bytes≤140737488355328) (hm:n+m≤140737488355328)
  (k:∀x' H',Apf ty 1 lo H' x' (cells++List.replicate m z) (n+m)→Bel lo H H'→Ok (f x') H' Q):Ok ((mappendz ty bytes [z] x (.int .i64 (m:Nat))).bind f) H Q:=by
 have hw:IntKind.i64.wrap (m:Nat)=(m:Int):=by
  have h1:(m:Int)%18446744073709551616=m:=Int.emod_eq_of_lt (by omega) (by omega);simp only[IntKind.wrap,IntKind.signed,IntKind.bits];simp;omega
 have hm2:m*bytes≤140737488355328:=Nat.le_trans (Nat.mul_le_mul_right _ (by omega)) hb;have hm3:((m:Int)*(bytes:Int))≤281474976710656:=by
  have:((m*bytes:Nat):Int)≤140737488355328:=by omega
  rw[Int.natCast_mul]at this; omega
 have e:(mappendz ty bytes [z] x (.int .i64 (m:Nat)) H)=mappend ty 1 bytes x (.rs (List.replicate m z) m) H:=by
  simp only[mappendz,mappend,hw];rw[if_pos ⟨by omega,hm3⟩];simp[acells,rcells,zur]
 have:=okb_apf (y:=.rs (List.replicate m z) m) (q:=List.replicate m z) (m:=m) hx hlo (by simp[acells,rcells]) (by simp) hb hm λx' H' h1 h2 _=>k x' H' h1 h2;unfold Ok M.bind at this ⊢;rw[e]; exact this
def bn(k n:Nat):List Nat:=(List.range k).map λi=>n/256 ^ (k-1-i)%256
theorem bn_len(k n:Nat):(bn k n).length=k:=by simp[bn]
theorem bn_get(k n i:Nat)(h:i<k):(bn k n).getD i 0=n/256 ^ (k-1-i)%256:=by
 rw[List.getD_eq_getElem?_getD,List.getElem?_eq_getElem (by rw[bn_len]; exact h)]; simp[bn]
abbrev Ab(lo:Nat)(H:Heap)(v:V)(l:List Nat):Prop:=Apf zaa 1 lo H v (l.map by8) l.length
theorem Ab.by{lo:Nat}{H:Heap}{v:V}{l:List Nat}(h:Ab lo H v l):By lo H v l:=h.lc
theorem okb_ab'{β:Type}{lo:Nat}{H:Heap}{x y:V}{l m:List Nat}{f:V→M β}{Q:β→Heap→Prop}(hx:Ab lo H x l)(hlo:lo≤H.next) (hy:acells 1 H y=some (m.map by8,m.length)) (hm:l.length+m.length≤1099511627776)
  (k:∀x' H',Ab lo H' x' (l++m)→Bel lo H H'→Step H H' x.pid.toList x'.pid.toList→Ok (f x') H' Q):Ok ((mappend zaa 1 1 x y).bind f) H Q:=by
 refine okb_apf hx hlo hy (by simp) (by omega) (by omega) λx' H' h1 h2=>k x' H' ?_ h2;show Apf zaa 1 lo H' x' ((l++m).map by8) (l++m).length;rw[List.map_append,List.length_append]; exact h1
theorem okb_ab{β:Type}{lo:Nat}{H:Heap}{x y:V}{l m:List Nat}{f:V→M β}{Q:β→Heap→Prop}(hx:Ab lo H x l)(hlo:lo≤H.next) (hy:acells 1 H y=some (m.map by8,m.length)) (hm:l.length+m.length≤1099511627776)
  (k:∀x' H',Ab lo H' x' (l++m)→Bel lo H H'→Ok (f x') H' Q):Ok ((mappend zaa 1 1 x y).bind f) H Q :=
 okb_ab' hx hlo hy hm λx' H' h1 h2 _=>k x' H' h1 h2
theorem zoj{lo:Nat}{H:Heap}{v:V}{l:List Nat}(h:Ab lo H v l)(hlo:lo≤H.next)(hl:l.length≤2097152)(n k:Nat)(hn:n<4294967296)(hk:k≤4) :
  Ok (sem T zc8 [v,.int .u32 n,.int .i64 k]) H λr H'=>Ab lo H' r (l++bn k n)∧Bel lo H H'∧Step H H' v.pid.toList r.pid.toList:=by
 refine ztC ?_;unfold zqM uB uc ug;simp(disch:=omega)only[↓RD,RZ];refine zaV (λm L H'=>∃w,L=[w,.int .i64 ((k:Int)-1-(m:Nat))]∧Ab lo H' w (l++(bn k n).take m)∧Bel lo H H'∧Step H H' v.pid.toList w.pid.toList) k ?_ ?_ ?_
 ·exact⟨v,by simp,by simpa using h,Bel.refl _ _,(Grow.refl H).step _⟩
 ·rintro m L H1 hm ⟨w,rfl,ha,hb,hst⟩;have e1:(k:Int)-1-(m:Nat)=((k-1-m:Nat):Int):=by omega
  have e2:(8:Int)*((k-1-m:Nat):Int)=((8*(k-1-m):Nat):Int):=by omega
  have e3:shr n (8*(k-1-m))=n/256 ^ (k-1-m):=by rw[zjo,Nat.shiftRight_eq_div_pow,Nat.pow_mul]
  have hlo1:=hb.next;rw[e1];unfold zjF uL uB uc ub ug;simp(disch:=omega)only[↓RD,RZ,e2,e3];refine okb_ab' (m:=[n/256 ^ (k-1-m)%256]) (ha.keep ((Grow.new _ _).keep _)) (by rw[zaf]; omega) (zc5 rfl) (by simp; omega) λw' H2 h2 hb2 st2=>?_;simp(disch:=omega)only[↓RD,RZ];refine⟨w',by rw[show((k-1-m:Nat):Int)-1=(k:Int)-1-((m+1:Nat):Int) by omega],?_,hb.trans (((Grow.new _ _).bel7 (by omega)).trans hb2),hst.trans (((Grow.new _ _).step _).trans st2)⟩;rw[take_snoc (by rw[bn_len]; exact hm),bn_get k n m hm,←List.append_assoc];exact h2
 ·rintro L H1 ⟨w,rfl,ha,hb,hst⟩;have e1:(k:Int)-1-(k:Nat) = -1:=by omega
  rw[e1];unfold zjF uL uB uc ub ug;simp(disch:=omega)only[↓RD,RZ];rw[List.take_of_length_le (by rw[bn_len]; exact Nat.le_refl _)]at ha;exact⟨ha,hb,hst⟩
/-! What is good. -/
def goodX(prof:Int)(x:X):Bool :=
 if prof=48862 then decide (1≤x.1∧x.1≤14∧1≤x.2.length∧x.2.length≤16) else decide (1≤x.1∧x.1≤255∧x.2.length≤255)
def good(p:Pkt):Bool :=
 decide ((0≤p.typ∧p.typ≤127)∧p.csrc.length≤15∧(0≤p.pad∧p.pad≤255)) &&
  (if p.prof=0 then decide (p.exts.length=0) else decide (p.prof=48862∨p.prof=4096)&&p.exts.all (goodX p.prof))
theorem ztU{lo:Nat}{H:Heap}{bv:V}(x:X)(h:By lo H bv x.2)(prof:Int):Ok (sem T zea [.int .i64 prof,.agg [.int .i64 x.1,bv]]) H λr H'=>r = .bool (goodX prof x)∧Grow H H':=by
 refine znM ?_;unfold zkq goodX uL uFM uB uG uH uO uc;by_cases hp:prof=48862
 ·rw[if_pos hp];have hv:=(h.newn ⟨zcG,[.int .i64 x.1,bv],none⟩).vlen;by_cases h1:1≤x.1
  ·by_cases h2:x.1≤14
   ·by_cases h3:1≤x.2.length
    ·by_cases h4:x.2.length≤16
     ·simp(disch:=omega)only[↓RD,RZ,h.cells1,h.okc,h.vlen];exact⟨by simp[*],Grow.new _ _⟩
     ·simp(disch:=omega)only[↓RD,RZ,h.cells1,h.okc,h.vlen];exact⟨by simp[*],Grow.new _ _⟩
    ·simp(disch:=omega)only[↓RD,RZ,h.cells1,h.okc,h.vlen];exact⟨by simp[*],Grow.new _ _⟩
   ·simp(disch:=omega)only[↓RD,RZ,h.cells1,h.okc,h.vlen];exact⟨by simp[*],Grow.new _ _⟩
  ·simp(disch:=omega)only[↓RD,RZ,h.cells1,h.okc,h.vlen];exact⟨by simp[*],Grow.new _ _⟩
 ·rw[if_neg hp];by_cases h1:1≤x.1
  ·by_cases h2:x.1≤255
   ·by_cases h4:x.2.length≤255
    ·simp(disch:=omega)only[↓RD,RZ,h.cells1,h.okc,h.vlen];exact⟨by simp[*],Grow.new _ _⟩
    ·simp(disch:=omega)only[↓RD,RZ,h.cells1,h.okc,h.vlen];exact⟨by simp[*],Grow.new _ _⟩
   ·simp(disch:=omega)only[↓RD,RZ,h.cells1,h.okc,h.vlen];exact⟨by simp[*],Grow.new _ _⟩
  ·simp(disch:=omega)only[↓RD,RZ,h.cells1,h.okc,h.vlen];exact⟨by simp[*],Grow.new _ _⟩
end Go.Ax.R7
/- Rtp14 -/
namespace Go.Ax.R7
open Go.Ax
theorem zkY{p:Pkt} (h:¬((0≤p.typ∧p.typ≤127)∧p.csrc.length≤15∧(0≤p.pad∧p.pad≤255))):good p=false:=by
 unfold good; rw[decide_eq_false h]; rfl
theorem zsD{p:Pkt} (h:(0≤p.typ∧p.typ≤127)∧p.csrc.length≤15∧(0≤p.pad∧p.pad≤255)):good p=if p.prof=0 then decide (p.exts.length=0) else decide (p.prof=48862∨p.prof=4096)&&p.exts.all (goodX p.prof):=by
 unfold good; rw[decide_eq_true h]; simp
theorem all_idx(P:X→Bool)(xs:List X):(match xs.findIdx? (λx=>!P x) with|some _=>false|none=>true)=xs.all P:=by
 cases h:xs.findIdx? (λx=>!P x) with
 | none =>
  have:=List.findIdx?_eq_none_iff.1 h;exact(List.all_eq_true.2 λx hx=>by simpa using this x hx).symm
 | some i =>
  obtain⟨h1,h2,_⟩:=List.findIdx?_eq_some_iff_getElem.1 h;refine(Bool.eq_false_iff.2 λe=>?_).symm;have:=List.all_eq_true.1 e _ (List.getElem_mem h1);rw[this]at h2; cases h2
theorem Good_ok{lo:Nat}{H:Heap}{v:V}{p:Pkt}(h:PkR lo H v p)(hs:Sml p):Ok (sem T zgZ [v]) H λr H'=>r = .bool (good p)∧Grow H H':=by
 obtain⟨cv,xv,pv,rfl,hc,hx,hp⟩:=h;have hb:=hs.b;refine zrA ?_;unfold zoz uL uFM uB uG uH uO uc;unfold zgk;simp(disch:=first|omega|(simp only[RY]<;>omega)|decide)only[↓RD,RZ,Nat.reduceAdd,hc.cells1,hx.cells1,hp.cells1,hc.okc,hx.okc,hp.okc];generalize hH1:Heap.new H _=H1;have n1:H1.next=H.next+1:=by rw[←hH1]; rfl
 have s1:Grow H H1:=by rw[←hH1]; exact Grow.new _ _
 have g1:H1.get H.next=some ⟨zbh,zgk p cv xv pv,none⟩:=by rw[←hH1]; exact zag _ _
 clear hH1;unfold zgk at g1;have ec:=hc.vlen;have ex:=hx.vlen;by_cases a1:p.typ<0
 ·simp(disch:=first|omega|(simp only[RY]<;>omega)|decide)only[↓RD,RZ,Nat.reduceAdd,g1];exact⟨by rw[zkY (by omega)],s1⟩
 by_cases a2:127<p.typ
 ·simp(disch:=first|omega|(simp only[RY]<;>omega)|decide)only[↓RD,RZ,Nat.reduceAdd,g1];exact⟨by rw[zkY (by omega)],s1⟩
 by_cases a3:15<p.csrc.length
 ·simp(disch:=first|omega|(simp only[RY]<;>omega)|decide)only[↓RD,RZ,Nat.reduceAdd,g1,ec];exact⟨by rw[zkY (by omega)],s1⟩
 by_cases a4:p.pad<0
 ·simp(disch:=first|omega|(simp only[RY]<;>omega)|decide)only[↓RD,RZ,Nat.reduceAdd,g1,ec];exact⟨by rw[zkY (by omega)],s1⟩
 by_cases a5:255<p.pad
 ·simp(disch:=first|omega|(simp only[RY]<;>omega)|decide)only[↓RD,RZ,Nat.reduceAdd,g1,ec];exact⟨by rw[zkY (by omega)],s1⟩
 rw[zsD (by omega)];by_cases hz:p.prof=0
 ·rw[if_pos hz];rw[hz]at g1;by_cases he:p.exts.length=0
  ·simp(disch:=first|omega|(simp only[RY]<;>omega)|decide)only[↓RD,RZ,Nat.reduceAdd,g1,ec,ex,he];exact s1
  ·simp(disch:=first|omega|(simp only[RY]<;>omega)|decide)only[↓RD,RZ,Nat.reduceAdd,g1,ec,ex,he];exact s1
 ·rw[if_neg hz];by_cases hpf:p.prof=48862∨p.prof=4096
  ·rw[decide_eq_true hpf,Bool.true_and,←all_idx];have main:Ok ((sem T zaD [xv,.fn zc9 [.ptr H.next 0]]).bind λt48=>(M.lift (un .not t48)).bind λt49=>M.pure (Res.ret [t49])) H1
     (λr H'=>∃L,r=Res.ret L∧zdW L = .bool (match p.exts.findIdx? (λx=>!goodX p.prof x) with|some _=>false|none=>true)∧Grow H H'):=by
    have hcf:Ok (sem T zaD [xv,.fn zc9 [.ptr H.next 0]]) H1 (λ(r:V) H'=>r=V.bool (match p.exts.findIdx? (λx=>!goodX p.prof x) with|some _=>true|none=>false)∧Grow H H'):=by
     refine zc7 ?_;unfold zbD uB uc;refine zae (zq9 (hx.ext s1) (λx=>!goodX p.prof x) (by omega) λH3 s3 x bv hb=>?_) ?_
     ·have g3:H3.get H.next = _:=(s3.same _ (by omega)).trans g1;have n3:=s3.next;show Ok (sem T zc9 [.agg [.int .i64 x.1,bv],.ptr H.next 0]) H3 _;refine zo9 ?_;unfold zlq uL uS uFM uO;simp(disch:=first|omega|(simp only[RY]<;>omega)|decide)only[↓RD,RZ,Nat.reduceAdd,hb.cells1,hb.okc,g3];refine zae (ztU x (hb.newn _) p.prof) ?_;rintro _ H4 ⟨rfl,s4⟩;simp(disch:=first|omega|(simp only[RY]<;>omega)|decide)only[↓RD,RZ,Nat.reduceAdd];exact(Grow.new _ _).trans s4
     ·rintro _ H3 ⟨rfl,s3⟩;cases hf:p.exts.findIdx? (λx=>!goodX p.prof x) with
      | none =>
       unfold idxV;simp(disch:=first|omega|(simp only[RY]<;>omega)|decide)only[↓RD,RZ,Nat.reduceAdd];exact s1.trans s3
      | some i =>
       unfold idxV;simp(disch:=first|omega|(simp only[RY]<;>omega)|decide)only[↓RD,RZ,Nat.reduceAdd];exact s1.trans s3
    refine zae hcf ?_
    ·rintro _ H3 ⟨rfl,s3⟩;cases hf:p.exts.findIdx? (λx=>!goodX p.prof x) with
     | none =>
      simp(disch:=first|omega|(simp only[RY]<;>omega)|decide)only[↓RD,RZ,Nat.reduceAdd];exact s3
     | some i =>
      simp(disch:=first|omega|(simp only[RY]<;>omega)|decide)only[↓RD,RZ,Nat.reduceAdd];exact s3
   rcases hpf with hpf|hpf
   ·rw[hpf]at g1;simp(disch:=first|omega|(simp only[RY]<;>omega)|decide)only[↓RD,RZ,Nat.reduceAdd,g1,ec];refine zam main ?_;rintro r H' ⟨L,rfl,h1,h2⟩;exact⟨_,rfl,h1,h2⟩
   ·rw[hpf]at g1;simp(disch:=first|omega|(simp only[RY]<;>omega)|decide)only[↓RD,RZ,Nat.reduceAdd,g1,ec];refine zam main ?_;rintro r H' ⟨L,rfl,h1,h2⟩;exact⟨_,rfl,h1,h2⟩
  ·rw[decide_eq_false hpf,Bool.false_and];have h1:p.prof≠48862:=λe=>hpf (.inl e);have h2:p.prof≠4096:=λe=>hpf (.inr e);simp(disch:=first|omega|(simp only[RY]<;>omega)|decide)only[↓RD,RZ,Nat.reduceAdd,g1,ec];exact s1
end Go.Ax.R7
/- Rtp15 -/
namespace Go.Ax.R7
open Go.Ax
def b0(p:Pkt):Nat:=128+p.csrc.length+(if 0<p.pad then 32 else 0)+(if p.prof=0 then 0 else 16)
def b1(p:Pkt):Nat:=p.typ.toNat+(if p.mark=true then 128 else 0)
def xb(prof:Int)(x:X):List Nat:=(if prof=48862 then [16*x.1.toNat+(x.2.length-1)] else [x.1.toNat,x.2.length])++x.2
def xsb(p:Pkt):List Nat:=(p.exts.map (xb p.prof)).flatten
def padn(n:Nat):Nat:=(4-n%4)%4
def elems(p:Pkt):List Nat:=xsb p++List.replicate (padn (xsb p).length) 0
structure Gd (p:Pkt):Prop where
 a:(0≤p.typ∧p.typ≤127)∧p.csrc.length≤15∧(0≤p.pad∧p.pad≤255)
 b:p.prof=0→p.exts=[]
 c:p.prof=0∨p.prof=48862∨p.prof=4096
 d:∀x∈p.exts,goodX p.prof x=true
theorem good_gd{p:Pkt}(h:good p=true):Gd p:=by
 have ha:(0≤p.typ∧p.typ≤127)∧p.csrc.length≤15∧(0≤p.pad∧p.pad≤255):=by
  refine Classical.byContradiction λe=>?_;rw[zkY e]at h; cases h
 rw[zsD ha]at h;by_cases hz:p.prof=0
 ·rw[if_pos hz]at h;have hn:=List.eq_nil_of_length_eq_zero (of_decide_eq_true h);exact⟨ha,λ_=>hn,.inl hz,λx hx=>by rw[hn]at hx; cases hx⟩
 ·rw[if_neg hz]at h;obtain⟨h1,h2⟩:=Bool.and_eq_true_iff.1 h;exact⟨ha,λe=>absurd e hz,.inr (of_decide_eq_true h1),List.all_eq_true.1 h2⟩
theorem zwe{x:X}(h:goodX 48862 x=true):1≤x.1∧x.1≤14∧1≤x.2.length∧x.2.length≤16:=by
 unfold goodX at h; rw[if_pos rfl]at h; exact of_decide_eq_true h
theorem zwd{x:X}(h:goodX 4096 x=true):1≤x.1∧x.1≤255∧x.2.length≤255:=by
 unfold goodX at h; rw[if_neg (by decide)]at h; exact of_decide_eq_true h
theorem or_a:∀c,c≤15→128 ||| c=128+c∧(128+c) ||| 32=160+c∧(128+c) ||| 16=144+c∧(160+c) ||| 16=176+c:=by
 intro c hc;have:∀c,c<16→128 ||| c=128+c∧(128+c) ||| 32=160+c∧(128+c) ||| 16=144+c∧(160+c) ||| 16=176+c:=by decide
 exact this c (by omega)
theorem or_b:∀t,t≤127→t ||| 128=t+128:=by
 intro t ht;have:∀t,t<128→t ||| 128=t+128:=by decide
 exact this t (by omega)
theorem or_c(i n:Nat)(h:n<16):(16*i) ||| n=16*i+n:=by
 have:=Nat.shiftLeft_add_eq_or_of_lt (i:=4) (b:=n) h i;rw[Nat.shiftLeft_eq,Nat.mul_comm]at this;exact this.symm
theorem ab_lit{H:Heap}{l:List Nat}{lo:Nat}(h:lo≤H.next):Ab lo (H.new ⟨zaa,l.map by8,none⟩) (.sl H.next 0 l.length (.fix l.length)) l :=
 .full (zag _ _) (by simp) h (by rw[zaf]; omega)
theorem first_ok{lo:Nat}{H:Heap}{v:V}{p:Pkt}(h:PkR lo H v p)(hg:Gd p):Ok (sem T zfS [v]) H λr H'=>Ab H.next H' r [b0 p,b1 p]∧Grow H H':=by
 obtain⟨cv,xv,pv,rfl,hc,hx,hp⟩:=h;obtain⟨⟨⟨ht0,ht1⟩,hcl,hp0,hp1⟩,-,-,-⟩:=hg;refine zqo ?_;unfold zm7 uL uFM uB uO uc ub ug;unfold zgk;obtain⟨t,ht⟩:=Int.eq_ofNat_of_zero_le ht0;obtain⟨o1,o2,o3,o4⟩:=or_a _ hcl;have o5:=or_b t (by omega);have mm:(128+p.csrc.length)%256=128+p.csrc.length:=by omega
 have mt:t%256=t:=by omega
 have ec:=(hc.newn ⟨zbh,zgk p cv xv pv,none⟩).vlen;have fin:∀x y:Nat,Ab H.next ((H.new ⟨zbh,[.bool p.mark,.int .i64 t,.int .u16 p.seq,.int .u32 p.ts,.int .u32 p.ssrc,cv,.int .i64 p.prof,xv,.int .i64 p.pad,pv],none⟩).new ⟨zaa,[.int .u8 x,.int .u8 y],none⟩) (.sl (H.next+1) 0 2 (.fix 2)) [x,y]∧Grow H ((H.new ⟨zbh,[.bool p.mark,.int .i64 t,.int .u16 p.seq,.int .u32 p.ts,.int .u32 p.ssrc,cv,.int .i64 p.prof,xv,.int .i64 p.pad,pv],none⟩).new ⟨zaa,[.int .u8 x,.int .u8 y],none⟩):=λx y =>
  ⟨ab_lit (H:=H.new _) (l:=[x,y]) (by rw[zaf]; omega),(Grow.new _ _).trans (Grow.new _ _)⟩
 by_cases c1:0<p.pad<;>by_cases c2:p.prof=0
 ·have e0:b0 p=160+p.csrc.length:=by unfold b0; rw[if_pos c1,if_pos c2]; omega
  rw[e0];rw[c2]at fin;cases c3:p.mark
  ·have e1:b1 p=t:=by unfold b1; rw[c3,ht,Int.toNat_natCast]; rfl
   rw[e1];rw[c3]at fin;simp(disch:=first|omega|(simp only[RY]<;>omega)|decide)only[↓RD,RZ,eq_self,Int.reduceToNat,Int.reduceAdd,Nat.reduceAdd,Nat.reduceSub,Nat.reduceMul,Nat.reduceLeDiff,hc.cells1,hx.cells1,hp.cells1,hc.okc,hx.okc,hp.okc,hc.vlen,o1,o2,o3,o4,o5,mm,mt,c2,ht,c3];exact fin _ _
  ·have e1:b1 p=t+128:=by unfold b1; rw[c3,ht,Int.toNat_natCast]; rfl
   rw[e1];rw[c3]at fin;simp(disch:=first|omega|(simp only[RY]<;>omega)|decide)only[↓RD,RZ,eq_self,Int.reduceToNat,Int.reduceAdd,Nat.reduceAdd,Nat.reduceSub,Nat.reduceMul,Nat.reduceLeDiff,hc.cells1,hx.cells1,hp.cells1,hc.okc,hx.okc,hp.okc,hc.vlen,o1,o2,o3,o4,o5,mm,mt,c2,ht,c3];exact fin _ _
 ·have e0:b0 p=176+p.csrc.length:=by unfold b0; rw[if_pos c1,if_neg c2]; omega
  rw[e0];cases c3:p.mark
  ·have e1:b1 p=t:=by unfold b1; rw[c3,ht,Int.toNat_natCast]; rfl
   rw[e1];rw[c3]at fin;simp(disch:=first|omega|(simp only[RY]<;>omega)|decide)only[↓RD,RZ,eq_self,Int.reduceToNat,Int.reduceAdd,Nat.reduceAdd,Nat.reduceSub,Nat.reduceMul,Nat.reduceLeDiff,hc.cells1,hx.cells1,hp.cells1,hc.okc,hx.okc,hp.okc,hc.vlen,o1,o2,o3,o4,o5,mm,mt,c2,ht,c3];exact fin _ _
  ·have e1:b1 p=t+128:=by unfold b1; rw[c3,ht,Int.toNat_natCast]; rfl
   rw[e1];rw[c3]at fin;simp(disch:=first|omega|(simp only[RY]<;>omega)|decide)only[↓RD,RZ,eq_self,Int.reduceToNat,Int.reduceAdd,Nat.reduceAdd,Nat.reduceSub,Nat.reduceMul,Nat.reduceLeDiff,hc.cells1,hx.cells1,hp.cells1,hc.okc,hx.okc,hp.okc,hc.vlen,o1,o2,o3,o4,o5,mm,mt,c2,ht,c3];exact fin _ _
 ·have e0:b0 p=128+p.csrc.length:=by unfold b0; rw[if_neg c1,if_pos c2]; omega
  rw[e0];rw[c2]at fin;cases c3:p.mark
  ·have e1:b1 p=t:=by unfold b1; rw[c3,ht,Int.toNat_natCast]; rfl
   rw[e1];rw[c3]at fin;simp(disch:=first|omega|(simp only[RY]<;>omega)|decide)only[↓RD,RZ,eq_self,Int.reduceToNat,Int.reduceAdd,Nat.reduceAdd,Nat.reduceSub,Nat.reduceMul,Nat.reduceLeDiff,hc.cells1,hx.cells1,hp.cells1,hc.okc,hx.okc,hp.okc,hc.vlen,o1,o2,o3,o4,o5,mm,mt,c2,ht,c3];exact fin _ _
  ·have e1:b1 p=t+128:=by unfold b1; rw[c3,ht,Int.toNat_natCast]; rfl
   rw[e1];rw[c3]at fin;simp(disch:=first|omega|(simp only[RY]<;>omega)|decide)only[↓RD,RZ,eq_self,Int.reduceToNat,Int.reduceAdd,Nat.reduceAdd,Nat.reduceSub,Nat.reduceMul,Nat.reduceLeDiff,hc.cells1,hx.cells1,hp.cells1,hc.okc,hx.okc,hp.okc,hc.vlen,o1,o2,o3,o4,o5,mm,mt,c2,ht,c3];exact fin _ _
 ·have e0:b0 p=144+p.csrc.length:=by unfold b0; rw[if_neg c1,if_neg c2]; omega
  rw[e0];cases c3:p.mark
  ·have e1:b1 p=t:=by unfold b1; rw[c3,ht,Int.toNat_natCast]; rfl
   rw[e1];rw[c3]at fin;simp(disch:=first|omega|(simp only[RY]<;>omega)|decide)only[↓RD,RZ,eq_self,Int.reduceToNat,Int.reduceAdd,Nat.reduceAdd,Nat.reduceSub,Nat.reduceMul,Nat.reduceLeDiff,hc.cells1,hx.cells1,hp.cells1,hc.okc,hx.okc,hp.okc,hc.vlen,o1,o2,o3,o4,o5,mm,mt,c2,ht,c3];exact fin _ _
  ·have e1:b1 p=t+128:=by unfold b1; rw[c3,ht,Int.toNat_natCast]; rfl
   rw[e1];rw[c3]at fin;simp(disch:=first|omega|(simp only[RY]<;>omega)|decide)only[↓RD,RZ,eq_self,Int.reduceToNat,Int.reduceAdd,Nat.reduceAdd,Nat.reduceSub,Nat.reduceMul,Nat.reduceLeDiff,hc.cells1,hx.cells1,hp.cells1,hc.okc,hx.okc,hp.okc,hc.vlen,o1,o2,o3,o4,o5,mm,mt,c2,ht,c3];exact fin _ _
theorem xb_len{prof:Int}{x:X}(h:goodX prof x=true)(hp:prof=48862∨prof=4096):(xb prof x).length≤257:=by
 unfold xb;rcases hp with rfl|rfl
 ·have:=zwe h;rw[if_pos rfl]; simp; omega
 ·have:=zwd h;rw[if_neg (by decide)]; simp; omega
end Go.Ax.R7
/- Rtp16 -/
namespace Go.Ax.R7
open Go.Ax
def xsk(p:Pkt)(k:Nat):List Nat:=((p.exts.take k).map (xb p.prof)).flatten
theorem zsb{p:Pkt}{k:Nat}(h:k<p.exts.length):xsk p (k+1)=xsk p k++xb p.prof p.exts[k]:=by
 unfold xsk;rw[List.take_succ_eq_append_getElem h,List.map_append,List.flatten_append]; simp
theorem zrb(p:Pkt):xsk p p.exts.length=xsb p:=by unfold xsk xsb; rw[List.take_length]
theorem zra{p:Pkt}(hg:Gd p)(hp:p.prof≠0):∀k,k≤p.exts.length→(xsk p k).length≤257*k:=by
 intro k
 induction k with
 | zero=>intro _; simp[xsk]
 | succ k ih =>
  intro hk;rw[zsb (by omega),List.length_append];have h1:=xb_len (hg.d _ (List.getElem_mem (show k<p.exts.length by omega))) (hg.c.resolve_left hp);have:=ih (by omega);omega
theorem shl4{i:Nat}(h:i≤15):Ax.bin .shl (.int .i64 (i:Nat)) (.int .u64 4)=some (.int .i64 ((16*i:Nat):Int)):=by
 have:∀i:Nat,i<16→Ax.bin .shl (.int .i64 (i:Nat)) (.int .u64 4)=some (.int .i64 ((16*i:Nat):Int)):=by
  intro i hi;rw[zld (by omega)];simp only[IntKind.wrap,IntKind.bits,IntKind.signed];have h4:(4:Int).toNat=4:=rfl;rw[h4];congr 2;simp;omega
 exact this i (by omega)
theorem Exs.at0{lo:Nat}{H H2:Heap}{v:V}{xs:List X}(h:Exs lo H v xs)(g:Grow H H2){i:Nat}(hi:i<xs.length):∃p bv,(∀{k:IntKind},Ax.iaddr none 2 v (.int k i)=some p)∧Pl H2 p [.int .i64 xs[i].1,bv] v.pid∧By lo H bv xs[i].2:=by
 obtain⟨ws,rfl,h2,h3⟩:=h;rw[List.length_map]at hi;obtain⟨p,hp,hl⟩:=(h2.ext g).at (i:=(i:Nat)) (by omega) (by omega);have e:((ws.map xc).flatten.drop (i*2)).take 2=[.int .i64 ws[i].1.1,ws[i].2]:=by
  rw[zox _ (xc_len ws) i (by rw[List.length_map]; exact hi),List.getElem_map]; rfl
 rw[Int.toNat_natCast,e]at hl;refine⟨p,ws[i].2,hp,?_,?_⟩
 ·simpa using hl
 ·simpa using h3 _ (List.getElem_mem hi)
theorem pad_ok{lo:Nat}{H:Heap}{w:V}{l:List Nat}(t2:V)(h:Ab lo H w l)(hlo:lo≤H.next)(hl:l.length≤549755813888){Q:Res→Heap→Prop} (k:∀w' H',Ab lo H' w' (l++List.replicate (padn l.length) 0)→Bel lo H H'→Q (.ex 2 [w']) H') :
  Ok (M.iter (zdr (sem T) t2) [w]) H Q:=by
 refine zaV (λm L H'=>∃w',L=[w']∧Ab lo H' w' (l++List.replicate m 0)∧Bel lo H H') (padn l.length) ?_ ?_ ?_
 ·exact⟨w,rfl,by simpa using h,Bel.refl _ _⟩
 ·rintro m L H1 hm ⟨w',rfl,ha,hb⟩;have hv:=ha.lc.vlen;rw[List.length_append,List.length_replicate]at hv;have n1:=hb.next;have hne:(l.length+m)%4≠0:=by unfold padn at hm; omega
  unfold zdr uL uB uc ub ug;simp(disch:=omega)only[↓RD,RZ,hv];refine okb_ab (m:=[0]) (ha.keep ((Grow.new _ _).keep _)) (by rw[zaf]; omega) (zc5 rfl) (by simp; unfold padn at hm; omega) λw2 H2 h2 hb2=>?_;simp(disch:=omega)only[↓RD,RZ];refine⟨w2,rfl,?_,hb.trans (((Grow.new _ _).bel7 (by omega)).trans hb2)⟩;rw[List.replicate_succ',←List.append_assoc];exact h2
 ·rintro L H1 ⟨w',rfl,ha,hb⟩;have hv:=ha.lc.vlen;rw[List.length_append,List.length_replicate]at hv;have hne:(l.length+padn l.length)%4=0:=by unfold padn; omega
  have hb3:padn l.length≤3:=by unfold padn; omega
  unfold zdr uL uB uc ub ug;simp(disch:=omega)only[↓RD,RZ,hv,hne];exact k _ _ ha hb
theorem zwF{lo:Nat}{H:Heap}{v:V}{p:Pkt}(h:PkR lo H v p)(hs:Sml p)(hg:Gd p)(hp0:p.prof≠0):Ok (sem T zdL [v]) H λr H'=>By H.next H' r (elems p)∧Grow H H':=by
 obtain⟨cv,xv,pv,rfl,hc,hx,hp⟩:=h;have hb:=hs.b;refine zmJ ?_;unfold zjc uL uFM uO uc ug;unfold zgk;simp(disch:=first|omega|(simp only[RY]<;>omega)|decide)only[↓RD,RZ,eq_self,Int.reduceToNat,Int.reduceAdd,Nat.reduceAdd,Nat.reduceSub,Nat.reduceMul,Nat.reduceLeDiff,hc.cells1,hx.cells1,hp.cells1,hc.okc,hx.okc,hp.okc,hx.vlen];generalize hH1:Heap.new H _=H1;have n1:H1.next=H.next+1:=by rw[←hH1]; rfl
 have s1:Grow H H1:=by rw[←hH1]; exact Grow.new _ _
 have g1:H1.get H.next=some ⟨zbh,zgk p cv xv pv,none⟩:=by rw[←hH1]; exact zag _ _
 clear hH1;unfold zgk at g1;refine zaV (λk L H'=>∃w,L=[w,.int .i64 (k:Nat)]∧Ab H1.next H' w (xsk p k)∧Grow H1 H') p.exts.length ?_ ?_ ?_
 ·exact⟨.nils,rfl,Apf.app App.nil,Grow.refl _⟩
 ·rintro k L H2 hk ⟨w,rfl,ha,s2⟩;have g2:H2.get H.next = _:=(s2.same _ (by omega)).trans g1;have n2:=s2.next;have s02:=s1.trans s2;obtain⟨q,bv,i1,l1,w1⟩:=hx.at0 s02 hk;have l2:=l1.all;dsimp only[List.length_cons,List.length_nil]at l2;have hlen:=zra hg hp0 k (by omega);have hgx:=hg.d _ (List.getElem_mem hk);generalize hxe:p.exts[k]=x at *;have hsx:xsk p (k+1)=xsk p k++xb p.prof x:=by rw[zsb hk,hxe]
  obtain⟨x1,x2⟩:=x;dsimp only at l2 w1 l1;unfold zeA uL uS uT uFM uB uI uO uc ub uq ug;rcases hg.c.resolve_left hp0 with hpf|hpf
  ·rw[hpf]at g2 hgx hsx;obtain⟨c1,c2,c3,c4⟩:=zwe hgx;dsimp only at c1 c2 c3 c4;obtain⟨i,rfl⟩:=Int.eq_ofNat_of_zero_le (show 0≤x1 by omega);have e1:((x2.length:Nat):Int)-1=((x2.length-1:Nat):Int):=by omega
   have e2:=or_c i (x2.length-1) (by omega);have e3:=shl4 (i:=i) (by omega);have e4:(16*i+(x2.length-1))%256=16*i+(x2.length-1):=by omega
   simp(disch:=first|omega|(simp only[RY]<;>omega)|decide)only[↓RD,RZ,eq_self,Int.reduceToNat,Int.reduceAdd,Nat.reduceAdd,Nat.reduceSub,Nat.reduceMul,Nat.reduceLeDiff,g2,i1,l2,w1.cells1,w1.okc,w1.vlen,e1,e2,e3,e4];generalize hH3:Heap.set _ _ _=H3;have n3:H3.next=H2.next+1:=by rw[←hH3]; rfl
   have s3:Grow H2 H3:=by rw[←hH3]; exact(Grow.new _ _).set (Nat.le_refl _) _
   have g3:H3.get H2.next=some ⟨zcG,[.int .i64 (i:Nat),bv],none⟩:=by rw[←hH3]; exact zai _ _ _
   clear hH3;refine okb_ab' (m:=[16*i+(x2.length-1)]) (ha.keep ((s3.trans (Grow.new _ _)).keep _)) (by rw[zaf]; omega) (zq8 (by omega) rfl) (by simp; omega) λw' H4 h4 hb4 k4=>?_;have g4:H4.get H2.next = _:=(k4.same _ (by rw[zaf]; omega) (λe=>by have:=(ha.lc.own _ (by simpa [zcK]using e)).2; omega)).trans ((zaM _ _ (by omega)).trans g3);have n4:=hb4.next;rw[zaf]at n4;have s4:Grow H1 H4:=Grow.bel7' ((s2.trans s3).trans (Grow.new _ _)) (Nat.le_refl _) hb4;have w4:=w1.ext (s1.trans s4);simp(disch:=first|omega|(simp only[RY]<;>omega)|decide)only[↓RD,RZ,eq_self,Int.reduceToNat,Int.reduceAdd,Nat.reduceAdd,Nat.reduceSub,Nat.reduceMul,Nat.reduceLeDiff,g4];refine okb_ab (m:=x2) h4 (by omega) w4.ac (by simp; omega) λw5 H5 h5 hb5=>?_;simp(disch:=first|omega|(simp only[RY]<;>omega)|decide)only[↓RD,RZ,eq_self,Int.reduceToNat,Int.reduceAdd,Nat.reduceAdd,Nat.reduceSub,Nat.reduceMul,Nat.reduceLeDiff];refine⟨w5,by rfl,?_,Grow.bel7' s4 (Nat.le_refl _) hb5⟩;rw[hsx];unfold xb;rw[if_pos rfl];rw[List.append_assoc]at h5;exact h5
  ·rw[hpf]at g2 hgx hsx;obtain⟨c1,c2,c4⟩:=zwd hgx;dsimp only at c1 c2 c4;obtain⟨i,rfl⟩:=Int.eq_ofNat_of_zero_le (show 0≤x1 by omega);have e4:i%256=i:=by omega
   have e5:x2.length%256=x2.length:=by omega
   simp(disch:=first|omega|(simp only[RY]<;>omega)|decide)only[↓RD,RZ,eq_self,Int.reduceToNat,Int.reduceAdd,Nat.reduceAdd,Nat.reduceSub,Nat.reduceMul,Nat.reduceLeDiff,g2,i1,l2,w1.cells1,w1.okc,w1.vlen,e4,e5];generalize hH3:Heap.set _ _ _=H3;have n3:H3.next=H2.next+1:=by rw[←hH3]; rfl
   have s3:Grow H2 H3:=by rw[←hH3]; exact(Grow.new _ _).set (Nat.le_refl _) _
   have g3:H3.get H2.next=some ⟨zcG,[.int .i64 (i:Nat),bv],none⟩:=by rw[←hH3]; exact zai _ _ _
   clear hH3;refine okb_ab' (m:=[i,x2.length]) (ha.keep ((s3.trans (Grow.new _ _)).keep _)) (by rw[zaf]; omega) (zq8 (by omega) rfl) (by simp; omega) λw' H4 h4 hb4 k4=>?_;have g4:H4.get H2.next = _:=(k4.same _ (by rw[zaf]; omega) (λe=>by have:=(ha.lc.own _ (by simpa [zcK]using e)).2; omega)).trans ((zaM _ _ (by omega)).trans g3);have n4:=hb4.next;rw[zaf]at n4;have s4:Grow H1 H4:=Grow.bel7' ((s2.trans s3).trans (Grow.new _ _)) (Nat.le_refl _) hb4;have w4:=w1.ext (s1.trans s4);simp(disch:=first|omega|(simp only[RY]<;>omega)|decide)only[↓RD,RZ,eq_self,Int.reduceToNat,Int.reduceAdd,Nat.reduceAdd,Nat.reduceSub,Nat.reduceMul,Nat.reduceLeDiff,g4];refine okb_ab (m:=x2) h4 (by omega) w4.ac (by simp; omega) λw5 H5 h5 hb5=>?_;simp(disch:=first|omega|(simp only[RY]<;>omega)|decide)only[↓RD,RZ,eq_self,Int.reduceToNat,Int.reduceAdd,Nat.reduceAdd,Nat.reduceSub,Nat.reduceMul,Nat.reduceLeDiff];refine⟨w5,by rfl,?_,Grow.bel7' s4 (Nat.le_refl _) hb5⟩;rw[hsx];unfold xb;rw[if_neg (by decide)];rw[List.append_assoc]at h5;exact h5
 ·rintro L H2 ⟨w,rfl,ha,s2⟩;rw[zrb]at ha;have hlen:=zra hg hp0 p.exts.length (Nat.le_refl _);rw[zrb]at hlen;unfold zeA uL uS uT uFM uB uI uO uc ub uq ug;simp(disch:=first|omega|(simp only[RY]<;>omega)|decide)only[↓RD,RZ,eq_self,Int.reduceToNat,Int.reduceAdd,Nat.reduceAdd,Nat.reduceSub,Nat.reduceMul,Nat.reduceLeDiff];refine pad_ok _ ha s2.next (by omega) λw' H3 h3 hb3=>?_;simp(disch:=first|omega|(simp only[RY]<;>omega)|decide)only[↓RD,RZ,eq_self,Int.reduceToNat,Int.reduceAdd,Nat.reduceAdd,Nat.reduceSub,Nat.reduceMul,Nat.reduceLeDiff];exact⟨h3.by.low (by omega),s1.trans (Grow.bel7' s2 (Nat.le_refl _) hb3)⟩
end Go.Ax.R7
/- Rtp17 -/
namespace Go.Ax.R7
open Go.Ax
def csb(p:Pkt):List Nat:=(p.csrc.map (bn 4)).flatten
def extb(p:Pkt):List Nat:=if p.prof=0 then [] else bn 2 p.prof.toNat++bn 2 ((elems p).length/4)++elems p
def hb0(p:Pkt):List Nat:=[b0 p,b1 p]++bn 2 p.seq++bn 4 p.ts++bn 4 p.ssrc++csb p
def hb(p:Pkt):List Nat:=hb0 p++extb p
def padb(n:Nat):List Nat:=if n=0 then [] else List.replicate (n-1) 0++[n]
def bytes(p:Pkt):Except Int (List Nat) :=
 if good p=false then .error 1
 else if 1200<(hb p).length+p.pay.length+p.pad.toNat then .error 4
 else .ok (hb p++p.pay++padb p.pad.toNat)
structure Num (p:Pkt):Prop where
 seq:p.seq<65536
 ts:p.ts<4294967296
 ssrc:p.ssrc<4294967296
 csrc:∀x∈p.csrc,x<4294967296
def BytesQ(H:Heap) (o:Except Int (List Nat)) (r:V) (H':Heap):Prop :=
 Grow H H'∧match o with
  | .error e=>r = .tup [.nils,.int .i64 e]
  | .ok l=>∃w,r = .tup [w,.int .i64 0]∧By H.next H' w l
def csk(p:Pkt)(k:Nat):List Nat:=((p.csrc.take k).map (bn 4)).flatten
theorem zsM{p:Pkt}{k:Nat}(h:k<p.csrc.length):csk p (k+1)=csk p k++bn 4 p.csrc[k]:=by
 unfold csk;rw[List.take_succ_eq_append_getElem h,List.map_append,List.flatten_append]; simp
theorem zwL{p:Pkt}:∀k,k≤p.csrc.length→(csk p k).length=4*k:=by
 intro k
 induction k with
 | zero=>intro _; simp[csk]
 | succ k ih=>intro hk; rw[zsM (by omega),List.length_append,ih (by omega),bn_len]; omega
theorem zwM(p:Pkt):csk p p.csrc.length=csb p:=by unfold csk csb; rw[List.take_length]
theorem hb0_len(p:Pkt):(hb0 p).length=12+4*p.csrc.length:=by
 unfold hb0;have:=zwL (p:=p) p.csrc.length (Nat.le_refl _);rw[zwM]at this;simp only[List.length_append,bn_len,this,List.length_cons,List.length_nil]
theorem zqR{p:Pkt}(hg:Gd p)(hp:p.prof≠0):(elems p).length≤257*p.exts.length+3:=by
 have:=zra hg hp p.exts.length (Nat.le_refl _);rw[zrb]at this;unfold elems padn;rw[List.length_append,List.length_replicate]; omega
theorem Ab.mem{lo:Nat}{H:Heap}{v:V}{l:List Nat}(h:Ab lo H v l)(hl:0<l.length):∃id cap o,v = .sl id 0 l.length cap∧H.get id=some ⟨zaa,l.map by8,o⟩∧lo≤id∧id<H.next∧V.capOk 1 v:=by
 unfold Ab at h;generalize hc:l.map by8=cells at h;generalize hn:l.length=n at h hl;cases h with
 | app h =>
  cases h with
  | opn h ho =>
   rcases h with⟨rfl,_,h0⟩|⟨id,rfl,hb,_⟩
   ·omega
   ·obtain⟨h1,h2⟩:=ho id rfl;exact⟨id,_,_,rfl,hb,h1,h2,rfl⟩
  | lit h h0 h1=>omega
 | full h hl h0 h1=>exact⟨_,_,_,rfl,h,h0,h1,Nat.le_refl _⟩
theorem zri(m:List Nat)(x y:Nat):splice ((m++[x]).map by8) m.length [by8 y]=(m++[y]).map by8:=by
 unfold splice;simp[List.take_append_of_le_length]
def PB(lo:Nat)(H:Heap)(p:Pkt)(r:Res)(H':Heap):Prop:=∃w,r = .nrm [w]∧Ab lo H' w (hb p)∧Bel lo H H'
theorem Bytes_ok{lo:Nat}{H:Heap}{v:V}{p:Pkt}(h:PkR lo H v p)(hs:Sml p)(hn:Num p):Ok (sem T zfT [v]) H (BytesQ H (bytes p)):=by
 have h0:=h;obtain⟨cv,xv,pv,rfl,hc,hx,hp⟩:=h;obtain⟨q1,q2,q3,q4⟩:=hs;obtain⟨m1,m2,m3,m4⟩:=hn;refine zqp ?_;unfold zm8 uL uM uS uT uF uFM uB uI uO uU uc ub ug;unfold bytes;unfold zgk;simp(disch:=first|omega|(simp only[RY]<;>omega)|decide)only[↓RD,RZ,Nat.reduceAdd,hc.cells1,hx.cells1,hp.cells1,hc.okc,hx.okc,hp.okc];generalize hH1:Heap.new H _=H1;have n1:H1.next=H.next+1:=by rw[←hH1]; rfl
 have s1:Grow H H1:=by rw[←hH1]; exact Grow.new _ _
 have g1:H1.get H.next=some ⟨zbh,zgk p cv xv pv,none⟩:=by rw[←hH1]; exact zag _ _
 clear hH1;unfold zgk at g1;refine zae (Good_ok (h0.ext s1) ⟨q1,q2,q3,q4⟩) ?_;rintro _ H2 ⟨rfl,s2⟩;have n2:=s2.next;have s02:=s1.trans s2;have g2:H2.get H.next = _:=(s2.same _ (by omega)).trans g1;cases hgd:good p with
 | false =>
  simp(disch:=first|omega|(simp only[RY]<;>omega)|decide)only[↓RD,RZ,Nat.reduceAdd];exact⟨s02,rfl⟩
 | true =>
  have hg:=good_gd hgd;obtain⟨⟨ht,hcl,hpd0,hpd1⟩,-,-,-⟩:=id hg;have e1:p.seq%4294967296=p.seq:=by omega
  rw[if_neg (by decide)];simp(disch:=first|omega|(simp only[RY]<;>omega)|decide)only[↓RD,RZ,Nat.reduceAdd,g2,e1];refine zae (first_ok (h0.ext s02) hg) ?_;rintro w3 H3 ⟨a3,s3⟩;have n3:=s3.next;have g3:H3.get H.next = _:=(s3.same _ (by omega)).trans g2;have k3:Bel H2.next H2 H3:=s3.bel7 (Nat.le_refl _);simp(disch:=first|omega|(simp only[RY]<;>omega)|decide)only[↓RD,RZ,Nat.reduceAdd,g2,g3];refine zae (zoj a3 k3.next (by simp) p.seq 2 (by omega) (by omega)) ?_;rintro w4 H4 ⟨a4,b4,-⟩;have k4:=k3.trans b4;have g4:H4.get H.next = _:=(k4.same _ (by omega)).trans g2;simp(disch:=first|omega|(simp only[RY]<;>omega)|decide)only[↓RD,RZ,Nat.reduceAdd,g4];refine zae (zoj a4 k4.next (by simp[bn_len]) p.ts 4 m2 (by omega)) ?_;rintro w5 H5 ⟨a5,b5,-⟩;have k5:=k4.trans b5;have g5:H5.get H.next = _:=(k5.same _ (by omega)).trans g2;simp(disch:=first|omega|(simp only[RY]<;>omega)|decide)only[↓RD,RZ,Nat.reduceAdd,g4,g5];refine zae (zoj a5 k5.next (by simp[bn_len]) p.ssrc 4 m3 (by omega)) ?_;rintro w6 H6 ⟨a6,b6,-⟩;have k6:=k5.trans b6;have g6:H6.get H.next = _:=(k6.same _ (by omega)).trans g2;simp(disch:=first|omega|(simp only[RY]<;>omega)|decide)only[↓RD,RZ,Nat.reduceAdd,g6,hc.vlen];refine zaV (λk L H'=>∃w,L=[w,.int .i64 (k:Nat)]∧Ab H2.next H' w ([b0 p,b1 p]++bn 2 p.seq++bn 4 p.ts++bn 4 p.ssrc++csk p k)∧Bel H2.next H2 H') p.csrc.length ?_ ?_ ?_
  ·exact⟨w6,rfl,by simpa [csk]using a6,k6⟩
  ·rintro k L H7 hk ⟨w,rfl,a7,k7⟩;have s7:Grow H H7:=Grow.bel7' s02 (by omega) k7;obtain⟨q,i1,l1⟩:=w_at (hc.ext s7) hk;have hlen:=zwL (p:=p) k (by omega);unfold zhf uB uIM uc ug;simp(disch:=first|omega|(simp only[RY]<;>omega)|decide)only[↓RD,RZ,Nat.reduceAdd,i1,l1];refine zae (zoj a7 k7.next (by simp[bn_len,hlen]; omega) p.csrc[k] 4 (m4 _ (List.getElem_mem hk)) (by omega)) ?_;rintro w8 H8 ⟨a8,b8,-⟩;simp(disch:=first|omega|(simp only[RY]<;>omega)|decide)only[↓RD,RZ,Nat.reduceAdd];refine⟨w8,by rfl,?_,k7.trans b8⟩;rw[zsM hk,←List.append_assoc];exact a8
  ·rintro L H7 ⟨w7,rfl,a7,k7⟩;rw[zwM]at a7;have a7':Ab H2.next H7 w7 (hb0 p):=a7;have g7:H7.get H.next = _:=(k7.same _ (by omega)).trans g2;have s7:Grow H H7:=Grow.bel7' s02 (by omega) k7;have hl0:=hb0_len p;unfold zhf uB uIM uc ug;simp(disch:=first|omega|(simp only[RY]<;>omega)|decide)only[↓RD,RZ,Nat.reduceAdd,g7];refine zam (Q:=PB H2.next H2 p) ?_ ?_
   ·by_cases hz:p.prof=0
    ·simp(disch:=first|omega|(simp only[RY]<;>omega)|decide)only[↓RD,RZ,Nat.reduceAdd,hz];refine⟨w7,rfl,?_,k7⟩;unfold hb extb;rw[if_pos hz,List.append_nil]; exact a7'
    ·have hel:=zqR hg hz;simp(disch:=first|omega|(simp only[RY]<;>omega)|decide)only[↓RD,RZ,Nat.reduceAdd,hz,g7];refine zae (zwF (h0.ext s7) ⟨q1,q2,q3,q4⟩ hg hz) ?_;rintro ev H8 ⟨he8,s8⟩;have n8:=s8.next;have k8:=k7.trans (s8.bel7 k7.next);have g8:H8.get H.next = _:=(k8.same _ (by omega)).trans g2;have a8:Ab H2.next H8 w7 (hb0 p):=Apf.keep a7' (s8.keep _);obtain⟨f,hf,hf2⟩:∃f:Nat,p.prof=(f:Int)∧f<65536:=by
      rcases hg.c.resolve_left hz with e|e
      ·exact⟨48862,e,by omega⟩
      ·exact⟨4096,e,by omega⟩
     have e2:f%4294967296=f:=by omega
     have hpid8:∀id,ev.pid=some id→H7.next≤id∧id<H8.next:=λid hi=>he8.own id hi;rw[hf]at g8;simp(disch:=first|omega|(simp only[RY]<;>omega)|decide)only[↓RD,RZ,Nat.reduceAdd,g8,e2];refine zae (zoj a8 k8.next (by omega) f 2 (by omega) (by omega)) ?_;rintro w9 H9 ⟨a9,b9,st9⟩;have e3:(elems p).length/4%4294967296=(elems p).length/4:=by omega
     have he9:By H7.next H9 ev (elems p):=he8.step st9 λid hi hF=>by
      have h1:=(a7'.lc.own id (by simpa [zcK]using hF)).2;have h2:=(hpid8 id hi).1;omega
     have k9:=k8.trans b9;simp(disch:=first|omega|(simp only[RY]<;>omega)|decide)only[↓RD,RZ,Nat.reduceAdd,he9.vlen,e3];refine zae (zoj a9 k9.next (by simp[bn_len,hl0]; omega) ((elems p).length/4) 2 (by omega) (by omega)) ?_;rintro w10 H10 ⟨a10,b10,st10⟩;have he10:By H7.next H10 ev (elems p):=he9.step st10 λid hi hF=>by
      have h2:=hpid8 id hi;rcases st9.own id hF with h|h
      ·have h1:=(a7'.lc.own id (by simpa [zcK]using h)).2;omega
      ·omega
     have k10:=k9.trans b10;simp(disch:=first|omega|(simp only[RY]<;>omega)|decide)only[↓RD,RZ,Nat.reduceAdd];refine okb_ab a10 k10.next he10.ac (by simp[bn_len,hl0]; omega) λw11 H11 a11 b11=>?_;simp(disch:=first|omega|(simp only[RY]<;>omega)|decide)only[↓RD,RZ,Nat.reduceAdd];refine⟨w11,rfl,?_,k10.trans b11⟩;have ehb:hb p=hb0 p++bn 2 f++bn 2 ((elems p).length/4)++elems p:=by
      unfold hb extb;rw[if_neg hz,hf,Int.toNat_natCast];simp only[List.append_assoc]
     rw[ehb]; exact a11
   ·rintro r H8 ⟨w8,rfl,a8,k8⟩;have g8:H8.get H.next = _:=(k8.same _ (by omega)).trans g2;have s8:Grow H H8:=Grow.bel7' s02 (by omega) k8;have hpl:=(hp.ext s8).vlen;obtain⟨d,hd⟩:=Int.eq_ofNat_of_zero_le hpd0;rw[hd]at g8 hpd1;have hdt:p.pad.toNat=d:=by rw[hd]; rfl
    rw[hdt];have hhl:(hb p).length≤549755813888:=by
     unfold hb extb;rw[List.length_append,hl0];split
     ·simp; omega
     ·rename_i hz;have:=zqR hg hz;simp only[List.length_append,bn_len]; omega
    have e1:((hb p).length:Int)+(p.pay.length:Nat)=(((hb p).length+p.pay.length:Nat):Int):=rfl;have e2:(((hb p).length+p.pay.length:Nat):Int)+(d:Nat)=(((hb p).length+p.pay.length+d:Nat):Int):=rfl;by_cases hbig:1200<(hb p).length+p.pay.length+d
    ·rw[if_pos hbig];simp(disch:=first|omega|(simp only[RY]<;>omega)|decide)only[↓RD,RZ,Nat.reduceAdd,a8.lc.vlen,g8,hpl,e1,e2];exact⟨s8,rfl⟩
    ·rw[if_neg hbig];simp(disch:=first|omega|(simp only[RY]<;>omega)|decide)only[↓RD,RZ,Nat.reduceAdd,a8.lc.vlen,g8,hpl,e1,e2];refine okb_ab a8 k8.next (hp.ext s8).ac (by omega) λw9 H9 a9 b9=>?_;have k9:=k8.trans b9;have s9:Grow H H9:=Grow.bel7' s02 (by omega) k9;have g9:H9.get H.next = _:=(b9.same _ (by omega)).trans g8;by_cases hd0:d=0
     ·subst hd0;simp(disch:=first|omega|(simp only[RY]<;>omega)|decide)only[↓RD,RZ,Nat.reduceAdd,g9];refine⟨s9,w9,rfl,?_⟩;unfold padb;rw[if_pos rfl,List.append_nil];exact a9.by.low (by omega)
     ·simp(disch:=first|omega|(simp only[RY]<;>omega)|decide)only[↓RD,RZ,Nat.reduceAdd,g9];refine okb_apfz (m:=d) a9 k9.next (by simp; omega) (by simp; omega) λw10 H10 a10 b10=>?_;obtain⟨c,rfl⟩:∃c,d=c+1:=⟨d-1,by omega⟩;have ea:Ab H2.next H10 w10 ((hb p++p.pay++List.replicate c 0)++[0]):=by
       have e1:(hb p++p.pay++List.replicate c 0)++[0]=(hb p++p.pay)++List.replicate (c+1) 0:=by
        rw[List.append_assoc (hb p++p.pay),←List.replicate_succ']
       show Apf _ _ _ _ _ _ _;rw[e1,List.map_append,List.length_append,List.map_replicate,List.length_replicate];exact a10
      have k10:=k9.trans b10;have g10:H10.get H.next = _:=(b10.same _ (by omega)).trans g9;have s10:Grow H H10:=Grow.bel7' s02 (by omega) k10;generalize hlm:hb p++p.pay++List.replicate c 0=lm at *;have hll:lm.length≤1200:=by rw[←hlm]; simp only[List.length_append,List.length_replicate]; omega
      have hvl:=ea.lc.vlen;obtain⟨id,cap,o,rfl,hb10,h1,h2,hcap⟩:=ea.mem (by simp);rw[List.length_append,List.length_singleton]at hvl hcap ⊢;have e5:((lm.length+1:Nat):Int)-1=(lm.length:Nat):=by omega
      have hia:∀{k:IntKind},Ax.iaddr none 1 (.sl id 0 (lm.length+1) cap) (.int k (lm.length:Nat))=some (.ptr id lm.length):=λ{k}=>by
       have:=zj7 (id:=id) (off:=0) (len:=lm.length+1) (c:=cap) (k:=k) (i:=((lm.length:Nat):Int)) (e:=1) (by omega) (by omega);simpa using this
      have e6:(c+1)%256=c+1:=by omega
      simp(disch:=first|omega|(simp only[RY]<;>omega)|decide)only[↓RD,RZ,Nat.reduceAdd,hvl,e5,g10,hia,e6];refine zrz (size:=1) (off:=lm.length) (cells':=(lm++[c+1]).map by8) hb10 ⟨by rfl,by simp,by rfl⟩ (zri lm 0 (c+1)) ?_;simp(disch:=first|omega|(simp only[RY]<;>omega)|decide)only[↓RD,RZ,Nat.reduceAdd];refine⟨s10.set (by omega) _,_,rfl,?_⟩;have efin:hb p++p.pay++padb (c+1)=lm++[c+1]:=by
       unfold padb;rw[if_neg (by omega),←hlm];simp
      rw[efin];refine⟨?_,λi hi=>?_,by simpa using hcap⟩
      ·simp only[rcells,zai,Option.bind_some];rw[if_pos (by simp),List.drop_zero,List.take_of_length_le (by simp)];simp
      ·simp only[V.pid,Option.some.injEq]at hi; subst hi; exact⟨by omega,by rw[zan]; omega⟩
end Go.Ax.R7
/- St10 -/
namespace Go.Ax.SU
open Go.Ax Go.Proofs
structure AppS (lo:Nat) (P:Nat→Prop) (H:Heap) (v:V) (ls:List (List Nat)):Prop where
 ex:∃ws:List (List Nat×V),ws.map (·.1)=ls∧App zal 1 lo H v (ws.map (·.2)) ws.length∧∀w∈ws,By 0 H w.2 w.1∧∀id,w.2.pid=some id→v.pid≠some id∧P id
theorem AppS.nil{lo:Nat}{P:Nat→Prop}{H:Heap}:AppS lo P H .nils []:=⟨[],rfl,App.nil,λw h=>by cases h⟩
theorem AppS.grow{lo:Nat}{P:Nat→Prop}{H H':Heap}{v:V} {ls:List (List Nat)} (h:AppS lo P H v ls) (g:Grow H H'):AppS lo P H' v ls:=by
 obtain⟨ws,h1,h2,h3⟩:=h;exact⟨ws,h1,R7.App.keep h2 (g.keep lo),λw hw=>⟨(h3 w hw).1.ext g,(h3 w hw).2⟩⟩
theorem zo6{β:Type}{bytes lo:Nat}{P:Nat→Prop}{H:Heap}{x y bv:V} {ls:List (List Nat)} {b:List Nat} {f:V→M β} {Q:β→Heap→Prop} (hx:AppS lo P H x ls) (hlo:lo≤H.next) (hy:acells 1 H y=some ([bv],1)) (hbv:By 0 H bv b) (hd:∀id,bv.pid=some id→x.pid≠some id∧P id)
  (hb:(ls.length+1)*bytes≤140737488355328) (hm:ls.length+1≤140737488355328)
  (k:∀x' H',AppS lo P H' x' (ls++[b])→Step H H' x.pid.toList x'.pid.toList→Ok (f x') H' Q):Ok ((mappend zal 1 bytes x y).bind f) H Q:=by
 obtain⟨ws,rfl,h2,h3⟩:=hx;rw[List.length_map]at hb hm;refine zo7 h2 hlo hy rfl hb hm λx' H' h s=>k x' H' ⟨ws++[(b,bv)],by simp,?_,?_⟩ s
 ·simpa using h
 ·have hpid:∀id,x'.pid=some id→x.pid=some id∨H.next≤id:=λid hi=>by
   rcases s.own id (by simp[hi]) with h|h
   ·exact .inl (by simpa [zcK]using h)
   ·exact .inr h.1
  have key:∀(u:V) (l:List Nat),By 0 H u l→(∀id,u.pid=some id→x.pid≠some id∧P id)→By 0 H' u l∧∀id,u.pid=some id→x'.pid≠some id∧P id:=by
   intro u l hu hn;refine⟨Lc.step hu s λid hi hF=>(hn id hi).1 (by simpa [zcK]using hF),λid hi=>⟨λhe=>?_,(hn id hi).2⟩⟩;rcases hpid id he with h|h
   ·exact(hn id hi).1 h
   ·have:=(hu.own id hi).2; omega
  intro w hw;rcases List.mem_append.1 hw with hw|hw
  ·exact key _ _ (h3 w hw).1 (h3 w hw).2
  ·simp only[List.mem_singleton]at hw;subst hw;exact key _ _ hbv hd
theorem AppS.low{lo:Nat}{P:Nat→Prop}{H:Heap}{v:V} {ls:List (List Nat)} (h:AppS lo P H v ls) {i:Nat} (hi:v.pid=some i):lo≤i∧i<H.next:=by
 obtain⟨ws,h1,h2,h3⟩:=h;exact h2.lc.own i hi
theorem AppS.vlen{lo:Nat}{P:Nat→Prop}{H:Heap}{v:V} {ls:List (List Nat)} (h:AppS lo P H v ls):Ax.vlen v=some (.int .i64 (ls.length:Nat)):=by
 obtain⟨ws,rfl,h2,h3⟩:=h;rw[List.length_map];exact h2.lc.vlen
theorem bind_pure'{α:Type}(x:M α):x.bind M.pure=x:=by
 funext H;unfold M.bind M.pure;cases x H with
 | none=>rfl
 | some q=>rfl
theorem zvG{bytes lo:Nat}{P:Nat→Prop}{H:Heap}{x y bv:V} {ls:List (List Nat)} {b:List Nat} (hc:H.Cl) (hx:AppS lo P H x ls) (hlo:lo≤H.next) (hy:acells 1 H y=some ([bv],1)) (hbv:By 0 H bv b) (hd:∀id,bv.pid=some id→x.pid≠some id∧P id)
  (hb:(ls.length+1)*bytes≤140737488355328) (hm:ls.length+1≤140737488355328):Ok (mappend zal 1 bytes x y) H λx' H'=>AppS lo P H' x' (ls++[b])∧Step H H' x.pid.toList x'.pid.toList∧H'.Cl:=by
 have h:Ok ((mappend zal 1 bytes x y).bind M.pure) H λx' H'=>AppS lo P H' x' (ls++[b])∧Step H H' x.pid.toList x'.pid.toList:=zo6 hx hlo hy hbv hd hb hm λx' H' h s=>zh0 ⟨h,s⟩;rw[bind_pure']at h;obtain⟨r,H',e,h1,h2⟩:=h;exact⟨r,H',e,h1,h2,(zns (G:=⟨0⟩) _ _ _ _ _ H r H' ⟨hc,Nat.zero_le _⟩ e).2.cl⟩
def pcz(b:List Nat)(k:Nat):List (List Nat):=(List.range k).map λj=>(b.drop (100*j)).take 100
theorem pcz_succ(b:List Nat)(k:Nat):pcz b (k+1)=pcz b k++[(b.drop (100*k)).take 100]:=by
 unfold pcz;rw[List.range_succ,List.map_append]; rfl
def pcsL(b:List Nat):List (List Nat):=pcz b ((b.length-1)/100)++[b.drop (100*((b.length-1)/100))]
theorem zpP{H:Heap}{v:V}:acells 1 (H.new ⟨zal,[v],none⟩) (.sl H.next 0 1 (.fix 1))=some ([v],1):=by
 simp only[acells,rcells,zag,Option.bind_some];rfl
theorem grow_step{H H1 H':Heap}{F F':List Nat}(g:Grow H H1)(s:Step H1 H' F F')(hF:∀i∈F,H.next≤i):Grow H H' :=
 ⟨Nat.le_trans g.next s.next,λi hi=>(s.same i (Nat.lt_of_lt_of_le hi g.next) λe=>by have:=hF i e; omega).trans (g.same i hi)⟩
theorem zsm{lo:Nat}{H:Heap}{v:V}{b:List Nat}(hv:By lo H v b)(hl:b.length≤1048576) :
  Ok (sem T zd9 [v]) H λr H'=>AppS H.next (λi=>v.pid=some i) H' r (pcsL b)∧Grow H H':=by
 refine znL ?_;unfold zkp ug;have hvp:∀i,v.pid=some i→i<H.next:=λi hi=>(hv.own i hi).2;have loop:Ok (M.iter (zdP (sem T) .nils) [v,.nils]) H λr H'=>∃v' x,r = .ex 0 [v',x]∧v'.pid=v.pid∧By lo H' v' (b.drop (100*((b.length-1)/100)))∧AppS H.next (λi=>v.pid=some i) H' x (pcz b ((b.length-1)/100))∧Grow H H':=by
  refine zaV (λj L H'=>∃v' x,L=[v',x]∧v'.pid=v.pid∧By lo H' v' (b.drop (100*j))∧AppS H.next (λi=>v.pid=some i) H' x (pcz b j)∧Grow H H') ((b.length-1)/100) ?_ ?_ ?_
  ·exact⟨v,.nils,rfl,rfl,by simpa using hv,AppS.nil,Grow.refl _⟩
  ·rintro j L H1 hj ⟨v1,x1,rfl,p1,b1,a1,s1⟩;have n1:=s1.next;have hlen:(b.drop (100*j)).length=b.length-100*j:=List.length_drop;obtain⟨va,-,ha,-,hva,pa⟩:=zdd b1 (x:=0) (y:=100) (by omega) (by omega) (by omega);have ha2:∀{k':IntKind},zaA .sl 1 v1 none (some (.int k' 100)) none=some va:=ha rfl;obtain⟨vb,-,-,hb,hvb,pb⟩:=zdd b1 (x:=100) (y:=((b.drop (100*j)).length:Nat)) (by omega) (by omega) (by omega);have hb2:∀{k':IntKind},zaA .sl 1 v1 (some (.int k' 100)) none none=some vb:=hb rfl;have hvl:=b1.vlen;have hle:(100:Int)<((b.drop (100*j)).length:Nat):=by omega
   have e100:(100:Int).toNat=100:=rfl;have e0:(0:Int).toNat=0:=rfl;rw[e100,e0,List.drop_zero,Nat.sub_zero]at hva;rw[e100,Int.toNat_natCast,List.drop_drop,List.take_of_length_le (by rw[List.length_drop,hlen]; omega)]at hvb;have vc:=hva.cells1;have vo:=hva.okc;unfold zdP uL uB uc ug;simp(maxSteps:=1000000) (disch:=first|omega|(simp only[RY]<;>omega)|decide)only[↓RD,RZ,eq_self,Int.reduceToNat,Int.reduceAdd,Int.reduceSub,Int.reduceMul,Nat.reduceAdd,Nat.reduceSub,Nat.reduceMul,Nat.reduceDiv,Nat.reduceMod,Nat.reduceBEq,Nat.reduceLeDiff,hvl,hle,ha2,vc,vo];rw[zaT];have s2:=Grow.new H1 ⟨zal,[va],none⟩;have hpz:(pcz b j).length=j:=by unfold pcz; rw[List.length_map,List.length_range]
   refine zo6 (a1.grow s2) (by rw[zaf]; omega) zpP ((hva.ext s2).low (Nat.zero_le _)) (λi hi=>⟨λe=>?_,by rw[←p1,←pa]; exact hi⟩) (by omega) (by omega) λx2 H2 a2 s3=>?_
   ·rw[pa,p1]at hi;have:=hvp i hi;have:=(a1.low e).1;omega
   have sT:Grow H H2:=grow_step (s1.trans s2) s3 λi hi=>(a1.low (by simpa [zcK]using hi)).1;simp(maxSteps:=1000000) (disch:=first|omega|(simp only[RY]<;>omega)|decide)only[↓RD,RZ,eq_self,Int.reduceToNat,Int.reduceAdd,Int.reduceSub,Int.reduceMul,Nat.reduceAdd,Nat.reduceSub,Nat.reduceMul,Nat.reduceDiv,Nat.reduceMod,Nat.reduceBEq,Nat.reduceLeDiff,hb2];refine⟨vb,x2,rfl,pb.trans p1,?_,by rw[pcz_succ]; exact a2,sT⟩;have:By lo H2 vb (b.drop (100*j+100)):=Lc.step (hvb.ext s2) s3 λi hi e=>by
    rw[pb,p1]at hi;have:=hvp i hi;have:=(a1.low (by simpa [zcK]using e)).1;omega
   exact this
  ·rintro L H1 ⟨v1,x1,rfl,p1,b1,a1,s1⟩;have hlen:(b.drop (100*((b.length-1)/100))).length=b.length-100*((b.length-1)/100):=List.length_drop;have hvl:=b1.vlen;have hle:¬(100:Int)<((b.drop (100*((b.length-1)/100))).length:Nat):=by omega
   unfold zdP uL uB uc ug;simp(maxSteps:=1000000) (disch:=first|omega|(simp only[RY]<;>omega)|decide)only[↓RD,RZ,eq_self,Int.reduceToNat,Int.reduceAdd,Int.reduceSub,Int.reduceMul,Nat.reduceAdd,Nat.reduceSub,Nat.reduceMul,Nat.reduceDiv,Nat.reduceMod,Nat.reduceBEq,Nat.reduceLeDiff,hvl,hle,decide_eq_false hle];exact⟨v1,x1,rfl,p1,b1,a1,s1⟩
 refine zol (zam loop ?_);rintro _ H1 ⟨v1,x1,rfl,p1,b1,a1,s1⟩;have n1:=s1.next;have vc:=b1.cells1;have vo:=b1.okc;have hpz:(pcz b ((b.length-1)/100)).length=(b.length-1)/100:=by unfold pcz; rw[List.length_map,List.length_range]
 show Ok _ H1 _;simp(maxSteps:=1000000) (disch:=first|omega|(simp only[RY]<;>omega)|decide)only[↓RD,RZ,eq_self,Int.reduceToNat,Int.reduceAdd,Int.reduceSub,Int.reduceMul,Nat.reduceAdd,Nat.reduceSub,Nat.reduceMul,Nat.reduceDiv,Nat.reduceMod,Nat.reduceBEq,Nat.reduceLeDiff,vc,vo];rw[zaT];have s2:=Grow.new H1 ⟨zal,[v1],none⟩;refine zo6 (a1.grow s2) (by rw[zaf]; omega) zpP ((b1.ext s2).low (Nat.zero_le _)) (λi hi=>⟨λe=>?_,by rw[←p1]; exact hi⟩) (by omega) (by omega) λx2 H2 a2 s3=>?_
 ·rw[p1]at hi;have:=hvp i hi;have:=(a1.low e).1;omega
 simp(maxSteps:=1000000) (disch:=first|omega|(simp only[RY]<;>omega)|decide)only[↓RD,RZ,eq_self,Int.reduceToNat,Int.reduceAdd,Int.reduceSub,Int.reduceMul,Nat.reduceAdd,Nat.reduceSub,Nat.reduceMul,Nat.reduceDiv,Nat.reduceMod,Nat.reduceBEq,Nat.reduceLeDiff];exact⟨a2,grow_step (s1.trans s2) s3 λi hi=>(a1.low (by simpa [zcK]using hi)).1⟩
structure KeepB (lo:Nat) (S:List Nat) (H H':Heap):Prop where
 next:H.next≤H'.next
 same:∀i,i<lo→i∉S→H'.get i=H.get i
theorem KeepB.refl(lo:Nat)(S:List Nat)(H:Heap):KeepB lo S H H:=⟨Nat.le_refl _,λ_ _ _=>rfl⟩
theorem KeepB.trans{lo:Nat}{S:List Nat}{H H1 H2:Heap}(h:KeepB lo S H H1)(k:KeepB lo S H1 H2):KeepB lo S H H2:=⟨Nat.le_trans h.next k.next,λi hi hn=>(k.same i hi hn).trans (h.same i hi hn)⟩
theorem KeepB.ofAtS{lo:Nat}{S S':List Nat}{H H':Heap}(h:AtS S' H H')(hl:lo≤H.next)(hs:∀i∈S',i∈S∨lo≤i):KeepB lo S H H':=⟨h.next,λi hi hn=>h.same i (by omega) λe=>by rcases hs i e with h|h; exact hn h; omega⟩
theorem KeepB.ofGrow{lo:Nat}{S:List Nat}{H H':Heap}(h:Grow H H')(hl:lo≤H.next):KeepB lo S H H':=⟨h.next,λi hi hn=>h.same i (by omega)⟩
theorem AppS.keepB{lo l0:Nat}{P:Nat→Prop}{S:List Nat}{H H':Heap}{v:V} {ls:List (List Nat)} (h:AppS lo P H v ls) (hl:H.next≤l0) (k:KeepB l0 S H H') (hv:∀i,v.pid=some i→i∉S) (hP:∀i,P i→i∉S):AppS lo P H' v ls:=by
 obtain⟨ws,h1,h2,h3⟩:=h;refine⟨ws,h1,?_,λw hw=>⟨?_,(h3 w hw).2⟩⟩
 ·have ho:=h2.lc.own;generalize hcs:ws.map (·.2)=cs at h2;generalize ws.length=m at h2;cases h2 with
  | opn h ho=>exact .opn (h.to λi hi=>k.same i (Nat.lt_of_lt_of_le (ho i hi).2 hl) (hv i hi)) λi hi=>⟨(ho i hi).1,Nat.lt_of_lt_of_le (ho i hi).2 k.next⟩
  | lit h h0 h1=>exact .lit (by rw[k.same _ (by omega) (hv _ rfl),h]) h0 (Nat.lt_of_lt_of_le h1 k.next)
 ·have hb:=(h3 w hw).1;exact⟨by rw[ze4 λi hi=>k.same i (Nat.lt_of_lt_of_le (hb.own i hi).2 hl) (hP i ((h3 w hw).2 i hi).2)]; exact hb.rc,λi hi=>⟨(hb.own i hi).1,Nat.lt_of_lt_of_le (hb.own i hi).2 k.next⟩,hb.cap⟩
end Go.Ax.SU
/- St11 -/
namespace Go.Ax.SU
open Go.Ax Go.Proofs
theorem AppS.at{lo:Nat}{P:Nat→Prop}{H:Heap}{v:V} {ls:List (List Nat)} (h:AppS lo P H v ls) {i:Nat} (hi:i<ls.length):∃p bv,(∀{k:IntKind},Ax.iaddr none 1 v (.int k i)=some p)∧Pl H p [bv] v.pid∧By 0 H bv ls[i]∧∀id,bv.pid=some id→v.pid≠some id∧P id:=by
 obtain⟨ws,rfl,h2,h3⟩:=h;rw[List.length_map]at hi;obtain⟨p,hp,hl⟩:=h2.lc.at (i:=(i:Nat)) (by omega) (by omega);have e:((ws.map (·.2)).drop (i*1)).take 1=[ws[i].2]:=by
  rw[Nat.mul_one,List.drop_eq_getElem_cons (by rw[List.length_map]; exact hi),List.getElem_map]; rfl
 rw[Int.toNat_natCast,e]at hl;have h4:=h3 _ (List.getElem_mem hi);refine⟨p,ws[i].2,hp,?_,?_,h4.2⟩
 ·simpa using hl
 ·simpa using h4.1
def pktF(mk:Bool)(q ts ssrc:Nat)(dd pay:List Nat):R7.Pkt:=⟨mk,96,q,ts,ssrc,[],48862,[(1,dd)],0,pay⟩
theorem pkt_ok{mk:Bool}{q ts ssrc:Nat}{dd pay:List Nat}(h1:1≤dd.length)(h2:dd.length≤16)(hp:pay.length≤1000):R7.bytes (pktF mk q ts ssrc dd pay) = .ok (R7.hb (pktF mk q ts ssrc dd pay)++pay):=by
 have hg:R7.good (pktF mk q ts ssrc dd pay)=true:=by
  simp[R7.good,pktF,R7.goodX,h1,h2]
 have hx:(R7.xsb (pktF mk q ts ssrc dd pay)).length=1+dd.length:=by
  simp[R7.xsb,pktF,R7.xb]; omega
 have hl:(R7.hb (pktF mk q ts ssrc dd pay)).length≤100:=by
  unfold R7.hb R7.extb R7.elems;rw[List.length_append,R7.hb0_len,if_neg (by show ¬((48862:Int)=0); decide)];simp only[List.length_append,List.length_replicate,hx,R7.bn_len];have:R7.padn (1+dd.length)≤3:=by unfold R7.padn; omega
  show 12+4*0 + _≤100;omega
 unfold R7.bytes;rw[if_neg (by rw[hg]; decide),if_neg (by show ¬(1200 < _+pay.length+(0:Int).toNat); have:(0:Int).toNat=0:=rfl; omega)];congr 1;show _++pay++R7.padb 0 = _;rw[show R7.padb 0=[] from rfl,List.append_nil]
theorem exs_1{H:Heap}{x:Nat}{bv:V}{b:List Nat} (g:H.get x=some ⟨zcG,[.int .i64 1,bv],none⟩) (hx:x<H.next) (hb:By 0 H bv b):R7.Exs 0 H (.sl x 0 1 (.fix 1)) [(1,b)]:=by
 refine⟨[((1,b),bv)],rfl,⟨?_,λi hi=>?_,Nat.le_refl _⟩,λw hw=>?_⟩
 ·simp only[rcells,g,Option.bind_some];rfl
 ·injection hi with hi; subst hi; exact⟨Nat.zero_le _,hx⟩
 ·simp only[List.mem_singleton]at hw;subst hw;exact hb
end Go.Ax.SU
/- St12 -/
namespace Go.Ax.SU
open Go.Ax Go.Proofs
theorem pl_one{H:Heap}{p bv:V}{own:Option Nat} (h:Pl H p [bv] own):LdR none H p bv:=λf Q=>by rw[h.ld0 (by simp)]; exact zq6
theorem By.not_u8{lo:Nat}{H:Heap}{v:V}{l:List Nat}(h:By lo H v l):∀n,v≠.int .u8 n:=λn e=>by
 have:=h.rc;rw[e]at this;cases this
theorem AppS.odd{lo:Nat}{P:Nat→Prop}{H:Heap}{v:V} {ls:List (List Nat)} (h:AppS lo P H v ls):∀i,v.pid=some i→∃b,H.get i=some b∧Odd b:=λi hi=>by
 obtain⟨ws,h1,h2,h3⟩:=h;generalize hcs:ws.map (·.2)=cs at h2;generalize ws.length=m at h2;have hcell:∀w∈cs,∀n,w≠.int .u8 n:=λw hw=>by
  rw[←hcs]at hw;obtain⟨u,hu,rfl⟩:=List.mem_map.1 hw;exact By.not_u8 (h3 u hu).1
 cases h2 with
 | opn h ho =>
  rcases h with⟨rfl,_⟩|⟨j,rfl,hg,_⟩
  ·cases hi
  ·injection hi with hi
   subst hi;exact⟨_,hg,by show zal≠_; decide,by show zal≠_; decide,by show zal≠_; decide,hcell⟩
 | lit h h0 h1 =>
  injection hi with hi
  subst hi;exact⟨_,h,by show zal≠_; decide,by show zal≠_; decide,by show zal≠_; decide,λw hw=>by cases hw⟩
set_option maxHeartbeats 4000000 in
theorem fbody{s sn fq a id sl ad e f q n j ts ssrc:Nat}{sv rv rcv pl ov:V}{o st en nw nw':Bool}{idv fnv x1 x2 x3 x4 x5 x6 z1 z2 z3 z4 z5 z6 y1 y2 y3:V}{lp lo:Nat}{P:Nat→Prop} {ls out:List (List Nat)} {dd:List Nat} {L:List (Nat×Blk)} {H:Heap} {K:Ky} {se ss c:Nat}
  (hc:H.Cl) (hg:H.get s=some ⟨zac,stR a id sv rv sl ad e (.ptr sn 0) rcv f q true o,none⟩)
  (hs:SndM (s+1) H sn (id:Nat) (sl:Nat) (some (K,(se:Nat),(ss:Nat),c)))
  (hf:H.get fq=some ⟨zaL,[.bool st,.bool en,idv,fnv,.bool nw,x1,x2,x3,x4,x5,x6,.bool false,.int .u32 0,.bool false,.bool false,.bool false,y1,y2,y3],none⟩)
  (hp:AppS lp P H pl ls) (hn:ls.length=n) (hn8:n≤1000) (hj:j<n) (h8:∀l∈ls,Ok8 l∧l.length≤100)
  (ns:sn≠s) (nf:sn≠fq) (sf:s≠fq) (hl:Has H L) (hlf:fq∉L.map Prod.fst) (hls:s∉L.map Prod.fst) (hln:sn∉L.map Prod.fst)
  (ho:AppS lo (λi=>lo≤i) H ov out) (hlo:lo≤H.next) (hos:∀i,i=s∨i=sn∨i=fq→i<lo) (hout:out.length≤1000)
  (hx8:∀v∈[idv,fnv,x1,x2,x3,x4,x5,x6,y1,y2,y3],∀n,v≠.int .u8 n) (hq:q<65535) (hts:ts<4294967296) (hsr:ssrc<4294967296) (hKt:K.t≤32) (hKw:∀w∈K.ws,Word w)
  (hz:(j=0∧nw'=nw∧[z1,z2,z3,z4,z5,z6]=[x1,x2,x3,x4,x5,x6])∨(0<j∧nw'=false∧[z1,z2,z3,z4,z5,z6]=nS))
  (hss:∀{H:Heap},H.get s=some ⟨zac,stR a id sv rv sl ad e (.ptr sn 0) rcv f q true o,none⟩→Ok (sem T zaJ [.ptr s 0,.int .i64 0]) H λv H'=>v = .int .u32 (ssrc:Nat)∧H'=H)
  (hd1:1≤dd.length) (hd2:dd.length≤16)
  (hdd:∀{H:Heap} {k':Nat},H.Cl→Has H L→(∀i∈L.map Prod.fst,i<k')→Has H (strL k')→Ok (sem T zaZ [.agg [.bool (decide (j=0)),.bool (decide (j+1=n)),idv,fnv,.bool nw',z1,z2,z3,z4,z5,z6,.bool false,.int .u32 0,.bool false,.bool false,.bool false,y1,y2,y3],.agg (strV k')]) H λr H'=>∃v,r = .tup [v,.int .i64 0]∧By H.next H' v dd∧Grow H H'∧H'.Cl) :
  Ok (zbV (sem T) (.int .i64 (n:Nat)) pl pl (.ptr fq 0) (.int .u32 (ts:Nat)) (.ptr s 0) (.int .i64 0) (.ptr s 24) [ov,.int .i64 (j:Nat)]) H λr H'=>∃ov',r = .nrm [ov',.int .i64 ((j:Nat)+1)] ∧
   H'.get s=some ⟨zac,stR a id sv rv sl ad e (.ptr sn 0) rcv f (q+1) true o,none⟩ ∧
   SndM (s+1) H' sn (id:Nat) (sl:Nat) (some (K,(se:Nat),(ss:Nat),(c+1)%18446744073709551616)) ∧
   H'.get fq=some ⟨zaL,[.bool (decide (j=0)),.bool (decide (j+1=n)),idv,fnv,.bool nw',z1,z2,z3,z4,z5,z6,.bool false,.int .u32 0,.bool false,.bool false,.bool false,y1,y2,y3],none⟩ ∧
   AppS lo (λi=>lo≤i) H' ov' (out++[R7.hb (pktF (decide (j+1=n)) q ts ssrc dd (zjp K c [] (ls[j]'(by omega))))++zjp K c [] (ls[j]'(by omega))]) ∧
   KeepB lo [s,sn,fq] H H'∧H'.Cl:=by
 have ls':=za1 hc hg;have lf:=za1 hc hf;have lsn:=hs.1;have hlt:((j:Nat):Int)<(n:Nat):=by omega
 obtain⟨p,bv,hp1,hp2,hbv,hpd⟩:=hp.at (i:=j) (by omega);have ld:=pl_one hp2;have h8j:=h8 _ (List.getElem_mem (by omega:j<ls.length));unfold zbV uL uM uS uT uF uNFM uNF uE uB uIM uO uU uc ug;have hg':=hg;unfold stR at hg';simp(maxSteps:=1000000) (disch:=first|omega|(simp only[RY]<;>omega)|decide)only[↓RD,RZ,eq_self,Int.reduceToNat,Int.reduceAdd,Int.reduceSub,Int.reduceMul,Nat.reduceAdd,Nat.reduceSub,Nat.reduceMul,Nat.reduceDiv,Nat.reduceMod,Nat.reduceBEq,Nat.reduceLeDiff,hlt,hp1,ld,hg'];rw[zaT];refine zae (zkW hc (SealS_ok hs (Lc.nil:By 0 _ .nils []) Ok8.nil hbv h8j.1 (by decide) (by omega))) ?_;rintro r1 H1 ⟨⟨hs1,a1,h1⟩,c1⟩;have hne:¬1000<ls[j].length:=by omega
 dsimp only at h1;rw[if_neg hne]at h1;obtain⟨v1,rfl,hv1⟩:=h1;unfold sealS at hs1;dsimp only at hs1;rw[if_neg hne]at hs1;have n1:=a1.next;have g1f:=(a1.same fq lf (by simp; exact nf.symm)).trans hf;have g1s:=(a1.same s ls' (by simp; exact ns.symm)).trans hg;have hpv:=hp.vlen;rw[hn]at hpv;have w:IntKind.i64.wrap (((n:Nat):Int)-1)=(n:Nat)-1:=wrap_i64 (by omega) (by omega);have d1:(((j:Nat):Int)==((n:Nat):Int)-1)=decide (j+1=n):=by
  rw[Bool.eq_iff_iff]; simp; omega
 have hsl:(zjp K c [] ls[j]).length≤1000:=by
  rw[zsh hKt];have:=zwa K.kid c;omega
 have hs8:Ok8 (zjp K c [] ls[j]):=seal_8 hKw h8j.1;generalize zjp K c [] ls[j]=sealed at *;have wj:IntKind.i64.wrap (((j:Nat):Int)+1)=(j:Nat)+1:=wrap_i64 (by omega) (by omega);have wq:IntKind.u16.wrap (((q:Nat):Int)+1)=((q+1:Nat):Int):=by rw[wrap_u16]; omega
 have hodd1:∃b,H1.get fq=some b∧Odd b:=⟨_,g1f,by show zaL≠_; decide,by show zaL≠_; decide,by show zaL≠_; decide,by
  intro v hv;simp only[List.mem_cons,List.not_mem_nil,or_false]at hv hx8;rcases hv with rfl|rfl|h|h|rfl|h|h|h|h|h|h|rfl|rfl|rfl|rfl|rfl|h|h|h<;>first|(intro n e; cases e; done)|exact hx8 v (by simp[h])⟩
 rcases hz with⟨hj0,rfl,hz⟩|⟨hj0,rfl,hz⟩
 all_goals
  simp only[nS,List.cons.injEq,and_true]at hz;obtain⟨e1,e2,e3,e4,e5,e6⟩:=hz;subst e1 e2 e3 e4 e5 e6
 case inl =>
  have hjn:¬(0:Int)<(j:Nat):=by omega
  have d0:(((j:Nat):Int)==0)=decide (j=0):=by rw[Bool.eq_iff_iff]; simp
  simp(maxSteps:=1000000) (disch:=first|omega|(simp only[RY]<;>omega)|decide)only[↓RD,RZ,eq_self,Int.reduceToNat,Int.reduceAdd,Int.reduceSub,Int.reduceMul,Nat.reduceAdd,Nat.reduceSub,Nat.reduceMul,Nat.reduceDiv,Nat.reduceMod,Nat.reduceBEq,Nat.reduceLeDiff,g1f,hpv,zaI,d0,d1,w,hjn,decide_eq_false hjn];rw[zaT];generalize hX:Heap.set H1 fq _=H2;have g2f:H2.get fq=some ⟨zaL,[.bool (decide (j=0)),.bool (decide (j+1=n)),idv,fnv,.bool nw',z1,z2,z3,z4,z5,z6,.bool false,.int .u32 0,.bool false,.bool false,.bool false,y1,y2,y3],none⟩:=by rw[←hX]; exact zai _ _ _
  have a2:AtS [fq] H1 H2:=by rw[←hX]; exact AtS.set _ (by simp) _
  have n2:H2.next=H1.next:=by rw[←hX]; rfl
  have c2:H2.Cl:=by rw[←hX]; exact zbZ c1 (by omega) _
  clear hX;have g2s:=(a2.same s (by omega) (by simp; exact sf)).trans g1s;have hs2:=hs1.atS a2 (by simp; exact nf) (by intro i hi; rw[List.mem_singleton]at hi; subst hi; exact hodd1);have hl2:=(hl.atS hc a1 (by intro i hi; rw[List.mem_singleton]at hi; subst hi; exact hln)).atS c1 a2 (by intro i hi; rw[List.mem_singleton]at hi; subst hi; exact hlf);refine zae (zhU c2) ?_;rintro _ H3 ⟨k',rfl,lk,hk,s3,c3⟩;have n3:=s3.next;have g3f:=(s3.same fq (by omega)).trans g2f;have g3s:=(s3.same s (by omega)).trans g2s;have hl3:=hl2.grow c2 s3;simp(maxSteps:=1000000) (disch:=first|omega|(simp only[RY]<;>omega)|decide)only[↓RD,RZ,eq_self,Int.reduceToNat,Int.reduceAdd,Int.reduceSub,Int.reduceMul,Nat.reduceAdd,Nat.reduceSub,Nat.reduceMul,Nat.reduceDiv,Nat.reduceMod,Nat.reduceBEq,Nat.reduceLeDiff,g2f,g3f];refine zae (hdd c3 hl3 (λi hi=>by have:=hl2.lt c2 i hi; omega) hk) ?_;rintro _ H4 ⟨ddv,rfl,hd4,s4,c4⟩;have n4:=s4.next;have g4f:=(s4.same fq (by omega)).trans g3f;have g4s:=(s4.same s (by omega)).trans g3s;have g4s':=g4s;unfold stR at g4s';have dc:=hd4.cells1;have dk:=hd4.okc;have vc:=hv1.cells1;have vk:=hv1.okc;simp(maxSteps:=1000000) (disch:=first|omega|(simp only[RY]<;>omega)|decide)only[↓RD,RZ,eq_self,Int.reduceToNat,Int.reduceAdd,Int.reduceSub,Int.reduceMul,Nat.reduceAdd,Nat.reduceSub,Nat.reduceMul,Nat.reduceDiv,Nat.reduceMod,Nat.reduceBEq,Nat.reduceLeDiff,g4f,g4s',dc,dk];refine zae (hss g4s) ?_;rintro _ H4b ⟨rfl,e4⟩;rw[e4];clear e4 H4b;have l4:s<H4.next:=by omega
  have l4':fq<H4.next:=by omega
  simp(maxSteps:=1000000) (disch:=first|omega|(simp only[RY]<;>omega)|decide)only[↓RD,RZ,eq_self,Int.reduceToNat,Int.reduceAdd,Int.reduceSub,Int.reduceMul,Nat.reduceAdd,Nat.reduceSub,Nat.reduceMul,Nat.reduceDiv,Nat.reduceMod,Nat.reduceBEq,Nat.reduceLeDiff,g4f,g4s',dc,dk,vc,vk,wq,zaI];rw[zaT];have hs4:=(hs2.grow s3).grow s4;have hv2:=((Lc.atS hv1 a2 (λi hi=>by simp only[List.mem_singleton]; have:=(hv1.own i hi).1; omega)).ext s3).ext s4;generalize hX:Heap.set (Heap.set (Heap.new (Heap.new H4 _) _) _ _) s _=H5;have n5:H5.next=H4.next+2:=by rw[←hX]; rfl
  have g5s:H5.get s=some ⟨zac,stR a id sv rv sl ad e (.ptr sn 0) rcv f (q+1) true o,none⟩:=by rw[←hX]; exact zai _ _ _
  have a5:AtS [s] H4 H5:=by rw[←hX]; exact(Grow.atS (((Grow.new _ _).trans (Grow.new _ _)).set (by omega) _) _).trans (AtS.set _ (by simp) _)
  have g5x:H5.get H4.next=some ⟨zcG,[.int .i64 1,ddv],none⟩:=by rw[←hX,zaj _ _ (by omega),zaj _ _ (by omega),zaM _ _ (by rw[zaf]; omega)]; exact zag _ _
  have c5:H5.Cl:=by rw[←hX]; exact zbZ (zbZ (zdV (zdV c4 _) _) (by rw[zaf,zaf]; omega) _) (by rw[zan,zaf,zaf]; omega) _
  clear hX;have g5f:=(a5.same fq l4' (by simp; exact sf.symm)).trans g4f;have hs5:=hs4.atL a5 (by simp; exact ns) (by intro i hi; rw[List.mem_singleton]at hi; subst hi; exact⟨by omega,_,g4s,by show zac≠_; decide,by show zac≠_; decide,by show zac≠_; decide⟩);have hv5:=Lc.atS hv2 a5 (λi hi=>by simp only[List.mem_singleton]; have:=(hv2.own i hi).1; omega);have hd5:=Lc.atS hd4 a5 (λi hi=>by simp only[List.mem_singleton]; have:=(hd4.own i hi).1; omega);refine zae (zkW c5 (R7.Bytes_ok (lo:=0) (p:=pktF (decide (j+1=n)) q ts ssrc dd sealed) ⟨.nils,_,v1,rfl,Lc.nil,exs_1 g5x (by omega) (hd5.low (Nat.zero_le _)),hv5.low (Nat.zero_le _)⟩ ⟨by show 0≤_; omega,by show 1≤_; omega,by show sealed.length≤_; omega,by intro x hx; rw[show(pktF (decide (j+1=n)) q ts ssrc dd sealed).exts=[(1,dd)] from rfl,List.mem_singleton]at hx; subst hx; show dd.length≤_; omega⟩ ⟨by show q<65536; omega,hts,hsr,by intro x hx; cases hx⟩)) ?_;rintro r6 H6 ⟨⟨s6,h6⟩,c6⟩;rw[pkt_ok hd1 hd2 hsl]at h6;obtain⟨wv,rfl,hw⟩:=h6;have n6:=s6.next;have wc:=hw.cells1;have wo:=hw.okc;simp(maxSteps:=1000000) (disch:=first|omega|(simp only[RY]<;>omega)|decide)only[↓RD,RZ,eq_self,Int.reduceToNat,Int.reduceAdd,Int.reduceSub,Int.reduceMul,Nat.reduceAdd,Nat.reduceSub,Nat.reduceMul,Nat.reduceDiv,Nat.reduceMod,Nat.reduceBEq,Nat.reduceLeDiff,wc,wo];rw[zaT];have s7:=Grow.new H6 ⟨zal,[wv],none⟩;have k6:KeepB H.next [s,sn,fq] H H6:=(((((KeepB.ofAtS a1 (Nat.le_refl _) (by simp)).trans (KeepB.ofAtS a2 (by omega) (by simp))).trans (KeepB.ofGrow s3 (by omega))).trans (KeepB.ofGrow s4 (by omega))).trans (KeepB.ofAtS a5 (by omega) (by simp))).trans (KeepB.ofGrow s6 (by omega));have ho6:=ho.keepB (Nat.le_refl _) k6 (λi hi=>by have h1:=(ho.low hi).1; have:=hos i; simp only[List.mem_cons,List.not_mem_nil,or_false]; omega) (λi hi=>by have hi:lo≤i:=hi; have:=hos i; simp only[List.mem_cons,List.not_mem_nil,or_false]; omega);refine zae (zvG (zdV c6 _) (ho6.grow s7) (by rw[zaf]; omega) zpP ((hw.ext s7).low (Nat.zero_le _)) (λi hi=>⟨λe=>?_,?_⟩) (by omega) (by omega)) ?_
  ·have h1:=(hw.own i hi).1;have:=(ho.low e).2;omega
  ·have h1:=(hw.own i hi).1;show lo≤i;omega
  rintro ov' H8 ⟨ho8,s8,c8⟩;have hF:∀i∈ov.pid.toList,lo≤i∧i<H.next:=λi hi=>ho.low (by simpa [zcK]using hi);have hF':∀i,i<lo→i∉ov.pid.toList:=λi hi e=>by have:=(hF i e).1; omega
  have t8:∀i,i<lo→H8.get i=H6.get i:=λi hi=>(s8.same i (by rw[zaf]; omega) (hF' i hi)).trans (s7.same i (by omega));have os1:=hos s (.inl rfl);have os2:=hos sn (.inr (.inl rfl));have os3:=hos fq (.inr (.inr rfl));have hs7:=(hs5.grow s6).grow s7;have hs8':=hs7.atS (S:=ov.pid.toList) ⟨s8.next,λi hi hn=>s8.same i hi hn⟩ (hF' sn os2) (λi hi=>(ho6.grow s7).odd i (by simpa [zcK]using hi));simp(maxSteps:=1000000) (disch:=first|omega|(simp only[RY]<;>omega)|decide)only[↓RD,RZ,eq_self,Int.reduceToNat,Int.reduceAdd,Int.reduceSub,Int.reduceMul,Nat.reduceAdd,Nat.reduceSub,Nat.reduceMul,Nat.reduceDiv,Nat.reduceMod,Nat.reduceBEq,Nat.reduceLeDiff,wj];refine⟨ov',rfl,(t8 s os1).trans ((s6.same s (by omega)).trans g5s),hs8',(t8 fq os3).trans ((s6.same fq (by omega)).trans g5f),ho8,⟨by have:=s8.next; rw[zaf]at this; omega,λi hi hn=>(t8 i hi).trans (k6.same i (by omega) hn)⟩,c8⟩
 case inr =>
  have hjn:(0:Int)<(j:Nat):=by omega
  have d0:(((j:Nat):Int)==0)=decide (j=0):=by rw[Bool.eq_iff_iff]; simp
  simp(maxSteps:=1000000) (disch:=first|omega|(simp only[RY]<;>omega)|decide)only[↓RD,RZ,eq_self,Int.reduceToNat,Int.reduceAdd,Int.reduceSub,Int.reduceMul,Nat.reduceAdd,Nat.reduceSub,Nat.reduceMul,Nat.reduceDiv,Nat.reduceMod,Nat.reduceBEq,Nat.reduceLeDiff,g1f,hpv,zaI,d0,d1,w,hjn,decide_eq_true hjn];rw[zaT];generalize hX:Heap.set H1 fq _=H2;have g2f:H2.get fq=some ⟨zaL,[.bool (decide (j=0)),.bool (decide (j+1=n)),idv,fnv,.bool false,.int .i64 0,.int .i64 0,.nils,.int .i64 0,.nils,.nils,.bool false,.int .u32 0,.bool false,.bool false,.bool false,y1,y2,y3],none⟩:=by rw[←hX]; exact zai _ _ _
  have a2:AtS [fq] H1 H2:=by rw[←hX]; exact AtS.set _ (by simp) _
  have n2:H2.next=H1.next:=by rw[←hX]; rfl
  have c2:H2.Cl:=by rw[←hX]; exact zbZ c1 (by omega) _
  clear hX;have g2s:=(a2.same s (by omega) (by simp; exact sf)).trans g1s;have hs2:=hs1.atS a2 (by simp; exact nf) (by intro i hi; rw[List.mem_singleton]at hi; subst hi; exact hodd1);have hl2:=(hl.atS hc a1 (by intro i hi; rw[List.mem_singleton]at hi; subst hi; exact hln)).atS c1 a2 (by intro i hi; rw[List.mem_singleton]at hi; subst hi; exact hlf);refine zae (zhU c2) ?_;rintro _ H3 ⟨k',rfl,lk,hk,s3,c3⟩;have n3:=s3.next;have g3f:=(s3.same fq (by omega)).trans g2f;have g3s:=(s3.same s (by omega)).trans g2s;have hl3:=hl2.grow c2 s3;simp(maxSteps:=1000000) (disch:=first|omega|(simp only[RY]<;>omega)|decide)only[↓RD,RZ,eq_self,Int.reduceToNat,Int.reduceAdd,Int.reduceSub,Int.reduceMul,Nat.reduceAdd,Nat.reduceSub,Nat.reduceMul,Nat.reduceDiv,Nat.reduceMod,Nat.reduceBEq,Nat.reduceLeDiff,g2f,g3f];refine zae (hdd c3 hl3 (λi hi=>by have:=hl2.lt c2 i hi; omega) hk) ?_;rintro _ H4 ⟨ddv,rfl,hd4,s4,c4⟩;have n4:=s4.next;have g4f:=(s4.same fq (by omega)).trans g3f;have g4s:=(s4.same s (by omega)).trans g3s;have g4s':=g4s;unfold stR at g4s';have dc:=hd4.cells1;have dk:=hd4.okc;have vc:=hv1.cells1;have vk:=hv1.okc;simp(maxSteps:=1000000) (disch:=first|omega|(simp only[RY]<;>omega)|decide)only[↓RD,RZ,eq_self,Int.reduceToNat,Int.reduceAdd,Int.reduceSub,Int.reduceMul,Nat.reduceAdd,Nat.reduceSub,Nat.reduceMul,Nat.reduceDiv,Nat.reduceMod,Nat.reduceBEq,Nat.reduceLeDiff,g4f,g4s',dc,dk];refine zae (hss g4s) ?_;rintro _ H4b ⟨rfl,e4⟩;rw[e4];clear e4 H4b;have l4:s<H4.next:=by omega
  have l4':fq<H4.next:=by omega
  simp(maxSteps:=1000000) (disch:=first|omega|(simp only[RY]<;>omega)|decide)only[↓RD,RZ,eq_self,Int.reduceToNat,Int.reduceAdd,Int.reduceSub,Int.reduceMul,Nat.reduceAdd,Nat.reduceSub,Nat.reduceMul,Nat.reduceDiv,Nat.reduceMod,Nat.reduceBEq,Nat.reduceLeDiff,g4f,g4s',dc,dk,vc,vk,wq,zaI];rw[zaT];have hs4:=(hs2.grow s3).grow s4;have hv2:=((Lc.atS hv1 a2 (λi hi=>by simp only[List.mem_singleton]; have:=(hv1.own i hi).1; omega)).ext s3).ext s4;generalize hX:Heap.set (Heap.set (Heap.new (Heap.new H4 _) _) _ _) s _=H5;have n5:H5.next=H4.next+2:=by rw[←hX]; rfl
  have g5s:H5.get s=some ⟨zac,stR a id sv rv sl ad e (.ptr sn 0) rcv f (q+1) true o,none⟩:=by rw[←hX]; exact zai _ _ _
  have a5:AtS [s] H4 H5:=by rw[←hX]; exact(Grow.atS (((Grow.new _ _).trans (Grow.new _ _)).set (by omega) _) _).trans (AtS.set _ (by simp) _)
  have g5x:H5.get H4.next=some ⟨zcG,[.int .i64 1,ddv],none⟩:=by rw[←hX,zaj _ _ (by omega),zaj _ _ (by omega),zaM _ _ (by rw[zaf]; omega)]; exact zag _ _
  have c5:H5.Cl:=by rw[←hX]; exact zbZ (zbZ (zdV (zdV c4 _) _) (by rw[zaf,zaf]; omega) _) (by rw[zan,zaf,zaf]; omega) _
  clear hX;have g5f:=(a5.same fq l4' (by simp; exact sf.symm)).trans g4f;have hs5:=hs4.atL a5 (by simp; exact ns) (by intro i hi; rw[List.mem_singleton]at hi; subst hi; exact⟨by omega,_,g4s,by show zac≠_; decide,by show zac≠_; decide,by show zac≠_; decide⟩);have hv5:=Lc.atS hv2 a5 (λi hi=>by simp only[List.mem_singleton]; have:=(hv2.own i hi).1; omega);have hd5:=Lc.atS hd4 a5 (λi hi=>by simp only[List.mem_singleton]; have:=(hd4.own i hi).1; omega);refine zae (zkW c5 (R7.Bytes_ok (lo:=0) (p:=pktF (decide (j+1=n)) q ts ssrc dd sealed) ⟨.nils,_,v1,rfl,Lc.nil,exs_1 g5x (by omega) (hd5.low (Nat.zero_le _)),hv5.low (Nat.zero_le _)⟩ ⟨by show 0≤_; omega,by show 1≤_; omega,by show sealed.length≤_; omega,by intro x hx; rw[show(pktF (decide (j+1=n)) q ts ssrc dd sealed).exts=[(1,dd)] from rfl,List.mem_singleton]at hx; subst hx; show dd.length≤_; omega⟩ ⟨by show q<65536; omega,hts,hsr,by intro x hx; cases hx⟩)) ?_;rintro r6 H6 ⟨⟨s6,h6⟩,c6⟩;rw[pkt_ok hd1 hd2 hsl]at h6;obtain⟨wv,rfl,hw⟩:=h6;have n6:=s6.next;have wc:=hw.cells1;have wo:=hw.okc;simp(maxSteps:=1000000) (disch:=first|omega|(simp only[RY]<;>omega)|decide)only[↓RD,RZ,eq_self,Int.reduceToNat,Int.reduceAdd,Int.reduceSub,Int.reduceMul,Nat.reduceAdd,Nat.reduceSub,Nat.reduceMul,Nat.reduceDiv,Nat.reduceMod,Nat.reduceBEq,Nat.reduceLeDiff,wc,wo];rw[zaT];have s7:=Grow.new H6 ⟨zal,[wv],none⟩;have k6:KeepB H.next [s,sn,fq] H H6:=(((((KeepB.ofAtS a1 (Nat.le_refl _) (by simp)).trans (KeepB.ofAtS a2 (by omega) (by simp))).trans (KeepB.ofGrow s3 (by omega))).trans (KeepB.ofGrow s4 (by omega))).trans (KeepB.ofAtS a5 (by omega) (by simp))).trans (KeepB.ofGrow s6 (by omega));have ho6:=ho.keepB (Nat.le_refl _) k6 (λi hi=>by have h1:=(ho.low hi).1; have:=hos i; simp only[List.mem_cons,List.not_mem_nil,or_false]; omega) (λi hi=>by have hi:lo≤i:=hi; have:=hos i; simp only[List.mem_cons,List.not_mem_nil,or_false]; omega);refine zae (zvG (zdV c6 _) (ho6.grow s7) (by rw[zaf]; omega) zpP ((hw.ext s7).low (Nat.zero_le _)) (λi hi=>⟨λe=>?_,?_⟩) (by omega) (by omega)) ?_
  ·have h1:=(hw.own i hi).1;have:=(ho.low e).2;omega
  ·have h1:=(hw.own i hi).1;show lo≤i;omega
  rintro ov' H8 ⟨ho8,s8,c8⟩;have hF:∀i∈ov.pid.toList,lo≤i∧i<H.next:=λi hi=>ho.low (by simpa [zcK]using hi);have hF':∀i,i<lo→i∉ov.pid.toList:=λi hi e=>by have:=(hF i e).1; omega
  have t8:∀i,i<lo→H8.get i=H6.get i:=λi hi=>(s8.same i (by rw[zaf]; omega) (hF' i hi)).trans (s7.same i (by omega));have os1:=hos s (.inl rfl);have os2:=hos sn (.inr (.inl rfl));have os3:=hos fq (.inr (.inr rfl));have hs7:=(hs5.grow s6).grow s7;have hs8':=hs7.atS (S:=ov.pid.toList) ⟨s8.next,λi hi hn=>s8.same i hi hn⟩ (hF' sn os2) (λi hi=>(ho6.grow s7).odd i (by simpa [zcK]using hi));simp(maxSteps:=1000000) (disch:=first|omega|(simp only[RY]<;>omega)|decide)only[↓RD,RZ,eq_self,Int.reduceToNat,Int.reduceAdd,Int.reduceSub,Int.reduceMul,Nat.reduceAdd,Nat.reduceSub,Nat.reduceMul,Nat.reduceDiv,Nat.reduceMod,Nat.reduceBEq,Nat.reduceLeDiff,wj];refine⟨ov',rfl,(t8 s os1).trans ((s6.same s (by omega)).trans g5s),hs8',(t8 fq os3).trans ((s6.same fq (by omega)).trans g5f),ho8,⟨by have:=s8.next; rw[zaf]at this; omega,λi hi hn=>(t8 i hi).trans (k6.same i (by omega) hn)⟩,c8⟩
end Go.Ax.SU
/- St13 -/
namespace Go.Ax.SU
open Go.Ax Go.Proofs
def pkJ(n q ts ssrc:Nat)(dd0 ddS:Bool→List Nat)(K:Ky)(c:Nat) (ls:List (List Nat)) (j:Nat):List Nat :=
 R7.hb (pktF (decide (j+1=n)) (q+j) ts ssrc (if j=0 then dd0 (decide (j+1=n)) else ddS (decide (j+1=n))) (zjp K (c+j) [] (ls.getD j [])))++zjp K (c+j) [] (ls.getD j [])
theorem floop{s sn fq a id sl ad e f q n ts ssrc:Nat}{sv rv rcv pl:V}{o nw:Bool}{idv fnv u1 u2 u3 u4 u5 u6 y1 y2 y3:V}{lp:Nat}{P:Nat→Prop} {ls:List (List Nat)} {dd0 ddS:Bool→List Nat} {L:List (Nat×Blk)} {H:Heap} {K:Ky} {se ss c:Nat}
  (hc:H.Cl) (hg:H.get s=some ⟨zac,stR a id sv rv sl ad e (.ptr sn 0) rcv f q true o,none⟩)
  (hs:SndM (s+1) H sn (id:Nat) (sl:Nat) (some (K,(se:Nat),(ss:Nat),c))) (hcn:c+1000<18446744073709551616)
  (hf:H.get fq=some ⟨zaL,[.bool false,.bool false,idv,fnv,.bool nw,u1,u2,u3,u4,u5,u6,.bool false,.int .u32 0,.bool false,.bool false,.bool false,y1,y2,y3],none⟩)
  (hp:AppS lp P H pl ls) (hpv:∀i,pl.pid=some i→i∉[s,sn,fq]) (hP:∀i,P i→i∉[s,sn,fq]) (hn:ls.length=n) (hn8:n≤1000) (h8:∀l∈ls,Ok8 l∧l.length≤100)
  (ns:sn≠s) (nf:sn≠fq) (sf:s≠fq) (hl:Has H L) (hlf:fq∉L.map Prod.fst) (hls:s∉L.map Prod.fst) (hln:sn∉L.map Prod.fst)
  (hx8:∀v∈[idv,fnv,u1,u2,u3,u4,u5,u6,y1,y2,y3],∀n,v≠.int .u8 n) (hq:q+n<65535) (hts:ts<4294967296) (hsr:ssrc<4294967296) (hKt:K.t≤32) (hKw:∀w∈K.ws,Word w)
  (hss:∀{H:Heap} {q:Nat},H.get s=some ⟨zac,stR a id sv rv sl ad e (.ptr sn 0) rcv f q true o,none⟩→Ok (sem T zaJ [.ptr s 0,.int .i64 0]) H λv H'=>v = .int .u32 (ssrc:Nat)∧H'=H)
  (hd0:∀b,1≤(dd0 b).length∧(dd0 b).length≤16) (hdS:∀b,1≤(ddS b).length∧(ddS b).length≤16)
  (hdd0:∀{H:Heap} {k':Nat} {en:Bool},H.Cl→Has H L→(∀i∈L.map Prod.fst,i<k')→Has H (strL k')→Ok (sem T zaZ [.agg [.bool true,.bool en,idv,fnv,.bool nw,u1,u2,u3,u4,u5,u6,.bool false,.int .u32 0,.bool false,.bool false,.bool false,y1,y2,y3],.agg (strV k')]) H λr H'=>∃v,r = .tup [v,.int .i64 0]∧By H.next H' v (dd0 en)∧Grow H H'∧H'.Cl)
  (hddS:∀{H:Heap} {k':Nat} {en:Bool},1<n→H.Cl→Has H L→(∀i∈L.map Prod.fst,i<k')→Has H (strL k')→Ok (sem T zaZ [.agg [.bool false,.bool en,idv,fnv,.bool false,.int .i64 0,.int .i64 0,.nils,.int .i64 0,.nils,.nils,.bool false,.int .u32 0,.bool false,.bool false,.bool false,y1,y2,y3],.agg (strV k')]) H λr H'=>∃v,r = .tup [v,.int .i64 0]∧By H.next H' v (ddS en)∧Grow H H'∧H'.Cl) :
  Ok (M.iter (zbV (sem T) (.int .i64 (n:Nat)) pl pl (.ptr fq 0) (.int .u32 (ts:Nat)) (.ptr s 0) (.int .i64 0) (.ptr s 24)) [.nils,.int .i64 0]) H λr H'=>∃ov',r = .ex 1 [ov'] ∧
   H'.get s=some ⟨zac,stR a id sv rv sl ad e (.ptr sn 0) rcv f (q+n) true o,none⟩ ∧
   SndM (s+1) H' sn (id:Nat) (sl:Nat) (some (K,(se:Nat),(ss:Nat),c+n)) ∧
   AppS H.next (λi=>H.next≤i) H' ov' ((List.range n).map (pkJ n q ts ssrc dd0 ddS K c ls)) ∧
   KeepB H.next [s,sn,fq] H H'∧H'.Cl:=by
 have hlo:=hl.lt hc;have l1:=za1 hc hg;have l2:=za1 hc hf;have l3:=hs.1;refine zaV (λj R H'=>∃ov,R=[ov,.int .i64 (j:Nat)] ∧
   H'.get s=some ⟨zac,stR a id sv rv sl ad e (.ptr sn 0) rcv f (q+j) true o,none⟩ ∧
   SndM (s+1) H' sn (id:Nat) (sl:Nat) (some (K,(se:Nat),(ss:Nat),c+j)) ∧
   (∃st en nwj x1 x2 x3 x4 x5 x6,H'.get fq=some ⟨zaL,[.bool st,.bool en,idv,fnv,.bool nwj,x1,x2,x3,x4,x5,x6,.bool false,.int .u32 0,.bool false,.bool false,.bool false,y1,y2,y3],none⟩∧(j=0→nwj=nw∧[u1,u2,u3,u4,u5,u6]=[x1,x2,x3,x4,x5,x6])∧∀v∈[x1,x2,x3,x4,x5,x6],∀n,v≠.int .u8 n) ∧
   AppS H.next (λi=>H.next≤i) H' ov ((List.range j).map (pkJ n q ts ssrc dd0 ddS K c ls)) ∧
   KeepB H.next [s,sn,fq] H H'∧H'.Cl) n ?_ ?_ ?_
 ·refine⟨.nils,rfl,hg,hs,⟨false,false,nw,u1,u2,u3,u4,u5,u6,hf,λ_=>⟨rfl,rfl⟩,λv hv=>hx8 v ?_⟩,AppS.nil,KeepB.refl _ _ _,hc⟩;simp only[List.mem_cons,List.not_mem_nil,or_false]at hv ⊢;rcases hv with h|h|h|h|h|h<;>simp[h]
 ·rintro j R H1 hj ⟨ov,rfl,g1,s1,⟨st,en,nwj,x1,x2,x3,x4,x5,x6,g1f,h0,hx1⟩,ho,k1,c1⟩;have n1:=k1.next;have hl1:Has H1 L:=λp hp=>(k1.same p.1 (hlo _ (List.mem_map_of_mem hp)) (by
   have hm:=List.mem_map_of_mem (f:=Prod.fst) hp;simp only[List.mem_cons,List.not_mem_nil,or_false];rintro(h|h|h)
   ·exact hls (h ▸ hm)
   ·exact hln (h ▸ hm)
   ·exact hlf (h ▸ hm))).trans (hl p hp)
  have hp1:=hp.keepB (Nat.le_refl _) k1 hpv hP;have hxx:∀v∈[idv,fnv,x1,x2,x3,x4,x5,x6,y1,y2,y3],∀n,v≠.int .u8 n:=λv hv=>by
   simp only[List.mem_cons,List.not_mem_nil,or_false]at hv hx1 hx8;rcases hv with h|h|h|h|h|h|h|h|h|h|h
   ·exact hx8 v (by simp[h])
   ·exact hx8 v (by simp[h])
   ·exact hx1 v (by simp[h])
   ·exact hx1 v (by simp[h])
   ·exact hx1 v (by simp[h])
   ·exact hx1 v (by simp[h])
   ·exact hx1 v (by simp[h])
   ·exact hx1 v (by simp[h])
   ·exact hx8 v (by simp[h])
   ·exact hx8 v (by simp[h])
   ·exact hx8 v (by simp[h])
  have hgj:ls.getD j []=ls[j]'(by omega):=by rw[List.getD_eq_getElem?_getD,List.getElem?_eq_getElem (by omega)]; rfl
  have hlen:((List.range j).map (pkJ n q ts ssrc dd0 ddS K c ls)).length≤1000:=by rw[List.length_map,List.length_range]; omega
  have hmod:(c+j+1)%18446744073709551616=c+(j+1):=by omega
  have hosl:∀i,i=s∨i=sn∨i=fq→i<H.next:=by rintro i (rfl|rfl|rfl)<;>assumption
  by_cases hj0:j=0
  ·obtain⟨e1,e2⟩:=h0 hj0;have:=fbody (j:=j) (nw':=nw) (z1:=u1) (z2:=u2) (z3:=u3) (z4:=u4) (z5:=u5) (z6:=u6) (dd:=dd0 (decide (j+1=n))) c1 g1 s1 g1f hp1 hn hn8 hj h8 ns nf sf hl1 hlf hls hln ho (by omega) hosl hlen hxx (by omega) hts hsr hKt hKw (.inl ⟨hj0,e1.symm,e2⟩) hss (hd0 _).1 (hd0 _).2 (λa b c d=>by
    have:=hdd0 (en:=decide (j+1=n)) a b c d;rw[decide_eq_true hj0];exact this)
   refine zam this ?_;rintro _ H2 ⟨ov',rfl,g2,s2,g2f,ho2,k2,c2⟩;refine⟨ov',rfl,g2,hmod ▸ s2,⟨_,_,_,_,_,_,_,_,_,g2f,λh=>by omega,λv hv=>hx8 v ?_⟩,?_,k1.trans k2,c2⟩
   ·simp only[List.mem_cons,List.not_mem_nil,or_false]at hv ⊢;rcases hv with h|h|h|h|h|h<;>simp[h]
   ·rw[List.range_succ,List.map_append];unfold pkJ at ho2 ⊢;simp only[List.map_cons,List.map_nil,hgj,if_pos hj0];exact ho2
  ·have:=fbody (j:=j) (nw':=false) (z1:=.int .i64 0) (z2:=.int .i64 0) (z3:=.nils) (z4:=.int .i64 0) (z5:=.nils) (z6:=.nils) (dd:=ddS (decide (j+1=n))) c1 g1 s1 g1f hp1 hn hn8 hj h8 ns nf sf hl1 hlf hls hln ho (by omega) hosl hlen hxx (by omega) hts hsr hKt hKw (.inr ⟨by omega,rfl,rfl⟩) hss (hdS _).1 (hdS _).2 (λa b c d=>by
    have:=hddS (en:=decide (j+1=n)) (by omega) a b c d;rw[decide_eq_false hj0];exact this)
   refine zam this ?_;rintro _ H2 ⟨ov',rfl,g2,s2,g2f,ho2,k2,c2⟩;refine⟨ov',rfl,g2,hmod ▸ s2,⟨_,_,_,_,_,_,_,_,_,g2f,λh=>by omega,λv hv=>?_⟩,?_,k1.trans k2,c2⟩
   ·simp only[List.mem_cons,List.not_mem_nil,or_false]at hv;rcases hv with rfl|rfl|rfl|rfl|rfl|rfl<;>(intro n e; cases e)
   ·rw[List.range_succ,List.map_append];unfold pkJ at ho2 ⊢;simp only[List.map_cons,List.map_nil,hgj,if_neg hj0];exact ho2
 ·rintro R H1 ⟨ov,rfl,g1,s1,-,ho,k1,c1⟩;have hlt:¬((n:Nat):Int)<(n:Nat):=by omega
  unfold zbV uL uM uS uT uF uNFM uNF uE uB uIM uO uU uc ug;simp(maxSteps:=1000000) (disch:=first|omega|(simp only[RY]<;>omega)|decide)only[↓RD,RZ,eq_self,Int.reduceToNat,Int.reduceAdd,Int.reduceSub,Int.reduceMul,Nat.reduceAdd,Nat.reduceSub,Nat.reduceMul,Nat.reduceDiv,Nat.reduceMod,Nat.reduceBEq,Nat.reduceLeDiff,hlt,decide_eq_false hlt];exact⟨ov,rfl,g1,s1,ho,k1,c1⟩
end Go.Ax.SU
/- St14 -/
namespace Go.Ax.SU
open Go.Ax Go.Proofs
theorem AppS.mono{lo lo':Nat}{P P':Nat→Prop}{H:Heap}{v:V} {ls:List (List Nat)} (h:AppS lo P H v ls) (hl:lo'≤lo) (hP:∀i,P i→P' i):AppS lo' P' H v ls:=by
 obtain⟨ws,h1,h2,h3⟩:=h;refine⟨ws,h1,?_,λw hw=>⟨(h3 w hw).1,λi hi=>⟨((h3 w hw).2 i hi).1,hP i ((h3 w hw).2 i hi).2⟩⟩⟩;generalize ws.map (·.2)=cs at h2;generalize ws.length=m at h2;cases h2 with
 | opn h ho=>exact .opn h λi hi=>⟨Nat.le_trans hl (ho i hi).1,(ho i hi).2⟩
 | lit h h0 h1=>exact .lit h (Nat.le_trans hl h0) h1
theorem zl1(b:List Nat):(pcsL b).length=(b.length-1)/100+1:=by
 unfold pcsL pcz;rw[List.length_append,List.length_map,List.length_range]; rfl
theorem pcsL_8{b:List Nat}(h8:Ok8 b):∀l∈pcsL b,Ok8 l∧l.length≤100:=λl hl=>by
 unfold pcsL pcz at hl;rcases List.mem_append.1 hl with hl|hl
 ·obtain⟨j,-,rfl⟩:=List.mem_map.1 hl;exact⟨(h8.drop _).take _,by rw[List.length_take]; omega⟩
 ·rw[List.mem_singleton]at hl;subst hl;exact⟨h8.drop _,by rw[List.length_drop]; omega⟩
theorem zpx(st en:Bool)(id f:Nat)(new:Bool):1≤(ddB st en id f new).length∧(ddB st en id f new).length≤16:=by
 unfold ddB;cases new<;>simp
theorem zwl{s sn a id sl ad e f q c:Nat}{sv rv rcv v:V}{b0 o key:Bool}{lo ssrc:Nat}{b:List Nat}{H:Heap}{K:Ky}{se ss:Nat}
  (hc:H.Cl) (hg:H.get s=some ⟨zac,stR a id sv rv sl ad e (.ptr sn 0) rcv f q b0 o,none⟩) (hk:key=true∨b0=false) (hf:f=0∨f=1)
  (hs:SndM (s+1) H sn (id:Nat) (sl:Nat) (some (K,(se:Nat),(ss:Nat),c))) (hcn:c+1000<18446744073709551616) (ns:sn≠s)
  (hv:By lo H v b) (h8:Ok8 b) (hb:b.length≤800) (hvs:∀i,v.pid=some i→i≠s∧i≠sn) (hq:q<60000) (hsr:ssrc<4294967296) (hKt:K.t≤32) (hKw:∀w∈K.ws,Word w)
  (hss:∀{H:Heap} {f q:Nat} {b0 o:Bool},H.get s=some ⟨zac,stR a id sv rv sl ad e (.ptr sn 0) rcv f q b0 o,none⟩→Ok (sem T zaJ [.ptr s 0,.int .i64 0]) H λv H'=>v = .int .u32 (ssrc:Nat)∧H'=H) :
  Ok (sem T zaE [.ptr s 0,.int .i64 0,.bool key,v]) H λr H'=>∃ov,r = .tup [ov,.int .i64 0] ∧
   H'.get s=some ⟨zac,stR a id sv rv sl ad e (.ptr sn 0) rcv (f+1) (q+(pcsL b).length) true false,none⟩ ∧
   SndM (s+1) H' sn (id:Nat) (sl:Nat) (some (K,(se:Nat),(ss:Nat),c+(pcsL b).length)) ∧
   AppS H.next (λi=>H.next≤i) H' ov ((List.range (pcsL b).length).map (pkJ (pcsL b).length q (3000*f) ssrc (λen=>ddB true en 0 f true) (λen=>ddB false en 0 f false) K c (pcsL b))) ∧
   KeepB H.next [s,sn] H H'∧H'.Cl:=by
 have hlt:=za1 hc hg;have lsn:=hs.1;refine zcO ?_;unfold zcp uL uT uNFM uNF uB uI uO uc ug;refine zol ?_;refine zae (zse (k:=0) (.inl rfl)) ?_;rintro _ H ⟨rfl,rfl⟩;have hg':=hg;unfold stR at hg';have hvl:=hv.vlen;have hle:¬(800:Int)<(b.length:Nat):=by omega
 simp(maxSteps:=1000000) (disch:=first|omega|(simp only[RY]<;>omega)|decide)only[↓RD,RZ,eq_self,Int.reduceToNat,Int.reduceAdd,Int.reduceSub,Int.reduceMul,Nat.reduceAdd,Nat.reduceSub,Nat.reduceMul,Nat.reduceDiv,Nat.reduceMod,Nat.reduceBEq,Nat.reduceLeDiff,hg',hvl,hle,decide_eq_false hle];rw[zaT];refine zae (ztp hc hg hk hf) ?_;rintro _ H1 ⟨k,i,j,rfl,g1,lk,lki,lij,hk1,hij1,a1,c1⟩;have n1:=a1.next;have hs1:=hs.atL a1 (by simp; exact ns) (by intro x hx; rw[List.mem_singleton]at hx; subst hx; exact⟨by omega,_,hg,by show zac≠_; decide,by show zac≠_; decide,by show zac≠_; decide⟩);have hv1:=Lc.atS hv a1 (λx hx=>by simp only[List.mem_singleton]; exact(hvs x hx).1);refine zgm c1 rfl rfl λfq H2 e2 g2 s2 n2 c2=>?_;have g2s:=(s2.same s (by omega)).trans g1;have hs2:=hs1.grow s2;have hv2:=hv1.ext s2;have hl2:=(hk1.app hij1).grow c1 s2;have g2s':=g2s;unfold stR at g2s';have wf:IntKind.u32.wrap ((f:Nat):Int)=(f:Nat):=by rcases hf with rfl|rfl<;>rfl
 have w3:IntKind.u32.wrap (3000*((f:Nat):Int))=((3000*f:Nat):Int):=by rcases hf with rfl|rfl<;>rfl
 have w1:IntKind.i64.wrap (((f:Nat):Int)+1)=((f+1:Nat):Int):=by rcases hf with rfl|rfl<;>rfl
 simp(maxSteps:=1000000) (disch:=first|omega|(simp only[RY]<;>omega)|decide)only[↓RD,RZ,eq_self,Int.reduceToNat,Int.reduceAdd,Int.reduceSub,Int.reduceMul,Nat.reduceAdd,Nat.reduceSub,Nat.reduceMul,Nat.reduceDiv,Nat.reduceMod,Nat.reduceBEq,Nat.reduceLeDiff,g2s',wf,w3,w1,zaI];rw[zaT];generalize hX:Heap.set H2 s _=H3;have g3s:H3.get s=some ⟨zac,stR a id sv rv sl ad e (.ptr sn 0) rcv (f+1) q true false,none⟩:=by rw[←hX]; exact zai _ _ _
 have a3:AtS [s] H2 H3:=by rw[←hX]; exact AtS.set _ (by simp) _
 have n3:H3.next=H2.next:=by rw[←hX]; rfl
 have c3:H3.Cl:=by rw[←hX]; exact zbZ c2 (by omega) _
 clear hX;have hs3:=hs2.atL a3 (by simp; exact ns) (by intro x hx; rw[List.mem_singleton]at hx; subst hx; exact⟨by omega,_,g2s,by show zac≠_; decide,by show zac≠_; decide,by show zac≠_; decide⟩);have hv3:=Lc.atS hv2 a3 (λx hx=>by simp only[List.mem_singleton]; exact(hvs x hx).1);have hbig:∀x∈(strL k++frL i j).map Prod.fst,H.next≤x:=λx hx=>by
  rw[List.map_append,List.mem_append]at hx;rcases hx with hx|hx
  ·have:=zgO x hx; omega
  ·simp[frL]at hx; omega
 have hl3:=hl2.atS c2 a3 (by intro x hx hx'; rw[List.mem_singleton]at hx; have:=hbig x hx'; omega);have g3f:=(a3.same fq (by omega) (by simp; omega)).trans g2;refine zae (zkW c3 (zsm hv3 (by omega))) ?_;rintro pl H4 ⟨⟨hp4,s4⟩,c4⟩;have n4:=s4.next;have hpl:=hp4.vlen;have hl4:=hl3.grow c3 s4;have g4f:=(s4.same fq (by omega)).trans g3f;have hlen:=zl1 b;have hlf:fq∉(strL k++frL i j).map Prod.fst:=λhx=>by have:=(hk1.app hij1).lt c1 fq hx; omega
 simp(maxSteps:=1000000) (disch:=first|omega|(simp only[RY]<;>omega)|decide)only[↓RD,RZ,eq_self,Int.reduceToNat,Int.reduceAdd,Int.reduceSub,Int.reduceMul,Nat.reduceAdd,Nat.reduceSub,Nat.reduceMul,Nat.reduceDiv,Nat.reduceMod,Nat.reduceBEq,Nat.reduceLeDiff,hpl];unfold OkS;refine zam (floop (se:=se) (ss:=ss) (n:=(pcsL b).length) (ts:=3000*f) (P:=λx=>v.pid=some x) (ls:=pcsL b) (dd0:=λen=>ddB true en 0 f true) (ddS:=λen=>ddB false en 0 f false) (L:=(strL k++frL i j))
  c4 ((s4.same s (by omega)).trans g3s) (hs3.grow s4) hcn g4f hp4 (λx hx=>?_) (λx hx=>?_) rfl (by omega) (pcsL_8 h8) ns (by have:=hs2.1; have:=hs1.1; omega) (by omega) hl4 hlf (λhx=>by have:=hbig s hx; omega) (λhx=>by have:=hbig sn hx; omega)
  ?_ (by omega) (by omega) hsr hKt hKw hss (λen=>zpx _ _ _ _ _) (λen=>zpx _ _ _ _ _) ?_ ?_) ?_
 ·have h1:=(hp4.low hx).1;have:=hs3.1;simp only[List.mem_cons,List.not_mem_nil,or_false];omega
 ·have h1:=hvs x hx;have h2:=(hv.own x hx).2;simp only[List.mem_cons,List.not_mem_nil,or_false];omega
 ·intro w hw n e;simp only[strV,nS,List.mem_cons,List.not_mem_nil,or_false]at hw;rw[e]at hw;simp at hw
 ·intro H k' en hc hL hi hk';exact ddb_new hc (λp hp=>hL p (List.mem_append_left _ hp)) (λp hp=>hL p (List.mem_append_right _ hp)) hk' lki lij (hi j (by simp[frL])) hf
 ·intro H k' en _ hc hL hi hk';exact ddb_mid hc (λp hp=>hL p (List.mem_append_right _ hp)) hk' lij (hi j (by simp[frL])) hf
 ·rintro _ H5 ⟨ov,rfl,g5,s5,ho5,k5,c5⟩;show Ok _ H5 _;simp(maxSteps:=1000000) (disch:=first|omega|(simp only[RY]<;>omega)|decide)only[↓RD,RZ,eq_self,Int.reduceToNat,Int.reduceAdd,Int.reduceSub,Int.reduceMul,Nat.reduceAdd,Nat.reduceSub,Nat.reduceMul,Nat.reduceDiv,Nat.reduceMod,Nat.reduceBEq,Nat.reduceLeDiff];refine⟨ov,rfl,g5,s5,ho5.mono (by omega) (λx hx=>by have hx:H4.next≤x:=hx; show H.next≤x; omega),⟨by have:=k5.next; omega,λx hx hn=>?_⟩,c5⟩;simp only[List.mem_cons,List.not_mem_nil,or_false,not_or]at hn;rw[k5.same x (by omega) (by simp only[List.mem_cons,List.not_mem_nil,or_false]; omega),s4.same x (by omega),a3.same x (by omega) (by simp; omega),s2.same x (by omega),a1.same x (by omega) (by simp; omega)]
theorem zwk{s sn a id sl ad e q c:Nat}{sv rv rcv v:V}{key:Bool}{lo ssrc:Nat}{b:List Nat}{H:Heap}{K:Ky}{se ss:Nat}
  (hc:H.Cl) (hg:H.get s=some ⟨zac,stR a id sv rv sl ad e (.ptr sn 0) rcv 1 q true false,none⟩)
  (hs:SndM (s+1) H sn (id:Nat) (sl:Nat) (some (K,(se:Nat),(ss:Nat),c))) (hcn:c+1000<18446744073709551616) (ns:sn≠s)
  (hv:By lo H v b) (h8:Ok8 b) (hb:b.length≤800) (hvs:∀i,v.pid=some i→i≠s∧i≠sn) (hq:q<60000) (hsr:ssrc<4294967296) (hKt:K.t≤32) (hKw:∀w∈K.ws,Word w)
  (hss:∀{H:Heap} {f q:Nat} {b0 o:Bool},H.get s=some ⟨zac,stR a id sv rv sl ad e (.ptr sn 0) rcv f q b0 o,none⟩→Ok (sem T zaJ [.ptr s 0,.int .i64 0]) H λv H'=>v = .int .u32 (ssrc:Nat)∧H'=H) :
  Ok (sem T zaE [.ptr s 0,.int .i64 0,.bool false,v]) H λr H'=>∃ov,r = .tup [ov,.int .i64 0] ∧
   H'.get s=some ⟨zac,stR a id sv rv sl ad e (.ptr sn 0) rcv (1+1) (q+(pcsL b).length) true true,none⟩ ∧
   SndM (s+1) H' sn (id:Nat) (sl:Nat) (some (K,(se:Nat),(ss:Nat),c+(pcsL b).length)) ∧
   AppS H.next (λi=>H.next≤i) H' ov ((List.range (pcsL b).length).map (pkJ (pcsL b).length q (3000*1) ssrc (λen=>ddB true en 2 1 false) (λen=>ddB false en 2 1 false) K c (pcsL b))) ∧
   KeepB H.next [s,sn] H H'∧H'.Cl:=by
 have hlt:=za1 hc hg;have lsn:=hs.1;refine zcO ?_;unfold zcp uL uT uNFM uNF uB uI uO uc ug;refine zol ?_;refine zae (zse (k:=0) (.inl rfl)) ?_;rintro _ H ⟨rfl,rfl⟩;have hg':=hg;unfold stR at hg';have hvl:=hv.vlen;have hle:¬(800:Int)<(b.length:Nat):=by omega
 simp(maxSteps:=1000000) (disch:=first|omega|(simp only[RY]<;>omega)|decide)only[↓RD,RZ,eq_self,Int.reduceToNat,Int.reduceAdd,Int.reduceSub,Int.reduceMul,Nat.reduceAdd,Nat.reduceSub,Nat.reduceMul,Nat.reduceDiv,Nat.reduceMod,Nat.reduceBEq,Nat.reduceLeDiff,hg',hvl,hle,decide_eq_false hle];rw[zaT];refine zae (zto hc hg) ?_;rintro _ H1 ⟨i,j,l,rfl,g1,lk,lij,ljl,hij1,a1,c1⟩;have n1:=a1.next;have hs1:=hs.atL a1 (by simp; exact ns) (by intro x hx; rw[List.mem_singleton]at hx; subst hx; exact⟨by omega,_,hg,by show zac≠_; decide,by show zac≠_; decide,by show zac≠_; decide⟩);have hv1:=Lc.atS hv a1 (λx hx=>by simp only[List.mem_singleton]; exact(hvs x hx).1);refine zgm c1 rfl rfl λfq H2 e2 g2 s2 n2 c2=>?_;have g2s:=(s2.same s (by omega)).trans g1;have hs2:=hs1.grow s2;have hv2:=hv1.ext s2;have hl2:=hij1.grow c1 s2;have g2s':=g2s;unfold stR at g2s';have wf:IntKind.u32.wrap ((1:Nat):Int)=(1:Nat):=rfl;have w3:IntKind.u32.wrap (3000*((1:Nat):Int))=((3000*1:Nat):Int):=rfl;have w1:IntKind.i64.wrap (((1:Nat):Int)+1)=((1+1:Nat):Int):=rfl;simp(maxSteps:=1000000) (disch:=first|omega|(simp only[RY]<;>omega)|decide)only[↓RD,RZ,eq_self,Int.reduceToNat,Int.reduceAdd,Int.reduceSub,Int.reduceMul,Nat.reduceAdd,Nat.reduceSub,Nat.reduceMul,Nat.reduceDiv,Nat.reduceMod,Nat.reduceBEq,Nat.reduceLeDiff,g2s',wf,w3,w1,zaI];rw[zaT];generalize hX:Heap.set H2 s _=H3;have g3s:H3.get s=some ⟨zac,stR a id sv rv sl ad e (.ptr sn 0) rcv (1+1) q true true,none⟩:=by rw[←hX]; exact zai _ _ _
 have a3:AtS [s] H2 H3:=by rw[←hX]; exact AtS.set _ (by simp) _
 have n3:H3.next=H2.next:=by rw[←hX]; rfl
 have c3:H3.Cl:=by rw[←hX]; exact zbZ c2 (by omega) _
 clear hX;have hs3:=hs2.atL a3 (by simp; exact ns) (by intro x hx; rw[List.mem_singleton]at hx; subst hx; exact⟨by omega,_,g2s,by show zac≠_; decide,by show zac≠_; decide,by show zac≠_; decide⟩);have hv3:=Lc.atS hv2 a3 (λx hx=>by simp only[List.mem_singleton]; exact(hvs x hx).1);have hbig:∀x∈(frL2 i j l).map Prod.fst,H.next≤x:=λx hx=>by
  simp[frL2]at hx; omega
 have hl3:=hl2.atS c2 a3 (by intro x hx hx'; rw[List.mem_singleton]at hx; have:=hbig x hx'; omega);have g3f:=(a3.same fq (by omega) (by simp; omega)).trans g2;refine zae (zkW c3 (zsm hv3 (by omega))) ?_;rintro pl H4 ⟨⟨hp4,s4⟩,c4⟩;have n4:=s4.next;have hpl:=hp4.vlen;have hl4:=hl3.grow c3 s4;have g4f:=(s4.same fq (by omega)).trans g3f;have hlen:=zl1 b;have hlf:fq∉(frL2 i j l).map Prod.fst:=λhx=>by have:=hij1.lt c1 fq hx; omega
 simp(maxSteps:=1000000) (disch:=first|omega|(simp only[RY]<;>omega)|decide)only[↓RD,RZ,eq_self,Int.reduceToNat,Int.reduceAdd,Int.reduceSub,Int.reduceMul,Nat.reduceAdd,Nat.reduceSub,Nat.reduceMul,Nat.reduceDiv,Nat.reduceMod,Nat.reduceBEq,Nat.reduceLeDiff,hpl];unfold OkS;refine zam (floop (se:=se) (ss:=ss) (n:=(pcsL b).length) (ts:=3000*1) (P:=λx=>v.pid=some x) (ls:=pcsL b) (dd0:=λen=>ddB true en 2 1 false) (ddS:=λen=>ddB false en 2 1 false) (L:=(frL2 i j l))
  c4 ((s4.same s (by omega)).trans g3s) (hs3.grow s4) hcn g4f hp4 (λx hx=>?_) (λx hx=>?_) rfl (by omega) (pcsL_8 h8) ns (by have:=hs2.1; have:=hs1.1; omega) (by omega) hl4 hlf (λhx=>by have:=hbig s hx; omega) (λhx=>by have:=hbig sn hx; omega)
  ?_ (by omega) (by omega) hsr hKt hKw hss (λen=>zpx _ _ _ _ _) (λen=>zpx _ _ _ _ _) ?_ ?_) ?_
 ·have h1:=(hp4.low hx).1;have:=hs3.1;simp only[List.mem_cons,List.not_mem_nil,or_false];omega
 ·have h1:=hvs x hx;have h2:=(hv.own x hx).2;simp only[List.mem_cons,List.not_mem_nil,or_false];omega
 ·intro w hw n e;simp only[strV,nS,List.mem_cons,List.not_mem_nil,or_false]at hw;rw[e]at hw;simp at hw
 ·intro H k' en hc hL hi hk';exact zwJ hc hL hk' lij ljl (hi l (by simp[frL2]))
 ·intro H k' en _ hc hL hi hk';exact zwJ hc hL hk' lij ljl (hi l (by simp[frL2]))
 ·rintro _ H5 ⟨ov,rfl,g5,s5,ho5,k5,c5⟩;show Ok _ H5 _;simp(maxSteps:=1000000) (disch:=first|omega|(simp only[RY]<;>omega)|decide)only[↓RD,RZ,eq_self,Int.reduceToNat,Int.reduceAdd,Int.reduceSub,Int.reduceMul,Nat.reduceAdd,Nat.reduceSub,Nat.reduceMul,Nat.reduceDiv,Nat.reduceMod,Nat.reduceBEq,Nat.reduceLeDiff];refine⟨ov,rfl,g5,s5,ho5.mono (by omega) (λx hx=>by have hx:H4.next≤x:=hx; show H.next≤x; omega),⟨by have:=k5.next; omega,λx hx hn=>?_⟩,c5⟩;simp only[List.mem_cons,List.not_mem_nil,or_false,not_or]at hn;rw[k5.same x (by omega) (by simp only[List.mem_cons,List.not_mem_nil,or_false]; omega),s4.same x (by omega),a3.same x (by omega) (by simp; omega),s2.same x (by omega),a1.same x (by omega) (by simp; omega)]
end Go.Ax.SU
/- St15 -/
namespace Go.Ax.SU
open Go.Ax Go.Proofs
theorem zvR{H:Heap}{a b:Int} (hi:(a=64∧b=1)∨(a=0∧b=5)) (hc:H.Cl):Ok (sem T zby [.int .i64 a,.int .i64 b,.nils,.nils]) H λr H'=>r = .tup [.nilp,.int .i64 1]∧Grow H H'∧H'.Cl:=by
 rcases hi with⟨rfl,rfl⟩|⟨rfl,rfl⟩
 ·have hr:Ax.look [] (Cc.cd T 20 zby [.int .i64 64,.int .i64 1,.nils,.nils] (Cc.hp []))=some (.tup [.nilp,.int .i64 1],[]):=by kernel_rfl
  exact zam (zkD hr rfl hc) λr H' h=>⟨h.1,h.2.1,h.2.2.2⟩
 ·have hr:Ax.look [] (Cc.cd T 20 zby [.int .i64 0,.int .i64 5,.nils,.nils] (Cc.hp []))=some (.tup [.nilp,.int .i64 1],[]):=by kernel_rfl
  exact zam (zkD hr rfl hc) λr H' h=>⟨h.1,h.2.1,h.2.2.2⟩
theorem new_32{H:Heap}(hc:H.Cl):Ok (sem T zby [.int .i64 3,.int .i64 2,.nils,.nils]) H λr H'=>∃s,r = .tup [.ptr s 0,.int .i64 0]∧H.next≤s∧H'.get s=some ⟨zac,stN 3 2 .nils .nils,none⟩∧Grow H H'∧H'.Cl:=by
 have hr:Ax.look [0] (Cc.cd T 20 zby [.int .i64 3,.int .i64 2,.nils,.nils] (Cc.hp []))=some (.tup [.ptr 0 0,.int .i64 0],[some ⟨zac,stN 3 2 .nils .nils,none⟩]):=by kernel_rfl
 refine zam (zkD hr rfl hc) ?_;rintro r H' ⟨rfl,s,h,c⟩;exact⟨_,rfl,Nat.le_add_right _ _,h 0 Nat.zero_lt_one,s,c⟩
theorem frame_no{H:Heap}{s:Nat}(hc:H.Cl) (hg:H.get s=some ⟨zac,stN 3 2 .nils .nils,none⟩):Ok (sem T zaE [.ptr s 0,.int .i64 0,.bool true,.nils]) H λr H'=>r = .tup [.nils,.int .i64 12]∧Grow H H'∧H'.Cl:=by
 have hr:Ax.look [0] (Cc.cd T 20 zaE [.ptr 0 0,.int .i64 0,.bool true,.nils] (Cc.hp [some ⟨zac,stN 3 2 .nils .nils,none⟩]))=some (.tup [.nils,.int .i64 12],[some ⟨zac,stN 3 2 .nils .nils,none⟩]):=by kernel_rfl
 exact zam (zhq (l:=[]) hr hc hg rfl) λr H' h=>⟨h.1,h.2.1,h.2.2.2⟩
theorem take_no{H:Heap}{s:Nat}(hc:H.Cl) (hg:H.get s=some ⟨zac,stN 3 2 .nils .nils,none⟩):Ok (sem T zbq [.ptr s 0,.nils]) H λr H'=>r = .tup [.agg [.int .i64 0,.int .i64 0,.int .i64 0,.int .u64 0,.nils],.int .i64 3]∧Grow H H'∧H'.Cl:=by
 have hr:Ax.look [0] (Cc.cd T 20 zbq [.ptr 0 0,.nils] (Cc.hp [some ⟨zac,stN 3 2 .nils .nils,none⟩]))=some (.tup [.agg [.int .i64 0,.int .i64 0,.int .i64 0,.int .u64 0,.nils],.int .i64 3],[some ⟨zac,stN 3 2 .nils .nils,none⟩]):=by kernel_rfl
 exact zam (zhq (l:=[]) hr hc hg rfl) λr H' h=>⟨h.1,h.2.1,h.2.2.2⟩
theorem has2{H:Heap}{i j:Nat}{b c:Blk}(h1:H.get i=some b)(h2:H.get j=some c):Has H [(i,b),(j,c)]:=by
 intro p hp;simp only[List.mem_cons,List.not_mem_nil,or_false]at hp;rcases hp with rfl|rfl
 ·exact h1
 ·exact h2
def zgN:List Nat:=[128,96,0,0,0,0,0,0,0,0,0,0]
theorem take_12{H:Heap}{s i:Nat}(hc:H.Cl) (hg:H.get s=some ⟨zac,stN 3 2 .nils .nils,none⟩) (hi:H.get i=some ⟨zaa,zgN.map by8,none⟩) (ne:s≠i):Ok (sem T zbq [.ptr s 0,.sl i 0 12 (.fix 12)]) H λr H'=>r = .tup [.agg [.int .i64 0,.int .i64 0,.int .i64 0,.int .u64 0,.nils],.int .i64 12]∧Grow H H'∧H'.Cl:=by
 have hr:Ax.look (List.range 2++[]) (Cc.cd T 20 zbq [.ptr 0 0,.sl 1 0 12 (.fix 12)] (Cc.hp ([(⟨zac,stN 3 2 .nils .nils,none⟩:Blk),⟨zaa,zgN.map by8,none⟩].reverse.map some)))=some (.tup [.agg [.int .i64 0,.int .i64 0,.int .i64 0,.int .u64 0,.nils],.int .i64 12],[(⟨zac,stN 3 2 .nils .nils,none⟩:Blk),⟨zaa,zgN.map by8,none⟩].map some++[]):=by kernel_rfl
 exact zam (zf2 (bs:=[⟨zac,stN 3 2 .nils .nils,none⟩,⟨zaa,zgN.map by8,none⟩]) (l:=[]) hr hc (has2 hg hi) (by simp[ne]) rfl rfl (by simp)) λr H' h=>⟨h.1,h.2.1,h.2.2.2⟩
theorem hear_x{H:Heap}{s i:Nat}(hc:H.Cl) (hg:H.get s=some ⟨zac,stN 3 2 .nils .nils,none⟩) (hi:H.get i=some ⟨zaa,([120]:List Nat).map by8,none⟩) (ne:s≠i):Ok (sem T zaK [.ptr s 0,.sl i 0 1 (.fix 1)]) H λr H'=>r = .nils∧Grow H H'∧H'.Cl:=by
 have hr:Ax.look (List.range 2++[]) (Cc.cd T 20 zaK [.ptr 0 0,.sl 1 0 1 (.fix 1)] (Cc.hp ([(⟨zac,stN 3 2 .nils .nils,none⟩:Blk),⟨zaa,([120]:List Nat).map by8,none⟩].reverse.map some)))=some (.nils,[(⟨zac,stN 3 2 .nils .nils,none⟩:Blk),⟨zaa,([120]:List Nat).map by8,none⟩].map some++[]):=by kernel_rfl
 exact zam (zf2 (bs:=[⟨zac,stN 3 2 .nils .nils,none⟩,⟨zaa,([120]:List Nat).map by8,none⟩]) (l:=[]) hr hc (has2 hg hi) (by simp[ne]) rfl rfl (by simp)) λr H' h=>⟨h.1,h.2.1,h.2.2.2⟩
def n2B(k e:Nat):List Nat:=[k,0,0,0,e,0,0,0,0,0,0]
theorem says_2{H:Heap}{k e:Nat} (hi:(k=22∧e=4)∨(k=23∧e=0)) (hc:H.Cl):Ok (sem T zaG [.agg [.int .i64 (k:Nat),.int .i64 0,.int .i64 0,.int .i64 (e:Nat),.int .i64 0,.int .i64 0,.nils]]) H λr H'=>∃i,r = .sl i 0 11 (.opn 1)∧H.next≤i∧H'.get i=some ⟨zaa,(n2B k e).map by8,some 1⟩∧Grow H H'∧H'.Cl:=by
 have hr:Ax.look [27] (Cc.cd T 20 zaG [.agg [.int .i64 (k:Nat),.int .i64 0,.int .i64 0,.int .i64 (e:Nat),.int .i64 0,.int .i64 0,.nils]] (Cc.hp []))=some (.sl 27 0 11 (.opn 1),[some ⟨zaa,(n2B k e).map by8,some 1⟩]):=by
  rcases hi with⟨rfl,rfl⟩|⟨rfl,rfl⟩<;>kernel_rfl
 refine zam (zkD hr rfl hc) ?_;rintro r H' ⟨rfl,s,h,c⟩;exact⟨_,rfl,Nat.le_add_right _ _,h 0 Nat.zero_lt_one,s,c⟩
theorem hear_22{H:Heap}{s i:Nat}(hc:H.Cl) (hg:H.get s=some ⟨zac,stN 3 2 .nils .nils,none⟩) (hi:H.get i=some ⟨zaa,(n2B 22 4).map by8,some 1⟩) (ne:s≠i):Ok (sem T zaK [.ptr s 0,.sl i 0 11 (.opn 1)]) H λr H'=>r = .nils∧Grow H H'∧H'.Cl:=by
 have hr:Ax.look (List.range 2++[]) (Cc.cd T 20 zaK [.ptr 0 0,.sl 1 0 11 (.opn 1)] (Cc.hp ([(⟨zac,stN 3 2 .nils .nils,none⟩:Blk),⟨zaa,(n2B 22 4).map by8,some 1⟩].reverse.map some)))=some (.nils,[(⟨zac,stN 3 2 .nils .nils,none⟩:Blk),⟨zaa,(n2B 22 4).map by8,some 1⟩].map some++[]):=by kernel_rfl
 exact zam (zf2 (bs:=[⟨zac,stN 3 2 .nils .nils,none⟩,⟨zaa,(n2B 22 4).map by8,some 1⟩]) (l:=[]) hr hc (has2 hg hi) (by simp[ne]) rfl rfl (by simp)) λr H' h=>⟨h.1,h.2.1,h.2.2.2⟩
theorem parse_23{H:Heap}{i:Nat}(hc:H.Cl) (hg:H.get i=some ⟨zaa,(n2B 23 0).map by8,some 1⟩):Ok (sem T zcx [.sl i 0 11 (.opn 1)]) H λr H'=>∃bv,r = .tup [.agg [.int .i64 23,.int .i64 0,.int .i64 0,.int .i64 0,.int .i64 0,.int .i64 0,bv],.int .i64 0]∧bv.cells=[bv]∧Grow H H'∧H'.Cl:=by
 have hr:Ax.look [0] (Cc.cd T 20 zcx [.sl 0 0 11 (.opn 1)] (Cc.hp [some ⟨zaa,(n2B 23 0).map by8,some 1⟩]))=some (.tup [.agg [.int .i64 23,.int .i64 0,.int .i64 0,.int .i64 0,.int .i64 0,.int .i64 0,.sl 4 0 0 (.fix 0)],.int .i64 0],[some ⟨zaa,(n2B 23 0).map by8,some 1⟩]):=by kernel_rfl
 refine zam (zhq (l:=[]) hr hc hg (zfM _)) ?_;rintro r H' ⟨rfl,s,h,c⟩;exact⟨_,rfl,rfl,s,c⟩
def stG(a id:Nat)(sv rv:V)(f q:Nat)(b o:Bool):List V:=[.int .i64 (a:Nat),.int .i64 (id:Nat),sv,rv,.int .i64 1,.int .u64 0,.bool false,.int .i64 0,.int .i64 0,.int .i64 0,.int .i64 0,.int .i64 0,.int .i64 0,.int .i64 0,.int .i64 0,.int .i64 0,.int .i64 0,.int .i64 0,.int .i64 0,.int .i64 0,.int .i64 0,.int .i64 (-1),.nilp,.nilp,.int .i64 (f:Nat),.int .u16 (q:Nat),.bool b,.bool o,.int .i64 0,.int .u16 0,.bool false,.bool false,.int .i64 0,.int .u16 0,.bool false,.bool false]
theorem forget_r{s a id sl ad e f q:Nat}{sv rv snd rcv:V}{b o:Bool}{H:Heap} (hg:H.get s=some ⟨zac,stR a id sv rv sl ad e snd rcv f q b o,none⟩) :
  Ok (sem T zbp [.ptr s 0]) H λr H'=>r = .tup []∧H'=H.set s (some ⟨zac,stG a id sv rv f q b o,none⟩):=by
 refine ze5 ?_;unfold zdQ uL uT uNF uc;unfold stG;unfold stR at hg;simp(maxSteps:=1000000) (disch:=first|omega|(simp only[RY]<;>omega)|decide)only[↓RD,RZ,eq_self,Int.reduceToNat,Int.reduceAdd,Int.reduceSub,Int.reduceMul,Nat.reduceAdd,Nat.reduceSub,Nat.reduceMul,Nat.reduceDiv,Nat.reduceMod,Nat.reduceBEq,Nat.reduceLeDiff,hg,zaI];rfl
theorem hear_23{s a id sl ad e f q i:Nat}{sv rv snd rcv:V}{b o:Bool}{H:Heap}(hc:H.Cl) (hg:H.get s=some ⟨zac,stR a id sv rv sl ad e snd rcv f q b o,none⟩) (hi:H.get i=some ⟨zaa,(n2B 23 0).map by8,some 1⟩) :
  Ok (sem T zaK [.ptr s 0,.sl i 0 11 (.opn 1)]) H λr H'=>H'.get s=some ⟨zac,stG a id sv rv f q b o,none⟩∧AtS [s] H H'∧H'.Cl:=by
 have hlt:=za1 hc hg;refine zam (zkW hc (Q:=λr H'=>H'.get s=some ⟨zac,stG a id sv rv f q b o,none⟩∧AtS [s] H H') ?_) λ_ _ h=>⟨h.1.1,h.1.2,h.2⟩;refine zgo ?_;unfold zez uL uS uT uFM uNFM uE uB uO uc;refine zae (parse_23 hc hi) ?_;rintro _ H1 ⟨bv,rfl,hbv,s1,c1⟩;refine zbe rfl ?_;refine zbe rfl ?_;refine zgm c1 rfl rfl λp H2 e2 g2 s2 n2 c2=>?_;have n1:=s1.next;have gs2:=((s1.trans s2).same s hlt).trans hg;have gs2':=gs2;unfold stR at gs2';simp(maxSteps:=1000000) (disch:=first|omega|(simp only[RY]<;>omega)|decide)only[↓RD,RZ,eq_self,Int.reduceToNat,Int.reduceAdd,Int.reduceSub,Int.reduceMul,Nat.reduceAdd,Nat.reduceSub,Nat.reduceMul,Nat.reduceDiv,Nat.reduceMod,Nat.reduceBEq,Nat.reduceLeDiff,g2,gs2'];rw[zaT];refine zae (forget_r gs2) ?_;rintro _ H3 ⟨rfl,rfl⟩;simp(maxSteps:=1000000) (disch:=first|omega|(simp only[RY]<;>omega)|decide)only[↓RD,RZ,eq_self,Int.reduceToNat,Int.reduceAdd,Int.reduceSub,Int.reduceMul,Nat.reduceAdd,Nat.reduceSub,Nat.reduceMul,Nat.reduceDiv,Nat.reduceMod,Nat.reduceBEq,Nat.reduceLeDiff];exact(Grow.atS (s1.trans s2) _).trans (AtS.set _ (by simp) _)
theorem frame_3{H:Heap}{s:Nat}{b:Bool}{v:V}:Ok (sem T zaE [.ptr s 0,.int .i64 3,.bool b,v]) H λr H'=>r = .tup [.nils,.int .i64 1]∧H'=H:=by
 refine zcO ?_;unfold zcp uL uT uNFM uNF uB uI uO uc ug;refine zol ?_;refine zae (zuJ (k:=3) (.inl rfl)) ?_;rintro _ H ⟨rfl,rfl⟩;simp(maxSteps:=1000000) (disch:=first|omega|(simp only[RY]<;>omega)|decide)only[↓RD,RZ,eq_self,Int.reduceToNat,Int.reduceAdd,Int.reduceSub,Int.reduceMul,Nat.reduceAdd,Nat.reduceSub,Nat.reduceMul,Nat.reduceDiv,Nat.reduceMod,Nat.reduceBEq,Nat.reduceLeDiff]
theorem zwm{s a id sl ad e f q:Nat}{sv rv snd rcv v:V}{b o key:Bool}{H:Heap} (hg:H.get s=some ⟨zac,stR a id sv rv sl ad e snd rcv f q b o,none⟩) (hv:Ax.vlen v=some (.int .i64 801)):Ok (sem T zaE [.ptr s 0,.int .i64 0,.bool key,v]) H λr H'=>r = .tup [.nils,.int .i64 4]∧H'=H:=by
 refine zcO ?_;unfold zcp uL uT uNFM uNF uB uI uO uc ug;refine zol ?_;refine zae (zse (k:=0) (.inl rfl)) ?_;rintro _ H ⟨rfl,rfl⟩;unfold stR at hg;simp(maxSteps:=1000000) (disch:=first|omega|(simp only[RY]<;>omega)|decide)only[↓RD,RZ,eq_self,Int.reduceToNat,Int.reduceAdd,Int.reduceSub,Int.reduceMul,Nat.reduceAdd,Nat.reduceSub,Nat.reduceMul,Nat.reduceDiv,Nat.reduceMod,Nat.reduceBEq,Nat.reduceLeDiff,hg,hv]
end Go.Ax.SU
/- St16 -/
namespace Go.Ax.SU
open Go.Ax Go.Proofs
set_option maxHeartbeats 4000000 in
theorem zqa{H:Heap}(hc:H.Cl):Ok (sem T zbk []) H λr H'=>r = .bool true:=by
 refine ze6 ?_;unfold zdg uL uT uE uG uH uO uc ub uq;refine zae (awake_28 hc) ?_;rintro _ H1 ⟨rfl,s1,c1⟩;simp(maxSteps:=1000000) (disch:=first|omega|(simp only[RY]<;>omega)|decide)only[↓RD,RZ,eq_self,Int.reduceToNat,Int.reduceAdd,Int.reduceSub,Int.reduceMul,Nat.reduceAdd,Nat.reduceSub,Nat.reduceMul,Nat.reduceDiv,Nat.reduceMod,Nat.reduceBEq,Nat.reduceLeDiff,RG];refine zae (zvR (.inl ⟨rfl,rfl⟩) c1) ?_;rintro _ H2 ⟨rfl,s2,c2⟩;simp(maxSteps:=1000000) (disch:=first|omega|(simp only[RY]<;>omega)|decide)only[↓RD,RZ,eq_self,Int.reduceToNat,Int.reduceAdd,Int.reduceSub,Int.reduceMul,Nat.reduceAdd,Nat.reduceSub,Nat.reduceMul,Nat.reduceDiv,Nat.reduceMod,Nat.reduceBEq,Nat.reduceLeDiff,RG];refine zae (zvR (.inr ⟨rfl,rfl⟩) c2) ?_;rintro _ H3 ⟨rfl,s3,c3⟩;simp(maxSteps:=1000000) (disch:=first|omega|(simp only[RY]<;>omega)|decide)only[↓RD,RZ,eq_self,Int.reduceToNat,Int.reduceAdd,Int.reduceSub,Int.reduceMul,Nat.reduceAdd,Nat.reduceSub,Nat.reduceMul,Nat.reduceDiv,Nat.reduceMod,Nat.reduceBEq,Nat.reduceLeDiff,RG];refine zae (new_32 c3) ?_;rintro _ H4 ⟨s,rfl,ls,g4,s4,c4⟩;have l4:=za1 c4 g4;simp(maxSteps:=1000000) (disch:=first|omega|(simp only[RY]<;>omega)|decide)only[↓RD,RZ,eq_self,Int.reduceToNat,Int.reduceAdd,Int.reduceSub,Int.reduceMul,Nat.reduceAdd,Nat.reduceSub,Nat.reduceMul,Nat.reduceDiv,Nat.reduceMod,Nat.reduceBEq,Nat.reduceLeDiff,RG];refine zae (frame_no c4 g4) ?_;rintro _ H5 ⟨rfl,s5,c5⟩;have g5:=(s5.same s l4).trans g4;have n5:=s5.next;refine zbe rfl ?_;refine zbe rfl ?_;refine zaB (zo8 (cs:=zgN.map by8) rfl ?_);have gb6:(H5.new ⟨zaa,zgN.map by8,none⟩).get H5.next = _:=zag _ _;have s6:=Grow.new H5 ⟨zaa,zgN.map by8,none⟩;have c6:=zdV c5 ⟨zaa,zgN.map by8,none⟩;have n6:(H5.new ⟨zaa,zgN.map by8,none⟩).next=H5.next+1:=zaf _ _;generalize H5.new _=H6 at *;have g6:=(s6.same s (by omega)).trans g5;refine zae (take_12 c6 g6 gb6 (by omega)) ?_;rintro _ H7 ⟨rfl,s7,c7⟩;have n7:=s7.next;have g7:=(s7.same s (by omega)).trans g6;refine zbe rfl ?_;refine zbe rfl ?_;refine zgm c7 rfl rfl λq8 H8 e8 gb8 s8 n8 c8=>?_;have g8:=(s8.same s (by omega)).trans g7;refine zae (take_no c8 g8) ?_;rintro _ H9 ⟨rfl,s9,c9⟩;have n9:=s9.next;have g9:=(s9.same s (by omega)).trans g8;refine zbe rfl ?_;refine zbe rfl ?_;refine zgm c9 rfl rfl λq10 H10 e10 gb10 s10 n10 c10=>?_;have g10:=(s10.same s (by omega)).trans g9;refine zaB (zo8 (cs:=([120]:List Nat).map by8) rfl ?_);have gb11:(H10.new ⟨zaa,([120]:List Nat).map by8,none⟩).get H10.next = _:=zag _ _;have s11:=Grow.new H10 ⟨zaa,([120]:List Nat).map by8,none⟩;have c11:=zdV c10 ⟨zaa,([120]:List Nat).map by8,none⟩;have n11:(H10.new ⟨zaa,([120]:List Nat).map by8,none⟩).next=H10.next+1:=zaf _ _;generalize H10.new _=H11 at *;have g11:=(s11.same s (by omega)).trans g10
 refine zjq gb11 (by decide) ?_;refine zae (hear_x c11 g11 gb11 (by omega)) ?_;rintro _ H12 ⟨rfl,s12,c12⟩;have n12:=s12.next;have g12:=(s12.same s (by omega)).trans g11;refine zbe rfl ?_;refine zae (says_2 (k:=22) (e:=4) (.inl ⟨rfl,rfl⟩) c12) ?_;rintro _ H13 ⟨i,rfl,li,gi,s13,c13⟩;have n13:=s13.next;have g13:=(s13.same s (by omega)).trans g12;refine zae (hear_22 c13 g13 gi (by omega)) ?_;rintro _ H14 ⟨rfl,s14,c14⟩;have n14:=s14.next;have g14:=(s14.same s (by omega)).trans g13;refine zbe rfl ?_;refine zae (wel_ok (sl:=2) (e:=0) (ad:=3) (.inr ⟨rfl,rfl,rfl⟩) c14 rfl) ?_;rintro _ H15 ⟨i2,rfl,gi2,s15,c15⟩;have n15:=s15.next;have g15:=(s15.same s (by omega)).trans g14;refine zae (says_w (.inr ⟨rfl,rfl,rfl⟩) c15 gi2) ?_;rintro _ H16 ⟨j,rfl,gj,s16,c16⟩;have n16:=s16.next;have g16:=(s16.same s (by omega)).trans g15;have sT:Grow H3 H16:=(((((((((((s4.trans s5).trans s6).trans s7).trans s8).trans s9).trans s10).trans s11).trans s12).trans s13).trans s14).trans s15).trans s16;have sA:Grow H H3:=(s1.trans s2).trans s3;refine zae (hear_w (n:=16) (t:=8) c16 g16 (Lc.nil:By 0 H16 .nils []) (λi hi=>by cases hi) Ok8.nil (by decide) rfl (.inr ⟨rfl,rfl,rfl⟩) gj) ?_;rintro _ H17 ⟨rfl,sn,rc,g17,hs17,ne17,a17,c17⟩;have n17:=a17.next;have hs17':SndM (s+1) H17 sn (2:Nat) (2:Nat) (some (drv 2 (kidN 0 0 2) 16 8 (znU sOwn [] [0,0,0,1,0,0]),(0:Nat),(0:Nat),0)):=hs17;generalize drv 2 (kidN 0 0 2) 16 8 (znU sOwn [] [0,0,0,1,0,0])=K at *;obtain⟨-,kk,-,hkm,-⟩:=hs17'.2;have hKt:=hkm.good.t;have hKw:=hkm.good.ws;refine zae frame_3 ?_;rintro _ H17 ⟨rfl,rfl⟩;refine zbe rfl ?_;refine zbe rfl ?_;refine zaB (zkU (by decide) ?_);have s18:=Grow.new H17 ⟨zaa,zeros [.int .u8 0] ((801:Int).toNat),none⟩;have c18:=zdV c17 ⟨zaa,zeros [.int .u8 0] ((801:Int).toNat),none⟩;have n18:(H17.new ⟨zaa,zeros [.int .u8 0] ((801:Int).toNat),none⟩).next=H17.next+1:=zaf _ _;generalize H17.new _=H18 at *;have l17:=za1 c17 g17;have g18:=(s18.same s l17).trans g17;refine zae (zwm g18 rfl) ?_;rintro _ H18 ⟨rfl,rfl⟩;refine zbe rfl ?_;refine zbe rfl ?_;refine zaB (zkU (by decide) ?_);have ez:zeros [.int .u8 0] ((250:Int).toNat)=(List.replicate 250 0).map by8:=rfl;have s19:=Grow.new H18 ⟨zaa,zeros [.int .u8 0] ((250:Int).toNat),none⟩;have gb19:(H18.new ⟨zaa,zeros [.int .u8 0] ((250:Int).toNat),none⟩).get H18.next = _:=zag _ _;have c19:=zdV c18 ⟨zaa,zeros [.int .u8 0] ((250:Int).toNat),none⟩;have n19:(H18.new ⟨zaa,zeros [.int .u8 0] ((250:Int).toNat),none⟩).next=H18.next+1:=zaf _ _;generalize H18.new _=H19 at *;rw[ez]at gb19;have g19:=(s19.same s (by omega)).trans g18;have hs19:=(hs17'.grow s18).grow s19;have hsn:=hs17'.1;have hb19:By 0 H19 (.sl H18.next 0 250 (.fix 250)) (List.replicate 250 0):=zkG gb19 (List.length_replicate ..) (Nat.zero_le _) (by omega);have e250:(pcsL (List.replicate 250 0)).length=3:=by rw[zl1,List.length_replicate]
 have hss:∀{H:Heap} {f q:Nat} {b0 o:Bool},H.get s=some ⟨zac,stR 3 2 .nils .nils 2 3 0 (.ptr sn 0) (.ptr rc 0) f q b0 o,none⟩→Ok (sem T zaJ [.ptr s 0,.int .i64 0]) H λv H'=>v = .int .u32 ((1300:Nat):Int)∧H'=H:=λh=>zrg h rfl (.inr (.inr ⟨rfl,rfl,rfl⟩));refine zae (zwl (se:=0) (ss:=0) c19 g19 (.inr rfl) (.inl rfl) hs19 (by decide) ne17 hb19 (λx hx=>by rw[List.eq_of_mem_replicate hx]; decide) (by rw[List.length_replicate]; decide) (λx hx=>by injection hx with hx; omega) (by decide) (by decide) hKt hKw hss) ?_;rintro _ H20 ⟨ov,rfl,g20,hs20,ho20,k20,c20⟩;rw[e250]at g20 hs20;have v20:=ho20.vlen;rw[List.length_map,List.length_range,e250]at v20;have n20:=k20.next;refine zbe rfl ?_;refine zbe rfl ?_;refine zae (zwk (key:=false) (se:=0) (ss:=0) c20 g20 hs20 (by decide) ne17 (Lc.nil:By 0 H20 .nils []) Ok8.nil (by decide) (λx hx=>by cases hx) (by decide) (by decide) hKt hKw hss) ?_;rintro _ H21 ⟨ov2,rfl,g21,hs21,ho21,k21,c21⟩;have v21:=ho21.vlen;rw[List.length_map,List.length_range,zl1]at v21;have n21:=k21.next;refine zbe rfl ?_;refine zbe rfl ?_;refine zbe rfl ?_;refine zae (says_2 (k:=23) (e:=0) (.inr ⟨rfl,rfl⟩) c21) ?_;rintro _ H22 ⟨i3,rfl,li3,gi3,s22,c22⟩;have n22:=s22.next;have g22:=(s22.same s (by omega)).trans g21;refine zae (hear_23 c22 g22 gi3) ?_;rintro r23 H23 ⟨g23,a23,c23⟩;refine zae (in_out g23 rfl) ?_;rintro _ H23 ⟨rfl,rfl⟩;simp(maxSteps:=1000000) (disch:=first|omega|(simp only[RY]<;>omega)|decide)only[↓RD,RZ,eq_self,Int.reduceToNat,Int.reduceAdd,Int.reduceSub,Int.reduceMul,Nat.reduceAdd,Nat.reduceSub,Nat.reduceMul,Nat.reduceDiv,Nat.reduceMod,Nat.reduceBEq,Nat.reduceLeDiff,RG,v20,v21];refine zae (mem_ok g23 rfl) ?_;rintro _ H23 ⟨rfl,rfl⟩;simp(maxSteps:=1000000) (disch:=first|omega|(simp only[RY]<;>omega)|decide)only[↓RD,RZ,eq_self,Int.reduceToNat,Int.reduceAdd,Int.reduceSub,Int.reduceMul,Nat.reduceAdd,Nat.reduceSub,Nat.reduceMul,Nat.reduceDiv,Nat.reduceMod,Nat.reduceBEq,Nat.reduceLeDiff,RG];refine zae ssrc_out ?_;rintro _ H23 ⟨rfl,rfl⟩;simp(maxSteps:=1000000) (disch:=first|omega|(simp only[RY]<;>omega)|decide)only[↓RD,RZ,eq_self,Int.reduceToNat,Int.reduceAdd,Int.reduceSub,Int.reduceMul,Nat.reduceAdd,Nat.reduceSub,Nat.reduceMul,Nat.reduceDiv,Nat.reduceMod,Nat.reduceBEq,Nat.reduceLeDiff,RG];refine zae (zrg g23 rfl (.inr (.inl ⟨rfl,rfl,rfl⟩))) ?_;rintro _ H23 ⟨rfl,rfl⟩;simp(maxSteps:=1000000) (disch:=first|omega|(simp only[RY]<;>omega)|decide)only[↓RD,RZ,eq_self,Int.reduceToNat,Int.reduceAdd,Int.reduceSub,Int.reduceMul,Nat.reduceAdd,Nat.reduceSub,Nat.reduceMul,Nat.reduceDiv,Nat.reduceMod,Nat.reduceBEq,Nat.reduceLeDiff,RG]
theorem law_seatKnown(us:List V) (h:zxi [] us):∃H',sem T zbk us H0=some (.bool true,H'):=by
 cases us with
 | nil =>
  obtain⟨r,H',h1,rfl⟩:=zqa (H:=H0) (λ_ _=>rfl);exact⟨H',h1⟩
 | cons u us=>cases h
end Go.Ax.SU
