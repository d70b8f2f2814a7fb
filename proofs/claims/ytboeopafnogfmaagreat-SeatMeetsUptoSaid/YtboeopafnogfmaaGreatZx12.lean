/-
  Texts of mine, put together by program (wip/slim.py), for law_seatMeets: part 12.
-/
import Derived.Test.YtboeopafnogfmaaGreatZx11
noncomputable section
set_option linter.unusedVariables false
set_option linter.unusedSimpArgs false
set_option linter.defProp false
set_option maxRecDepth 100000
/- Ax51 -/
namespace Go.Ax.Y
def shB(d:Nm)(b:Blk):Blk:=⟨b.ty,shL d b.cells,b.opn⟩
def shB_c(d:Nm)(b:Blk):(shB d b).cells=shL d b.cells:=rfl
def Emd(d:Nm)(h K:Heap):Prop:=∀i b,h.get i=some b->K.get (d.f i)=some (shB d b)
inductive Stp (d:Nm) (h K:Heap):Heap->Heap->Prop where
 | same:Stp d h K h K
 | set {id:Nat} {b:Blk} (o:Option Blk) (hb:h.get id=some b):Stp d h K (h.set id o) (K.set (d.f id) (o.map (shB d)))
 | new (b:Blk):Stp d h K (h.new b) (K.new (shB d b))
 | snew {id:Nat} {b:Blk} (c:Blk) (hb:h.get id=some b):Stp d h K ((h.set id none).new c) ((K.set (d.f id) none).new (shB d c))
def OpR(d:Nm)(x y:M V):Prop:=∀h K a h',Emd d h K->x h=some (a,h')->(h'.next=h.next\/d.f h.next=K.next)->∃K',y K=some (sh d a,K')/\Stp d h K h' K'
section
variable {d:Nm}
def Stp.seti{h K:Heap}{id:Nat}{b:Blk}(hb:h.get id=some b){cs cs':List V}(e:cs'=shL d cs):Stp d h K (h.set id (some ⟨b.ty,cs,b.opn⟩)) (K.set (d.f id) (some ⟨b.ty,cs',b.opn⟩)):=by
 subst e;exact Stp.set (some ⟨b.ty,cs,b.opn⟩) hb
def Stp.newi{h K:Heap}{ty:TypeId}{o:Option Nat}{cs cs':List V}(e:cs'=shL d cs):Stp d h K (h.new ⟨ty,cs,o⟩) (K.new ⟨ty,cs',o⟩):=by
 subst e;exact Stp.new ⟨ty,cs,o⟩
def gb{α β:Type}{o:Option α}{k:α->Option β}{r:β}(h:o.bind k=some r):∃b,o=some b/\k b=some r:=by
 cases o with
 | none=>cases h
 | some b=>exact⟨b,rfl,h⟩
def gm{α β:Type}{o:Option α}{k:α->β}{r:β}(h:o.map k=some r):∃b,o=some b/\k b=r:=by
 cases o with
 | none=>cases h
 | some b=>injection h with h;exact⟨b,rfl,h⟩
def nn{h:Heap}{b:Blk}{P:Prop} (hn:(h.new b).next=h.next\/P):P:=hn.resolve_left (by rw[zac];omega)
def nn'{h:Heap}{i:Nat}{o:Option Blk}{b:Blk}{P:Prop} (hn:((h.set i o).new b).next=h.next\/P):P:=hn.resolve_left (by rw[zac,zal];omega)
def zd6{o o':Option V} (hl:∀r,o=some r->o'=some (sh d r)):OpR d (M.lift o) (M.lift o'):=by
 intro h K a h' hE hx hn;cases o with
 | none=>cases hx
 | some r=>cases hx;rw[hl _ rfl];exact⟨K,rfl,.same⟩
def zw0(n:Option Nat)(p:V):OpR d (mload n p) (mload n (sh d p)):=by
 intro h K a h' hE hx hn;cases p<;>try (cases hx;done)
 ·rename_i id off;simp only[mload,sh]at hx ⊢;obtain⟨b,hb,hx⟩:=gb hx;obtain⟨v,hv,hx⟩:=gm hx;cases hx;rw[hE _ _ hb,Option.bind_some,shB_c,sh_ldc hv];exact⟨K,rfl,.same⟩
 ·rename_i cells off;simp only[mload,sh]at hx ⊢;obtain⟨v,hv,hx⟩:=gm hx;cases hx;rw[sh_ldc hv];exact⟨K,rfl,.same⟩
def r_store(n:Nat)(p x:V):OpR d (mstore n p x) (mstore n (sh d p) (sh d x)):=by
 intro h K a h' hE hx hn;cases p<;>try (cases hx;done)
 rename_i id off;simp only[mstore,sh]at hx ⊢;obtain⟨b,hb,hx⟩:=gb hx;rw[hE _ _ hb,Option.bind_some];split at hx
 ·rename_i hc;cases hx;rw[if_pos ⟨by rw[sh_cells,shL_len];exact hc.1,by rw[shB_c,shL_len];exact hc.2.1,sh_okc hc.2.2⟩];exact⟨_,rfl,Stp.seti hb (by rw[shB_c,sh_cells,sh_splice])⟩
 ·cases hx
def r_box(ty:TypeId)(x:V):OpR d (mbox ty x) (mbox ty (sh d x)):=by
 intro h K a h' hE hx hn;unfold mbox at hx ⊢;split at hx
 ·rename_i hc;cases hx;have e:=nn hn;rw[if_pos (sh_okc hc)];simp only[sh];rw[e];exact⟨_,rfl,Stp.newi (sh_cells x)⟩
 ·cases hx
def r_slit(ty:TypeId)(l:Nat)(z:List V) (ps:List (Nat×Nat×V)):OpR d (mslit ty l z ps) (mslit ty l (shL d z) (shP d ps)):=by
 intro h K a h' hE hx hn;unfold mslit at hx ⊢;obtain⟨cs,hf,hx⟩:=gm hx;cases hx;have e:=nn hn;rw[sh_zeros,sh_fill hf];simp only[sh];rw[e];exact⟨_,rfl,Stp.newi rfl⟩
def zn4{e:Nat}{h K:Heap}{v:V}{q:List V×Nat}(hE:Emd d h K)(hx:rcells e h v=some q):rcells e K (sh d v)=some (shL d q.1,q.2):=by
 cases v<;>try (cases hx;done)
 ·cases hx;rfl
 ·rename_i id off len cap;simp only[rcells,sh]at hx ⊢;obtain⟨b,hb,hx⟩:=gb hx;rw[hE _ _ hb,Option.bind_some,shB_c,shL_len];split at hx
  ·rename_i hc;cases hx;rw[if_pos hc,shL_drop,shL_take]
  ·cases hx
 ·simp only[rcells,sh]at hx ⊢;rw[shL_len];split at hx
  ·rename_i hc;cases hx;rw[if_pos hc,shL_take]
  ·cases hx
def zr0{e:Nat}{h K:Heap}{v:V}{q:List V×Nat}(hE:Emd d h K)(hx:acells e h v=some q):acells e K (sh d v)=some (shL d q.1,q.2):=by
 cases v with
 | str s=>
  simp only[acells,sh]at hx ⊢;split at hx
  ·rename_i hc;cases hx;rw[if_pos hc,sh_strCells]
  ·cases hx
 | nils=>cases hx;rfl
 | sl id off len cap=>exact zn4 (v:=.sl id off len cap) hE hx
 | rs cells len=>exact zn4 (v:=.rs cells len) hE hx
 | _=>cases hx
def zrg(ty e b:Nat)(q:List V×Nat)(x:V):OpR d (mappendq ty e b q x) (mappendq ty e b (shL d q.1,q.2) (sh d x)):=by
 intro h K a h' hE hx hn;cases x<;>try (cases hx;done)
 ·simp only[mappendq,sh]at hx ⊢;split at hx
  ·rename_i hc;cases hx;rw[if_pos hc];exact⟨K,rfl,.same⟩
  ·rename_i hc;rw[if_neg hc];split at hx
   ·rename_i hc;cases hx;have e:=nn hn;rw[if_pos hc];simp only[sh];rw[e];exact⟨_,rfl,Stp.newi rfl⟩
   ·cases hx
 ·rename_i id off len cap;simp only[mappendq,sh]at hx ⊢;obtain⟨bb,hb,hx⟩:=gb hx;rw[hE _ _ hb,Option.bind_some];have el:(shB d bb).cells.length=bb.cells.length:=by rw[shB_c,shL_len]
  rw[el];split at hx
  case isFalse=>cases hx
  rename_i hc;rw[if_pos (show _/\(shB d bb).ty=ty from hc)];cases cap with
  | fix c=>
   dsimp only at hx ⊢;split at hx
   ·rename_i h1;rw[if_pos h1];split at hx
    ·rename_i h2;cases hx;rw[if_pos h2];exact⟨_,rfl,Stp.seti hb (by rw[shB_c,sh_splice])⟩
    ·cases hx
   ·rename_i h1;rw[if_neg h1];split at hx
    ·rename_i h2;cases hx;have e:=nn hn;rw[if_pos h2];simp only[sh];rw[e];exact⟨_,rfl,Stp.newi (by rw[shB_c,shL_drop,shL_take,<-shL_app])⟩
    ·cases hx
  | opn ee=>
   dsimp only at hx ⊢;have eo:(shB d bb).opn=bb.opn:=rfl;rw[eo];split at hx
   ·rename_i h1;rw[if_pos h1];split at hx
    ·rename_i h2;cases hx;rw[if_pos h2];exact⟨K,rfl,.same⟩
    ·rename_i h2;rw[if_neg h2];split at hx
     ·rename_i h3;cases hx;have e:=nn' hn;rw[if_pos h3];simp only[sh];rw[e,shB_c,shL_drop,<-shL_app];exact⟨_,rfl,Stp.snew ⟨ty,bb.cells.drop off++q.1,some _⟩ hb⟩
     ·cases hx
   ·rename_i h1;rw[if_neg h1];split at hx
    ·rename_i h2;cases hx;rw[if_pos h2];exact⟨K,rfl,.same⟩
    ·rename_i h2;rw[if_neg h2];split at hx
     ·rename_i h3;cases hx;rw[if_pos h3];exact⟨_,rfl,Stp.seti hb (by rw[shB_c,sh_splice])⟩
     ·cases hx
 ·simp only[mappendq,sh]at hx ⊢;split at hx
  ·rename_i hc;cases hx;rw[if_pos hc];exact⟨K,rfl,.same⟩
  ·cases hx
def r_append(ty e b:Nat)(x y:V):OpR d (mappend ty e b x y) (mappend ty e b (sh d x) (sh d y)):=by
 intro h K a h' hE hx hn;unfold mappend at hx ⊢;obtain⟨q,hq,hx⟩:=gb hx;rw[zr0 hE hq,Option.bind_some];exact zrg ty e b q x h K a h' hE hx hn
def zw1(ty b:Nat)(z:List V)(x y:V):OpR d (mappendz ty b z x y) (mappendz ty b (shL d z) (sh d x) (sh d y)):=by
 intro h K a h' hE hx hn;cases y<;>try (cases hx;done)
 simp only[mappendz,sh]at hx ⊢;split at hx
 ·rename_i hc;rw[if_pos hc,shL_len,sh_zeros];exact zrg _ _ _ _ _ h K a h' hE hx hn
 ·cases hx
def r_copy(e:Nat)(x y:V):OpR d (mcopy e x y) (mcopy e (sh d x) (sh d y)):=by
 intro h K a h' hE hx hn;unfold mcopy at hx ⊢;obtain⟨q,hq,hx⟩:=gb hx;rw[zr0 hE hq,Option.bind_some];cases x<;>try (cases hx;done)
 ·cases hx;exact⟨K,rfl,.same⟩
 ·rename_i id off len cap;simp only[sh]at hx ⊢;obtain⟨b,hb,hx⟩:=gb hx;rw[hE _ _ hb,Option.bind_some];split at hx
  ·rename_i hc;cases hx;rw[if_pos (by rw[shB_c,shL_len];exact hc)];exact⟨_,rfl,Stp.seti hb (by rw[shB_c,shL_take,sh_splice])⟩
  ·cases hx
def r_tostr(x:V):OpR d (mtostr x) (mtostr (sh d x)):=by
 intro h K a h' hE hx hn;unfold mtostr at hx ⊢;obtain⟨q,hq,hx⟩:=gb hx;obtain⟨l,hl,hx⟩:=gm hx;cases hx;rw[zn4 hE hq,Option.bind_some,sh_vbytes hl];exact⟨K,rfl,.same⟩
def zrf(ty:TypeId)(x:V):OpR d (mtobytes ty x) (mtobytes ty (sh d x)):=by
 intro h K a h' hE hx hn;cases x<;>try (cases hx;done)
 simp only[mtobytes,sh]at hx ⊢;split at hx
 ·rename_i hc;cases hx;have e:=nn hn;rw[if_pos hc];simp only[sh];rw[e];exact⟨_,rfl,Stp.newi (sh_strCells _).symm⟩
 ·cases hx
def r_remark(ty:TypeId)(x:V):OpR d (mremark ty x) (mremark ty (sh d x)):=by
 intro h K a h' hE hx hn;cases x<;>try (cases hx;done)
 ·exact zrf ty (.str _) h K a h' hE hx hn
 ·simp only[mremark,sh]at hx ⊢;obtain⟨b,hb,hx⟩:=gb hx;rw[hE _ _ hb,Option.bind_some];split at hx
  ·cases hx
  ·rename_i hc;cases hx;rw[if_neg hc];exact⟨K,rfl,.same⟩
def zwY(ty b:Nat)(z:List V)(l c:V):OpR d (mmkslice ty b z l c) (mmkslice ty b (shL d z) (sh d l) (sh d c)):=by
 intro h K a h' hE hx hn;unfold mmkslice at hx;split at hx
 ·rename_i l c;split at hx
  ·rename_i hc;cases hx;have e:=nn hn;simp only[mmkslice,sh];rw[if_pos hc,e];exact⟨_,rfl,Stp.newi (sh_zeros _ _)⟩
  ·cases hx
 ·cases hx
def r_mknz(ty:TypeId)(x:V):OpR d (mmknz ty x) (mmknz ty (sh d x)):=by
 intro h K a h' hE hx hn;unfold mmknz at hx;split at hx
 ·rename_i n;split at hx
  ·rename_i hc;cases hx;have e:=nn hn;simp only[mmknz,sh];rw[if_pos hc,e];refine⟨_,rfl,Stp.newi ?_⟩;rw[shL_map,yce];rfl
  ·cases hx
 ·cases hx
def r_slice2(e:Nat)(x lo hi:V):OpR d (mslice2 e x lo hi) (mslice2 e (sh d x) (sh d lo) (sh d hi)):=by
 intro h K a h' hE hx hn;unfold mslice2 at hx;split at hx
 ·obtain⟨b,hb,hx⟩:=gb hx;split at hx
  ·rename_i hc;cases hx;simp only[mslice2,sh];rw[hE _ _ hb,Option.bind_some,if_pos ⟨hc.1,hc.2.1,hc.2.2.1,hc.2.2.2.1,by rw[shB_c,shL_len];exact hc.2.2.2.2⟩];exact⟨K,rfl,.same⟩
  ·cases hx
 ·cases hx
def r_clear(z:List V)(x:V):OpR d (mclear z x) (mclear (shL d z) (sh d x)):=by
 intro h K a h' hE hx hn;cases x<;>try (cases hx;done)
 rename_i id off len cap;simp only[mclear,sh]at hx ⊢;split at hx
 ·rename_i hc;cases hx;rw[if_pos hc];exact⟨K,rfl,.same⟩
 ·rename_i hc;rw[if_neg hc];obtain⟨b,hb,hx⟩:=gb hx;rw[hE _ _ hb,Option.bind_some];split at hx
  ·rename_i hc;cases hx;rw[if_pos (by rw[shB_c,shL_len,shL_len];exact hc)];exact⟨_,rfl,Stp.seti hb (by rw[shB_c,sh_zeros,sh_splice])⟩
  ·cases hx
def r_mkmap(ty:TypeId):OpR d (mmkmap ty) (mmkmap ty):=by
 intro h K a h' hE hx hn;cases hx;have e:=nn hn;simp only[mmkmap,sh];rw[e];exact⟨_,rfl,Stp.newi rfl⟩
def r_lookup(mk:MK)(z:V)(ok:Bool)(x k:V):OpR d (mlookup mk z ok x k) (mlookup mk (sh d z) ok (sh d x) (sh d k)):=by
 intro h K a h' hE hx hn;cases x<;>try (cases hx;done)
 simp only[mlookup,sh]at hx ⊢;obtain⟨b,hb,hx⟩:=gb hx;rw[hE _ _ hb,Option.bind_some];split at hx
 ·rename_i hc;rw[if_pos (sh_kok hc)];obtain⟨r,hr,hx⟩:=gm hx;cases hx;rw[shB_c,sh_mget hr];refine⟨K,?_,.same⟩;cases r<;>cases ok<;>rfl
 ·cases hx
def r_mapset(mk:MK)(x k v:V):OpR d (mmapset mk x k v) (mmapset mk (sh d x) (sh d k) (sh d v)):=by
 intro h K a h' hE hx hn;cases x<;>try (cases hx;done)
 simp only[mmapset,sh]at hx ⊢;obtain⟨b,hb,hx⟩:=gb hx;rw[hE _ _ hb,Option.bind_some];split at hx
 ·rename_i hc;rw[if_pos (sh_kok hc)];obtain⟨cs,hr,hx⟩:=gm hx;cases hx;rw[shB_c,sh_mset hr];exact⟨_,rfl,Stp.seti hb rfl⟩
 ·cases hx
def r_maplen(x:V):OpR d (mmaplen x) (mmaplen (sh d x)):=by
 intro h K a h' hE hx hn;cases x<;>try (cases hx;done)
 simp only[mmaplen,sh]at hx ⊢;obtain⟨b,hb,hx⟩:=gm hx;cases hx;rw[hE _ _ hb,yar,shB_c,shL_len];exact⟨K,rfl,.same⟩
def r_aload(k:IntKind)(p:V):OpR d (matoload k p) (matoload k (sh d p)):=by
 intro h K a h' hE hx hn;unfold matoload at hx ⊢;obtain⟨⟨v,h1⟩,hl,hx⟩:=gb hx;have e1:h1=h:=by
  cases p<;>try (cases hl;done)
  ·obtain⟨b,hb,hl⟩:=gb hl;obtain⟨u,hu,hl⟩:=gm hl;cases hl;rfl
  ·obtain⟨u,hu,hl⟩:=gm hl;cases hl;rfl
 subst e1;obtain⟨K1,e2,s⟩:=zw0 none p h1 K v h1 hE hl (.inl rfl);have e3:K1=K:=by
  cases p<;>try (cases hl;done)
  ·obtain⟨b,hb,e2⟩:=gb e2;obtain⟨u,hu,e2⟩:=gm e2;cases e2;rfl
  ·obtain⟨u,hu,e2⟩:=gm e2;cases e2;rfl
 subst e3;rw[e2];simp only[Option.bind_some]at hx ⊢;cases v<;>try (cases hx;done)
 simp only[sh]at hx ⊢;split at hx
 ·rename_i hc;cases hx;rw[if_pos hc];exact⟨K1,rfl,.same⟩
 ·cases hx
def r_aadd(k:IntKind)(p y:V):OpR d (matoadd k p y) (matoadd k (sh d p) (sh d y)):=by
 intro h K a h' hE hx hn;unfold matoadd at hx;split at hx
 ·rename_i id off k2 j;obtain⟨b,hb,hx⟩:=gb hx;simp only[matoadd,sh];rw[hE _ _ hb,Option.bind_some,shB_c];split at hx
  ·rename_i k' n hc;rw[get_of hc];simp only[sh];split at hx
   ·rename_i hk;cases hx;rw[if_pos hk];refine⟨_,rfl,Stp.seti hb ?_⟩;exact sh_splice b.cells off [.int k (k.wrap (n+j))]
   ·cases hx
  ·cases hx
 ·cases hx
def zwZ(p:Bool)(o:Nat)(x n:V):OpR d (mmapdrop p o x n) (mmapdrop p o (sh d x) (sh d n)):=by
 intro h K a h' hE hx hn;unfold mmapdrop at hx;split at hx
 ·rename_i id off n;obtain⟨b0,hb0,hx⟩:=gb hx;simp only[mmapdrop,sh];rw[hE _ _ hb0,Option.bind_some,shB_c];split at hx
  ·rename_i i hi;rw[get_of hi];simp only[sh];obtain⟨b,hb,hx⟩:=gb hx;obtain⟨cs,hcs,hx⟩:=gm hx;cases hx;rw[hE _ _ hb,Option.bind_some,shB_c,sh_mfil hcs];exact⟨_,rfl,Stp.seti hb rfl⟩
  ·cases hx
 ·cases hx
end
section
variable {d:Nm} {h K h' K':Heap}
def Stp.nx(t:Stp d h K h' K'):(h'.next=h.next/\K'.next=K.next)\/(h'.next=h.next+1/\K'.next=K.next+1):=by
 cases t with
 | same=>exact .inl ⟨rfl,rfl⟩
 | set o hb=>exact .inl ⟨rfl,rfl⟩
 | new b=>exact .inr ⟨zac _ _,zac _ _⟩
 | snew c hb=>exact .inr ⟨zac _ _,zac _ _⟩
def zmC{H:Heap}{id j:Nat}{o:Option Blk}{b:Blk} (hj:(H.set id o).get j=some b):(j=id/\o=some b)\/(j≠id/\H.get j=some b):=by
 by_cases e:j=id
 ·subst e;rw[zah]at hj;exact .inl ⟨rfl,hj⟩
 ·rw[zai _ _ e]at hj;exact .inr ⟨e,hj⟩
def zmF{H:Heap}{j:Nat}{c b:Blk} (hj:(H.new c).get j=some b):(j=H.next/\c=b)\/(j≠H.next/\H.get j=some b):=by
 by_cases e:j=H.next
 ·subst e;rw[zae]at hj;injection hj with hj;exact .inl ⟨rfl,hj⟩
 ·rw[zas _ _ e]at hj;exact .inr ⟨e,hj⟩
def Stp.kn (t : Stp d h K h' K') : ∀ j b, h'.get j = some b -> (∃ b', h.get j = some b') \/ (j = h.next /\ h'.next = h.next + 1):= by
  intro j b hj
  cases t with
  | same=> exact .inl ⟨b, hj⟩
  | set o hb=> rcases zmC hj with ⟨rfl, _⟩ | ⟨_, e⟩ <;> exact .inl ⟨_, by assumption⟩
  | new c => rcases zmF hj with ⟨rfl, _⟩ | ⟨_, e⟩
             · exact .inr ⟨rfl, zac _ _⟩
             · exact .inl ⟨_, e⟩
  | snew c hb => rcases zmF hj with ⟨rfl, _⟩ | ⟨_, e⟩
                 · exact .inr ⟨rfl, zac _ _⟩
                 · rcases zmC e with ⟨rfl, _⟩ | ⟨_, e⟩ <;> exact .inl ⟨_, by assumption⟩
def Stp.fr(t:Stp d h K h' K'):∀i,i<K.next->(∀j b,h.get j=some b->d.f j≠i)->K'.get i=K.get i:=by
 intro i hi hf;cases t with
 | same=>rfl
 | set o hb=>exact zai _ _ λe=>hf _ _ hb e.symm
 | new c=>exact zas _ _ (by omega)
 | snew c hb=>
  rw[zas _ _ (by rw[zal];omega)];exact zai _ _ λe=>hf _ _ hb e.symm
def Stp.emd(t:Stp d h K h' K')(hE:Emd d h K)(inj:∀i j b b',h.get i=some b->h.get j=some b'->d.f i=d.f j->i=j)(lt:∀i b,h.get i=some b->i<h.next/\d.f i<K.next)(hn:h'.next=h.next\/d.f h.next=K.next):Emd d h' K':=by
 intro i b hi;cases t with
 | same=>exact hE i b hi
 | set o hb=>
  rcases zmC hi with⟨rfl,rfl⟩|⟨e,hi⟩
  ·rw[zah];rfl
  ·rw[zai _ _ λk=>e (inj _ _ _ _ hi hb k)];exact hE i b hi
 | new c=>
  have en:=nn hn;rcases zmF hi with⟨rfl,rfl⟩|⟨e,hi⟩
  ·rw[en,zae]
  ·rw[zas _ _ (by have:=(lt _ _ hi).2;omega)];exact hE i b hi
 | @snew id b1 c hb=>
  have en:=nn' hn;rcases zmF hi with⟨rfl,rfl⟩|⟨e,hi⟩
  ·have:d.f (h.set id none).next=(K.set (d.f id) none).next:=en;rw[this,zae]
  ·rcases zmC hi with⟨rfl,e1⟩|⟨e,hi⟩
   ·cases e1
   ·rw[zas _ _ (by have:=(lt _ _ hi).2;rw[zal];omega),zai _ _ λk=>e (inj _ _ _ _ hi hb k)];exact hE i b hi
def Stp.cl(t:Stp d h K h' K')(hc:K.Cl)(lt:∀i b,h.get i=some b->d.f i<K.next):K'.Cl:=by
 cases t with
 | same=>exact hc
 | set o hb=>exact zc6 hc (lt _ _ hb) _
 | new c=>exact zeY hc _
 | snew c hb=>exact zeY (zc6 hc (lt _ _ hb) _) _
def Stp.dr(t:Stp d h K h' K')(lt:∀i b,h.get i=some b->i<h.next/\d.f i<K.next){i:Nat}{b:Blk}(hi:h.get i=some b)(hi':h'.get i=none):K'.get (d.f i)=none:=by
 cases t with
 | same=>rw[hi]at hi';cases hi'
 | set o hb=>
  by_cases e:i = ‹Nat›
  ·subst e;rw[zah]at hi' ⊢;rw[hi'];rfl
  ·rw[zai _ _ e,hi]at hi';cases hi'
 | new c=>rw[zas _ _ (by have:=(lt _ _ hi).1;omega),hi]at hi';cases hi'
 | snew c hb=>
  rw[zas _ _ (by have:=(lt _ _ hi).1;rw[zal];omega)]at hi';rw[zas _ _ (by have:=(lt _ _ hi).2;rw[zal];omega)];by_cases e:i = ‹Nat›
  ·subst e;exact zah _ _ _
  ·rw[zai _ _ e,hi]at hi';cases hi'
end
structure Sg where
 e:Nm
 nf:Nat->Prop
 nw:Nat->Prop
def Ag(g:Sg)(d:Nm):Prop:=d.s=g.e.s/\(∀i,g.nf i->d.f i=g.e.f i)/\∀i,g.nw i->d.w i=g.e.w i
def Ag.self(g:Sg):Ag g g.e:=⟨rfl,λ_ _=>rfl,λ_ _=>rfl⟩
structure Tb where
 R:Nat
 s:Nat->Nat
 t:Nat->Nat
 Pf:Nat->Nat->Heap->Nat->Prop
 Pw:Nat->Nat->Heap->V->Prop
structure Sf (g:Sg) (h K:Heap) (lo:Nat) (Hc:Heap):Prop where
 le:Hc.next<=K.next
 sm:∀i,lo<=i->i<Hc.next->K.get i=Hc.get i
 ap:∀i,lo<=i->i<Hc.next->∀j b,h.get j=some b->g.e.f j≠i
structure St (tb:Tb) (g:Sg) (h K:Heap):Prop where
 s:g.e.s=tb.s
 kn:∀i b,h.get i=some b->g.nf i/\tb.R<=i
 nb:∀i,g.nf i->i<h.next
 nwb:∀i,g.nw i->i<tb.R
 lo:tb.R<=h.next
 inj:∀i j,g.nf i->g.nf j->g.e.f i=g.e.f j->i=j
 lt:∀i,g.nf i->g.e.f i<K.next
 em:∀d,Ag g d->Emd d h K
 dr:∀i,g.nf i->tb.R<=i->h.get i=none->K.get (g.e.f i)=none
 cl:K.Cl
 seq:∀i,tb.R<=i->g.nf i->g.nf (i+1)->g.e.f (i+1)=g.e.f i+1
 top:∀i,tb.R<=i->g.nf i->i+1=h.next->K.next=g.e.f i+1
 mono:∀i j,tb.R<=i->i<j->g.nf i->g.nf j->g.e.f i<g.e.f j
 mf:∀m,m<tb.R->g.nf m->tb.t m<h.next/\∃lo Hc,tb.Pf m lo Hc (g.e.f m)/\Sf g h K lo Hc/\∀i,tb.R<=i->i<tb.t m->g.nf i->g.e.f i<lo
 mw:∀m,g.nw m->tb.t m<h.next/\∃lo Hc,tb.Pw m lo Hc (g.e.w m)/\Sf g h K lo Hc
structure Ex (n:Nat) (g g':Sg):Prop where
 s:g'.e.s=g.e.s
 f:∀i,g.nf i->g'.nf i/\g'.e.f i=g.e.f i
 w:∀i,g.nw i->g'.nw i/\g'.e.w i=g.e.w i
 new:∀i,g'.nf i->¬g.nf i->n<=g'.e.f i
def Ex.refl(n:Nat)(g:Sg):Ex n g g:=⟨rfl,λ_ h=>⟨h,rfl⟩,λ_ h=>⟨h,rfl⟩,λ_ h k=>absurd h k⟩
def Ag.mono{n:Nat}{g g':Sg}{d:Nm}(x:Ex n g g')(a:Ag g' d):Ag g d:=
 ⟨a.1.trans x.s,λi hi=>(a.2.1 i (x.f i hi).1).trans (x.f i hi).2,λi hi=>(a.2.2 i (x.w i hi).1).trans (x.w i hi).2⟩
structure Frm (g:Sg) (h K:Heap) (g':Sg) (h' K':Heap):Prop where
 ex:Ex K.next g g'
 le:K.next<=K'.next
 hle:h.next<=h'.next
 fr:∀i,i<K.next->(∀j b,h.get j=some b->g.e.f j≠i)->K'.get i=K.get i
 kn:∀j b,h'.get j=some b->(∃b',h.get j=some b')\/K.next<=g'.e.f j
def Frm.refl(g:Sg)(h K:Heap):Frm g h K g h K:=⟨Ex.refl _ _,yaj _,yaj _,λ_ _ _=>rfl,λj b hj=>.inl ⟨b,hj⟩⟩
def Frm.trans{tb:Tb}{g g1 g2:Sg}{h h1 h2 K K1 K2:Heap}(s:St tb g h K)(s1:St tb g1 h1 K1)(a:Frm g h K g1 h1 K1)(b:Frm g1 h1 K1 g2 h2 K2):Frm g h K g2 h2 K2:=by
 refine⟨⟨b.ex.s.trans a.ex.s,λi hi=>?_,λi hi=>?_,λi hi hn=>?_⟩,yay a.le b.le,yay a.hle b.hle,λi hi hf=>?_,λj c hj=>?_⟩
 ·have h1:=a.ex.f i hi;have h2:=b.ex.f i h1.1;exact⟨h2.1,h2.2.trans h1.2⟩
 ·have h1:=a.ex.w i hi;have h2:=b.ex.w i h1.1;exact⟨h2.1,h2.2.trans h1.2⟩
 ·by_cases h1:g1.nf i
  ·rw[(b.ex.f i h1).2];exact a.ex.new i h1 hn
  ·exact yay a.le (b.ex.new i hi h1)
 ·rw[b.fr i (yak hi a.le),a.fr i hi hf];intro j c hj e;rcases a.kn j c hj with⟨b',hb'⟩|hk
  ·exact hf j b' hb' (by rw[<-e,(a.ex.f j (s.kn j b' hb').1).2])
  ·omega
 ·rcases b.kn j c hj with⟨b',hb'⟩|hk
  ·rcases a.kn j b' hb' with h3|h3
   ·exact .inl h3
   ·refine .inr ?_;rw[(b.ex.f j (s1.kn j b' hb').1).2];exact h3
  ·exact .inr (yay a.le hk)
def Sf.step{tb:Tb}{g g':Sg}{h h' K K':Heap}(s:St tb g h K)(a:Frm g h K g' h' K'){lo:Nat}{Hc:Heap}(x:Sf g h K lo Hc):Sf g' h' K' lo Hc:=by
 refine⟨yay x.le a.le,λi h1 h2=>?_,λi h1 h2 j b hj e=>?_⟩
 ·rw[a.fr i (yak h2 x.le) (x.ap i h1 h2),x.sm i h1 h2]
 ·rcases a.kn j b hj with⟨b',hb'⟩|hk
  ·rw[(a.ex.f j (s.kn j b' hb').1).2]at e;exact x.ap i h1 h2 j b' hb' e
  ·have:=x.le;omega
abbrev Rl{α β:Type}(g:Sg)(f:Nm->α->β)(a:α)(b:β):Prop:=∀d,Ag g d->b=f d a
def Rl.mono{α β:Type}{n:Nat}{g g':Sg}{f:Nm->α->β}{a:α}{b:β}(x:Ex n g g')(r:Rl g f a b):Rl g' f a b:=λd hd=>r d (hd.mono x)
def S(tb:Tb)(g:Sg)(h K:Heap){α β:Type}(f:Nm->α->β)(x:M α)(y:M β):Prop:=
 ∀a h',x h=some (a,h')->∃g' b K',y K=some (b,K')/\St tb g' h' K'/\Frm g h K g' h' K'/\Rl g' f a b
section
variable {tb:Tb} {g:Sg} {h K:Heap} {α β γ δ:Type}
def zdk{f:Nm->α->β}{a:α}{b:β}(s:St tb g h K)(r:Rl g f a b):S tb g h K f (M.pure a) (M.pure b):=by
 intro c h' e;cases e;exact⟨g,b,K,rfl,s,Frm.refl _ _ _,r⟩
def zcY{f:Nm->α->β}{y:M β}:S tb g h K f M.fail y:=by intro c h' e;cases e
def zra{f:Nm->α->β}{o:Option α}{o':Option β}(s:St tb g h K)(r:∀a,o=some a->∃b,o'=some b/\Rl g f a b):S tb g h K f (M.lift o) (M.lift o'):=by
 cases o with
 | none=>exact zcY
 | some a=>
  obtain⟨b,rfl,q⟩:=r a rfl;exact zdk s q
def zcR{f:Nm->α->β}{k:Nm->γ->δ}{x:M α}{y:M β}{u:α->M γ}{v:β->M δ}(s:St tb g h K)(hx:S tb g h K f x y) (hk:∀g' h' K' a b,St tb g' h' K'->Frm g h K g' h' K'->Rl g' f a b->S tb g' h' K' k (u a) (v b)):S tb g h K k (x.bind u) (y.bind v):=by
 intro c h2 e;obtain⟨a,h1,e1,e2⟩:=bind_some e;obtain⟨g1,b,K1,y1,s1,f1,r1⟩:=hx a h1 e1;obtain⟨g2,w,K2,y2,s2,f2,r2⟩:=hk g1 h1 K1 a b s1 f1 r1 c h2 e2;exact⟨g2,w,K2,by rw[bind_ok y1];exact y2,s2,Frm.trans s s1 f1 f2,r2⟩
def s_ite{f:Nm->α->β}{c c':V}{x x':M α}{y y':M β}(hc:Rl g sh c c')(a:S tb g h K f x y)(b:S tb g h K f x' y'):S tb g h K f (M.ite c x x') (M.ite c' y y'):=by
 have:=hc g.e (Ag.self g);subst this;cases c<;>first|exact zcY|skip
 rename_i t;cases t
 ·exact b
 ·exact a
def s_op{x y:M V}(s:St tb g h K)(hx:∀d,Ag g d->OpR d x y):S tb g h K sh x y:=by
 intro a h' e
 let e2:Nm:=⟨λi=>if i=h.next then K.next else g.e.f i,g.e.w,g.e.s⟩
 have f2:∀i,g.nf i->e2.f i=g.e.f i:=λi hi=>by
  show(if i=h.next then K.next else g.e.f i) = _;rw[if_neg (by have:=s.nb i hi;omega)]
 have fn:e2.f h.next=K.next:=if_pos rfl;have a2:Ag g e2:=⟨rfl,f2,λ_ _=>rfl⟩;obtain⟨K',ey,st⟩:=hx e2 a2 h K a h' (s.em e2 a2) e (.inr fn);have lt:∀d,Ag g d->∀i b,h.get i=some b->i<h.next/\d.f i<K.next:=λd hd i b hi=>by
  have:=(s.kn i b hi).1;exact⟨s.nb i this,by rw[hd.2.1 i this];exact s.lt i this⟩
 have inj:∀d,Ag g d->∀i j b b',h.get i=some b->h.get j=some b'->d.f i=d.f j->i=j:=λd hd i j b b' hi hj e=>by
  have h1:=(s.kn i b hi).1;have h2:=(s.kn j b' hj).1;rw[hd.2.1 i h1,hd.2.1 j h2]at e;exact s.inj i j h1 h2 e
 have cl':=st.cl s.cl λi b hi=>(lt e2 a2 i b hi).2;have fr':∀i,i<K.next->(∀j b,h.get j=some b->g.e.f j≠i)->K'.get i=K.get i:=λi hi hf=>st.fr i hi λj b hj=>by
  rw[f2 j (s.kn j b hj).1];exact hf j b hj
 have dr':∀i,g.nf i->tb.R<=i->h'.get i=none->K'.get (g.e.f i)=none:=λi hi hR hn=>by
  cases hg:h.get i with
  | some b=>have:=st.dr (lt e2 a2) hg hn;rw[f2 i hi]at this;exact this
  | none=>
   rw[fr' _ (s.lt i hi) λj b hj ej=>?_,s.dr i hi hR hg];have:=s.inj j i (s.kn j b hj).1 hi ej;subst this;rw[hj]at hg;cases hg
 rcases st.nx with⟨n1,n2⟩|⟨n1,n2⟩
 ·have fm:Frm g h K g h' K':=⟨Ex.refl _ _,by omega,by omega,fr',λj b hj=>(st.kn j b hj).elim .inl λk=>by omega⟩;have key:∀d,Ag g d->sh e2 a=sh d a/\Emd d h' K':=λd hd=>by
   obtain⟨Kd,ed,sd⟩:=hx d hd h K a h' (s.em d hd) e (.inl n1);rw[ey]at ed;injection ed with ed
   injection ed with h1 h2
   subst h2;exact⟨h1,sd.emd (s.em d hd) (inj d hd) (lt d hd) (.inl n1)⟩
  refine⟨g,sh e2 a,K',ey,⟨s.s,λi b hi=>?_,λi hi=>by have:=s.nb i hi;omega,s.nwb,by have:=s.lo;omega,s.inj,λi hi=>by have:=s.lt i hi;omega,λd hd=>(key d hd).2,dr',cl',s.seq,λi hR hi e=>by have:=s.top i hR hi (by omega);omega,s.mono,λm hm hf=>?_,λm hw=>?_⟩,fm,λd hd=>(key d hd).1⟩
  ·rcases st.kn i b hi with⟨b',hb'⟩|⟨_,k⟩
   ·exact s.kn i b' hb'
   ·omega
  ·obtain⟨h1,lo,Hc,h2,h3,h4⟩:=s.mf m hm hf;exact⟨by omega,lo,Hc,h2,h3.step s fm,h4⟩
  ·obtain⟨h1,lo,Hc,h2,h3⟩:=s.mw m hw;exact⟨by omega,lo,Hc,h2,h3.step s fm⟩
 ·let g':Sg:=⟨e2,λi=>g.nf i\/i=h.next,g.nw⟩
  have ex:Ex K.next g g':=⟨rfl,λi hi=>⟨.inl hi,f2 i hi⟩,λi hi=>⟨hi,rfl⟩,λi hi hn=>by
   rcases hi with hi|rfl
   ·exact absurd hi hn
   ·exact Nat.le_of_eq fn.symm⟩
  have fm:Frm g h K g' h' K':=⟨ex,by omega,by omega,fr',λj b hj=>(st.kn j b hj).elim .inl λk=>.inr (by
   show K.next<=e2.f j;rw[k.1,fn];exact yaj _)⟩
  have key:∀d,Ag g' d->sh e2 a=sh d a/\Emd d h' K':=λd hd=>by
   have hd0:=hd.mono ex;have hn:d.f h.next=K.next:=(hd.2.1 h.next (.inr rfl)).trans fn;obtain⟨Kd,ed,sd⟩:=hx d hd0 h K a h' (s.em d hd0) e (.inr hn);rw[ey]at ed;injection ed with ed
   injection ed with h1 h2
   subst h2;exact⟨h1,sd.emd (s.em d hd0) (inj d hd0) (lt d hd0) (.inr hn)⟩
  have ltn:∀i,g.nf i->e2.f i<K.next:=λi hi=>by rw[f2 i hi];exact s.lt i hi
  refine⟨g',sh e2 a,K',ey,⟨s.s,λi b hi=>?_,λi hi=>?_,s.nwb,by have:=s.lo;omega,λi j hi hj eq=>?_,λi hi=>?_,λd hd=>(key d hd).2,λi hi hR hn=>?_,cl',λi hR hi hj=>?_,λi hR hi e=>?_,λi j hR hl hi hj=>?_,λm hm hf=>?_,λm hw=>?_⟩,fm,λd hd=>(key d hd).1⟩
  ·rcases st.kn i b hi with⟨b',hb'⟩|⟨k,_⟩
   ·have:=s.kn i b' hb';exact⟨.inl this.1,this.2⟩
   ·exact⟨.inr k,by rw[k];exact s.lo⟩
  ·rcases hi with hi|rfl
   ·have:=s.nb i hi;omega
   ·omega
  ·have eq:e2.f i=e2.f j:=eq;rcases hi with hi|rfl<;>rcases hj with hj|rfl
   ·rw[f2 i hi,f2 j hj]at eq;exact s.inj i j hi hj eq
   ·have:=ltn i hi;omega
   ·have:=ltn j hj;omega
   ·rfl
  ·show e2.f i<K'.next;rcases hi with hi|rfl
   ·have:=ltn i hi;omega
   ·omega
  ·show K'.get (e2.f i)=none;rcases hi with hi|rfl
   ·rw[f2 i hi];exact dr' i hi hR hn
   ·exfalso;cases st with
    | same=>omega
    | set o hb=>rw[zal]at n1;omega
    | new b=>rw[zae]at hn;cases hn
    | snew c hb=>
     have:=zae (h.set ‹Nat› none) c;rw[zal]at this;rw[this]at hn;cases hn
  ·show e2.f (i+1)=e2.f i+1;have h1:g.nf i:=by
    rcases hi with hi|rfl
    ·exact hi
    ·rcases hj with hj|hj
     ·have:=s.nb _ hj;omega
     ·omega
   rw[f2 i h1];rcases hj with hj|hj
   ·rw[f2 _ hj];exact s.seq i hR h1 hj
   ·rw[hj,fn];exact s.top i hR h1 hj
  ·show K'.next=e2.f i+1;have:i=h.next:=by omega
   subst this;rw[fn];exact n2
  ·show e2.f i<e2.f j;have h1:g.nf i:=by
    rcases hi with hi|rfl
    ·exact hi
    ·rcases hj with hj|hj
     ·have:=s.nb _ hj;omega
     ·omega
   rcases hj with hj|rfl
   ·rw[f2 i h1,f2 j hj];exact s.mono i j hR hl h1 hj
   ·rw[fn];exact ltn i h1
  ·rcases hf with hf|rfl
   ·obtain⟨h1,lo,Hc,h2,h3,h4⟩:=s.mf m hm hf;refine⟨by omega,lo,Hc,by show tb.Pf m lo Hc (e2.f m);rw[f2 m hf];exact h2,h3.step s fm,λi hR hl hi=>?_⟩;show e2.f i<lo;rcases hi with hi|rfl
    ·rw[f2 i hi];exact h4 i hR hl hi
    ·omega
   ·have:=s.lo;omega
  ·obtain⟨h1,lo,Hc,h2,h3⟩:=s.mw m hw;exact⟨by omega,lo,Hc,h2,h3.step s fm⟩
end
def ngO(o:AO):Bool:=match o.gd with
 | none=>true
 | some _=>match o.ins.kind with | .read _=>false | _=>true
def ng:C->Bool
 | .done | .bad | .exit _ | .ret=>true
 | .ops _ k=>ng k
 | .draw l un k=>(un.isEmpty||l.all ngO)&&ng k
 | .cond _ a b=>ng a&&ng b
 | .condJ _ a b _ _ k=>ng a&&(ng b&&ng k)
 | .blk _ a _ _ k=>ng a&&ng k
 | .loop a _ _=>ng a
def shF(d:Nm)(A:Fr):Fr:=A.map λp=>(p.1,sh d p.2)
section
variable {d:Nm}
def shF_get(A:Fr)(t:Nat):Fr.get (shF d A) t=(Fr.get A t).map (sh d):=by
 induction A with
 | nil=>rfl
 | cons p A ih=>
  obtain⟨k,v⟩:=p;show(if k=t then some (sh d v) else Fr.get (shF d A) t)=(if k=t then some v else Fr.get A t).map (sh d);split
  ·rfl
  ·exact ih
def shF_put(A:Fr)(o:Option Nat)(v:V):(shF d A).put o (sh d v)=shF d (A.put o v):=by cases o<;>rfl
def shF_drop(W:List Nat)(A:Fr):(shF d A).drop W=shF d (A.drop W):=by
 induction A with
 | nil=>rfl
 | cons p A ih=>
  obtain⟨k,v⟩:=p;show(if W.contains k then Fr.drop W (shF d A) else (k,sh d v)::Fr.drop W (shF d A))=shF d (if W.contains k then Fr.drop W A else (k,v)::Fr.drop W A);split
  ·exact ih
  ·rw[ih];rfl
def sh_getD(L:List V)(i:Nat):(shL d L).getD i .undef=sh d (L.getD i .undef):=by
 rw[yan,yan,shL_get];cases L[i]?<;>rfl
def shF_bindJ(L:List V):∀(J:List Nat) (i:Nat),zog (shL d L) i J=shF d (zog L i J)
 | [],i=>rfl
 | t::ts,i=>by
  simp only[zog];rw[sh_getD,shF_bindJ L ts (i+1)];rfl
def shF_join(A:Fr)(J W:List Nat)(L:List V):(shF d A).join J W (shL d L)=shF d (A.join J W L):=by
 unfold Fr.join;rw[shF_bindJ,shF_drop];unfold shF;rw[yaE]
def ev_sh{A:Fr}{x:Arg}(h:x.still=true):x.ev (shF d A)=(x.ev A).map (sh d):=by
 cases x with
 | s t=>exact shF_get A t
 | c v=>show some v=some (sh d v);rw[still_sh v h]
def evs_sh{A:Fr}:∀{xs:List Arg},xs.all Arg.still=true->evs (shF d A) xs=(evs A xs).map (shL d)
 | [],_=>rfl
 | x::xs,h=>by
  simp only[yba,yam]at h;simp only[evs];rw[ev_sh h.1,evs_sh h.2];cases x.ev A with
  | none=>rfl
  | some v=>simp only[yar,Option.bind_some,ybj];rfl
def evParts_sh{A:Fr}:∀{ps:List (Nat×Nat×Arg)},ps.all (λp=>p.2.2.still)=true->zaM (shF d A) ps=(zaM A ps).map (shP d)
 | [],_=>rfl
 | (o,s,x)::ps,h=>by
  simp only[yba,yam]at h;simp only[zaM];rw[ev_sh h.1,evParts_sh h.2];cases x.ev A with
  | none=>rfl
  | some v=>simp only[yar,Option.bind_some,ybj];rfl
def evOpt_sh{A:Fr}{o:Option Arg}(h:zii o=true):zbJ (shF d A) o=(zbJ A o).map (Option.map (sh d)):=by
 cases o with
 | none=>rfl
 | some x=>
  simp only[zbJ];rw[ev_sh h];cases x.ev A<;>rfl
def shF_params(l:List V):∀i,params i (shL d l)=shF d (params i l):=by
 induction l with
 | nil=>intro i;rfl
 | cons v vs ih=>intro i;simp only[shL,params];rw[ih];rfl
def sh_tupled(L:List V):zcX (shL d L)=sh d (zcX L):=by
 rcases L with _|⟨a,_|⟨b,L⟩⟩<;>rfl
def sh_getAll(A:Fr):∀J:List Nat,zbh (shF d A) J=(zbh A J).map (shL d)
 | []=>rfl
 | t::ts=>by
  simp only[zbh];rw[shF_get,sh_getAll A ts];cases Fr.get A t with
  | none=>rfl
  | some v=>simp only[yar,Option.bind_some,ybj];rfl
end
def of_map{α β γ δ:Type}{g:Sg}{f:Nm->α->β}{k:Nm->γ->δ}{o:γ->Option α}{o':δ->Option β} (he:∀d A,o' (k d A)=(o A).map (f d)) {A:γ} {A':δ} (hA:Rl g k A A') {v:α} (hv:o A=some v):∃v',o' A'=some v'/\Rl g f v v':=by
 refine⟨f g.e v,?_,λd hd=>?_⟩
 ·rw[hA g.e (Ag.self g),he,hv];rfl
 ·have h1:o' A'=some (f g.e v):=by rw[hA g.e (Ag.self g),he,hv];rfl
  rw[hA d hd,he,hv]at h1;injection h1 with h1
  exact h1.symm
section
variable {g:Sg} {A A':Fr}
def ev_r{x:Arg}(hs:x.still=true)(hA:Rl g shF A A'){v:V}(hv:x.ev A=some v):∃v',x.ev A'=some v'/\Rl g sh v v':=of_map (f:=sh) (k:=shF) (o:=λA=>x.ev A) (o':=λA=>x.ev A) (λd A=>ev_sh hs) hA hv
def evs_r{x:List Arg}(hs:x.all Arg.still=true)(hA:Rl g shF A A'){v:List V}(hv:evs A x=some v):∃v',evs A' x=some v'/\Rl g shL v v':=of_map (f:=shL) (k:=shF) (o:=λA=>evs A x) (o':=λA=>evs A x) (λd A=>evs_sh hs) hA hv
def zrV {x:List (Nat×Nat×Arg)} (hs:x.all (λp=>p.2.2.still)=true) (hA:Rl g shF A A') {v:List (Nat×Nat×V)} (hv:zaM A x=some v):∃v',zaM A' x=some v'/\Rl g shP v v':=of_map (f:=shP) (k:=shF) (o:=λA=>zaM A x) (o':=λA=>zaM A x) (λd A=>evParts_sh hs) hA hv
def ztb{x:Option Arg}(hs:zii x=true)(hA:Rl g shF A A'){v:Option V}(hv:zbJ A x=some v):∃v',zbJ A' x=some v'/\Rl g (λd o=>o.map (sh d)) v v':=of_map (f:=λd (o:Option V)=>o.map (sh d)) (k:=shF) (o:=λA=>zbJ A x) (o':=λA=>zbJ A x) (λd A=>evOpt_sh hs) hA hv
def get_r{t:Nat}(hA:Rl g shF A A'){v:V}(hv:Fr.get A t=some v):∃v',Fr.get A' t=some v'/\Rl g sh v v':=of_map (f:=sh) (k:=shF) (o:=λA=>Fr.get A t) (o':=λA=>Fr.get A t) (λd A=>shF_get A t) hA hv
def zqo{J:List Nat}(hA:Rl g shF A A'){v:List V}(hv:zbh A J=some v):∃v',zbh A' J=some v'/\Rl g shL v v':=of_map (f:=shL) (k:=shF) (o:=λA=>zbh A J) (o':=λA=>zbh A J) (λd A=>sh_getAll A J) hA hv
end
section
variable {tb:Tb} {g:Sg} {h K:Heap} {G G':Sem'} {A A':Fr}
def zaE{x:Arg}{k k':V->M V}(hA:Rl g shF A A')(hs:x.still=true) (hk:∀v v',Rl g sh v v'->S tb g h K sh (k v) (k' v')):S tb g h K sh (with1 A x k) (with1 A' x k'):=by
 unfold with1;cases hv:x.ev A with
 | none=>exact zcY
 | some v=>
  obtain⟨v',e,r⟩:=ev_r hs hA hv;rw[e];exact hk v v' r
def zpV{xs:List Arg}{k k':List V->M V}(hA:Rl g shF A A')(hs:xs.all Arg.still=true) (hk:∀v v',Rl g shL v v'->S tb g h K sh (k v) (k' v')):S tb g h K sh (withs A xs k) (withs A' xs k'):=by
 unfold withs;cases hv:evs A xs with
 | none=>exact zcY
 | some v=>
  obtain⟨v',e,r⟩:=evs_r hs hA hv;rw[e];exact hk v v' r
def zqS(tb:Tb)(G G':Sem'):Prop:=∀f args args' g h K,St tb g h K->Rl g shL args args'->S tb g h K sh (G f args) (G' f args')
def s_callv(hg:zqS tb G G')(s:St tb g h K){x x':V}{args args':List V}(rx:Rl g sh x x')(ra:Rl g shL args args'):S tb g h K sh (callv G x args) (callv G' x' args'):=by
 cases x<;>first|exact zcY|skip
 rename_i f caps;have:=rx g.e (Ag.self g);subst this;show S tb g h K sh (G f (args++caps)) (G' f (args'++shL g.e caps));refine hg _ _ _ _ _ _ s λd hd=>?_;have:=rx d hd;simp only[sh,V.fn.injEq,true_and]at this;rw[shL_app,<-ra d hd,this]
def s_run(hg:zqS tb G G')(s:St tb g h K)(hA:Rl g shF A A')(i:I)(hs:i.still=true):S tb g h K sh (i.run G A) (i.run G' A'):=by
 cases i<;>simp only[I.still,yam]at hs<;>simp only[I.run]
 case build z ps=>
  cases hv:zaM A ps with
  | none=>exact zcY
  | some l=>
   obtain⟨l',e,r⟩:=zrV hs.2 hA hv;rw[e];exact s_op s λd hd=>by rw[r d hd];exact zd6 λv hv=>by have:=sh_build (d:=d) hv;rw[stills_sh z hs.1]at this;exact this
 case slit ty l z ps=>
  cases hv:zaM A ps with
  | none=>exact zcY
  | some q=>
   obtain⟨q',e,r⟩:=zrV hs.2 hA hv;rw[e];exact s_op s λd hd=>by rw[r d hd];have:=r_slit (d:=d) ty l z q;rw[stills_sh z hs.1]at this;exact this
 case slice ck e x lo hi mx=>
  refine zaE hA hs.1 λv v' r=>?_;cases h1:zbJ A lo with
  | none=>exact zcY
  | some lo1=>
  cases h2:zbJ A hi with
  | none=>exact zcY
  | some hi1=>
  cases h3:zbJ A mx with
  | none=>exact zcY
  | some mx1=>
  obtain⟨lo2,e1,r1⟩:=ztb hs.2.1 hA h1;obtain⟨hi2,e2,r2⟩:=ztb hs.2.2.1 hA h2;obtain⟨mx2,e3,r3⟩:=ztb hs.2.2.2 hA h3;rw[e1,e2,e3];exact s_op s λd hd=>by rw[r d hd,r1 d hd,r2 d hd,r3 d hd];exact zd6 λu hu=>sh_vslice hu
 case minmax mx x xs=>exact zaE hA hs.1 λv v' r=>zpV hA hs.2 λl l' rl=>s_op s λd hd=>by rw[r d hd,rl d hd];exact zd6 λu hu=>sh_minmax hu
 case call f xs=>exact zpV hA hs λl l' rl=>hg f l l' g h K s rl
 case callv x xs=>exact zaE hA hs.1 λv v' r=>zpV hA hs.2 λl l' rl=>s_callv hg s r rl
 case mkfn f xs=>exact zpV hA hs λl l' rl=>zdk s λd hd=>by rw[rl d hd];rfl
 case mkmap ty=>exact s_op s λd hd=>r_mkmap ty
 case clear z x=>exact zaE hA hs.2 λv v' r=>s_op s λd hd=>by rw[r d hd];have:=r_clear (d:=d) z v;rw[stills_sh z hs.1]at this;exact this
 case appendz ty b z x y=>exact zaE hA hs.2.1 λv v' r=>zaE hA hs.2.2 λw w' q=>s_op s λd hd=>by rw[r d hd,q d hd];have:=zw1 (d:=d) ty b z v w;rw[stills_sh z hs.1]at this;exact this
 case mkslice ty b z x y=>exact zaE hA hs.2.1 λv v' r=>zaE hA hs.2.2 λw w' q=>s_op s λd hd=>by rw[r d hd,q d hd];have:=zwY (d:=d) ty b z v w;rw[stills_sh z hs.1]at this;exact this
 case lookup mk z ok x k=>exact zaE hA hs.2.1 λv v' r=>zaE hA hs.2.2 λw w' q=>s_op s λd hd=>by rw[r d hd,q d hd];have:=r_lookup (d:=d) mk z ok v w;rw[still_sh z hs.1]at this;exact this
 case mv x=>exact zaE hA hs λv v' r=>zdk s r
 case pick c a b=>exact zaE hA hs.1 λu u' p=>zaE hA hs.2.1 λv v' r=>zaE hA hs.2.2 λw w' q=>s_op s λd hd=>by rw[p d hd,r d hd,q d hd];exact zd6 λ_ hu=>sh_pick hu
 case slice2 e c a b=>exact zaE hA hs.1 λu u' p=>zaE hA hs.2.1 λv v' r=>zaE hA hs.2.2 λw w' q=>s_op s λd hd=>by rw[p d hd,r d hd,q d hd];exact r_slice2 e u v w
 case mapset mk c a b=>exact zaE hA hs.1 λu u' p=>zaE hA hs.2.1 λv v' r=>zaE hA hs.2.2 λw w' q=>s_op s λd hd=>by rw[p d hd,r d hd,q d hd];exact r_mapset mk u v w
 case box ty x=>exact zaE hA hs λv v' r=>s_op s λd hd=>by rw[r d hd];exact r_box ty v
 case load n x=>exact zaE hA hs λv v' r=>s_op s λd hd=>by rw[r d hd];exact zw0 n v
 case store n p x=>exact zaE hA hs.1 λv v' r=>zaE hA hs.2 λw w' q=>s_op s λd hd=>by rw[r d hd,q d hd];exact r_store n v w
 case nilck x=>exact zaE hA hs λv v' r=>s_op s λd hd=>by rw[r d hd];exact zd6 λ_ hu=>sh_nilck hu
 case bin op x y=>exact zaE hA hs.1 λv v' r=>zaE hA hs.2 λw w' q=>s_op s λd hd=>by rw[r d hd,q d hd];exact zd6 λ_ hu=>sh_bin hu
 case eq k n x y=>exact zaE hA hs.1 λv v' r=>zaE hA hs.2 λw w' q=>s_op s λd hd=>by rw[r d hd,q d hd];exact zd6 λ_ hu=>sh_eqr hu
 case un op x=>exact zaE hA hs λv v' r=>s_op s λd hd=>by rw[r d hd];exact zd6 λ_ hu=>sh_un hu
 case cint k x=>exact zaE hA hs λv v' r=>s_op s λd hd=>by rw[r d hd];exact zd6 λ_ hu=>sh_cint hu
 case tostr x=>exact zaE hA hs λv v' r=>s_op s λd hd=>by rw[r d hd];exact r_tostr v
 case tobytes ty x=>exact zaE hA hs λv v' r=>s_op s λd hd=>by rw[r d hd];exact zrf ty v
 case faddr o x=>exact zaE hA hs λv v' r=>s_op s λd hd=>by rw[r d hd];exact zd6 λ_ hu=>sh_faddr hu
 case iaddr al e x y=>exact zaE hA hs.1 λv v' r=>zaE hA hs.2 λw w' q=>s_op s λd hd=>by rw[r d hd,q d hd];exact zd6 λ_ hu=>sh_iaddr hu
 case index l e n x y=>exact zaE hA hs.1 λv v' r=>zaE hA hs.2 λw w' q=>s_op s λd hd=>by rw[r d hd,q d hd];exact zd6 λ_ hu=>sh_index hu
 case sindex x y=>exact zaE hA hs.1 λv v' r=>zaE hA hs.2 λw w' q=>s_op s λd hd=>by rw[r d hd,q d hd];exact zd6 λ_ hu=>sh_sindex hu
 case field o n x=>exact zaE hA hs λv v' r=>s_op s λd hd=>by rw[r d hd];exact zd6 λ_ hu=>sh_field hu
 case ext i x=>exact zaE hA hs λv v' r=>s_op s λd hd=>by rw[r d hd];exact zd6 λ_ hu=>sh_ext hu
 case len x=>exact zaE hA hs λv v' r=>s_op s λd hd=>by rw[r d hd];exact zd6 λ_ hu=>sh_vlen hu
 case slen x=>exact zaE hA hs λv v' r=>s_op s λd hd=>by rw[r d hd];exact zd6 λ_ hu=>sh_slen hu
 case append ty e b x y=>exact zaE hA hs.1 λv v' r=>zaE hA hs.2 λw w' q=>s_op s λd hd=>by rw[r d hd,q d hd];exact r_append ty e b v w
 case copy e x y=>exact zaE hA hs.1 λv v' r=>zaE hA hs.2 λw w' q=>s_op s λd hd=>by rw[r d hd,q d hd];exact r_copy e v w
 case op1 k x=>exact zaE hA hs λv v' r=>s_op s λd hd=>by rw[r d hd];exact zd6 λ_ hu=>sh_op1 hu
 case mknz ty x=>exact zaE hA hs λv v' r=>s_op s λd hd=>by rw[r d hd];exact r_mknz ty v
 case remark ty x=>exact zaE hA hs λv v' r=>s_op s λd hd=>by rw[r d hd];exact r_remark ty v
 case maplen x=>exact zaE hA hs λv v' r=>s_op s λd hd=>by rw[r d hd];exact r_maplen v
 case aload k x=>exact zaE hA hs λv v' r=>s_op s λd hd=>by rw[r d hd];exact r_aload k v
 case aadd k x y=>exact zaE hA hs.1 λv v' r=>zaE hA hs.2 λw w' q=>s_op s λd hd=>by rw[r d hd,q d hd];exact r_aadd k v w
 case mdrop p o x y=>exact zaE hA hs.1 λv v' r=>zaE hA hs.2 λw w' q=>s_op s λd hd=>by rw[r d hd,q d hd];exact zwZ p o v w
def zwR {gd:Option (Nat×Bool)} {x y:M V} (s:St tb g h K) (hA:Rl g shF A A') (hx:S tb g h K sh x y):S tb g h K sh (guarded A gd x) (guarded A' gd y):=by
 unfold guarded;cases gd with
 | none=>exact hx
 | some p=>
  dsimp only;cases hv:Fr.get A p.1 with
  | none=>exact zcY
  | some v=>
   obtain⟨v',e,r⟩:=get_r hA hv;rw[e];have:=r g.e (Ag.self g);subst this;cases v with
   | bool b=>
    simp only[sh];by_cases hb:b=p.2
    ·rw[if_pos hb,if_pos hb];exact hx
    ·rw[if_neg hb,if_neg hb];exact zdk s λd hd=>rfl
   | tup vs=>cases vs with|nil=>exact zdk s λd hd=>rfl|cons _ _=>exact zcY
   | _=>exact zcY
def s_ao(hg:zqS tb G G')(s:St tb g h K)(hA:Rl g shF A A')(o:AO)(hs:o.still=true):S tb g h K sh (o.run G A) (o.run G' A'):=zwR s hA (s_run hg s hA o.ins hs)
def zm9{o:Option Nat}{v v':V}(hA:Rl g shF A A')(r:Rl g sh v v'):Rl g shF (A.put o v) (A'.put o v'):=λd hd=>by rw[hA d hd,r d hd,shF_put]
def zp1{J W:List Nat}{L L':List V}(hA:Rl g shF A A')(r:Rl g shL L L'):Rl g shF (A.join J W L) (A'.join J W L'):=λd hd=>by rw[hA d hd,r d hd,shF_join]
end
section
variable {tb:Tb} {G G':Sem'}
def s_ops(hg:zqS tb G G'):∀(l:List AO) (g:Sg) (h K:Heap) (A A':Fr),St tb g h K->Rl g shF A A'->l.all AO.still=true->S tb g h K shF (zd5 G l A) (zd5 G' l A')
 | [],g,h,K,A,A',s,hA,_=>zdk s hA
 | o::l,g,h,K,A,A',s,hA,hs=>by
  simp only[yba,yam]at hs;exact zcR s (s_ao hg s hA o hs.1) λg' h' K' v v' s' f' r=>s_ops hg l _ _ _ _ _ s' (zm9 (hA.mono f'.ex) r) hs.2
def Sol(tb:Tb):V->Prop
 | .lit _=>False
 | v=>∀id,v.pid=some id->tb.R<=id
def sh_pid{d:Nm}{v:V}(hs:Sol tb v):(sh d v).pid=v.pid.map d.f:=by cases v<;>first|rfl|exact hs.elim
def Sol.le{v:V}(hs:Sol tb v){id:Nat}(h:v.pid=some id):tb.R<=id:=by cases v<;>first|exact hs _ h|exact hs.elim
def named{g:Sg}{v v':V}(hs:Sol tb v)(r:Rl g sh v v'){id:Nat}(h:v.pid=some id):g.nf id:=by
 apply ycH;intro hn
 let d:Nm:=⟨λi=>if i=id then g.e.f id+1 else g.e.f i,g.e.w,g.e.s⟩
 have hd:Ag g d:=⟨rfl,λi hi=>if_neg λe=>hn (by rw[<-e];exact hi),λ_ _=>rfl⟩;have h1:=(congrArg V.pid (r d hd)).symm.trans (congrArg V.pid (r g.e (Ag.self g)));rw[sh_pid hs,sh_pid hs,h]at h1;simp only[yar,yaa]at h1;have h2:d.f id=g.e.f id+1:=if_pos rfl;omega
structure Sn (tb:Tb) (g:Sg) (h1 h2 K1 K2:Heap):Prop where
 f:∀id,g.nf id->tb.R<=id->h2.get id=h1.get id->K2.get (g.e.f id)=K1.get (g.e.f id)
 c1:K1.Cl
 c2:K2.Cl
 le:K1.next<=K2.next
def Sn.step{n:Nat}{g g':Sg}{h1 h2 K1 K2:Heap}(s:Sn tb g h1 h2 K1 K2)(x:Ex n g g')(hn:K2.next<=n):Sn tb g' h1 h2 K1 K2:=by
 refine⟨λid hi hR e=>?_,s.c1,s.c2,s.le⟩;by_cases ho:g.nf id
 ·rw[(x.f id ho).2];exact s.f id ho hR e
 ·have:=x.new id hi ho;have:=s.le;rw[s.c1 _ (by omega),s.c2 _ (by omega)]
def Sn.of{g g2:Sg}{h1 h2 K1 K2:Heap}(s1:St tb g h1 K1)(s2:St tb g2 h2 K2)(fm:Frm g h1 K1 g2 h2 K2):Sn tb g2 h1 h2 K1 K2:=by
 refine⟨λid hi hR e=>?_,s1.cl,s2.cl,fm.le⟩;cases hb:h2.get id with
 | some b=>
  rw[s2.em g2.e (Ag.self g2) id b hb];rw[hb]at e;exact(s1.em g2.e ((Ag.self g2).mono fm.ex) id b e.symm).symm
 | none=>
  rw[s2.dr id hi hR hb];rw[hb]at e;by_cases ho:g.nf id
  ·rw[(fm.ex.f id ho).2,s1.dr id ho hR e.symm]
  ·exact(s1.cl _ (fm.ex.new id hi ho)).symm
def RsR(tb:Tb)(g:Sg):List (Nat×V)->List (Nat×V)->Prop
 | [],[]=>True
 | (i,a)::l,(j,b)::m=>i=j/\(Rl g sh a b/\Sol tb a)/\RsR tb g l m
 | _,_=>False
def RsR.mono{n:Nat}{g g':Sg}(x:Ex n g g'):∀{l m:List (Nat×V)},RsR tb g l m->RsR tb g' l m
 | [],[],_=>trivial
 | (i,a)::l,(j,b)::m,r=>⟨r.1,⟨r.2.1.1.mono x,r.2.1.2⟩,RsR.mono x r.2.2⟩
 | [],_ :: _,r=>r.elim
 | _ :: _,[],r=>r.elim
def JsR(tb:Tb)(g:Sg)(K:Heap):List (Nat×Heap×Heap)->List (Nat×Heap×Heap)->Prop
 | [],[]=>True
 | (i,h1,h2)::l,(j,K1,K2)::m=>i=j/\(Sn tb g h1 h2 K1 K2/\K2.next<=K.next)/\JsR tb g K l m
 | _,_=>False
def JsR.step{g g':Sg}{K K':Heap}(x:Ex K.next g g')(hK:K.next<=K'.next):∀{l m:List (Nat×Heap×Heap)},JsR tb g K l m->JsR tb g' K' l m
 | [],[],_=>trivial
 | (i,h1,h2)::l,(j,K1,K2)::m,r=>⟨r.1,⟨r.2.1.1.step x r.2.1.2,yay r.2.1.2 hK⟩,JsR.step x hK r.2.2⟩
 | [],_ :: _,r=>r.elim
 | _ :: _,[],r=>r.elim
abbrev un1:Nm->Unit->Unit:=λ_ u=>u
def s_unch{g:Sg}{h K h1 h2 K1 K2:Heap}(s:St tb g h K){a a':V}(r:Rl g sh a a')(hs:Sol tb a)(sn:Sn tb g h1 h2 K1 K2):S tb g h K un1 (M.unch a h1 h2) (M.unch a' K1 K2):=by
 intro u h' e;unfold M.unch at e ⊢;split at e
 ·rename_i hp;cases e;refine⟨g,(),K,?_,s,Frm.refl _ _ _,λ_ _=>rfl⟩;rw[if_pos];intro id hid;have e1:=r g.e (Ag.self g);subst e1;rw[sh_pid hs]at hid;cases hv:a.pid with
  | none=>rw[hv]at hid;cases hid
  | some j=>
   rw[hv]at hid;have hid:g.e.f j=id:=ycU hid;subst hid;exact sn.f j (named hs r hv) (hs.le hv) (hp j hv)
 ·cases e
def zsB {un:List (Nat×Nat)} {j:Nat} {h1 h2 K1 K2:Heap}:∀{rs rs':List (Nat×V)} {g:Sg} {h K:Heap},St tb g h K->RsR tb g rs rs'->Sn tb g h1 h2 K1 K2->K2.next<=K.next->S tb g h K un1 (zaY un j h1 h2 rs) (zaY un j K1 K2 rs')
 | [],[],g,h,K,s,_,_,_=>zdk s λ_ _=>rfl
 | (i,a)::l,(i',b)::m,g,h,K,s,r,sn,hn=>by
  obtain⟨rfl,⟨r1,r2⟩,r3⟩:=r;unfold zaY;by_cases hc:un.contains (i,j)=true
  ·rw[if_pos hc,if_pos hc];exact zcR s (s_unch s r1 r2 sn) λg' h' K' _ _ s' f' _=>zsB s' (r3.mono f'.ex) (sn.step f'.ex hn) (yay hn f'.le)
  ·rw[if_neg hc,if_neg hc];exact zsB s r3 sn hn
 | [],_ :: _,_,_,_,_,r,_,_=>r.elim
 | _ :: _,[],_,_,_,_,r,_,_=>r.elim
def zwS {un:List (Nat×Nat)} {i:Nat} {a a':V}:∀{js js':List (Nat×Heap×Heap)} {g:Sg} {h K:Heap},St tb g h K->Rl g sh a a'->Sol tb a->JsR tb g K js js'->S tb g h K un1 (zaZ un i a js) (zaZ un i a' js')
 | [],[],g,h,K,s,_,_,_=>zdk s λ_ _=>rfl
 | (j,h1,h2)::l,(j',K1,K2)::m,g,h,K,s,r,hs,rj=>by
  obtain⟨rfl,⟨sn,hn⟩,r3⟩:=rj;unfold zaZ;by_cases hc:un.contains (i,j)=true
  ·rw[if_pos hc,if_pos hc];exact zcR s (s_unch s r hs sn) λg' h' K' _ _ s' f' _=>zwS s' (r.mono f'.ex) hs (r3.step f'.ex f'.le)
  ·rw[if_neg hc,if_neg hc];exact zwS s r hs r3
 | [],_ :: _,_,_,_,_,_,_,r=>r.elim
 | _ :: _,[],_,_,_,_,_,_,r=>r.elim
def ztF{α β:Type}{f:Nm->α->β}{g:Sg}{h K:Heap}{k:Heap->M α}{k':Heap->M β} (hk:S tb g h K f (k h) (k' K)):S tb g h K f (M.getH.bind k) (M.getH.bind k'):=hk
def reads_nil(j:Nat)(h1 h2:Heap):∀rs,zaY [] j h1 h2 rs=M.pure ()
 | []=>rfl
 | (i,a)::l=>by unfold zaY;exact reads_nil j h1 h2 l
def zuH(i:Nat)(a:V):∀js,zaZ [] i a js=M.pure ()
 | []=>rfl
 | (j,h1,h2)::l=>by unfold zaZ;exact zuH i a l
def zpb{α β:Type}(a:α)(k:α->M β):(M.pure a).bind k=k a:=rfl
def ztB{g:Sg}{h K:Heap}{A:Fr}{o:AO}{x:Arg}(hk:o.ins.kind = .read x)(hgd:o.gd=none)(s:St tb g h K){v:V}{h':Heap} (e:o.run G A h=some (v,h')):∃a,x.ev A=some a/\Sol tb a:=by
 obtain⟨dst,gd,ins⟩:=o;cases hgd;have e:ins.run G A h=some (v,h'):=e;have hk:ins.kind = .read x:=hk;cases ins<;>simp only[I.kind]at hk<;>first|(cases hk;done)|skip
 ·cases hk;simp only[I.run,with1]at e;cases hx:x.ev A with
  | none=>rw[hx]at e;cases e
  | some a=>
   rw[hx]at e;refine⟨a,rfl,?_⟩;cases a<;>try (cases e;done)
   ·rename_i id off;obtain⟨b,hb,e⟩:=gb e;intro j hj;injection hj with hj
    subst hj;exact(s.kn _ b hb).2
   ·intro j hj;cases hj
 ·cases hk;simp only[I.run,with1]at e;cases hx:x.ev A with
  | none=>rw[hx]at e;cases e
  | some a=>
   rw[hx]at e;refine⟨a,rfl,?_⟩;obtain⟨q,hq,e⟩:=gb e;cases a<;>try (cases hq;done)
   ·intro j hj;cases hj
   ·rename_i id off len cap;obtain⟨b,hb,hq⟩:=gb hq;intro j hj;injection hj with hj
    subst hj;exact(s.kn _ b hb).2
   ·intro j hj;cases hj
 ·rw[zhd]at hk;exact hk.elim
def s_draw0(hg:zqS tb G G'):∀(l:List AO) (p:Nat) (rs rs':List (Nat×V)) (js js':List (Nat×Heap×Heap)) (g:Sg) (h K:Heap) (A A':Fr),St tb g h K->Rl g shF A A'->l.all AO.still=true->S tb g h K shF (zaI G [] p rs js l A) (zaI G' [] p rs' js' l A'):=by
 intro l
 induction l with
 | nil=>intro p rs rs' js js' g h K A A' s hA _;exact zdk s hA
 | cons o l ih=>
  intro p rs rs' js js' g h K A A' s hA hs;simp only[yba,yam]at hs;unfold zaI;have key:∀(q q':List (Nat×V)) (u u':List (Nat×Heap×Heap)),S tb g h K shF ((o.run G A).bind λv=>zaI G [] (p+1) q u l (A.put o.dst v)) ((o.run G' A').bind λv=>zaI G' [] (p+1) q' u' l (A'.put o.dst v)):=λq q' u u'=>
   zcR s (s_ao hg s hA o hs.1) λg' h' K' v v' s' f' r=>ih _ _ _ _ _ _ _ _ _ _ s' (zm9 (hA.mono f'.ex) r) hs.2
  cases hkk:o.ins.kind with
  | read x=>
   dsimp only;unfold zaI.with1';simp only[zuH,zpb];cases x.ev A<;>cases x.ev A'<;>exact key _ _ _ _
  | act=>
   dsimp only;simp only[reads_nil,zpb];exact ztF (zcR s (s_ao hg s hA o hs.1) λg' h' K' v v' s' f' r=>ztF (ih _ _ _ _ _ _ _ _ _ _ s' (zm9 (hA.mono f'.ex) r) hs.2))
  | pure=>exact key _ _ _ _
  | new=>exact key _ _ _ _
def s_draw(hg:zqS tb G G') (un:List (Nat×Nat)):∀(l:List AO) (p:Nat) (rs rs':List (Nat×V)) (js js':List (Nat×Heap×Heap)) (g:Sg) (h K:Heap) (A A':Fr),St tb g h K->Rl g shF A A'->RsR tb g rs rs'->JsR tb g K js js'->l.all AO.still=true->l.all ngO=true->S tb g h K shF (zaI G un p rs js l A) (zaI G' un p rs' js' l A'):=by
 intro l
 induction l with
 | nil=>intro p rs rs' js js' g h K A A' s hA _ _ _ _;exact zdk s hA
 | cons o l ih=>
  intro p rs rs' js js' g h K A A' s hA hr hj hs hn;simp only[yba,yam]at hs hn;unfold zaI;cases hkk:o.ins.kind with
  | read x=>
   dsimp only;have hgd:o.gd=none:=by
    have:=hn.1;unfold ngO at this;cases hg':o.gd with
    | none=>rfl
    | some q=>rw[hg',hkk]at this;cases this
   have hst:x.still=true:=by
    have h1:=hs.1;unfold AO.still at h1;cases hi:o.ins<;>rw[hi]at h1 hkk<;>first|(simp only[I.kind,zhd]at hkk;done)|(simp only[I.kind]at hkk;cases hkk;done)|(simp only[I.kind]at hkk;cases hkk;exact h1)
   unfold zaI.with1';cases hx:x.ev A with
   | none=>
    dsimp only;intro c h2 e;obtain⟨v,h1,e1,e2⟩:=bind_some e;obtain⟨a,ha,_⟩:=ztB hkk hgd s e1;rw[hx]at ha;cases ha
   | some a=>
    obtain⟨a',ea,ra⟩:=ev_r hst hA hx;rw[ea];dsimp only;by_cases hsol:Sol tb a
    ·exact zcR s (s_ao hg s hA o hs.1) λg' h' K' v v' s' f' r=>
      zcR s' (zwS s' (ra.mono f'.ex) hsol (hj.step f'.ex f'.le)) λg2 h2 K2 _ _ s2 f2 _=>
       ih _ _ _ _ _ _ _ _ _ _ s2 (zm9 ((hA.mono f'.ex).mono f2.ex) (r.mono f2.ex)) ⟨rfl,⟨(ra.mono f'.ex).mono f2.ex,hsol⟩,(hr.mono f'.ex).mono f2.ex⟩ ((hj.step f'.ex f'.le).step f2.ex f2.le) hs.2 hn.2
    ·intro c h2 e;obtain⟨v,h1,e1,e2⟩:=bind_some e;obtain⟨b,hb,hsb⟩:=ztB hkk hgd s e1;rw[hx]at hb;injection hb with hb
     subst hb;exact absurd hsb hsol
  | act=>
   dsimp only;exact ztF (zcR s (s_ao hg s hA o hs.1) λg' h' K' v v' s' f' r=>ztF (
    have sn:=Sn.of s s' f'
    zcR s' (zsB s' (hr.mono f'.ex) sn (yaj _)) λg2 h2 K2 _ _ s2 f2 _=>
     ih _ _ _ _ _ _ _ _ _ _ s2 (zm9 ((hA.mono f'.ex).mono f2.ex) (r.mono f2.ex)) ((hr.mono f'.ex).mono f2.ex) ⟨rfl,⟨sn.step f2.ex (yaj _),f2.le⟩,(hj.step f'.ex f'.le).step f2.ex f2.le⟩ hs.2 hn.2))
  | pure=>exact zcR s (s_ao hg s hA o hs.1) λg' h' K' v v' s' f' r=>ih _ _ _ _ _ _ _ _ _ _ s' (zm9 (hA.mono f'.ex) r) (hr.mono f'.ex) (hj.step f'.ex f'.le) hs.2 hn.2
  | new=>exact zcR s (s_ao hg s hA o hs.1) λg' h' K' v v' s' f' r=>ih _ _ _ _ _ _ _ _ _ _ s' (zm9 (hA.mono f'.ex) r) (hr.mono f'.ex) (hj.step f'.ex f'.le) hs.2 hn.2
def shRes(d:Nm):Res->Res
 | .nrm L=>.nrm (shL d L)
 | .ex id L=>.ex id (shL d L)
 | .ret L=>.ret (shL d L)
def zna{g:Sg}{r r':Res}(h:Rl g shRes r r'):(∃L L',r = .nrm L/\r' = .nrm L'/\Rl g shL L L')\/(∃i L L',r = .ex i L/\r' = .ex i L'/\Rl g shL L L')\/∃L L',r = .ret L/\r' = .ret L'/\Rl g shL L L':=by
 have h0:=h g.e (Ag.self g);cases r with
 | nrm L=>exact .inl ⟨L,_,rfl,h0,λd hd=>by have:=h0.symm.trans (h d hd);injection this⟩
 | ex i L=>exact .inr (.inl ⟨i,L,_,rfl,h0,λd hd=>by have:=h0.symm.trans (h d hd);injection this⟩)
 | ret L=>exact .inr (.inr ⟨L,_,rfl,h0,λd hd=>by have:=h0.symm.trans (h d hd);injection this⟩)
def rl_nrm{g:Sg}{L L':List V}(r:Rl g shL L L'):Rl g shRes (.nrm L) (.nrm L'):=λd hd=>by rw[r d hd];rfl
def rl_ex{g:Sg}{i:Nat}{L L':List V}(r:Rl g shL L L'):Rl g shRes (.ex i L) (.ex i L'):=λd hd=>by rw[r d hd];rfl
def zwU{g:Sg}{L L':List V}(r:Rl g shL L L'):Rl g shRes (.ret L) (.ret L'):=λd hd=>by rw[r d hd];rfl
def s_join{g:Sg}{h K:Heap}{x y:M Res}{k k':List V->M Res}(s:St tb g h K)(hx:S tb g h K shRes x y) (hk:∀g' h' K' L L',St tb g' h' K'->Frm g h K g' h' K'->Rl g' shL L L'->S tb g' h' K' shRes (k L) (k' L')):S tb g h K shRes (M.join x k) (M.join y k'):=by
 refine zcR s hx λg' h' K' r r' s' f' hr=>?_;rcases zna hr with⟨L,L',rfl,rfl,q⟩|⟨i,L,L',rfl,rfl,q⟩|⟨L,L',rfl,rfl,q⟩
 ·exact hk _ _ _ _ _ s' f' q
 ·exact zdk s' (rl_ex q)
 ·exact zdk s' (zwU q)
def zm7:∀(rv:List RV) (g:Sg) (h K:Heap) (A A':Fr),St tb g h K->Rl g shF A A'->S tb g h K shL (results A rv) (results A' rv)
 | [],g,h,K,A,A',s,hA=>zdk s λ_ _=>rfl
 | .tmp t::rs,g,h,K,A,A',s,hA=>
  zcR s (zra s λa ha=>get_r hA ha) λg1 h1 K1 v v' s1 f1 r1=>
   zcR s1 (zm7 rs _ _ _ _ _ s1 (hA.mono f1.ex)) λg2 h2 K2 w w' s2 f2 r2=>zdk s2 λd hd=>by rw[r2 d hd,(r1.mono f2.ex) d hd];rfl
 | .cell t n::rs,g,h,K,A,A',s,hA=>
  zcR s (zra s λa ha=>get_r hA ha) λg0 h0 K0 u u' s0 f0 r0=>
   zcR s0 (s_op s0 λd hd=>by rw[r0 d hd];exact zw0 n u) λg1 h1 K1 v v' s1 f1 r1=>
    zcR s1 (zm7 rs _ _ _ _ _ s1 ((hA.mono f0.ex).mono f1.ex)) λg2 h2 K2 w w' s2 f2 r2=>zdk s2 λd hd=>by rw[r2 d hd,(r1.mono f2.ex) d hd];rfl
def s_exec(hg:zqS tb G G')(rv:List RV):∀(c:C) (cx:List (Nat×List Nat)) (J:List Nat) (g:Sg) (h K:Heap) (A A':Fr),St tb g h K->Rl g shF A A'->c.still=true->ng c=true->S tb g h K shRes (exec G rv c cx J A) (exec G' rv c cx J A'):=by
 intro c
 induction c with
 | done=>intro cx J g h K A A' s hA _ _;exact zcR s (zra s λa ha=>zqo hA ha) λg1 h1 K1 L L' s1 f1 r1=>zdk s1 (rl_nrm r1)
 | bad=>intro cx J g h K A A' s hA _ _;exact zcY
 | ops l k ih=>
  intro cx J g h K A A' s hA hs hn;simp only[C.still,yam]at hs;exact zcR s (s_ops hg l _ _ _ _ _ s hA hs.1) λg1 h1 K1 B B' s1 f1 r1=>ih _ _ _ _ _ _ _ s1 r1 hs.2 hn
 | draw l un k ih=>
  intro cx J g h K A A' s hA hs hn;simp only[C.still,yam]at hs;simp only[ng,yam,ybP]at hn;refine zcR s ?_ λg1 h1 K1 B B' s1 f1 r1=>ih _ _ _ _ _ _ _ s1 r1 hs.2 hn.2;rcases hn.1 with hu|hu
  ·have:un=[]:=List.isEmpty_iff.1 hu;subst this;exact s_draw0 hg l 0 [] [] [] [] g h K A A' s hA hs.1
  ·exact s_draw hg un l 0 [] [] [] [] g h K A A' s hA trivial trivial hs.1 hu
 | cond x a b iha ihb=>
  intro cx J g h K A A' s hA hs hn;simp only[C.still,yam]at hs;simp only[ng,yam]at hn;simp only[exec];cases hv:x.ev A with
  | none=>exact zcY
  | some c=>
   obtain⟨c',e,r⟩:=ev_r hs.1 hA hv;rw[e];exact s_ite r (iha _ _ _ _ _ _ _ s hA hs.2.1 hn.1) (ihb _ _ _ _ _ _ _ s hA hs.2.2 hn.2)
 | condJ x a b J' W k iha ihb ihk=>
  intro cx J g h K A A' s hA hs hn;simp only[C.still,yam]at hs;simp only[ng,yam]at hn;simp only[exec];cases hv:x.ev A with
  | none=>exact zcY
  | some c=>
   obtain⟨c',e,r⟩:=ev_r hs.1 hA hv;rw[e];exact s_join s (s_ite r (iha _ _ _ _ _ _ _ s hA hs.2.1 hn.1) (ihb _ _ _ _ _ _ _ s hA hs.2.2.1 hn.2.1)) λg1 h1 K1 L L' s1 f1 r1=>ihk _ _ _ _ _ _ _ s1 (zp1 (hA.mono f1.ex) r1) hs.2.2.2 hn.2.2
 | blk id a J' W k iha ihk=>
  intro cx J g h K A A' s hA hs hn;simp only[C.still,yam]at hs;simp only[ng,yam]at hn;simp only[exec,M.blk];refine zcR s (iha _ _ _ _ _ _ _ s hA hs.1 hn.1) λg1 h1 K1 r r' s1 f1 hr=>?_;rcases zna hr with⟨L,L',rfl,rfl,q⟩|⟨i,L,L',rfl,rfl,q⟩|⟨L,L',rfl,rfl,q⟩
  ·exact ihk _ _ _ _ _ _ _ s1 (zp1 (hA.mono f1.ex) q) hs.2 hn.2
  ·by_cases e:i=id
   ·simp only[if_pos e];exact ihk _ _ _ _ _ _ _ s1 (zp1 (hA.mono f1.ex) q) hs.2 hn.2
   ·simp only[if_neg e];exact zdk s1 (rl_ex q)
  ·exact zdk s1 (zwU q)
 | loop a K0 W iha=>
  intro cx J g h K A A' s hA hs hn
  -- what the frame is goes along with what is carried: the loop's own frame is the same in each round
  intro r0 h2 e;obtain⟨L,h1,e1,e2⟩:=bind_some e;obtain⟨g1,L',K1,y1,s1,f1,r1⟩:=zra (K:=K) s (λa ha=>zqo hA ha) L h1 e1;have hA1:=hA.mono f1.ex;obtain⟨n,hn'⟩:=zew e2;have key:∀(n:Nat) (L L':List V) (g:Sg) (h K:Heap),St tb g h K->Rl g shF A A'->Rl g shL L L'->S tb g h K shRes (iterN (λL=>exec G rv a cx K0 (A.join K0 W L)) n L) (iterN (λL=>exec G' rv a cx K0 (A'.join K0 W L)) n L'):=by
   intro n
   induction n with
   | zero=>intros;exact zcY
   | succ n ih=>intro L L' g h K s hA r;exact s_join s (iha _ _ _ _ _ _ _ s (zp1 hA r) hs hn) λg' h' K' L L' s' f' q=>ih _ _ _ _ _ s' (hA.mono f'.ex) q
  obtain⟨g',b,K',e3,s3,f3,r3⟩:=key n L L' g1 h1 K1 s1 hA1 r1 r0 h2 hn';refine⟨g',b,K',?_,s3,Frm.trans s s1 f1 f3,r3⟩;show((M.lift (zbh A' K0)).bind λL=>M.iter (λL=>exec G' rv a cx K0 (A'.join K0 W L)) L) K = _;rw[bind_ok y1];exact zgp e3
 | exit id=>
  intro cx J g h K A A' s hA _ _;simp only[exec];cases ziY cx id with
  | none=>exact zcY
  | some J=>exact zcR s (zra s λa ha=>zqo hA ha) λg1 h1 K1 L L' s1 f1 r1=>zdk s1 (rl_ex r1)
 | ret=>intro cx J g h K A A' s hA _ _;exact zcR s (zm7 rv _ _ _ _ _ s hA) λg1 h1 K1 L L' s1 f1 r1=>zdk s1 (zwU r1)
def s_fn(hg:zqS tb G G')(f:Fn')(hs:f.body.still=true)(hn:ng f.body=true)(args args':List V)(g:Sg)(h K:Heap)(s:St tb g h K)(r:Rl g shL args args'):S tb g h K sh (f.run G args) (f.run G' args'):=by
 unfold Fn'.run;refine zcR s (s_exec hg _ _ _ _ _ _ _ _ _ s (λd hd=>by rw[r d hd,shF_params]) hs hn) λg1 h1 K1 r r' s1 f1 hr=>?_;rcases zna hr with⟨L,L',rfl,rfl,q⟩|⟨i,L,L',rfl,rfl,q⟩|⟨L,L',rfl,rfl,q⟩
 ·exact zcY
 ·exact zcY
 ·exact zdk s1 λd hd=>by rw[q d hd,sh_tupled]
end
end Go.Ax.Y
/- Ax47 -/
namespace Go.Ax
def zaC{α β:Type}{o:Option α}{f:α->Option β}{b:β}(h:o.bind f=some b):∃a,o=some a/\f a=some b:=by
 cases o with
 | none=>cases h
 | some a=>exact⟨a,rfl,h⟩
def zbj{α β:Type}{o:Option α}{f:α->β}{b:β}(h:o.map f=some b):∃a,o=some a/\f a=b:=by
 cases o with
 | none=>cases h
 | some a=>exact⟨a,rfl,by injection h⟩
def zkt{x:Value}{v:V}(h:V.ofValue x=some v):v.still=true:=by
 unfold V.ofValue at h;split at h<;>first|(injection h with h;subst h;rfl)|cases h
def zhc:∀{l:List Value} {vs:List V},V.ofCells l=some vs->V.stills vs=true
 | [],_,h=>by injection h with h;subst h;rfl
 | x::xs,_,h=>by
  obtain⟨v,h1,h⟩:=zaC h;obtain⟨vs,h2,h⟩:=zbj h;subst h;simp only[V.stills,zkt h1,zhc h2,yaJ]
def zku{x:Value}{v:V}(h:V.ofConst x=some v):v.still=true:=by
 unfold V.ofConst at h;split at h
 ·obtain⟨vs,h1,h⟩:=zbj h;subst h;exact zhc h1
 ·exact zkt h
def zag{x:Operand}{a:Arg}(h:zav x=some a):a.still=true:=by
 unfold zav at h;split at h
 ·injection h with h;subst h;rfl
 ·obtain⟨v,h1,h⟩:=zbj h;subst h;exact zku h1
 ·injection h with h;subst h;rfl
 ·cases h
def zcN:∀{l:List Operand} {vs:List Arg},zb4 l=some vs->vs.all Arg.still=true
 | [],_,h=>by injection h with h;subst h;rfl
 | x::xs,_,h=>by
  obtain⟨v,h1,h⟩:=zaC h;obtain⟨vs,h2,h⟩:=zbj h;subst h;simp only[yba,zag h1,zcN h2,yaJ]
def zhG{x:Option Operand}{a:Option Arg}(h:zhH x=some a):zii a=true:=by
 unfold zhH at h;split at h
 ·injection h with h;subst h;rfl
 ·obtain⟨v,h1,h⟩:=zbj h;subst h;exact zag h1
def zcV{P:Program}{t:TypeId}{z:List V}(h:zeroOf P t=some z):V.stills z=true:=by
 obtain⟨v,h1,h⟩:=zaC h;exact zhc h
def zuO{P:Program}{t:TypeId}{z:V}(h:zvOf P t=some z):z.still=true:=by
 obtain⟨v,h1,h⟩:=zaC h;exact zku h
def zhT{P:Program}{fs:Array Field}:∀{l:List (Nat×Operand)} {ps:List (Nat×Nat×Arg)},zff P fs l=some ps->(ps.all λp=>p.2.2.still)=true
 | [],_,h=>by injection h with h;subst h;rfl
 | (i,x)::xs,_,h=>by
  obtain⟨f,h1,h⟩:=zaC h;obtain⟨s,h2,h⟩:=zaC h;obtain⟨a,h3,h⟩:=zaC h;obtain⟨vs,h4,h⟩:=zbj h;subst h;simp only[yba,zag h3,zhT h4,yaJ]
def zfN{s:Nat}:∀{l:List (Nat×Operand)} {ps:List (Nat×Nat×Arg)},zfO s l=some ps->(ps.all λp=>p.2.2.still)=true
 | [],_,h=>by injection h with h;subst h;rfl
 | (i,x)::xs,_,h=>by
  obtain⟨a,h3,h⟩:=zaC h;obtain⟨vs,h4,h⟩:=zbj h;subst h;simp only[yba,zag h3,zfN h4,yaJ]
def if_s{c:Prop}[Decidable c]{α:Type}{x:Option α}{y:α} (h:(if c then x else none)=some y):x=some y:=by
 by_cases hc:c
 ·rw[if_pos hc]at h;exact h
 ·rw[if_neg hc]at h;cases h
def zoZ{P:Program}{e:TypeId}{i:TypeInfo}{u:TypeId}{x y:Operand}{o:I}(h:zmL P e i u x y=some o):o.still=true:=by
 unfold zmL at h;split at h
 ·obtain⟨z,h1,h⟩:=zaC h;obtain⟨a,h3,h⟩:=zaC (if_s h);obtain⟨b,h4,h⟩:=zbj h;subst h;simp only[I.still,zcV h1,zag h3,zag h4,yaJ]
 ·cases h
def zlK{P:Program}{b:Builtin}{es:List Operand}{ts:List TypeId}{o:I}(h:zhK P b es ts=some o):o.still=true:=by
 unfold zhK at h;split at h
 ·split at h
  ·obtain⟨a,h3,h⟩:=zbj h;subst h;exact zag h3
  ·obtain⟨a,h3,h⟩:=zbj h;subst h;exact zag h3
  ·injection h with h;subst h;rfl
  ·obtain⟨a,h3,h⟩:=zbj h;subst h;exact zag h3
  ·cases h
 ·obtain⟨e,h1,h⟩:=zaC h;obtain⟨i,h2,h⟩:=zaC h;obtain⟨z,h5,h⟩:=zaC h;split at h
  ·obtain⟨a,h3,h⟩:=zaC h;obtain⟨b,h4,h⟩:=zbj h;subst h;simp only[I.still,zag h3,zag h4,yaJ]
  ·exact zoZ h
 ·obtain⟨e,h1,h⟩:=zaC h;obtain⟨i,h2,h⟩:=zaC h;obtain⟨a,h3,h⟩:=zaC h;obtain⟨b,h4,h⟩:=zbj h;subst h;simp only[I.still,zag h3,zag h4,yaJ]
 ·obtain⟨e,h1,h⟩:=zaC h;obtain⟨z,h2,h⟩:=zaC h;obtain⟨a,h3,h⟩:=zbj (if_s h);subst h;simp only[I.still,zcV h2,zag h3,yaJ]
 ·obtain⟨a,h3,h⟩:=zaC h;obtain⟨b,h4,h⟩:=zbj h;subst h;simp only[I.still,zag h3,zcN h4,yaJ]
 ·obtain⟨a,h3,h⟩:=zaC h;obtain⟨b,h4,h⟩:=zbj h;subst h;simp only[I.still,zag h3,zcN h4,yaJ]
 ·cases h
def zmd{P:Program}{n:Bool}{t:TypeId}{x y:Arg}{o:I}(hx:x.still=true)(hy:y.still=true)(h:zpA P n t x y=some o):o.still=true:=by
 have key:(x.still&&y.still)=true:=by rw[hx,hy];rfl
 unfold zpA at h;split at h
 ·injection h with h;subst h;exact key
 ·injection h with h;subst h;exact key
 ·injection h with h;subst h;exact key
 ·split at h
  ·have h:=if_s h;injection h with h;subst h;exact key
  ·cases h
 ·split at h
  ·injection h with h;subst h;exact key
  ·obtain⟨a,h3,h⟩:=zbj h;subst h;exact key
 ·cases h
def zqH{P:Program}{op:BinOp}{t:TypeId}{x y:Arg}{o:I}(hx:x.still=true)(hy:y.still=true)(h:zn9 P op t x y=some o):o.still=true:=by
 have key:(x.still&&y.still)=true:=by rw[hx,hy];rfl
 unfold zn9 at h;split at h
 ·injection h with h;subst h;exact key
 ·injection h with h;subst h;exact key
 ·injection h with h;subst h;exact key
 ·split at h
  ·exact zmd hx hy h
  ·exact zmd hx hy h
  ·cases h
 ·cases h
def zqG{k:Xk}{es:List Arg}{o:I}(ha:es.all Arg.still=true)(h:ziZ k es=some o):o.still=true:=by
 unfold ziZ at h;split at h<;>first
  | cases h;done
  | (injection h with h;subst h;simp only[yba,List.all_nil,yaJ]at ha;exact ha)
def zoY{P:Program}{f:FuncId}{es:List Arg}{o:I}(ha:es.all Arg.still=true)(h:zmK P f es=some o):o.still=true:=by
 unfold zmK at h;split at h
 ·split at h
  ·obtain⟨k,h1,h⟩:=zaC (if_s h);exact zqG ha h
  ·injection h with h;subst h;exact ha
 ·cases h
def zmc{P:Program}{o:Op}{i:I}(h:zpz P o=some i):i.still=true:=by
 unfold zpz at h;split at h
 case h_1=>obtain⟨a,h3,h⟩:=zbj h;subst h;exact zag h3
 case h_2=>obtain⟨a,h3,h⟩:=zbj h;subst h;exact zag h3
 case h_3=>
  obtain⟨a,h1,h⟩:=zaC h;obtain⟨b,h2,h⟩:=zaC h;obtain⟨c,h3,h⟩:=zbj h;subst h;simp only[I.still,zag h1,zag h2,zag h3,yaJ]
 case h_4=>obtain⟨a,h3,h⟩:=zbj h;subst h;exact zcV h3
 case h_5=>obtain⟨a,h3,h⟩:=zbj h;subst h;exact zag h3
 case h_6=>
  obtain⟨z,h1,h⟩:=zaC h;split at h
  ·obtain⟨a,h3,h⟩:=zbj (if_s h);subst h;simp only[I.still,zcV h1,zhT h3,yaJ]
  ·obtain⟨s,h2,h⟩:=zaC h;obtain⟨a,h3,h⟩:=zbj h;subst h;simp only[I.still,zcV h1,zfN h3,yaJ]
  ·cases h
 case h_7=>
  obtain⟨e,h1,h⟩:=zaC h;obtain⟨s,h2,h⟩:=zaC h;obtain⟨z,h4,h⟩:=zaC h;obtain⟨a,h3,h⟩:=zbj (if_s h);subst h;simp only[I.still,zcV h4,zfN h3,yaJ]
 case h_8=>
  obtain⟨n,h1,h⟩:=zaC h;obtain⟨a,h3,h⟩:=zbj h;subst h;exact zag h3
 case h_9=>
  obtain⟨n,h1,h⟩:=zaC h;obtain⟨b,h2,h⟩:=zaC h;obtain⟨a,h3,h⟩:=zbj h;subst h;simp only[I.still,zag h2,zag h3,yaJ]
 case h_10=>obtain⟨a,h3,h⟩:=zbj h;subst h;exact zag h3
 case h_11=>
  obtain⟨a,h1,h⟩:=zaC h;obtain⟨b,h2,h⟩:=zaC h;exact zqH (zag h1) (zag h2) h
 case h_12=>obtain⟨a,h3,h⟩:=zbj h;subst h;exact zag h3
 case h_13=>
  split at h
  ·obtain⟨a,h3,h⟩:=zbj h;subst h;exact zag h3
  ·obtain⟨a,h3,h⟩:=zbj h;subst h;exact zag h3
  ·split at h
   ·obtain⟨a,h3,h⟩:=zbj h;subst h;exact zag h3
   ·cases h
  ·split at h
   ·obtain⟨a,h3,h⟩:=zbj h;subst h;exact zag h3
   ·cases h
  ·split at h
   ·split at h
    ·obtain⟨a,h3,h⟩:=zbj h;subst h;exact zag h3
    ·obtain⟨a,h3,h⟩:=zbj h;subst h;exact zag h3
   ·cases h
  ·cases h
 case h_14=>
  split at h
  ·obtain⟨f,h1,h⟩:=zaC h;obtain⟨n,h2,h⟩:=zaC h;obtain⟨a,h3,h⟩:=zbj (if_s h);subst h;exact zag h3
  ·cases h
 case h_15=>
  split at h
  ·obtain⟨n,h2,h⟩:=zaC h;obtain⟨a,h1,h⟩:=zaC h;obtain⟨b,h3,h⟩:=zbj h;subst h;simp only[I.still,zag h1,zag h3,yaJ]
  ·obtain⟨n,h2,h⟩:=zaC h;obtain⟨a,h1,h⟩:=zaC h;obtain⟨b,h3,h⟩:=zbj h;subst h;simp only[I.still,zag h1,zag h3,yaJ]
  ·cases h
 case h_16=>
  split at h
  ·obtain⟨n,h2,h⟩:=zaC h;obtain⟨l,h4,h⟩:=zaC h;obtain⟨a,h1,h⟩:=zaC h;obtain⟨b,h3,h⟩:=zbj h;subst h;simp only[I.still,zag h1,zag h3,yaJ]
  ·obtain⟨a,h1,h⟩:=zaC h;obtain⟨b,h3,h⟩:=zbj h;subst h;simp only[I.still,zag h1,zag h3,yaJ]
  ·cases h
 case h_17=>
  split at h
  ·obtain⟨f,h1,h⟩:=zaC h;obtain⟨n,h2,h⟩:=zaC h;obtain⟨a,h3,h⟩:=zbj h;subst h;exact zag h3
  ·cases h
 case h_18=>obtain⟨a,h3,h⟩:=zbj h;subst h;exact zag h3
 case h_19=>
  split at h
  ·obtain⟨a,h3,h⟩:=zbj h;subst h;exact zag h3
  ·cases h
 case h_20=>
  obtain⟨a,h1,h⟩:=zaC h;obtain⟨b,h2,h⟩:=zaC h;obtain⟨c,h3,h⟩:=zaC h;obtain⟨d,h4,h⟩:=zaC h;have e1:=zag h1;have e2:=zhG h2;have e3:=zhG h3;have e4:=zhG h4;have key:(a.still&&(zii b&&(zii c&&zii d)))=true:=by rw[e1,e2,e3,e4];rfl
  split at h
  ·obtain⟨s,h5,h⟩:=zaC h;split at h
   ·have h:=if_s h;injection h with h;subst h
    simp only[zii]at e2 e3;simp only[I.still,e1,e2,e3,yaJ]
   ·injection h with h;subst h;exact key
  ·obtain⟨s,h5,h⟩:=zbj h;subst h;exact key
  ·injection h with h;subst h;exact key
  ·cases h
 case h_21=>
  obtain⟨e,h1,h⟩:=zaC h;obtain⟨i,h2,h⟩:=zaC h;obtain⟨z,h5,h⟩:=zaC h;obtain⟨a,h3,h⟩:=zaC (if_s h);obtain⟨b,h4,h⟩:=zbj h;subst h;simp only[I.still,zcV h5,zag h3,zag h4,yaJ]
 case h_22=>
  obtain⟨a,h3,h⟩:=zbj (if_s h);subst h;exact zcN h3
 case h_23=>
  split at h
  ·injection h with h;subst h;rfl
  ·cases h
 case h_24=>
  obtain⟨q,h1,h⟩:=zaC h;obtain⟨z,h2,h⟩:=zaC h;obtain⟨a,h3,h⟩:=zaC h;obtain⟨b,h4,h⟩:=zbj h;subst h;simp only[I.still,zuO h2,zag h3,zag h4,yaJ]
 case h_25=>
  obtain⟨q,h1,h⟩:=zaC h;obtain⟨a,h2,h⟩:=zaC h;obtain⟨b,h3,h⟩:=zaC h;obtain⟨c,h4,h⟩:=zbj h;subst h;simp only[I.still,zag h2,zag h3,zag h4,yaJ]
 case h_26=>
  obtain⟨q,h1,h⟩:=zaC h;obtain⟨a,h2,h⟩:=zaC h;obtain⟨b,h3,h⟩:=zaC h;obtain⟨c,h4,h⟩:=zbj h;subst h;simp only[I.still,zag h2,zag h3,zag h4,yaJ]
 case h_27=>
  obtain⟨a,h2,h⟩:=zaC h;exact zoY (zcN h2) h
 case h_28=>
  obtain⟨a,h2,h⟩:=zaC h;obtain⟨b,h3,h⟩:=zbj h;subst h;simp only[I.still,zag h2,zcN h3,yaJ]
 case h_29=>exact zlK h
 case h_30=>cases h
def zmf{P:Program}{ops:Array Oper}{o:Oper}{a:AO}(h:zjI P ops o=some a):a.still=true:=by
 obtain⟨i,h1,h⟩:=zaC h;split at h
 ·injection h with h;subst h;exact zmc h1
 ·obtain⟨s,h2,h⟩:=zbj h;subst h;exact zmc h1
def zk5{P:Program}{ops:Array Oper}:∀{l:List Oper} {es:List AO},zhI P ops l=some es->es.all AO.still=true
 | [],_,h=>by injection h with h;subst h;rfl
 | x::xs,_,h=>by
  obtain⟨a,h3,h⟩:=zaC h;obtain⟨vs,h4,h⟩:=zbj h;subst h;simp only[yba,zmf h3,zk5 h4,yaJ]
def zk6{P:Program}{ops:Array Oper}:∀{l:List Nat} {es:List (Nat×AO)},zkc P ops l=some es->(es.map (·.2)).all AO.still=true
 | [],_,h=>by injection h with h;subst h;rfl
 | x::xs,_,h=>by
  obtain⟨o,h1,h⟩:=zaC h;obtain⟨a,h3,h⟩:=zaC h;obtain⟨vs,h4,h⟩:=zbj h;subst h;simp only[yaT,yba,zmf h3,zk6 h4,yaJ]
def zoX{P:Program}{ops:Array Oper}{ord:List Nat} {r:List AO×List (Nat×Nat)} (h:zhJ P ops ord=some r):r.1.all AO.still=true:=by
 unfold zhJ at h;obtain⟨l,h1,h⟩:=zaC h;have h:=if_s h;injection h with h;subst h
 exact zk6 h1
def zvR{P:Program}:∀{c:Code} {k:C} {h:List (List Nat)} {r:C×List (List Nat)},k.still=true->comp P c k h=some r->r.1.still=true:=by
 intro c
 induction c with
 | skip=>intro k h r hk e;injection e with e;subst e;exact hk
 | region _ ops d=>
  intro k h r hk e;unfold comp at e;split at e
  ·injection e with e;subst e;rfl
  ·split at e
   ·obtain⟨l,h1,e⟩:=zbj e;subst e;simp only[C.still,zk5 h1,hk,yaJ]
   ·split at e
    ·obtain⟨l,h1,e⟩:=zbj (if_s e);subst e;simp only[C.still,zoX h1,hk,yaJ]
    ·cases e
 | seq a b iha ihb=>
  intro k h r hk e;unfold comp at e;obtain⟨s,h1,e⟩:=zaC e;exact iha (ihb hk h1) e
 | cond x a b iha ihb=>
  intro k h r hk e;unfold comp at e;obtain⟨x',hx,e⟩:=zaC e;split at e
  ·obtain⟨s,h1,e⟩:=zaC e;obtain⟨t,h2,e⟩:=zbj e;subst e;have e1:=iha rfl h1;have e2:=ihb hk h2;simp only[C.still,zag hx,e1,e2,yaJ]
  ·split at e
   ·obtain⟨s,h1,e⟩:=zaC e;obtain⟨t,h2,e⟩:=zbj e;subst e;have e1:=iha hk h1;have e2:=ihb rfl h2;simp only[C.still,zag hx,e1,e2,yaJ]
   ·split at e
    ·obtain⟨s,h1,e⟩:=zaC e;obtain⟨t,h2,e⟩:=zbj e;subst e;have e1:=iha rfl h1;have e2:=ihb rfl h2;simp only[C.still,zag hx,e1,e2,hk,yaJ]
    ·cases e
 | block id a iha=>
  intro k h r hk e;unfold comp at e;split at e
  ·obtain⟨s,h1,e⟩:=zbj e;subst e;have e1:=iha rfl h1;simp only[C.still,e1,hk,yaJ]
  ·cases e
 | loop a iha=>
  intro k h r hk e;unfold comp at e;split at e
  ·obtain⟨s,h1,e⟩:=zbj e;subst e;have e1:=iha (k:=.done) rfl h1;exact e1
  ·cases e
 | exit id=>intro k h r hk e;injection e with e;subst e;rfl
 | ret=>intro k h r hk e;injection e with e;subst e;rfl
 | _=>intros;rename_i e;cases e
def zr6{P:Program}{fn:Func} {h:List (List Nat)} {ir:Fn'} (e:zn8 P fn h=some ir):ir.body.still=true:=by
 unfold zn8 at e;obtain⟨b,h1,e⟩:=zaC e;obtain⟨r,h2,e⟩:=zaC e;obtain⟨rv,h3,e⟩:=zaC e;have e:=if_s e;injection e with e;subst e
 exact zvR (k:=.ret) rfl h2
def zqE{P:Program}{fn:Func} {h:List (List Nat)} {ir:Fn'} (e:zqF P fn h=some ir):ir.body.still=true:=by
 unfold zqF at e;split at e
 ·injection e with e;subst e;rfl
 ·split at e
  ·injection e with e;subst e;rfl
  ·exact zr6 e
def zlQ{P:Program} {h:FuncId->List (List Nat)} {f:FuncId} {ir:Fn'} (e:zo3 P h f=some ir):ir.body.still=true:=by
 obtain⟨fn,h1,e⟩:=zaC e;exact zqE e
end Go.Ax
/- Ax54 -/
namespace Go.Ax.Y
def news:Heap->List (Option Blk)->Heap
 | h,[]=>h
 | h,some b::l=>news (h.new b) l
 | h,none::l=>news ⟨h.get,h.next+1⟩ l
abbrev Orc:Type:=FuncId->List V->Heap->Option (V×List (Option Blk))
def zyA(T:FuncId->Option Fn')(sel:FuncId->List V->Bool)(O:Orc):Nat->Sem'
 | 0=>λ_ _=>M.fail
 | n+1=>λf args=>if sel f args=true then (λh=>(O f args h).map λr=>(r.1,news h r.2)) else
  match T f with
  | some ir=>if args.length<=ir.ntmps/\ng ir.body=true then ir.run (zyA T sel O n) args else M.fail
  | none=>M.fail
def OrS(tb:Tb)(T:FuncId->Option Fn')(sel:FuncId->List V->Bool)(O:Orc):Prop:=
 ∀f args args' g h K v nb,sel f args=true->O f args h=some (v,nb)->St tb g h K->Rl g shL args args' ->
  ∃g' b K',sem T f args' K=some (b,K')/\St tb g' (news h nb) K'/\Frm g h K g' (news h nb) K'/\Rl g' sh v b
def s_deep{tb:Tb}{T:FuncId->Option Fn'}{sel:FuncId->List V->Bool}{O:Orc}(hT:∀f ir,T f=some ir->ir.body.still=true)(hO:OrS tb T sel O):∀n,zqS tb (zyA T sel O n) (sem T)
 | 0=>λf args args' g h K s r=>zcY
 | n+1=>λf args args' g h K s r=>by
  unfold zyA;by_cases hs:sel f args=true
  ·rw[if_pos hs];intro a h' e;obtain⟨⟨v,nb⟩,e1,e2⟩:=gm e;cases e2;exact hO f args args' g h K v nb hs e1 s r
  ·rw[if_neg hs];cases hf:T f with
   | none=>exact zcY
   | some ir=>
    dsimp only;by_cases hc:args.length<=ir.ntmps/\ng ir.body=true
    ·rw[if_pos hc];intro a h' e;obtain⟨g',b,K',e1,s1,f1,r1⟩:=s_fn (s_deep hT hO n) ir (hT f ir hf) hc.2 args args' g h K s r a h' e;refine⟨g',b,K',zq6 hf ?_ e1,s1,f1,r1⟩;rw[r g.e (Ag.self g),shL_len];exact hc.1
    ·rw[if_neg hc];exact zcY
/-! The same,to compute with. -/
def zxH:Cc.Heap->List (Option Blk)->Cc.Heap
 | h,[]=>h
 | h,some b::l=>zxH (h.new b) l
 | h,none::l=>zxH ⟨h.t,h.next+1⟩ l
def zol:∀(l:List (Option Blk)) (h:Cc.Heap),(zxH h l).abs=news h.abs l
 | [],h=>rfl
 | some b::l,h=>by show(zxH (h.new b) l).abs=news (h.abs.new b) l;rw[zol l,Cc.abs_new]
 | none::l,h=>zol l ⟨h.t,h.next+1⟩
def cdo(T:FuncId->Option Fn')(sel:FuncId->List V->Bool)(O:Orc):Nat->Cc.Sem'
 | 0=>λ_ _=>Cc.M.fail
 | n+1=>λf args=>match sel f args with
  | true=>λh=>match O f args h.abs with|some r=>some (r.1,zxH h r.2)|none=>none
  | false=>match T f with
   | some ir=>match Nat.ble args.length ir.ntmps&&ng ir.body with
    | true=>Cc.fin (Cc.execK (cdo T sel O n) ir.rv ir.body [] [] (params 0 args))
    | false=>Cc.M.fail
   | none=>Cc.M.fail
def ztC{T:FuncId->Option Fn'}{sel:FuncId->List V->Bool}{O:Orc}:∀n,Cc.Sims (cdo T sel O n) (zyA T sel O n)
 | 0=>λ_ _=>Cc.sim_fail
 | n+1=>λf args=>by
  unfold cdo zyA;cases hs:sel f args with
  | true=>
   rw[if_pos rfl];intro c v c' e;dsimp only at e ⊢;cases hO:O f args c.abs with
   | none=>rw[hO]at e;cases e
   | some r=>
    rw[hO]at e;cases e;rw[yar,zol]
  | false=>
   rw[if_neg (by decide)];cases hf:T f with
   | none=>exact Cc.sim_fail
   | some ir=>
    dsimp only;cases hc:Nat.ble args.length ir.ntmps&&ng ir.body with
    | false=>exact Cc.sim_fail
    | true=>
     rw[yam]at hc;rw[if_pos ⟨yaz hc.1,hc.2⟩,ztH];exact Cc.sim_fin (Cc.sim_exec (ztC n) _ _ _ _ _)
def run_ok{tb:Tb}{T:FuncId->Option Fn'}{sel:FuncId->List V->Bool}{O:Orc}(hT:∀f ir,T f=some ir->ir.body.still=true)(hO:OrS tb T sel O){m:Nat}{f:FuncId}{args args':List V}{c:Cc.Heap}{v:V}{c':Cc.Heap} (h:cdo T sel O m f args c=some (v,c')) {g:Sg} {K:Heap} (s:St tb g c.abs K) (r:Rl g shL args args') :
  ∃g' b K',sem T f args' K=some (b,K')/\St tb g' c'.abs K'/\Frm g c.abs K g' c'.abs K'/\Rl g' sh v b:=
 s_deep hT hO m f args args' g c.abs K s r v c'.abs (ztC m f args c v c' h)
end Go.Ax.Y
/- Ax55 -/
namespace Go.Ax.Y
variable {tb:Tb} {g:Sg} {h K K':Heap}
def fr_dum(gr:Grow K K'):Frm g h K g ⟨h.get,h.next+1⟩ K':=
 ⟨Ex.refl _ _,gr.next,ybT _,λi hi _=>gr.same i hi,λj b hj=>.inl ⟨b,hj⟩⟩
def St.dum(s:St tb g h K)(gr:Grow K K')(hc:K'.Cl):St tb g (news h [none]) K':=by
 have fm:=fr_dum (g:=g) (h:=h) gr;refine⟨s.s,s.kn,λi hi=>ybG (s.nb i hi),s.nwb,ydi s.lo,s.inj,λi hi=>yak (s.lt i hi) gr.next,λd hd i b hi=>?_,λi hi hR hn=>?_,hc,s.seq,λi hR hi e=>?_,s.mono,λm hm hf=>?_,λm hw=>?_⟩
 ·rw[gr.same _ (by rw[hd.2.1 i (s.kn i b hi).1];exact s.lt i (s.kn i b hi).1)];exact s.em d hd i b hi
 ·rw[gr.same _ (s.lt i hi)];exact s.dr i hi hR hn
 ·have:=s.nb i hi;have e:i+1=h.next+1:=e;omega
 ·obtain⟨h1,lo,Hc,h2,h3,h4⟩:=s.mf m hm hf;exact⟨ybG h1,lo,Hc,h2,h3.step s fm,h4⟩
 ·obtain⟨h1,lo,Hc,h2,h3⟩:=s.mw m hw;exact⟨ybG h1,lo,Hc,h2,h3.step s fm⟩
def St.blk(s:St tb g h K)(gr:Grow K K')(hc:K'.Cl){id:Nat}(h1:K.next<=id)(h2:id<K'.next){b:Blk} (hb:∀d,Ag g d->K'.get id=some (shB d b)) :
  ∃g',St tb g' (news h [none,some b,none]) K'/\Frm g h K g' (news h [none,some b,none]) K'/\g'.nf (h.next+1)/\g'.e.f (h.next+1)=id:=by
 let e2:Nm:=⟨λi=>if i=h.next+1 then id else g.e.f i,g.e.w,g.e.s⟩
 let g':Sg:=⟨e2,λi=>g.nf i\/i=h.next+1,g.nw⟩
 have fn:e2.f (h.next+1)=id:=if_pos rfl;have f2:∀i,g.nf i->e2.f i=g.e.f i:=λi hi=>if_neg (by have:=s.nb i hi;omega);have hget:∀j,(news h [none,some b,none]).get j=if j=h.next+1 then some b else h.get j:=λj=>rfl
 have hnx:(news h [none,some b,none]).next=h.next+1+1+1:=rfl;have kn':∀j c,(news h [none,some b,none]).get j=some c->(j=h.next+1/\c=b)\/(j≠h.next+1/\h.get j=some c):=λj c hj=>by
  rw[hget]at hj;by_cases e:j=h.next+1
  ·rw[if_pos e]at hj;injection hj with hj;exact .inl ⟨e,hj.symm⟩
  ·rw[if_neg e]at hj;exact .inr ⟨e,hj⟩
 have ex:Ex K.next g g':=⟨rfl,λi hi=>⟨.inl hi,f2 i hi⟩,λi hi=>⟨hi,rfl⟩,λi hi hn=>by
  rcases hi with hi|rfl
  ·exact absurd hi hn
  ·show K.next<=e2.f (h.next+1);rw[fn];exact h1⟩
 have fm:Frm g h K g' (news h [none,some b,none]) K':=⟨ex,gr.next,by rw[hnx];omega,λi hi _=>gr.same i hi,λj c hj=>by
  rcases kn' j c hj with⟨rfl,_⟩|⟨_,hj⟩
  ·refine .inr ?_;show K.next<=e2.f (h.next+1);rw[fn];exact h1
  ·exact .inl ⟨c,hj⟩⟩
 have lt':∀i,g.nf i->g.e.f i<K.next:=s.lt;refine⟨g',⟨s.s,λi c hi=>?_,λi hi=>?_,s.nwb,by rw[hnx];have:=s.lo;omega,λi j hi hj eq=>?_,λi hi=>?_,λd hd i c hi=>?_,λi hi hR hn=>?_,hc,λi hR hi hj=>?_,λi hR hi e=>?_,λi j hR hl hi hj=>?_,λm hm hf=>?_,λm hw=>?_⟩,fm,.inr rfl,fn⟩
 ·rcases kn' i c hi with⟨rfl,_⟩|⟨_,hi⟩
  ·exact⟨.inr rfl,by have:=s.lo;omega⟩
  ·exact⟨.inl (s.kn i c hi).1,(s.kn i c hi).2⟩
 ·rw[hnx];rcases hi with hi|rfl
  ·have:=s.nb i hi;omega
  ·omega
 ·have eq:e2.f i=e2.f j:=eq;rcases hi with hi|rfl<;>rcases hj with hj|rfl
  ·rw[f2 i hi,f2 j hj]at eq;exact s.inj i j hi hj eq
  ·rw[f2 i hi,fn]at eq;have:=lt' i hi;omega
  ·rw[f2 j hj,fn]at eq;have:=lt' j hj;omega
  ·rfl
 ·show e2.f i<K'.next;rcases hi with hi|rfl
  ·rw[f2 i hi];exact yak (lt' i hi) gr.next
  ·rw[fn];exact h2
 ·have hd0:=hd.mono ex;rcases kn' i c hi with⟨rfl,rfl⟩|⟨_,hi⟩
  ·have:d.f (h.next+1)=id:=(hd.2.1 (h.next+1) (.inr rfl)).trans fn;rw[this];exact hb d hd0
  ·rw[gr.same _ (by rw[hd0.2.1 i (s.kn i c hi).1];exact lt' i (s.kn i c hi).1)];exact s.em d hd0 i c hi
 ·show K'.get (e2.f i)=none;rcases hi with hi|rfl
  ·rw[f2 i hi,gr.same _ (lt' i hi)];refine s.dr i hi hR ?_;rw[hget,if_neg (by have:=s.nb i hi;omega)]at hn;exact hn
  ·rw[hget,if_pos rfl]at hn;cases hn
 ·show e2.f (i+1)=e2.f i+1;rcases hi with hi|rfl
  ·rcases hj with hj|hj
   ·rw[f2 i hi,f2 _ hj];exact s.seq i hR hi hj
   ·have:=s.nb i hi;omega
  ·rcases hj with hj|hj
   ·have:=s.nb _ hj;omega
   ·omega
 ·rw[hnx]at e;rcases hi with hi|rfl
  ·have:=s.nb i hi;omega
  ·omega
 ·show e2.f i<e2.f j;rcases hi with hi|rfl
  ·rw[f2 i hi];rcases hj with hj|rfl
   ·rw[f2 j hj];exact s.mono i j hR hl hi hj
   ·rw[fn];have:=lt' i hi;omega
  ·rcases hj with hj|rfl
   ·have:=s.nb j hj;omega
   ·omega
 ·rcases hf with hf|rfl
  ·obtain⟨q1,lo,Hc,q2,q3,q4⟩:=s.mf m hm hf;refine⟨by rw[hnx];omega,lo,Hc,by show tb.Pf m lo Hc (e2.f m);rw[f2 m hf];exact q2,q3.step s fm,λi hR hl hi=>?_⟩;show e2.f i<lo;rcases hi with hi|rfl
   ·rw[f2 i hi];exact q4 i hR hl hi
   ·omega
  ·have:=s.lo;omega
 ·obtain⟨q1,lo,Hc,q2,q3⟩:=s.mw m hw;exact⟨by rw[hnx];omega,lo,Hc,q2,q3.step s fm⟩
def St.key(s:St tb g h K)(gr:Grow K K')(hc:K'.Cl){id m:Nat}(hm:m<tb.R)(ht:tb.t m=h.next)(h1:K.next<=id)(h2:id<K'.next)(hP:tb.Pf m K.next K' id) :
  ∃g',St tb g' (news h [none]) K'/\Frm g h K g' (news h [none]) K'/\g'.nf m/\g'.e.f m=id:=by
 have hnm:¬g.nf m:=λhf=>by have:=(s.mf m hm hf).1;omega
 let e2:Nm:=⟨λi=>if i=m then id else g.e.f i,g.e.w,g.e.s⟩
 let g':Sg:=⟨e2,λi=>g.nf i\/i=m,g.nw⟩
 have fn:e2.f m=id:=if_pos rfl;have f2:∀i,g.nf i->e2.f i=g.e.f i:=λi hi=>if_neg (by rintro rfl;exact hnm hi);have nR:∀i,tb.R<=i->i≠m:=λi hi=>by omega
 have nf':∀i,tb.R<=i->g'.nf i->g.nf i:=λi hR hi=>hi.resolve_right (nR i hR);have ex:Ex K.next g g':=⟨rfl,λi hi=>⟨.inl hi,f2 i hi⟩,λi hi=>⟨hi,rfl⟩,λi hi hn=>by
  rcases hi with hi|rfl
  ·exact absurd hi hn
  ·show K.next<=e2.f i;rw[fn];exact h1⟩
 have fm:Frm g h K g' (news h [none]) K':=⟨ex,gr.next,ybT _,λi hi _=>gr.same i hi,λj c hj=>.inl ⟨c,hj⟩⟩;have lt':∀i,g.nf i->g.e.f i<K.next:=s.lt;refine⟨g',⟨s.s,λi c hi=>⟨.inl (s.kn i c hi).1,(s.kn i c hi).2⟩,λi hi=>?_,s.nwb,ydi s.lo,λi j hi hj eq=>?_,λi hi=>?_,λd hd i c hi=>?_,λi hi hR hn=>?_,hc,λi hR hi hj=>?_,λi hR hi e=>?_,λi j hR hl hi hj=>?_,λn hn hf=>?_,λn hw=>?_⟩,fm,.inr rfl,fn⟩
 ·show i<h.next+1;rcases hi with hi|rfl
  ·have:=s.nb i hi;omega
  ·have:=s.lo;omega
 ·have eq:e2.f i=e2.f j:=eq;rcases hi with hi|rfl<;>rcases hj with hj|rfl
  ·rw[f2 i hi,f2 j hj]at eq;exact s.inj i j hi hj eq
  ·rw[f2 i hi,fn]at eq;have:=lt' i hi;omega
  ·rw[f2 j hj,fn]at eq;have:=lt' j hj;omega
  ·rfl
 ·show e2.f i<K'.next;rcases hi with hi|rfl
  ·rw[f2 i hi];exact yak (lt' i hi) gr.next
  ·rw[fn];exact h2
 ·have hd0:=hd.mono ex;rw[gr.same _ (by rw[hd0.2.1 i (s.kn i c hi).1];exact lt' i (s.kn i c hi).1)];exact s.em d hd0 i c hi
 ·show K'.get (e2.f i)=none;have hi:=nf' i hR hi;rw[f2 i hi,gr.same _ (lt' i hi)];exact s.dr i hi hR hn
 ·show e2.f (i+1)=e2.f i+1;have hi:=nf' i hR hi;have hj:=nf' (i+1) (by omega) hj;rw[f2 i hi,f2 _ hj];exact s.seq i hR hi hj
 ·have:=s.nb i (nf' i hR hi);have e:i+1=h.next+1:=e;omega
 ·show e2.f i<e2.f j;have hi:=nf' i hR hi;have hj:=nf' j (by omega) hj;rw[f2 i hi,f2 j hj];exact s.mono i j hR hl hi hj
 ·rcases hf with hf|rfl
  ·obtain⟨q1,lo,Hc,q2,q3,q4⟩:=s.mf n hn hf;refine⟨ybG q1,lo,Hc,by show tb.Pf n lo Hc (e2.f n);rw[f2 n hf];exact q2,q3.step s fm,λi hR hl hi=>?_⟩;show e2.f i<lo;have hi:=nf' i hR hi;rw[f2 i hi];exact q4 i hR hl hi
  ·refine⟨by rw[ht];exact ya1 _,K.next,K',by show tb.Pf n K.next K' (e2.f n);rw[fn];exact hP,⟨yaj _,λ_ _ _=>rfl,λi q1 q2 j c hj e=>?_⟩,λi hR hl hi=>?_⟩
   ·have hj':=(s.kn j c hj).1;have e:e2.f j=i:=e;rw[f2 j hj']at e;have:=lt' j hj';omega
   ·show e2.f i<K.next;have hi:=nf' i hR hi;rw[f2 i hi];exact lt' i hi
 ·obtain⟨q1,lo,Hc,q2,q3⟩:=s.mw n hw;exact⟨ybG q1,lo,Hc,q2,q3.step s fm⟩
def St.val(s:St tb g h K)(gr:Grow K K')(hc:K'.Cl){m:Nat}{v:V}(hm:m<tb.R)(ht:tb.t m=h.next)(hP:tb.Pw m K.next K' v) :
  ∃g',St tb g' (news h [none]) K'/\Frm g h K g' (news h [none]) K'/\g'.nw m/\g'.e.w m=v:=by
 have hnm:¬g.nw m:=λhf=>by have:=(s.mw m hf).1;omega
 let e2:Nm:=⟨g.e.f,λi=>if i=m then v else g.e.w i,g.e.s⟩
 let g':Sg:=⟨e2,g.nf,λi=>g.nw i\/i=m⟩
 have fn:e2.w m=v:=if_pos rfl;have w2:∀i,g.nw i->e2.w i=g.e.w i:=λi hi=>if_neg (by rintro rfl;exact hnm hi);have ex:Ex K.next g g':=⟨rfl,λi hi=>⟨hi,rfl⟩,λi hi=>⟨.inl hi,w2 i hi⟩,λi hi hn=>absurd hi hn⟩;have fm:Frm g h K g' (news h [none]) K':=⟨ex,gr.next,ybT _,λi hi _=>gr.same i hi,λj c hj=>.inl ⟨c,hj⟩⟩;have lt':∀i,g.nf i->g.e.f i<K.next:=s.lt;refine⟨g',⟨s.s,s.kn,λi hi=>ybG (s.nb i hi),λi hi=>?_,ydi s.lo,s.inj,λi hi=>yak (lt' i hi) gr.next,λd hd i c hi=>?_,λi hi hR hn=>?_,hc,s.seq,λi hR hi e=>?_,s.mono,λn hn hf=>?_,λn hw=>?_⟩,fm,.inr rfl,fn⟩
 ·rcases hi with hi|rfl
  ·exact s.nwb i hi
  ·exact hm
 ·have hd0:=hd.mono ex;rw[gr.same _ (by rw[hd0.2.1 i (s.kn i c hi).1];exact lt' i (s.kn i c hi).1)];exact s.em d hd0 i c hi
 ·show K'.get (g.e.f i)=none;rw[gr.same _ (lt' i hi)];exact s.dr i hi hR hn
 ·have:=s.nb i hi;have e:i+1=h.next+1:=e;omega
 ·obtain⟨q1,lo,Hc,q2,q3,q4⟩:=s.mf n hn hf;exact⟨ybG q1,lo,Hc,q2,q3.step s fm,q4⟩
 ·rcases hw with hw|rfl
  ·obtain⟨q1,lo,Hc,q2,q3⟩:=s.mw n hw;exact⟨ybG q1,lo,Hc,by show tb.Pw n lo Hc (e2.w n);rw[w2 n hw];exact q2,q3.step s fm⟩
  ·refine⟨by rw[ht];exact ya1 _,K.next,K',by show tb.Pw n K.next K' (e2.w n);rw[fn];exact hP,⟨yaj _,λ_ _ _=>rfl,λi q1 q2 j c hj e=>?_⟩⟩;have e:g.e.f j=i:=e;have:=lt' j (s.kn j c hj).1;omega
def wnamed{m:Int}{v':V} (r:Rl g sh (.lit (.int .i64 m)) v'):g.nw m.toNat:=by
 apply ycH;intro hn
 let d (x:V):Nm:=⟨g.e.f,λi=>if i=m.toNat then x else g.e.w i,g.e.s⟩
 have hd:∀x,Ag g (d x):=λx=>⟨rfl,λi hi=>rfl,λi hi=>if_neg (by rintro rfl;exact hn hi)⟩;have h1:=r (d .nils) (hd _);have h2:=r (d .nilp) (hd _);have e:∀x,sh (d x) (.lit (.int .i64 m))=okw x:=λx=>congrArg okw (if_pos rfl);rw[e]at h1 h2;rw[h1]at h2;cases h2
def fnamed{m o:Nat}{v':V} (r:Rl g sh (.ptr m o) v'):g.nf m/\v' = .ptr (g.e.f m) o:=
 ⟨named (tb:=⟨0,λ_=>0,λ_=>0,λ_ _ _ _=>True,λ_ _ _ _=>True⟩) (v:=.ptr m o) (λ_ _=>yaI _) r rfl,r g.e (Ag.self g)⟩
end Go.Ax.Y
/- Or1 -/
namespace Go.Ax.SU
open Go.Ax Go.Proofs
inductive Bd where
 | hm (salt key:List V)
 | ex (zaV info:List V) (n:Nat)
 | se (id kid:Nat) (base:List V) (c:Nat) (m p:List V)
inductive Kd where
 | key (id kid:Nat) (base:List V)
 | sl (l:List V)
structure Tabs where
 bs:List Bd
 ks:List (Nat×Kd)
def iv(s:Nat->Nat)(q:Nat->List Nat):List V->List Nat
 | []=>[]
 | .int .u8 n::l=>n.toNat::iv s q l
 | .lit (.int .u8 n)::l=>s n.toNat::iv s q l
 | .lit (.int .u64 n)::l=>q n.toNat++iv s q l
 | _::l=>iv s q l
def bok1:V->Bool
 | .int .u8 n=>decide (0<=n)&&decide (n<256)
 | .lit (.int .u8 _)=>true
 | _=>false
def bokd:V->Bool
 | .lit (.int .u64 _)=>true
 | v=>bok1 v
structure SQ (s:Nat->Nat) (q:Nat->List Nat):Prop where
 s8:∀n,s n<256
 q8:∀n,Ok8 (q n)
 ql:∀n,(q n).length<=1048576
def bok_d{v:V}(h:bok1 v=true):bokd v=true:=by
 unfold bokd;split
 ·rfl
 ·exact h
def iv_1{d:Y.Nm}{q:Nat->List Nat}:∀{cs:List V},cs.all bok1=true->Y.shL d cs=(iv d.s q cs).map by8/\(iv d.s q cs).length=cs.length
 | [],_=>⟨rfl,rfl⟩
 | x::cs,h=>by
  simp only[yba,yam]at h;obtain⟨h1,h2⟩:=iv_1 (d:=d) (q:=q) h.2;have h0:=h.1;unfold bok1 at h0;split at h0
  ·rename_i n;simp only[yam,decide_eq_true_eq]at h0;refine⟨?_,by simp only[iv,List.length_cons,h2]⟩;show V.int .u8 n::Y.shL d cs=V.int .u8 (n.toNat:Nat)::(iv d.s q cs).map by8;rw[h1,Int.toNat_of_nonneg h0.1]
  ·rename_i n;refine⟨?_,by simp only[iv,List.length_cons,h2]⟩;show V.int .u8 (d.s n.toNat:Nat)::Y.shL d cs=V.int .u8 (d.s n.toNat:Nat)::(iv d.s q cs).map by8;rw[h1]
  ·cases h0
def iv_8{s:Nat->Nat}{q:Nat->List Nat}(hs:SQ s q):∀{cs:List V},cs.all bokd=true->Ok8 (iv s q cs)/\(iv s q cs).length<=cs.length*1048576
 | [],_=>⟨Ok8.nil,yaI _⟩
 | x::cs,h=>by
  simp only[yba,yam]at h;obtain⟨h1,h2⟩:=iv_8 hs h.2;have h0:=h.1;unfold bokd at h0;split at h0
  ·rename_i n;refine⟨(hs.q8 _).app h1,?_⟩;show(q n.toNat++iv s q cs).length<=_;have:=hs.ql n.toNat;rw[yag,List.length_cons];omega
  ·unfold bok1 at h0;split at h0
   ·rename_i n _;simp only[yam,decide_eq_true_eq]at h0;refine⟨?_,?_⟩
    ·intro y hy;rcases yau.1 hy with rfl|hy
     ·omega
     ·exact h1 y hy
    ·show(n.toNat::iv s q cs).length<=_;rw[List.length_cons,List.length_cons];omega
   ·rename_i n _;refine⟨?_,?_⟩
    ·intro y hy;rcases yau.1 hy with rfl|hy
     ·exact hs.s8 _
     ·exact h1 y hy
    ·show(s n.toNat::iv s q cs).length<=_;rw[List.length_cons,List.length_cons];omega
   ·cases h0
def val(s:Nat->Nat)(q:Nat->List Nat):Bd->List Nat
 | .hm a b=>hmac kc (iv s q a) (iv s q b)
 | .ex a b n=>(hkdf kc (iv s q a) (iv s q b) ((n+31)/32)).1.take n
 | .se id kid base c m p=>match szs id with
  | some (n,t)=>zcr (drv id kid n t (iv s q base)) c (iv s q m) (iv s q p)
  | none=>[]
structure TabV (t:Tabs) (s:Nat->Nat) (q:Nat->List Nat):Prop where
 sq:SQ s q
 v:∀j d,t.bs[j]?=some d->∀i,i<(val s q d).length->i<1000->s (1000*j+i)=(val s q d).getD i 0
def tbOf(t:Tabs)(s:Nat->Nat)(q:Nat->List Nat):Y.Tb where
 R:=t.ks.length
 s:=s
 t:=λm=>match t.ks[m]? with|some p=>p.1|none=>0
 Pf:=λm lo H id=>match t.ks[m]? with
  | some (_,.key i kid bl)=>∃n tg,szs i=some (n,tg)/\KeyB lo H id (drv i kid n tg (iv s q bl))
  | _=>False
 Pw:=λm lo H v=>match t.ks[m]? with
  | some (_,.sl l)=>By lo H v (iv s q l)/\l.all bokd=true
  | _=>False
def syms(j o n:Nat):List V:=(List.range n).map λi=>.lit (.int .u8 ((1000*j+o+i:Nat):Int))
def zmZ{t:Tabs}{s:Nat->Nat}{q:Nat->List Nat}(h:TabV t s q){d:Y.Nm}(hd:d.s=s){j:Nat}{b:Bd} (hb:t.bs[j]?=some b) {o n:Nat} (hl:(val s q b).length=o+n) (h1:o+n<=1000):Y.shL d (syms j o n)=((val s q b).drop o).map by8:=by
 subst hd;rw[Y.shL_map];unfold syms;rw[ycY];apply ycO;intro i;by_cases hi:i<n
 ·rw[yaQ,ybU hi,yaQ,ya4,yaf (by omega)];have:=h.v j b hb (o+i) (by omega) (by omega);rw[yan,yaf (by omega)]at this;simp only[yaG]at this;show some (V.int .u8 (d.s (((1000*j+o+i:Nat):Int).toNat):Nat))=some (by8 _);rw[yao,ycd,this];rfl
 ·rw[ybB (by simp;omega),ybB (by simp;omega)]
def veq:V->V->Bool
 | .int .u8 a,.int .u8 b=>decide (a=b)
 | .lit (.int .u8 a),.lit (.int .u8 b)=>decide (a=b)
 | .lit (.int .u64 a),.lit (.int .u64 b)=>decide (a=b)
 | _,_=>false
def leq:List V->List V->Bool
 | [],[]=>true
 | x::xs,y::ys=>veq x y&&leq xs ys
 | _,_=>false
def veq_ok{a b:V}(h:veq a b=true):a=b:=by
 unfold veq at h;split at h<;>first|(cases h;done)|(have:=of_decide_eq_true h;subst this;rfl)
def zgI:∀{a b:List V},leq a b=true->a=b
 | [],[],_=>rfl
 | [],_ :: _,h=>by cases h
 | _ :: _,[],h=>by cases h
 | x::xs,y::ys,h=>by
  simp only[leq,yam]at h;rw[veq_ok h.1,zgI h.2]
def deq:Bd->Bd->Bool
 | .hm a b,.hm a' b'=>leq a a'&&leq b b'
 | .ex a b n,.ex a' b' n'=>Nat.beq n n'&&(leq a a'&&leq b b')
 | .se i k a c m p,.se i' k' a' c' m' p'=>Nat.beq i i'&&(Nat.beq k k'&&(Nat.beq c c'&&(leq a a'&&(leq m m'&&leq p p'))))
 | _,_=>false
def deq_ok{a b:Bd}(h:deq a b=true):a=b:=by
 unfold deq at h;split at h
 ·simp only[yam]at h;rw[zgI h.1,zgI h.2]
 ·simp only[yam]at h;rw[yaX h.1,zgI h.2.1,zgI h.2.2]
 ·simp only[yam]at h;rw[yaX h.1,yaX h.2.1,yaX h.2.2.1,zgI h.2.2.2.1,zgI h.2.2.2.2.1,zgI h.2.2.2.2.2]
 ·cases h
def keqd:Kd->Kd->Bool
 | .key i k a,.key i' k' a'=>Nat.beq i i'&&(Nat.beq k k'&&leq a a')
 | .sl a,.sl a'=>leq a a'
 | _,_=>false
def keqd_ok{a b:Kd}(h:keqd a b=true):a=b:=by
 unfold keqd at h;split at h
 ·simp only[yam]at h;rw[yaX h.1,yaX h.2.1,zgI h.2.2]
 ·rw[zgI h]
 ·cases h
structure Fnd where
 b:Bd->Option Nat
 k:Nat->Kd->Option Nat
 kd:Nat->Option Kd
 s:(Nat->Bd->Bool)->Option (Nat×Bd)
def zvK(p:Nat->Bd->Bool):Nat->List Bd->Option (Nat×Bd)
 | _,[]=>none
 | j,d::l=>match p j d with|true=>some (j,d)|false=>zvK p (j+1) l
def zyq(n:Nat)(x:Kd):Nat->List (Nat×Kd)->Option Nat
 | _,[]=>none
 | j,(m,y)::l=>match Nat.beq n m&&keqd x y with|true=>some j|false=>zyq n x (j+1) l
def Tabs.fnd(t:Tabs):Fnd where
 b:=λx=>match zvK (λ_ y=>deq x y) 0 t.bs with|some r=>some r.1|none=>none
 k:=λn x=>zyq n x 0 t.ks
 kd:=λm=>match t.ks[m]? with|some p=>some p.2|none=>none
 s:=λp=>zvK p 0 t.bs
def zqu{p:Nat->Bd->Bool}:∀{l:List Bd} {j0:Nat} {r:Nat×Bd},zvK p j0 l=some r->∃i,r.1=j0+i/\l[i]?=some r.2/\p r.1 r.2=true
 | [],j0,r,h=>by cases h
 | d::l,j0,r,h=>by
  unfold zvK at h;split at h
  ·rename_i hp;injection h with h
   subst h;exact⟨0,rfl,rfl,hp⟩
  ·obtain⟨i,h1,h2,h3⟩:=zqu h;exact⟨i+1,by omega,h2,h3⟩
def zul{n:Nat}{x:Kd}:∀{l:List (Nat×Kd)} {j0 r:Nat},zyq n x j0 l=some r->∃i,r=j0+i/\l[i]?=some (n,x)
 | [],j0,r,h=>by cases h
 | (m,y)::l,j0,r,h=>by
  unfold zyq at h;split at h
  ·rename_i hp;injection h with h
   subst h;rw[yam]at hp;have h1:=yaX hp.1;have h2:=keqd_ok hp.2;subst h1 h2;exact⟨0,rfl,rfl⟩
  ·obtain⟨i,h1,h2⟩:=zul h;exact⟨i+1,by omega,h2⟩
def fnd_b{t:Tabs}{x:Bd}{j:Nat}(h:t.fnd.b x=some j):t.bs[j]?=some x:=by
 unfold Tabs.fnd at h;dsimp only at h;split at h
 ·rename_i r hr;injection h with h
  obtain⟨i,h1,h2,h3⟩:=zqu hr;have:=deq_ok h3;subst this;rw[<-h,h1,ybe];exact h2
 ·cases h
def fnd_s{t:Tabs}{p:Nat->Bd->Bool}{r:Nat×Bd}(h:t.fnd.s p=some r):t.bs[r.1]?=some r.2/\p r.1 r.2=true:=by
 obtain⟨i,h1,h2,h3⟩:=zqu (show zvK p 0 t.bs=some r from h);refine⟨?_,h3⟩;rw[h1,ybe];exact h2
def fnd_k{t:Tabs}{n:Nat}{x:Kd}{m:Nat}(h:t.fnd.k n x=some m):t.ks[m]?=some (n,x):=by
 obtain⟨i,h1,h2⟩:=zul (show zyq n x 0 t.ks=some m from h);rw[h1,ybe];exact h2
def fnd_kd{t:Tabs}{m:Nat}{x:Kd}(h:t.fnd.kd m=some x):∃n,t.ks[m]?=some (n,x):=by
 unfold Tabs.fnd at h;dsimp only at h;split at h
 ·rename_i p hp;injection h with h
  exact⟨p.1,by rw[hp,<-h]⟩
 ·cases h
def capb:Cap->Nat->Bool
 | .fix c,n=>Nat.ble n c
 | .opn e,_=>Nat.beq e 1
def rd(F:Fnd)(h:Heap):V->Option (List V)
 | .nils=>some []
 | .sl id off len cap=>match h.get id with
  | some b=>match Nat.ble (off+len) b.cells.length&&(capb cap len&&((b.cells.drop off).take len).all bok1) with
   | true=>some ((b.cells.drop off).take len)
   | false=>none
  | none=>none
 | .rs cells len=>match Nat.ble len cells.length&&(cells.take len).all bok1 with
  | true=>some (cells.take len)
  | false=>none
 | .lit (.int .i64 m)=>match F.kd m.toNat with
  | some (.sl l)=>some l
  | _=>none
 | _=>none
def all_d{l:List V}(h:l.all bok1=true):l.all bokd=true:=yaL.2 λx hx=>bok_d (yaL.1 h x hx)
def zxP{lo n:Nat}{H:Heap}{v:V}{cells:List V}(h:Lc 1 lo H v cells n):v.one=true:=by
 rcases h.cases with⟨rfl,_,_⟩|⟨id,off,cap,b,rfl,_⟩|⟨cs,rfl,_⟩<;>rfl
def znd{t:Tabs}{s:Nat->Nat}{q:Nat->List Nat}(ht:TabV t s q){g:Y.Sg}{h K:Heap} (st:Y.St (tbOf t s q) g h K) {v v':V} {l:List V} (e:rd t.fnd h v=some l) (r:Y.Rl g Y.sh v v'):By 0 K v' (iv s q l)/\Ok8 (iv s q l)/\l.all bokd=true:=by
 have es:g.e.s=s:=st.s;have rg:=r g.e (Y.Ag.self g);unfold rd at e;split at e
 ·injection e with e
  subst e rg;exact⟨Lc.nil,Ok8.nil,rfl⟩
 ·rename_i id off len cap;split at e
  ·rename_i b hb;split at e
   ·rename_i hc;injection e with e
    subst e rg;simp only[yam]at hc;obtain⟨h1,h2,h3⟩:=hc;have h1:=yaz h1;obtain⟨i1,i2⟩:=iv_1 (d:=g.e) (q:=q) h3;rw[es]at i1 i2;have hl:((b.cells.drop off).take len).length=len:=by rw[yaq,yat];omega
    rw[hl]at i2;have hg:=st.em g.e (Y.Ag.self g) id b hb;refine⟨⟨?_,λi hi=>?_,?_⟩,(iv_8 ht.sq (all_d h3)).1,all_d h3⟩
    ·show rcells 1 K (.sl (g.e.f id) off len cap) = _;simp only[rcells,hg,Option.bind_some];rw[Y.shB_c,Y.shL_len,if_pos (by omega),Y.shL_drop,Y.shL_take,ya9,i1,i2]
    ·have hi:g.e.f id=i:=by injection hi
     subst hi;exact⟨yaI _,st.lt id (st.kn id b hb).1⟩
    ·show V.capOk 1 (.sl (g.e.f id) off len cap);cases cap with
     | fix c=>exact yaz h2
     | opn e=>exact yaX h2
   ·cases e
  ·cases e
 ·rename_i cells len;split at e
  ·rename_i hc;injection e with e
   subst e rg;simp only[yam]at hc;obtain⟨h1,h3⟩:=hc;have h1:=yaz h1;obtain⟨i1,i2⟩:=iv_1 (d:=g.e) (q:=q) h3;rw[es]at i1 i2;have hl:(cells.take len).length=len:=by rw[yaq];omega
   rw[hl]at i2;refine⟨⟨?_,λi hi=>(by cases hi),trivial⟩,(iv_8 ht.sq (all_d h3)).1,all_d h3⟩;show rcells 1 K (.rs (Y.shL g.e cells) len) = _;simp only[rcells];rw[Y.shL_len,if_pos (by omega),Y.shL_take,ya9,i1,i2]
  ·cases e
 ·rename_i m;split at e
  ·rename_i l' hk;injection e with e
   subst e;obtain⟨n,hn⟩:=fnd_kd hk;have hw:=Y.wnamed r;obtain⟨-,lo,Hc,hP,sf⟩:=st.mw _ hw;have hP:(match t.ks[m.toNat]? with|some (_,.sl l)=>By lo Hc (g.e.w m.toNat) (iv s q l)/\l.all bokd=true | _=>False):=hP;rw[hn]at hP;have ev:v'=g.e.w m.toNat:=by
    rw[rg];show Y.okw (g.e.w m.toNat) = _;unfold Y.okw;rw[if_pos (zxP hP.1)]
   rw[ev];exact⟨(hP.1.keep ⟨sf.le,λi h1 h2=>sf.sm i h1 h2⟩).low (yaI _),(iv_8 ht.sq hP.2).1,hP.2⟩
  ·cases e
 ·cases e
def okd(l:List V):Bool:=Nat.ble l.length 1000
def selO(f:FuncId)(args:List V):Bool:=
 Nat.beq f zbQ||(Nat.beq f zbv||(Nat.beq f zbe||(Nat.beq f za9||(Nat.beq f zba ||
  (Nat.beq f zbk&&(match args with|[.lit _]=>true | _=>false))))))
def orX(F:Fnd)(h:Heap)(a b:V):Option (V×List (Option Blk)):=
 match rd F h a,rd F h b with
 | some sl,some kl=>match okd sl&&okd kl with
  | true=>match F.b (.hm sl kl) with
   | some j=>some (.agg (syms j 0 32),[none])
   | none=>none
  | false=>none
 | _,_=>none
def orE(F:Fnd)(h:Heap)(a b:V)(n:Nat):Option (V×List (Option Blk)):=
 match rd F h a,rd F h b with
 | some sl,some il=>match okd sl&&(okd il&&(Nat.blt 0 n&&Nat.ble n 900)) with
  | true=>match F.b (.ex sl il n) with
   | some j=>some (.tup [.sl (h.next+1) 0 n (.opn 1),.int .i64 0],[none,some ⟨zad,syms j 0 n,some 1⟩,none])
   | none=>none
  | false=>none
 | _,_=>none
def orD(F:Fnd)(h:Heap)(id kid:Nat)(b:V):Option (V×List (Option Blk)):=
 match rd F h b,szs id with
 | some bl,some _=>match okd bl&&Nat.blt kid 18446744073709551616 with
  | true=>match F.k h.next (.key id kid bl) with
   | some m=>some (.tup [.ptr m 0,.int .i64 0],[none])
   | none=>none
  | false=>none
 | _,_=>none
def seC(j id kid t c:Nat)(p:List V):List V:=(hdr kid c).map by8++syms j (hdr kid c).length (p.length+t)
def orS(F:Fnd)(h:Heap)(m c:Nat)(a b:V):Option (V×List (Option Blk)):=
 match F.kd m,rd F h a,rd F h b with
 | some (.key id kid bl),some ml,some pl=>match szs id,okd ml&&(pl.all bok1&&(Nat.ble pl.length 900&&Nat.blt c 18446744073709551616)) with
  | some (_,t),true=>match F.b (.se id kid bl c ml pl) with
   | some j=>some (.tup [.sl (h.next+1) 0 ((hdr kid c).length+pl.length+t) (.fix ((hdr kid c).length+pl.length+t)),.int .i64 0],[none,some ⟨zad,seC j id kid t c pl,some 1⟩,none])
   | none=>none
  | _,_=>none
 | _,_,_=>none
def opP(id kid t:Nat)(bl ml bb:List V)(j:Nat):Bd->Bool
 | .se id' kid' bl' c ml' pl=>Nat.beq id' id&&(Nat.beq kid' kid&&(leq bl' bl&&(leq ml' ml&&(leq (seC j id kid t c pl) bb&&(pl.all bok1&&(Nat.ble pl.length 900&&Nat.blt c 18446744073709551616))))))
 | _=>false
def orO(F:Fnd)(h:Heap)(m:Nat)(a b:V):Option (V×List (Option Blk)):=
 match F.kd m,rd F h a,rd F h b with
 | some (.key id kid bl),some bb,some ml=>match szs id,okd ml&&(okd bb&&bb.all bok1) with
  | some (_,t),true=>match F.s (opP id kid t bl ml bb) with
   | some (_,.se _ _ _ c _ pl)=>some (.tup [.sl (h.next+1) 0 pl.length (.fix pl.length),.int .u64 (c:Nat),.int .i64 0],[none,some ⟨zad,pl,none⟩,none])
   | _=>none
  | _,_=>none
 | _,_,_=>none
def orC(F:Fnd)(h:Heap)(m:Nat):Option (V×List (Option Blk)):=
 match F.kd m with
 | some (.sl l)=>match okd l with
  | true=>match F.k h.next (.sl l) with
   | some m'=>some (.lit (.int .i64 (m':Nat)),[none])
   | none=>none
  | false=>none
 | _=>none
def orc(F:Fnd):Y.Orc:=λf args h=>
 match Nat.beq f zbQ,args with
 | true,[a,b]=>orX F h a b
 | _,_=>match Nat.beq f zbv,args with
  | true,[a,b,.int .i64 (.ofNat n)]=>orE F h a b n
  | _,_=>match Nat.beq f zbe,args with
   | true,[.int .i64 (.ofNat id),.int .u64 (.ofNat kid),b]=>orD F h id kid b
   | _,_=>match Nat.beq f za9,args with
    | true,[.ptr m 0,.int .u64 (.ofNat c),a,b]=>orS F h m c a b
    | _,_=>match Nat.beq f zba,args with
     | true,[.ptr m 0,a,b]=>orO F h m a b
     | _,_=>match Nat.beq f zbk,args with
      | true,[.lit (.int .i64 m)]=>orC F h m.toNat
      | _,_=>none
section
variable {t:Tabs} {s:Nat->Nat} {q:Nat->List Nat} {g:Y.Sg} {h K:Heap}
def Ans(t:Tabs)(s:Nat->Nat)(q:Nat->List Nat)(g:Y.Sg)(h K:Heap)(f:FuncId)(args':List V) (r:V×List (Option Blk)):Prop:=
 ∃g' b K',sem T f args' K=some (b,K')/\Y.St (tbOf t s q) g' (Y.news h r.2) K'/\Y.Frm g h K g' (Y.news h r.2) K'/\Y.Rl g' Y.sh r.1 b
def zg9{l:List V}(ht:TabV t s q)(h:okd l=true)(hd:l.all bokd=true):(iv s q l).length<=1048576000:=by
 have:=(iv_8 ht.sq hd).2;have:=yaz h;omega
def ans_x(ht:TabV t s q) (st:Y.St (tbOf t s q) g h K) {a b a' b':V} {r:V×List (Option Blk)} (e:orX t.fnd h a b=some r) (ra:Y.Rl g Y.sh a a') (rb:Y.Rl g Y.sh b b'):Ans t s q g h K zbQ [a',b'] r:=by
 unfold orX at e;split at e
 ·rename_i sl kl h1 h2;split at e
  ·rename_i hk;rw[yam]at hk;split at e
   ·rename_i j hj;injection e with e
    subst e;obtain⟨b1,o1,d1⟩:=znd ht st h1 ra;obtain⟨b2,o2,d2⟩:=znd ht st h2 rb;obtain⟨r,K',e1,⟨rfl,gr⟩,hc⟩:=zkq st.cl (zlP b1 o1 (by have:=zg9 ht hk.1 d1;omega) b2 o2 (by have:=zg9 ht hk.2 d2;omega));refine⟨g,_,K',e1,st.dum gr hc,Y.fr_dum gr,λd hd=>?_⟩;show _=V.agg (Y.shL d (syms j 0 32));have hl:(val s q (.hm sl kl)).length=0+32:=zem _ _ _;rw[zmZ ht (hd.1.trans st.s) (fnd_b hj) hl (by decide),yaC];rfl
   ·cases e
  ·cases e
 ·cases e
def ans_e(ht:TabV t s q) (st:Y.St (tbOf t s q) g h K) {a b a' b':V} {n:Nat} {r:V×List (Option Blk)} (e:orE t.fnd h a b n=some r) (ra:Y.Rl g Y.sh a a') (rb:Y.Rl g Y.sh b b'):Ans t s q g h K zbv [a',b',.int .i64 (n:Nat)] r:=by
 unfold orE at e;split at e
 ·rename_i sl il h1 h2;split at e
  ·rename_i hk;simp only[yam]at hk;obtain⟨k1,k2,k3,k4⟩:=hk;have k3:0<n:=yaz k3;have k4:=yaz k4;split at e
   ·rename_i j hj;injection e with e
    subst e;obtain⟨b1,o1,d1⟩:=znd ht st h1 ra;obtain⟨b2,o2,d2⟩:=znd ht st h2 rb;obtain⟨r,K',e1,⟨v,rfl,hv,gr,hx⟩,hc⟩:=zkq st.cl (zuK b1 o1 (by have:=zg9 ht k1 d1;omega) b2 o2 (by have:=zg9 ht k2 d2;omega) (n:=n) (by omega));obtain⟨id,rfl,hg,l1,l2⟩:=hx k3;have hl:(val s q (.ex sl il n)).length=0+n:=by
     show((hkdf kc (iv s q sl) (iv s q il) ((n+31)/32)).1.take n).length = _;rw[yaq,zf8];omega
    obtain⟨g',s1,f1,n1,e2⟩:=st.blk gr hc l1 l2 (b:=⟨zad,syms j 0 n,some 1⟩) λd hd=>by
     unfold Y.shB;rw[zmZ ht (hd.1.trans st.s) (fnd_b hj) hl (by omega),yaC];exact hg
    refine⟨g',_,K',e1,s1,f1,λd hd=>?_⟩;show _=V.tup [.sl (d.f (h.next+1)) 0 n (.opn 1),.int .i64 0];rw[hd.2.1 _ n1,e2]
   ·cases e
  ·cases e
 ·cases e
def ans_d(ht:TabV t s q) (st:Y.St (tbOf t s q) g h K) {b b':V} {id kid:Nat} {r:V×List (Option Blk)} (e:orD t.fnd h id kid b=some r) (rb:Y.Rl g Y.sh b b'):Ans t s q g h K zbe [.int .i64 (id:Nat),.int .u64 (kid:Nat),b'] r:=by
 unfold orD at e;split at e
 ·rename_i bl p h1 h2;split at e
  ·rename_i hk;rw[yam]at hk;have k2:kid<18446744073709551616:=yaz hk.2;split at e
   ·rename_i m hm;injection e with e
    subst e;obtain⟨b1,o1,d1⟩:=znd ht st h1 rb;obtain⟨r,K',e1,⟨gr,hr⟩,hc⟩:=zkq st.cl (zuL (id:=(id:Nat)) (by omega) k2 b1 o1 (by have:=zg9 ht hk.1 d1;omega));rw[yao]at hr;rcases hr with⟨hr|hr,-⟩|⟨n,tg,k,-,hs,rfl,hb⟩
    ·omega
    ·rw[h2]at hr;cases hr
    have hm':=fnd_k hm;have hmR:m<(tbOf t s q).R:=(yaB.1 hm').1;have ht':(tbOf t s q).t m=h.next:=by
     show(match t.ks[m]? with|some p=>p.1|none=>0) = _;rw[hm']
    obtain⟨g',s1,f1,n1,e2⟩:=st.key gr hc hmR ht' hb.lo hb.low (by
     show(match t.ks[m]? with|some (_,.key i kid bl)=>∃n tg,szs i=some (n,tg)/\KeyB K.next K' k (drv i kid n tg (iv s q bl)) | _=>False);rw[hm'];exact⟨n,tg,hs,hb⟩)
    refine⟨g',_,K',e1,s1,f1,λd hd=>?_⟩;show _=V.tup [.ptr (d.f m) 0,.int .i64 0];rw[hd.2.1 _ n1,e2]
   ·cases e
  ·cases e
 ·cases e
def key_of (st:Y.St (tbOf t s q) g h K) {m id kid:Nat} {bl:List V} (hm:t.fnd.kd m=some (.key id kid bl)) {v':V} (r:Y.Rl g Y.sh (.ptr m 0) v'):∃k n tg,v' = .ptr k 0/\szs id=some (n,tg)/\KeyM K k (drv id kid n tg (iv s q bl)):=by
 obtain⟨n0,hn⟩:=fnd_kd hm;obtain⟨hf,rfl⟩:=Y.fnamed r;have hmR:m<(tbOf t s q).R:=(yaB.1 hn).1;obtain⟨-,lo,Hc,hP,sf,-⟩:=st.mf m hmR hf;have hP:(match t.ks[m]? with|some (_,.key i kid bl)=>∃n tg,szs i=some (n,tg)/\KeyB lo Hc (g.e.f m) (drv i kid n tg (iv s q bl)) | _=>False):=hP;rw[hn]at hP;obtain⟨n,tg,h1,h2⟩:=hP;exact⟨_,n,tg,rfl,h1,(h2.keep ⟨sf.le,λi h1 h2=>sf.sm i h1 h2⟩).m⟩
def zs2{l:List V}(h:l.all bok1=true):(iv s q l).length=l.length:=(iv_1 (d:=⟨λ_=>0,λ_=>.any,s⟩) (q:=q) h).2
def zwO(ht:TabV t s q){d:Y.Nm}(hd:d.s=s){j id kid n tg c:Nat}{bl ml pl:List V} (hb:t.bs[j]?=some (.se id kid bl c ml pl)) (hs:szs id=some (n,tg)) (hp:pl.all bok1=true) (hl:pl.length<=900):Y.shL d (seC j id kid tg c pl)=(zcr (drv id kid n tg (iv s q bl)) c (iv s q ml) (iv s q pl)).map by8/\(zcr (drv id kid n tg (iv s q bl)) c (iv s q ml) (iv s q pl)).length=(hdr kid c).length+pl.length+tg:=by
 have htg:tg<=32:=yay (zwq hs).2.1 (by decide);have hv:val s q (.se id kid bl c ml pl)=zcr (drv id kid n tg (iv s q bl)) c (iv s q ml) (iv s q pl):=by
  show(match szs id with|some (n,t)=>zcr (drv id kid n t (iv s q bl)) c (iv s q ml) (iv s q pl)|none=>[]) = _;rw[hs]
 have hlen:=zi2 (k:=drv id kid n tg (iv s q bl)) htg c (iv s q ml) (iv s q pl);rw[zs2 hp]at hlen;have hlen:(zcr (drv id kid n tg (iv s q bl)) c (iv s q ml) (iv s q pl)).length=(hdr kid c).length+pl.length+tg:=hlen;have hh:=znF kid c;refine⟨?_,hlen⟩;unfold seC;rw[Y.shL_app,zmZ ht hd hb (by rw[hv,hlen];omega) (by omega),hv];have e1:Y.shL d ((hdr kid c).map by8)=(hdr kid c).map by8:=by
  rw[Y.shL_map,ycY];rfl
 have e2:(zcr (drv id kid n tg (iv s q bl)) c (iv s q ml) (iv s q pl)).take (hdr kid c).length=hdr kid c:=by
  unfold zcr;rw[yaO];exact yb0 rfl
 rw[e1]
 conv=>rhs;rw[<-yb1 (hdr kid c).length (zcr (drv id kid n tg (iv s q bl)) c (iv s q ml) (iv s q pl)),e2]
 rw[yaE]
def ans_s(ht:TabV t s q) (st:Y.St (tbOf t s q) g h K) {a b k' a' b':V} {m c:Nat} {r:V×List (Option Blk)} (e:orS t.fnd h m c a b=some r) (rk:Y.Rl g Y.sh (.ptr m 0) k') (ra:Y.Rl g Y.sh a a') (rb:Y.Rl g Y.sh b b'):Ans t s q g h K za9 [k',.int .u64 (c:Nat),a',b'] r:=by
 unfold orS at e;split at e
 ·rename_i id kid bl ml pl hkd h1 h2;split at e
  ·rename_i nk tg hsz hk;simp only[yam]at hk;obtain⟨k1,k2,k3,k4⟩:=hk;have k3:=yaz k3;have k4:c<18446744073709551616:=yaz k4;split at e
   ·rename_i j hj;injection e with e
    subst e;obtain⟨k,n,tg',rfl,hs,hK⟩:=key_of st hkd rk;rw[hsz]at hs;simp only[yaa,yae]at hs;obtain⟨rfl,rfl⟩:=hs;obtain⟨b1,o1,d1⟩:=znd ht st h1 ra;obtain⟨b2,o2,d2⟩:=znd ht st h2 rb;have pl1:=zs2 (s:=s) (q:=q) k2;obtain⟨r,K',e1,⟨gr,hr⟩,hc⟩:=zkq st.cl (Seal_x hK k4 b1 o1 b2 o2 (by have:=zg9 ht k1 d1;omega) (by omega));rw[if_neg (by omega)]at hr;obtain⟨v,rfl,id',rfl,hg,l1,l2⟩:=hr;have hl:=(zwO ht (d:=g.e) st.s (fnd_b hj) hsz k2 k3).2;obtain⟨g',s1,f1,n1,e2⟩:=st.blk gr hc l1 l2 (b:=⟨zad,seC j id kid tg c pl,some 1⟩) λd hd=>by
     unfold Y.shB;rw[(zwO ht (hd.1.trans st.s) (fnd_b hj) hsz k2 k3).1];exact hg
    refine⟨g',_,K',e1,s1,f1,λd hd=>?_⟩;show _=V.tup [.sl (d.f (h.next+1)) 0 _ (.fix _),.int .i64 0];rw[hd.2.1 _ n1,e2,hl]
   ·cases e
  ·cases e
 ·cases e
def ans_o(ht:TabV t s q) (st:Y.St (tbOf t s q) g h K) {a b k' a' b':V} {m:Nat} {r:V×List (Option Blk)} (e:orO t.fnd h m a b=some r) (rk:Y.Rl g Y.sh (.ptr m 0) k') (ra:Y.Rl g Y.sh a a') (rb:Y.Rl g Y.sh b b'):Ans t s q g h K zba [k',a',b'] r:=by
 unfold orO at e;split at e
 ·rename_i id kid bl bb ml hkd h1 h2;split at e
  ·rename_i nk tg hsz hk;simp only[yam]at hk;obtain⟨k1,k2,k3⟩:=hk;split at e
   ·rename_i j id' kid' bl' c ml' pl hj;injection e with e
    subst e;obtain⟨h3,h4⟩:=fnd_s hj;simp only[opP,yam]at h4;obtain⟨p1,p2,p3,p4,p5,p6,p7,p8⟩:=h4;have p1:=yaX p1;have p2:=yaX p2;have p3:=zgI p3;have p4:=zgI p4;have p5:=zgI p5;have p7:=yaz p7;have p8:c<18446744073709551616:=yaz p8;subst p1 p2 p3 p4;obtain⟨k,n,tg',rfl,hs,hK⟩:=key_of st hkd rk;rw[hsz]at hs;simp only[yaa,yae]at hs;obtain⟨rfl,rfl⟩:=hs;obtain⟨b1,o1,d1⟩:=znd ht st h1 ra;obtain⟨b2,o2,d2⟩:=znd ht st h2 rb;have hsc:=zwO ht (d:=g.e) st.s h3 hsz p6 p7;have eb:iv s q bb=zcr (drv id' kid' nk tg (iv s q bl')) c (iv s q ml') (iv s q pl):=by
     have h5:=(iv_1 (d:=g.e) (q:=q) k3).1;rw[st.s]at h5;rw[p5,h5]at hsc;exact(List.map_inj_right (λx y h=>by
      have:V.int .u8 (x:Nat)=V.int .u8 (y:Nat):=h;injection this with _ h
      omega)).1 hsc.1
    have pl1:=zs2 (s:=s) (q:=q) p6;obtain⟨r,K',e1,⟨gr,hr⟩,hc⟩:=zkq st.cl (Open_x hK b1 o1 b2 o2 (by have:=zg9 ht k1 d2;omega) (by have:=zg9 ht k2 d1;omega));rw[eb,zrm (yay (zwq hsz).2.1 (by decide)) hK.good.kid p8 (by omega)]at hr;obtain⟨v,rfl,i,rfl,hg,l1,l2⟩:=hr;obtain⟨g',s1,f1,n1,e2⟩:=st.blk gr hc l1 l2 (b:=⟨zad,pl,none⟩) λd hd=>by
     unfold Y.shB;have h6:=(iv_1 (d:=d) (q:=q) p6).1;rw[show d.s=s from hd.1.trans st.s]at h6;rw[h6];exact hg
    refine⟨g',_,K',e1,s1,f1,λd hd=>?_⟩;show _=V.tup [.sl (d.f (h.next+1)) 0 _ (.fix _),.int .u64 (c:Nat),.int .i64 0];rw[hd.2.1 _ n1,e2,pl1]
   ·cases e
  ·cases e
 ·cases e
def ans_c(ht:TabV t s q) (st:Y.St (tbOf t s q) g h K) {a':V} {m:Int} {r:V×List (Option Blk)} (e:orC t.fnd h m.toNat=some r) (ra:Y.Rl g Y.sh (.lit (.int .i64 m)) a'):Ans t s q g h K zbk [a'] r:=by
 unfold orC at e;split at e
 ·rename_i l hkd;split at e
  ·rename_i hk;split at e
   ·rename_i m' hm;injection e with e
    subst e;have hrd:rd t.fnd h (.lit (.int .i64 m))=some l:=by
     unfold rd;dsimp only;rw[hkd]
    obtain⟨b1,o1,d1⟩:=znd ht st hrd ra;obtain⟨r,K',e1,⟨hv,gr⟩,hc⟩:=zkq st.cl (zut b1 (by have:=zg9 ht hk d1;omega));have hm':=fnd_k hm;have hmR:m'<(tbOf t s q).R:=(yaB.1 hm').1;have ht':(tbOf t s q).t m'=h.next:=by
     show(match t.ks[m']? with|some p=>p.1|none=>0) = _;rw[hm']
    obtain⟨g',s1,f1,n1,e2⟩:=st.val gr hc (v:=r) hmR ht' (by
     show(match t.ks[m']? with|some (_,.sl l)=>By K.next K' r (iv s q l)/\l.all bokd=true | _=>False);rw[hm'];exact⟨hv,d1⟩)
    refine⟨g',_,K',e1,s1,f1,λd hd=>?_⟩;show _=Y.okw (d.w ((m':Nat):Int).toNat);rw[yao,hd.2.2 _ n1,e2];unfold Y.okw;rw[if_pos (zxP hv)]
   ·cases e
  ·cases e
 ·cases e
def zdh{a:V}{l args':List V} (r:Y.Rl g Y.shL (a::l) args'):∃a' l',args'=a'::l'/\Y.Rl g Y.sh a a'/\Y.Rl g Y.shL l l':=by
 refine⟨Y.sh g.e a,Y.shL g.e l,r g.e (Y.Ag.self g),λd hd=>?_,λd hd=>?_⟩
 ·have:=(r g.e (Y.Ag.self g)).symm.trans (r d hd);injection this
 ·have:=(r g.e (Y.Ag.self g)).symm.trans (r d hd);injection this
def zo7{args':List V} (r:Y.Rl g Y.shL [] args'):args'=[]:=r g.e (Y.Ag.self g)
def ztK{k:IntKind}{n:Int}{v':V} (r:Y.Rl g Y.sh (.int k n) v'):v' = .int k n:=r g.e (Y.Ag.self g)
def orc_ok(ht:TabV t s q):Y.OrS (tbOf t s q) T selO (orc t.fnd):=by
 intro f args args' g h K v nb hsel e st r;clear hsel;unfold orc at e;split at e
 ·rename_i a b hf;have hf:=yaX hf;subst hf;obtain⟨a',l1,rfl,ra,r⟩:=zdh r;obtain⟨b',l2,rfl,rb,r⟩:=zdh r;rw[zo7 r];exact ans_x ht st e ra rb
 rename_i hx;clear hx;split at e
 ·rename_i a b n hf;have hf:=yaX hf;subst hf;obtain⟨a',l1,rfl,ra,r⟩:=zdh r;obtain⟨b',l2,rfl,rb,r⟩:=zdh r;obtain⟨c',l3,rfl,rc,r⟩:=zdh r;rw[zo7 r,ztK rc];exact ans_e ht st e ra rb
 rename_i hx;clear hx;split at e
 ·rename_i id kid b hf;have hf:=yaX hf;subst hf;obtain⟨a',l1,rfl,ra,r⟩:=zdh r;obtain⟨b',l2,rfl,rb,r⟩:=zdh r;obtain⟨c',l3,rfl,rc,r⟩:=zdh r;rw[zo7 r,ztK ra,ztK rb];exact ans_d ht st e rc
 rename_i hx;clear hx;split at e
 ·rename_i m c a b hf;have hf:=yaX hf;subst hf;obtain⟨k',l0,rfl,rk,r⟩:=zdh r;obtain⟨c',l1,rfl,rc,r⟩:=zdh r;obtain⟨a',l2,rfl,ra,r⟩:=zdh r;obtain⟨b',l3,rfl,rb,r⟩:=zdh r;rw[zo7 r,ztK rc];exact ans_s ht st e rk ra rb
 rename_i hx;clear hx;split at e
 ·rename_i m a b hf;have hf:=yaX hf;subst hf;obtain⟨k',l0,rfl,rk,r⟩:=zdh r;obtain⟨a',l2,rfl,ra,r⟩:=zdh r;obtain⟨b',l3,rfl,rb,r⟩:=zdh r;rw[zo7 r];exact ans_o ht st e rk ra rb
 rename_i hx;clear hx;split at e
 ·rename_i m hf;have hf:=yaX hf;subst hf;obtain⟨a',l2,rfl,ra,r⟩:=zdh r;rw[zo7 r];exact ans_c ht st e ra
 ·cases e
end
end Go.Ax.SU
/- Ax48 -/
namespace Go.Ax.Cc
def cd(T:FuncId->Option Fn'):Nat->Sem'
 | 0=>λ_ _=>M.fail
 | n+1=>λf args=>match T f with
  | some ir=>if Nat.ble args.length ir.ntmps=true then fin (execK (cd T n) ir.rv ir.body [] [] (params 0 args)) else M.fail
  | none=>M.fail
def sims_cd{T:FuncId->Option Fn'}:∀n,Sims (cd T n) (sem T)
 | 0=>λ_ _=>sim_fail
 | n+1=>λf args=>by
  unfold cd;cases hT:T f with
  | none=>exact sim_fail
  | some ir=>
   dsimp only;by_cases h:Nat.ble args.length ir.ntmps=true
   ·rw[if_pos h];exact sim_fn hT (yaz h) (sims_cd n) rfl
   ·rw[if_neg h];exact sim_fail
def hp:List (Option Blk)->Heap
 | []=>⟨.e,0⟩
 | some b::bs=>(hp bs).new b
 | none::bs=>⟨(hp bs).t,(hp bs).next+1⟩
def hp_next:∀bs:List (Option Blk),(hp bs).abs.next=bs.length
 | []=>rfl
 | some b::bs=>by
  show((hp bs).new b).abs.next = _;rw[abs_new,zac,hp_next bs];rfl
 | none::bs=>by
  show(hp bs).abs.next+1 = _;rw[hp_next bs];rfl
def hp_cl:∀bs:List (Option Blk),(hp bs).abs.Cl
 | []=>λi _=>rfl
 | some b::bs=>by
  show((hp bs).new b).abs.Cl;rw[abs_new];exact zeY (hp_cl bs) b
 | none::bs=>λi hi=>by
  have hi:(hp bs).abs.next+1<=i:=hi;exact hp_cl bs i (by omega)
def hp_get:∀(bs:List (Option Blk)) (i:Nat),i<bs.length->(hp bs).abs.get i=(bs[bs.length-1-i]?).join
 | [],i,h=>by cases h
 | some b::bs,i,h=>by
  show((hp bs).new b).abs.get i = _;rw[abs_new];rw[List.length_cons]at h ⊢;by_cases e:i=bs.length
  ·subst e;have:=zae (hp bs).abs b;rw[hp_next]at this;rw[this,show bs.length+1-1-bs.length=0 by omega];rfl
  ·rw[zas _ _ (by rw[hp_next];exact e),hp_get bs i (by omega),show bs.length+1-1-i=bs.length-1-i+1 by omega,ybk]
 | none::bs,i,h=>by
  show(hp bs).abs.get i = _;rw[List.length_cons]at h ⊢;by_cases e:i=bs.length
  ·subst e;rw[hp_cl bs _ (by rw[hp_next];exact yaj _),show bs.length+1-1-bs.length=0 by omega];rfl
  ·rw[hp_get bs i (by omega),show bs.length+1-1-i=bs.length-1-i+1 by omega,ybk]
def hp_none {bs:List (Option Blk)} {i:Nat} (h:bs.length<=i):(hp bs).abs.get i=none:=hp_cl bs i (by rw[hp_next];exact h)
end Go.Ax.Cc
namespace Go.Ax
def rnF(s:List Nat)(n i:Nat):Nat:=if h:i<s.length then s[i] else n+(i-s.length)
def rnG(s:List Nat)(n j:Nat):Option Nat:=if n<=j then some (j-n+s.length) else s.findIdx? (· == j)
def rnG_F{s:List Nat}{n:Nat}(hs:s.Nodup)(hn:∀j∈s,j<n)(i:Nat):rnG s n (rnF s n i)=some i:=by
 unfold rnG rnF;by_cases h:i<s.length
 ·rw[dif_pos h,if_neg (by have:=hn _ (yaW h);omega),ybw];refine⟨h,by simp,λj hj=>?_⟩;have:s[j]'(by omega)≠s[i]:=λe=>by
   have:=(List.getElem_inj hs).1 e;omega
  simpa using this
 ·rw[dif_neg h,if_pos (by omega)];congr 1;omega
def rnF_G{s:List Nat}{n:Nat}(i j:Nat)(h:rnG s n j=some i):rnF s n i=j:=by
 unfold rnG at h;unfold rnF;by_cases hj:n<=j
 ·rw[if_pos hj]at h;injection h with h
  rw[dif_neg (by omega)];omega
 ·rw[if_neg hj,ybw]at h;obtain⟨h1,h2,-⟩:=h;rw[dif_pos h1];simpa using h2
def rnOf(s:List Nat)(n:Nat)(hs:s.Nodup)(hn:∀j∈s,j<n):Rn where
 f:=rnF s n
 g:=rnG s n
 k:=s.length
 gf:=rnG_F hs hn
 fg:=rnF_G
 suc:=λm hm=>by unfold rnF;rw[dif_neg (by omega),dif_neg (by omega)];omega
def ren_ok{T:FuncId->Option Fn'}(hT:∀f ir,T f=some ir->ir.body.still=true){f:FuncId}{args:List V}{m:Nat}{v:V} {bs:List (Option Blk)} {c:Cc.Heap} (h:Cc.cd T m f args (Cc.hp bs)=some (v,c)) {H:Heap} (hc:H.Cl) {s:List Nat} (hl:s.length=bs.length) (hs:s.Nodup) (hn:∀j∈s,j<H.next)
  (hg:∀i (hi:i<s.length),H.get s[i]=((bs[bs.length-1-i]?).join).map (shB (rnOf s H.next hs hn))) :
  Ok (sem T f (shL (rnOf s H.next hs hn) args)) H λr H'=>r=sh (rnOf s H.next hs hn) v/\H'=c.abs.up (rnOf s H.next hs hn) H.get/\H.next<=H'.next/\(∀i,i<H.next->i∉s->H'.get i=H.get i)/\H'.Cl:=by
 have h1:sem T f args (Cc.hp bs).abs=some (v,c.abs):=Cc.sims_cd m f args _ _ _ h;obtain⟨h2,d2⟩:=sr_sem (d:=rnOf s H.next hs hn) (R:=H.get) (λf ir h=>⟨h,hT f ir h⟩) f args _ _ _ ⟨Cc.hp_cl bs,by rw[Cc.hp_next,<-hl];exact yaj _⟩ h1;have e:(Cc.hp bs).abs.up (rnOf s H.next hs hn) H.get=H:=by
  show Heap.mk _ _=H;cases H with
  | mk g n=>
   congr 1
   ·funext j;show(match rnG s n j with|none=>g j|some i=>((Cc.hp bs).abs.get i).map _)=g j;cases hj:rnG s n j with
    | none=>rfl
    | some i=>
     dsimp only;have hF:=rnF_G i j hj;by_cases hi:i<s.length
     ·have:=hg i hi;rw[Cc.hp_get bs i (by omega),<-this];have hF2:rnF s n i=s[i]:=by unfold rnF;rw[dif_pos hi]
      rw[<-hF,hF2]
     ·rw[Cc.hp_none (by omega)];have hF2:rnF s n i=n+(i-s.length):=by unfold rnF;rw[dif_neg hi]
      exact(hc j (by show n<=j;omega)).symm
   ·show rnF s n (Cc.hp bs).abs.next=n;rw[Cc.hp_next,<-hl];unfold rnF;rw[dif_neg (by omega)];omega
 rw[e]at h2;have hlo:s.length<=c.abs.next:=d2.lo;refine⟨_,_,h2,rfl,rfl,?_,λi hi hni=>?_,?_⟩
 ·show H.next<=rnF s H.next c.abs.next;unfold rnF;rw[dif_neg (by omega)];omega
 ·show(match rnG s H.next i with|none=>H.get i|some k=>_)=H.get i;cases hj:rnG s H.next i with
  | none=>rfl
  | some k=>
   unfold rnG at hj;rw[if_neg (by omega),ybw]at hj;obtain⟨k1,k2,-⟩:=hj;have:s[k]=i:=by simpa using k2
   exact absurd (this ▸ yaW k1) hni
 ·have:=(zyK (G:=⟨0⟩) f _ H _ _ ⟨hc,yaI _⟩ h2).2.cl;exact this
end Go.Ax
/- Ax32 -/
namespace Go.Ax
structure Rst where
 g:Nat->Option Blk
 r:Nat->Bool
 n:Nat
 sub:∀i b,g i=some b->r i=true
def Heap.plus(H:Heap)(G:Rst):Heap:=⟨λi=>match G.g i with|some b=>some b|none=>H.get i,H.next⟩
structure Dj (H:Heap) (G:Rst):Prop where
 low:G.n<=H.next
 non':∀i,G.r i=true->H.get i=none/\i<G.n
section
variable {G:Rst} {H H':Heap}
def Dj.non(h:Dj H G){id:Nat}{b:Blk}(hb:H.get id=some b):G.g id=none:=by
 cases hg:G.g id with
 | none=>rfl
 | some c=>rw[(h.non' id (G.sub _ _ hg)).1]at hb;cases hb
def Dj.get(h:Dj H G){id:Nat}{b:Blk}(hb:H.get id=some b):(H.plus G).get id=some b:=by
 show(match G.g id with|some b=>some b|none=>H.get id) = _;rw[h.non hb];exact hb
def Dj.set(h:Dj H G){id:Nat}{b:Blk}(hb:H.get id=some b)(o:Option Blk):(H.plus G).set id o=(H.set id o).plus G/\Dj (H.set id o) G:=by
 have hg:=h.non hb;refine⟨?_,h.low,λi hi=>?_⟩
 ·show Heap.mk _ _=Heap.mk _ _;congr 1;funext i;show(if i=id then o else (match G.g i with|some b=>some b|none=>H.get i))=(match G.g i with|some b=>some b|none=>if i=id then o else H.get i);by_cases e:i=id
  ·subst e;rw[hg,if_pos rfl]
  ·rw[if_neg e,if_neg e]
 ·obtain⟨h1,h2⟩:=h.non' i hi;refine⟨?_,h2⟩;rw[zai]
  ·exact h1
  ·intro e;subst e;rw[h1]at hb;cases hb
def Dj.new(h:Dj H G)(b:Blk):(H.plus G).new b=(H.new b).plus G/\Dj (H.new b) G:=by
 have hl:=h.low;have hg:G.g H.next=none:=by
  cases hg:G.g H.next with
  | none=>rfl
  | some c=>have:=(h.non' _ (G.sub _ _ hg)).2;omega
 refine⟨?_,by rw[zac];omega,λi hi=>?_⟩
 ·show Heap.mk _ _=Heap.mk _ _;congr 1;funext i;show(if i=H.next then some b else (match G.g i with|some b=>some b|none=>H.get i))=(match G.g i with|some b=>some b|none=>if i=H.next then some b else H.get i);by_cases e:i=H.next
  ·subst e;rw[hg,if_pos rfl]
  ·rw[if_neg e,if_neg e]
 ·obtain⟨h1,h2⟩:=h.non' i hi;exact⟨by rw[zas _ _ (by omega)];exact h1,h2⟩
def FrR(G:Rst){α:Type}(x y:M α):Prop:=∀H a H',Dj H G->x H=some (a,H')->y (H.plus G)=some (a,H'.plus G)/\Dj H' G
abbrev FrM(G:Rst){α:Type}(x:M α):Prop:=FrR G x x
section
variable {α β:Type}
def zb7(v:α):FrM G (M.pure v):=by
 intro H a H' hd h;simp only[M.pure,yaa,yae]at h ⊢;obtain⟨rfl,rfl⟩:=h;exact⟨⟨rfl,rfl⟩,hd⟩
def zct{y:M α}:FrR G M.fail y:=by intro H a H' hd h;cases h
def zfo(o:Option α):FrM G (M.lift o):=by
 intro H a H' hd h;cases o with
 | none=>cases h
 | some v=>exact zb7 v H a H' hd h
def zby{x x':M α}{f g:α->M β}(h:FrR G x x') (k:∀v,FrR G (f v) (g v)):FrR G (x.bind f) (x'.bind g):=by
 intro H a H' hd e;obtain⟨v,H1,h1,h2⟩:=bind_some e;obtain⟨e1,d1⟩:=h H v H1 hd h1;obtain⟨e2,d2⟩:=k v H1 a H' d1 h2;exact⟨by rw[bind_ok e1];exact e2,d2⟩
def fr_ite(c:V){x x' y y':M α}(h:FrR G x y)(k:FrR G x' y'):FrR G (M.ite c x x') (M.ite c y y'):=by
 cases c<;>first|exact zct|skip
 rename_i b;cases b
 ·exact k
 ·exact h
def zdx{H:Heap}{a v:α}{H':Heap}(hd:Dj H G) (h:(v,H)=(a,H')):(some (v,H.plus G):Option (α×Heap))=some (a,H'.plus G)/\Dj H' G:=by
 injection h with h1 h2
 subst h1 h2;exact⟨rfl,hd⟩
def zl0{H:Heap}{a v:α}{H':Heap}{id:Nat}{b:Blk}{o:Option Blk}(hd:Dj H G)(hb:H.get id=some b) (h:(v,H.set id o)=(a,H')):(some (v,(H.plus G).set id o):Option (α×Heap))=some (a,H'.plus G)/\Dj H' G:=by
 injection h with h1 h2
 subst h1 h2;obtain⟨e,d⟩:=hd.set hb o;exact⟨by rw[e],d⟩
def zl1{H:Heap}{a v:α}{H':Heap}{b:Blk}(hd:Dj H G) (h:(v,H.new b)=(a,H')):(some (v,(H.plus G).new b):Option (α×Heap))=some (a,H'.plus G)/\Dj H' G:=by
 injection h with h1 h2
 subst h1 h2;obtain⟨e,d⟩:=hd.new b;exact⟨by rw[e],d⟩
def fr_snew{H:Heap}{a v:α}{H':Heap}{id:Nat}{b c:Blk}{o:Option Blk}(hd:Dj H G)(hb:H.get id=some b) (h:(v,(H.set id o).new c)=(a,H')):(some (v,((H.plus G).set id o).new c):Option (α×Heap))=some (a,H'.plus G)/\Dj H' G:=by
 injection h with h1 h2
 subst h1 h2;obtain⟨e,d⟩:=hd.set hb o;obtain⟨e',d'⟩:=d.new c;exact⟨by rw[e,e'],d'⟩
def zea{p:Prop}[Decidable p] {X Y:Option (α×Heap)} {X' Y':Option (α×Heap)} {a:α} {H':Heap} {R:Prop} (h1:X=some (a,H')->X'=some (a,H'.plus G)/\R) (h2:Y=some (a,H')->Y'=some (a,H'.plus G)/\R) (h:(if p then X else Y)=some (a,H')):(if p then X' else Y')=some (a,H'.plus G)/\R:=by
 by_cases hp:p
 ·rw[if_pos hp]at h ⊢;exact h1 h
 ·rw[if_neg hp]at h ⊢;exact h2 h
def zaT{a:α}{H':Heap}{X:Prop} (h:(none:Option (α×Heap))=some (a,H')):X:=by cases h
def zgK{H:Heap}{id:Nat} {k k':Blk->Option (α×Heap)} {a:α} {H':Heap} (hd:Dj H G) (h:(H.get id).bind k=some (a,H')) (hk:∀b,H.get id=some b->k b=some (a,H')->k' b=some (a,H'.plus G)/\Dj H' G):((H.plus G).get id).bind k'=some (a,H'.plus G)/\Dj H' G:=by
 rw[yab]at h;obtain⟨b,hb,h⟩:=h;rw[hd.get hb];exact hk b hb h
def znG{γ:Type}{o:Option γ}{k k':γ->α×Heap}{a:α}{H':Heap}{R:Prop} (h:o.map k=some (a,H')) (hk:∀b,some (k b)=some (a,H')->some (k' b)=some (a,H'.plus G)/\R):o.map k'=some (a,H'.plus G)/\R:=by
 cases o with
 | none=>cases h
 | some b=>exact hk b h
end
def zbc{γ:Type}{x y:γ}(h:some x=some y):x=y:=ycU h
def zs4(n:Option Nat)(p:V):FrM G (mload n p):=by
 intro H a H' hd h;cases p<;>first|exact zaT h|skip
 ·exact zgK hd h λb hb h=>znG h λv h=>zdx hd (zbc h)
 ·exact znG h λv h=>zdx hd (zbc h)
def fr_store(n:Nat)(p x:V):FrM G (mstore n p x):=by
 intro H a H' hd h;cases p<;>first|exact zaT h|skip
 exact zgK hd h λb hb h=>zea (λh=>zl0 hd hb (zbc h)) zaT h
def fr_box(ty:TypeId)(x:V):FrM G (mbox ty x):=by
 intro H a H' hd h;exact zea (λh=>zl1 hd (zbc h)) zaT h
def fr_slit(ty:TypeId)(l:Nat)(z:List V) (ps:List (Nat×Nat×V)):FrM G (mslit ty l z ps):=by
 intro H a H' hd h;exact znG h λcs h=>zl1 hd (zbc h)
def zne(hd:Dj H G){e:Nat}{v:V}{q:List V×Nat}(h:rcells e H v=some q):rcells e (H.plus G) v=some q:=by
 cases v<;>first|exact h|skip
 simp only[rcells,yab]at h ⊢;obtain⟨b,hb,h⟩:=h;exact⟨b,hd.get hb,h⟩
def ztu(hd:Dj H G){e:Nat}{v:V}{q:List V×Nat}(h:acells e H v=some q):acells e (H.plus G) v=some q:=by
 cases v with
 | sl id off len cap=>exact zne (v:=.sl id off len cap) hd h
 | _=>exact h
def fr_ac{α:Type}{H:Heap}{e:Nat}{v:V} {k k':List V×Nat->Option (α×Heap)} {a:α} {H':Heap} (hd:Dj H G) (h:(acells e H v).bind k=some (a,H')) (hk:∀q,k q=some (a,H')->k' q=some (a,H'.plus G)/\Dj H' G):(acells e (H.plus G) v).bind k'=some (a,H'.plus G)/\Dj H' G:=by
 rw[yab]at h;obtain⟨q,hq,h⟩:=h;rw[ztu hd hq];exact hk q h
def fr_rc{α:Type}{H:Heap}{e:Nat}{v:V} {k k':List V×Nat->Option (α×Heap)} {a:α} {H':Heap} (hd:Dj H G) (h:(rcells e H v).bind k=some (a,H')) (hk:∀q,k q=some (a,H')->k' q=some (a,H'.plus G)/\Dj H' G):(rcells e (H.plus G) v).bind k'=some (a,H'.plus G)/\Dj H' G:=by
 rw[yab]at h;obtain⟨q,hq,h⟩:=h;rw[zne hd hq];exact hk q h
def zpq(ty e b:Nat)(q:List V×Nat)(x:V):FrM G (mappendq ty e b q x):=by
 intro H a H' hd h;cases x<;>first|exact zaT h|skip
 ·exact zea (λh=>zdx hd (zbc h)) (zea (λh=>zl1 hd (zbc h)) zaT) h
 ·rename_i id off len cap;refine zgK hd h λb hb h=>zea (λh=>?_) zaT h;cases cap with
  | fix c=>exact zea (zea (λh=>zl0 hd hb (zbc h)) zaT) (zea (λh=>zl1 hd (zbc h)) zaT) h
  | opn ee=>exact zea (zea (λh=>zdx hd (zbc h)) (zea (λh=>fr_snew hd hb (zbc h)) zaT)) (zea (λh=>zdx hd (zbc h)) (zea (λh=>zl0 hd hb (zbc h)) zaT)) h
 ·exact zea (λh=>zdx hd (zbc h)) zaT h
def zyk(ty e b:Nat)(x y:V):FrM G (mappend ty e b x y):=by
 intro H a H' hd h;exact fr_ac hd h λq h=>zpq ty e b q x H a H' hd h
def zvH(ty b:Nat)(z:List V)(x y:V):FrM G (mappendz ty b z x y):=by
 intro H a H' hd h;cases y<;>first|exact zaT h|skip
 exact zea (λh=>zpq _ _ _ _ _ H a H' hd h) zaT h
def fr_copy(e:Nat)(x y:V):FrM G (mcopy e x y):=by
 intro H a H' hd h;refine fr_ac hd h λq h=>?_;cases x<;>first|exact zaT h|skip
 ·exact zdx hd (zbc h)
 ·exact zgK hd h λb hb h=>zea (λh=>zl0 hd hb (zbc h)) zaT h
def fr_tostr(x:V):FrM G (mtostr x):=by
 intro H a H' hd h;exact fr_rc hd h λq h=>znG h λv h=>zdx hd (zbc h)
def zpp(ty:TypeId)(x:V):FrM G (mtobytes ty x):=by
 intro H a H' hd h;cases x<;>first|exact zaT h|skip
 exact zea (λh=>zl1 hd (zbc h)) zaT h
def zye(ty:TypeId)(x:V):FrM G (mremark ty x):=by
 intro H a H' hd h;cases x<;>first|exact zaT h|skip
 ·exact zpp ty (.str _) H a H' hd h
 ·exact zgK hd h λb hb h=>zea zaT (λh=>zdx hd (zbc h)) h
def zvE(ty b:Nat)(z:List V)(l c:V):FrM G (mmkslice ty b z l c):=by
 intro H a H' hd h;unfold mmkslice at h ⊢;split at h
 ·exact zea (λh=>zl1 hd (zbc h)) zaT h
 ·exact zaT h
def fr_mknz(ty:TypeId)(x:V):FrM G (mmknz ty x):=by
 intro H a H' hd h;unfold mmknz at h ⊢;split at h
 ·exact zea (λh=>zl1 hd (zbc h)) zaT h
 ·exact zaT h
def zyd(e:Nat)(x lo hi:V):FrM G (mslice2 e x lo hi):=by
 intro H a H' hd h;unfold mslice2 at h ⊢;split at h
 ·exact zgK hd h λb hb h=>zea (λh=>zdx hd (zbc h)) zaT h
 ·exact zaT h
def fr_clear(z:List V)(x:V):FrM G (mclear z x):=by
 intro H a H' hd h;cases x<;>first|exact zaT h|skip
 exact zea (λh=>zdx hd (zbc h)) (λh=>zgK hd h λb hb h=>zea (λh=>zl0 hd hb (zbc h)) zaT h) h
def fr_mkmap(ty:TypeId):FrM G (mmkmap ty):=by
 intro H a H' hd h;exact zl1 hd (zbc h)
def zyh(mk:MK)(z:V)(ok:Bool)(x k:V):FrM G (mlookup mk z ok x k):=by
 intro H a H' hd h;cases x<;>first|exact zaT h|skip
 exact zgK hd h λb hb h=>zea (λh=>znG h λv h=>zdx hd (zbc h)) zaT h
def zyf(mk:MK)(x k v:V):FrM G (mmapset mk x k v):=by
 intro H a H' hd h;cases x<;>first|exact zaT h|skip
 exact zgK hd h λb hb h=>zea (λh=>znG h λv h=>zl0 hd hb (zbc h)) zaT h
def zyg(x:V):FrM G (mmaplen x):=by
 intro H a H' hd h;cases x<;>first|exact zaT h|skip
 rename_i id;have h':(H.get id).bind (λb=>some (V.int .i64 ((b.cells.length/2:Nat):Int),H))=some (a,H'):=by rw[<-h];simp only[mmaplen];cases H.get id<;>rfl
 have:=zgK (k':=λb=>some (V.int .i64 ((b.cells.length/2:Nat):Int),H.plus G)) hd h' λb hb h=>zdx hd (zbc h);rw[<-this.1];exact⟨by simp only[mmaplen];cases (H.plus G).get id<;>rfl,this.2⟩
def fr_aload(k:IntKind)(p:V):FrM G (matoload k p):=by
 intro H a H' hd h;unfold matoload at h ⊢;rw[yab]at h;obtain⟨⟨v,H1⟩,h1,h⟩:=h;obtain⟨e1,d1⟩:=zs4 none p H v H1 hd h1;rw[e1];dsimp only[Option.bind_some]at h ⊢;cases v<;>first|exact zaT h|skip
 exact zea (λh=>zdx d1 (zbc h)) zaT h
def fr_aadd(k:IntKind)(p y:V):FrM G (matoadd k p y):=by
 intro H a H' hd h;unfold matoadd at h ⊢;split at h
 ·refine zgK hd h λb hb h=>?_;split at h
  ·rename_i hc;exact zea (λh=>zl0 hd hb (zbc h)) zaT h
  ·exact zaT h
 ·exact zaT h
def zvF(p:Bool)(o:Nat)(x n:V):FrM G (mmapdrop p o x n):=by
 intro H a H' hd h;unfold mmapdrop at h ⊢;split at h
 ·refine zgK hd h λb hb h=>?_;split at h
  ·rename_i hc;exact zgK hd h λb hb h=>znG h λv h=>zl0 hd hb (zbc h)
  ·exact zaT h
 ·exact zaT h
section
variable {g:Sem'}
def zaF{A:Fr}{x:Arg}{k:V->M V} (h:∀v,FrM G (k v)):FrM G (with1 A x k):=by
 unfold with1;cases x.ev A with
 | none=>exact zct
 | some v=>exact h v
def zmH{A:Fr}{xs:List Arg}{k:List V->M V} (h:∀v,FrM G (k v)):FrM G (withs A xs k):=by
 unfold withs;cases evs A xs with
 | none=>exact zct
 | some v=>exact h v
def fr_run (hg:∀f args,FrM G (g f args)) (A:Fr) (ins:I):FrM G (ins.run g A):=by
 cases ins<;>unfold I.run<;>dsimp only
 case mkmap=>exact fr_mkmap _
 case build zero parts=>cases zaM A parts with|none=>exact zct|some ps=>exact zfo _
 case slit=>rename_i ps;cases zaM A ps with|none=>exact zct|some ps=>exact fr_slit _ _ _ _
 case call f args=>exact zmH λv=>hg f v
 case mkfn f caps=>exact zmH λv=>zb7 _
 case callv x args=>exact zaF λv=>zmH λvs=>by cases v<;>first|exact zct|exact hg _ _
 case slice ck esz x lo hi mx=>
  refine zaF λv=>?_;split
  ·exact zfo _
  ·exact zct
 case minmax=>exact zaF λv=>zmH λvs=>zfo _
 all_goals first
  | exact zaF λv=>zb7 _
  | exact zaF λv=>zfo _
  | exact zaF λv=>zaF λw=>zfo _
  | exact zaF λv=>zaF λw=>zaF λu=>zfo _
  | exact zaF λv=>fr_box _ _
  | exact zaF λv=>zs4 _ _
  | exact zaF λv=>fr_tostr _
  | exact zaF λv=>zpp _ _
  | exact zaF λv=>zye _ _
  | exact zaF λv=>fr_mknz _ _
  | exact zaF λv=>fr_clear _ _
  | exact zaF λv=>zyg _
  | exact zaF λv=>fr_aload _ _
  | exact zaF λv=>zaF λw=>fr_store _ _ _
  | exact zaF λv=>zaF λw=>zyk _ _ _ _ _
  | exact zaF λv=>zaF λw=>zvH _ _ _ _ _
  | exact zaF λv=>zaF λw=>fr_copy _ _ _
  | exact zaF λv=>zaF λw=>zvE _ _ _ _ _
  | exact zaF λv=>zaF λw=>zyh _ _ _ _ _
  | exact zaF λv=>zaF λw=>fr_aadd _ _ _
  | exact zaF λv=>zaF λw=>zvF _ _ _ _
  | exact zaF λv=>zaF λw=>zaF λu=>zyd _ _ _ _
  | exact zaF λv=>zaF λw=>zaF λu=>zyf _ _ _ _
def zvG{A:Fr} {gd:Option (Nat×Bool)} {x:M V} (h:FrM G x):FrM G (guarded A gd x):=by
 unfold guarded;cases gd with
 | none=>exact h
 | some p=>
  dsimp only;cases A.get p.1 with
  | none=>exact zct
  | some v=>
   cases v with
   | bool b=>
    dsimp only;by_cases hb:b=p.2
    ·rw[if_pos hb];exact h
    ·rw[if_neg hb];exact zb7 _
   | tup vs=>cases vs with|nil=>exact zb7 _|cons _ _=>exact zct
   | _=>exact zct
def zvI (hg:∀f args,FrM G (g f args)) (A:Fr) (o:AO):FrM G (o.run g A):=zvG (fr_run hg A o.ins)
def fr_ops (hg:∀f args,FrM G (g f args)):∀(l:List AO) (A:Fr),FrM G (zd5 g l A)
 | [],A=>zb7 A
 | o::l,A=>zby (zvI hg A o) λv=>fr_ops hg l _
def zyc(v:V)(h h':Heap):FrR G (M.unch v h h') (M.unch v (h.plus G) (h'.plus G)):=by
 intro H a H' hd e;unfold M.unch at e ⊢;split at e
 ·rename_i hp;rw[if_pos]
  ·exact zdx hd (zbc e)
  ·intro id hid;show(match G.g id with|some b=>some b|none=>h'.get id)=(match G.g id with|some b=>some b|none=>h.get id);rw[hp id hid]
 ·exact zaT e
def zqp (un:List (Nat×Nat)) (j:Nat) (h h':Heap):∀rs,FrR G (zaY un j h h' rs) (zaY un j (h.plus G) (h'.plus G) rs)
 | []=>zb7 ()
 | (i,a)::rs=>by
  unfold zaY;by_cases hc:un.contains (i,j)=true
  ·rw[if_pos hc,if_pos hc];exact zby (zyc a h h') λ_=>zqp un j h h' rs
  ·rw[if_neg hc,if_neg hc];exact zqp un j h h' rs
def zqq (un:List (Nat×Nat)) (i:Nat) (a:V):∀js,FrR G (zaZ un i a js) (zaZ un i a (js.map λq=>(q.1,q.2.1.plus G,q.2.2.plus G)))
 | []=>zb7 ()
 | (j,h,h')::js=>by
  show FrR G (zaZ un i a ((j,h,h')::js)) (zaZ un i a ((j,h.plus G,h'.plus G)::js.map λq=>(q.1,q.2.1.plus G,q.2.2.plus G)));unfold zaZ;by_cases hc:un.contains (i,j)=true
  ·rw[if_pos hc,if_pos hc];exact zby (zyc a h h') λ_=>zqq un i a js
  ·rw[if_neg hc,if_neg hc];exact zqq un i a js
def zyi{α:Type}{f f':Heap->M α} (h:∀H,Dj H G->FrR G (f H) (f' (H.plus G))):FrR G (M.getH.bind f) (M.getH.bind f'):=by
 intro H a H' hd e;exact h H hd H a H' hd e
def fr_draw (hg:∀f args,FrM G (g f args)) (un:List (Nat×Nat)):∀(l:List AO) (p:Nat) (rs:List (Nat×V)) (js:List (Nat×Heap×Heap)) (A:Fr),FrR G (zaI g un p rs js l A) (zaI g un p rs (js.map λq=>(q.1,q.2.1.plus G,q.2.2.plus G)) l A):=by
 intro l
 induction l with
 | nil=>intro p rs js A;exact zb7 A
 | cons o l ih=>
  intro p rs js A;unfold zaI;cases hk:o.ins.kind with
  | read x=>
   dsimp only;unfold zaI.with1';cases x.ev A with
   | none=>exact zby (zvI hg A o) λv=>zby (zqq un p _ js) λ_=>ih _ _ _ _
   | some a=>exact zby (zvI hg A o) λv=>zby (zqq un p _ js) λ_=>ih _ _ _ _
  | act=>exact zyi λh hd=>zby (zvI hg A o) λv=>zyi λh' hd'=>zby (zqp un p h h' rs) λ_=>ih _ _ ((p,h,h')::js) _
  | pure=>exact zby (zvI hg A o) λv=>ih _ _ _ _
  | new=>exact zby (zvI hg A o) λv=>ih _ _ _ _
def fr_iter{body:List V->M Res} (h:∀L,FrM G (body L)) (L:List V):FrM G (M.iter body L):=by
 intro H a H' hd e;obtain⟨n,hn⟩:=zew e;have key:∀(n:Nat) (L:List V),FrM G (iterN body n L):=by
  intro n
  induction n with
  | zero=>intro L;exact zct
  | succ n ih=>
   intro L;show FrM G (M.join (body L) (iterN body n));refine zby (h L) λr=>?_;cases r with
   | nrm L'=>exact ih L'
   | ex id L'=>exact zb7 _
   | ret L'=>exact zb7 _
 obtain⟨e1,d1⟩:=key n L H a H' hd hn;exact⟨zgp e1,d1⟩
def zlw(A:Fr):∀rv,FrM G (results A rv)
 | []=>zb7 _
 | .tmp t::rs=>zby (zfo _) λv=>zby (zlw A rs) λvs=>zb7 _
 | .cell t n::rs=>zby (zfo _) λa=>zby (zs4 n a) λv=>zby (zlw A rs) λvs=>zb7 _
def fr_exec (hg:∀f args,FrM G (g f args)) (rv:List RV):∀(c:C) (cx:List (Nat×List Nat)) (J:List Nat) (A:Fr),FrM G (exec g rv c cx J A):=by
 intro c
 induction c with
 | done=>intro cx J A;exact zby (zfo _) λL=>zb7 _
 | bad=>intro cx J A;exact zct
 | ops l k ih=>intro cx J A;exact zby (fr_ops hg l A) λA'=>ih _ _ _
 | draw l un k ih=>intro cx J A;exact zby (fr_draw hg un l 0 [] [] A) λA'=>ih _ _ _
 | cond x a b iha ihb=>
  intro cx J A;simp only[exec];cases x.ev A with
  | none=>exact zct
  | some c=>exact fr_ite c (iha _ _ _) (ihb _ _ _)
 | condJ x a b J' W k iha ihb ihk=>
  intro cx J A;simp only[exec];cases x.ev A with
  | none=>exact zct
  | some c=>
   refine zby (fr_ite c (iha _ _ _) (ihb _ _ _)) λr=>?_;cases r with
   | nrm L=>exact ihk _ _ _
   | ex id L=>exact zb7 _
   | ret L=>exact zb7 _
 | blk id a J' W k iha ihk=>
  intro cx J A;simp only[exec,M.blk];refine zby (iha _ _ _) λr=>?_;cases r with
  | nrm L=>exact ihk _ _ _
  | ex i L=>
   dsimp only;by_cases e:i=id
   ·simp only[if_pos e];exact ihk _ _ _
   ·simp only[if_neg e];exact zb7 _
  | ret L=>exact zb7 _
 | loop a K W iha=>
  intro cx J A;exact zby (zfo _) λL=>fr_iter (λL=>iha _ _ _) L
 | exit id=>
  intro cx J A;simp only[exec];cases ziY cx id with
  | none=>exact zct
  | some J=>exact zby (zfo _) λL=>zb7 _
 | ret=>intro cx J A;exact zby (zlw A rv) λL=>zb7 _
def fr_fn (hg:∀f args,FrM G (g f args)) (f:Fn') (args:List V):FrM G (f.run g args):=zby (fr_exec hg _ _ _ _ _) λr=>by
 cases r with
 | ret L=>exact zb7 _
 | nrm L=>exact zct
 | ex id L=>exact zct
end
def zyj{T:FuncId->Option Fn'}:∀(n:Nat) (f:FuncId) (args:List V),FrM G (deep T n f args)
 | 0,f,args=>zct
 | n+1,f,args=>by
  unfold deep;cases T f with
  | none=>exact zct
  | some ir=>
   dsimp only;split
   ·exact fr_fn (zyj n) ir args
   ·exact zct
def fr_sem{T:FuncId->Option Fn'}(f:FuncId)(args:List V):FrM G (sem T f args):=by
 intro H a H' hd e;unfold sem at e;split at e
 ·obtain⟨e1,d1⟩:=zyj _ f args H a H' hd e;exact⟨zg7 e1,d1⟩
 ·cases e
def Heap.sans(H:Heap)(N:Nat->Bool):Heap:=⟨λi=>if i<H.next/\N i=true then none else H.get i,H.next⟩
def zxr{T:FuncId->Option Fn'}{f:FuncId}{args:List V}{H:Heap}{Q:V->Heap->Prop}(N:Nat->Bool) (h:Ok (sem T f args) (H.sans N) Q) :
  Ok (sem T f args) H λv H'=>∃H1,Q v H1/\H'.next=H1.next/\H.next<=H'.next/\(∀i,i<H.next->N i=true->H'.get i=H.get i)/\∀i,¬(i<H.next/\N i=true)->H'.get i=H1.get i:=by
 obtain⟨v,H1,h1,hq⟩:=h;have hG:∀i b,(if i<H.next/\N i=true then H.get i else none)=some b->decide (i<H.next/\N i=true)=true:=λi b hb=>by
  by_cases hc:i<H.next/\N i=true
  ·exact decide_eq_true hc
  ·rw[if_neg hc]at hb;cases hb
 generalize hR:(⟨λi=>if i<H.next/\N i=true then H.get i else none,λi=>decide (i<H.next/\N i=true),H.next,hG⟩:Rst)=G;have hg:∀i,G.g i=if i<H.next/\N i=true then H.get i else none:=λi=>by rw[<-hR]
 have hr:∀i,G.r i=decide (i<H.next/\N i=true):=λi=>by rw[<-hR]
 have hn:G.n=H.next:=by rw[<-hR]
 have hd:Dj (H.sans N) G:=by
  refine⟨by rw[hn];exact yaj _,λi hb=>?_⟩;rw[hr]at hb;have hb:=of_decide_eq_true hb;exact⟨if_pos hb,by rw[hn];exact hb.1⟩
 have e:(H.sans N).plus G=H:=by
  show Heap.mk _ _=H;congr 1;funext i;rw[hg];by_cases hc:i<H.next/\N i=true
  ·rw[if_pos hc];cases hgi:H.get i with
   | none=>show(if i<H.next/\N i=true then none else H.get i)=none;rw[if_pos hc]
   | some b=>rfl
  ·rw[if_neg hc];exact if_neg hc
 obtain⟨e1,d1⟩:=fr_sem f args (H.sans N) v H1 hd h1;rw[e]at e1;refine⟨v,_,e1,H1,hq,rfl,by have:=d1.low;rw[hn]at this;exact this,λi h1 h2=>?_,λi hi=>?_⟩
 ·have hz:=(d1.non' i (by rw[hr];exact decide_eq_true ⟨h1,h2⟩)).1;show(match G.g i with|some b=>some b|none=>H1.get i)=H.get i;rw[hg,if_pos ⟨h1,h2⟩,hz];cases H.get i<;>rfl
 ·show(match G.g i with|some b=>some b|none=>H1.get i)=H1.get i;rw[hg,if_neg hi]
end
structure KnB (d:Rn) (H:Heap) (s:List Nat) (bs:List (Option Blk)):Prop where
 len:s.length=bs.length
 nd:s.Nodup
 lt:∀j∈s,j<H.next
 get:∀i (hi:i<s.length) b,bs[bs.length-1-i]?=some (some b)->H.get s[i]=some (shB d b)
def look(l:List Nat) (r:Option (V×Cc.Heap)):Option (V×List (Option Blk)):=r.map λq=>(q.1,l.map q.2.get)
def zyV{T:FuncId->Option Fn'}(hT:∀f ir,T f=some ir->ir.body.still=true){f:FuncId}{args:List V}{m:Nat}{v:V} {bs:List (Option Blk)} {l:List Nat} {os:List (Option Blk)} (h:look l (Cc.cd T m f args (Cc.hp bs))=some (v,os)) {H:Heap} (hc:H.Cl) {s:List Nat} (hs:s.Nodup) (hn:∀j∈s,j<H.next)
  (hk:KnB (rnOf s H.next hs hn) H s bs) (hv:∀j∈l,bs.length<=j\/∃b,bs[bs.length-1-j]?=some (some b)) :
  Ok (sem T f (shL (rnOf s H.next hs hn) args)) H λr H'=>r=sh (rnOf s H.next hs hn) v/\H.next<=H'.next/\(∀i,i<H.next->(∀j (hj:j<s.length) b,bs[bs.length-1-j]?=some (some b)->s[j]≠i)->H'.get i=H.get i) /\
   (∀j (hj:j<l.length),H'.get (rnF s H.next l[j])=(os[j]?.join).map (shB (rnOf s H.next hs hn)))/\H'.Cl:=by
 classical
 obtain⟨c,hcd,rfl⟩:∃c,Cc.cd T m f args (Cc.hp bs)=some (v,c)/\os=l.map c.get:=by
  unfold look at h;cases hr:Cc.cd T m f args (Cc.hp bs) with
  | none=>rw[hr]at h;cases h
  | some q=>
   rw[hr]at h;simp only[yar,yaa,yae]at h;obtain⟨rfl,rfl⟩:=h;exact⟨q.2,rfl,rfl⟩
 let vis:Nat->Prop:=λi=>∃j,∃hj:j<s.length,(∃b,bs[bs.length-1-j]?=some (some b))/\s[j]=i
 let N:Nat->Bool:=λi=>decide (¬vis i)
 have hl:=hk.len;have hcs:(H.sans N).Cl:=λi hi=>by
  have hi:H.next<=i:=hi;show(if i<H.next/\N i=true then none else H.get i)=none;rw[if_neg (by omega)];exact hc i hi
 have hg:∀i (hi:i<s.length),(H.sans N).get s[i]=((bs[bs.length-1-i]?).join).map (shB (rnOf s H.next hs hn)):=λi hi=>by
  have hlt:=hn s[i] (yaW hi);show(if s[i]<H.next/\N s[i]=true then none else H.get s[i]) = _;have hb:bs[bs.length-1-i]?=some (bs[bs.length-1-i]'(by omega)):=yaf _;by_cases hvis:vis s[i]
  ·rw[if_neg (by simp[N,hvis])];obtain⟨j,hj,⟨b,hbj⟩,e⟩:=hvis;have:j=i:=(List.getElem_inj hs).1 e;subst this;rw[hk.get j hi b hbj,hbj];rfl
  ·rw[if_pos ⟨hlt,by simp[N,hvis]⟩];cases hx:bs[bs.length-1-i]'(by omega) with
   | none=>rw[hb,hx];rfl
   | some b=>exact absurd ⟨i,hi,⟨b,by rw[hb,hx]⟩,rfl⟩ hvis
 have h1:=ren_ok hT hcd (H:=H.sans N) hcs hl hs hn hg;obtain⟨r,H',e,⟨H1,⟨rfl,rfl,hn1,-,-⟩,hnx,hge,hsm,hot⟩⟩:=zxr N h1;refine⟨_,H',e,rfl,hge,λi hi hni=>hsm i hi ?_,λj hj=>?_,?_⟩
 ·show decide (¬vis i)=true;refine decide_eq_true ?_;rintro⟨j,hj,⟨b,hb⟩,e⟩;exact hni j hj b hb e
 ·have hlj:=hv l[j] (yaW hj);have hnot:¬(rnF s H.next l[j]<H.next/\N (rnF s H.next l[j])=true):=by
   rintro⟨h1,h2⟩;have h2:=of_decide_eq_true h2;unfold rnF at h1 h2;by_cases hjs:l[j]<s.length
   ·rw[dif_pos hjs]at h2;rcases hlj with h3|⟨b,h3⟩
    ·omega
    ·exact h2 ⟨l[j],hjs,⟨b,h3⟩,rfl⟩
   ·rw[dif_neg hjs]at h1;omega
  rw[hot _ hnot,yaQ,yaf hj];exact zmU (d:=rnOf s H.next hs hn) (R:=(H.sans N).get) c.abs l[j]
 ·exact(zyK (G:=⟨0⟩) f _ H _ _ ⟨hc,yaI _⟩ e).2.cl
end Go.Ax
/- Or3 -/
namespace Go.Ax.SU
open Go.Ax Go.Proofs
def lowV(j:Nat):V->Bool
 | .lit (.int .u8 n)=>decide (n.toNat<1000*j)
 | _=>true
def lowL(j:Nat)(l:List V):Bool:=l.all λv=>lowV j v&&bokd v
def lowB(j:Nat):Bd->Bool
 | .hm a b=>lowL j a&&lowL j b
 | .ex a b _=>lowL j a&&lowL j b
 | .se i k a _ m p=>(match szs i with|some _=>true|none=>false)&&(Nat.blt k 18446744073709551616&&(lowL j a&&(lowL j m&&lowL j p)))
def lowT:Nat->List Bd->Bool
 | _,[]=>true
 | j,d::l=>lowB j d&&lowT (j+1) l
section
variable {q:Nat->List Nat}
def zlZ{j:Nat}{s s':Nat->Nat}(h:∀n,n<1000*j->s n=s' n):∀{l:List V},lowL j l=true->iv s q l=iv s' q l
 | [],_=>rfl
 | x::l,hl=>by
  simp only[lowL,yba,yam]at hl;have ih:=zlZ h (l:=l) hl.2;have h0:=hl.1.2;unfold bokd at h0;split at h0
  ·show q _++iv s q l=q _++iv s' q l;rw[ih]
  ·unfold bok1 at h0;split at h0
   ·show _::iv s q l = _::iv s' q l;rw[ih]
   ·rename_i n _;have h1:=hl.1.1;simp only[lowV,decide_eq_true_eq]at h1;show s _::iv s q l=s' _::iv s' q l;rw[ih,h _ h1]
   ·cases h0
def val_low{j:Nat}{s s':Nat->Nat}(h:∀n,n<1000*j->s n=s' n){d:Bd}(hd:lowB j d=true):val s q d=val s' q d:=by
 cases d with
 | hm a b=>
  simp only[lowB,yam]at hd;simp only[val,zlZ h hd.1,zlZ h hd.2]
 | ex a b n=>
  simp only[lowB,yam]at hd;simp only[val,zlZ h hd.1,zlZ h hd.2]
 | se i k a c m p=>
  simp only[lowB,yam]at hd;simp only[val,zlZ h hd.2.2.1,zlZ h hd.2.2.2.1,zlZ h hd.2.2.2.2]
def lowL_d{j:Nat}{l:List V}(h:lowL j l=true):l.all bokd=true:=yaL.2 λx hx=>by
 have:=yaL.1 h x hx;simp only[yam]at this;exact this.2
def val_8{j:Nat}{s:Nat->Nat}(hs:SQ s q){d:Bd}(hd:lowB j d=true):Ok8 (val s q d):=by
 cases d with
 | hm a b=>exact zlu _ _ _
 | ex a b n=>exact Ok8.take (zjU kc _ _ _).1 _
 | se i k a c m p=>
  simp only[lowB,yam]at hd;simp only[val];cases hz:szs i with
  | none=>exact Ok8.nil
  | some x=>
   obtain⟨n,t⟩:=x;exact ztD (zmJ hz (yaz hd.2.1)).ws (iv_8 hs (lowL_d hd.2.2.2.2)).1
def sOf(q:Nat->List Nat):List Bd->Nat->(Nat->Nat)->Nat->Nat
 | [],_,s=>s
 | d::l,j,s=>sOf q l (j+1) λn=>if n/1000=j then (val s q d).getD (n%1000) 0 else s n
def zsF:∀(l:List Bd) (j:Nat) (s:Nat->Nat) (n:Nat),n<1000*j->sOf q l j s n=s n
 | [],j,s,n,h=>rfl
 | d::l,j,s,n,h=>by
  show sOf q l (j+1) _ n=s n;rw[zsF l (j+1) _ n (by omega),if_neg (by omega)]
def sOf_sq (hq8:∀n,Ok8 (q n)) (hql:∀n,(q n).length<=1048576):∀(l:List Bd) (j:Nat) (s:Nat->Nat),lowT j l=true->SQ s q->SQ (sOf q l j s) q
 | [],j,s,_,h=>h
 | d::l,j,s,hl,h=>by
  simp only[lowT,yam]at hl;refine sOf_sq hq8 hql l (j+1) _ hl.2 ⟨λn=>?_,hq8,hql⟩;show(if n/1000=j then (val s q d).getD (n%1000) 0 else s n)<256;split
  ·exact getD_lt (val_8 h hl.1) _
  ·exact h.s8 n
def sOf_v:∀(l:List Bd) (j:Nat) (s:Nat->Nat),lowT j l=true->∀i d,l[i]?=some d->∀k,k<1000->sOf q l j s (1000*(j+i)+k)=(val (sOf q l j s) q d).getD k 0
 | [],j,s,_,i,d,hi,k,hk=>by cases hi
 | d0::l,j,s,hl,0,d,hi,k,hk=>by
  simp only[lowT,yam]at hl;simp only[yaF,yaa]at hi;subst hi;have e1:sOf q (d0::l) j s (1000*(j+0)+k)=(val s q d0).getD k 0:=by
   show sOf q l (j+1) _ (1000*(j+0)+k) = _;rw[zsF l (j+1) _ _ (by omega),if_pos (by omega),show(1000*(j+0)+k)%1000=k by omega]
  rw[e1,val_low (j:=j) (s:=sOf q (d0::l) j s) (s':=s) (λn hn=>zsF (d0::l) j s n hn) hl.1]
 | d0::l,j,s,hl,i+1,d,hi,k,hk=>by
  simp only[lowT,yam]at hl;have:=sOf_v l (j+1) (λn=>if n/1000=j then (val s q d0).getD (n%1000) 0 else s n) hl.2 i d hi k hk;rw[show j+(i+1)=j+1+i by omega];exact this
def tab_ex{t:Tabs}(h:lowT 0 t.bs=true) (hq8:∀n,Ok8 (q n)) (hql:∀n,(q n).length<=1048576):∃s,TabV t s q:=
 ⟨sOf q t.bs 0 λ_=>0,sOf_sq hq8 hql _ _ _ h ⟨λ_=>by decide,hq8,hql⟩,λj d hd i _ hi=>by
  have:=sOf_v (q:=q) t.bs 0 (λ_=>0) h j d hd i hi
  rwa [ybe]at this⟩
def zxT{t:Tabs}{s:Nat->Nat}(h:TabV t s q){j:Nat}{b:Bd} (hb:t.bs[j]?=some b) {n:Nat} (hl:(val s q b).length=n) (h1:n<=1000):iv s q (syms j 0 n)=val s q b:=by
 have h2:=zmZ h (d:=⟨λ_=>0,λ_=>.any,s⟩) rfl hb (o:=0) (n:=n) (by omega) (by omega);have h3:=(iv_1 (d:=⟨λ_=>0,λ_=>.any,s⟩) (q:=q) (cs:=syms j 0 n) (yaL.2 λx hx=>by
  obtain⟨i,_,rfl⟩:=ya3.1 hx;rfl)).1
 rw[h2,yaC]at h3;exact((List.map_inj_right (λx y h=>by
  have:V.int .u8 (x:Nat)=V.int .u8 (y:Nat):=h;injection this with _ h
  omega)).1 h3).symm
def st_0{t:Tabs}{s:Nat->Nat}{ws:List V} (hw:∀(m:Nat) (v:V),ws[m]?=some v->∃l,t.ks[m]?=some (0,Kd.sl l)/\(∀H,By 0 H v (iv s q l))/\l.all bokd=true/\v.pid=none) (h0:0<t.ks.length) {H:Heap} (hc:H.Cl) :
  Y.St (tbOf t s q) ⟨⟨λ_=>0,λm=>(ws[m]?).getD .any,s⟩,λ_=>False,λm=>m<ws.length⟩ (Cc.hp (List.replicate t.ks.length none)).abs H:=by
 have hg:∀n i,(Cc.hp (List.replicate n none)).abs.get i=none:=λn=>by
  induction n with
  | zero=>intro i;rfl
  | succ n ih=>intro i;exact ih i
 have hn:∀n,(Cc.hp (List.replicate n none)).abs.next=n:=λn=>by rw[Cc.hp_next,yaH]
 refine⟨rfl,λi b hi=>(by rw[hg]at hi;cases hi),λi hi=>hi.elim,λi hi=>?_,by rw[hn];exact yaj _,λi j hi=>hi.elim,λi hi=>hi.elim,λd hd i b hi=>(by rw[hg]at hi;cases hi),λi hi=>hi.elim,hc,λi _ hi=>hi.elim,λi _ hi=>hi.elim,λi j _ _ hi=>hi.elim,λm _ hi=>hi.elim,λm hm=>?_⟩
 ·have hi:i<ws.length:=hi;obtain⟨l,h1,_⟩:=hw i _ (yaf hi);exact(yaB.1 h1).1
 ·have hm:m<ws.length:=hm;obtain⟨l,h1,h2,h3,h4⟩:=hw m _ (yaf hm);refine⟨?_,H.next,H,?_,yaj _,λi h5 h6=>by omega,λi h5 h6=>by omega⟩
  ·show(match t.ks[m]? with|some p=>p.1|none=>0) < _;rw[h1,hn];exact h0
  ·show(match t.ks[m]? with|some (_,.sl l)=>By H.next H ((ws[m]?).getD .any) (iv s q l)/\l.all bokd=true | _=>False);rw[h1,yaf hm];exact⟨⟨(h2 H).rc,λi hi=>(by rw[yaG]at hi;rw[h4]at hi;cases hi),(h2 H).cap⟩,h3⟩
end
end Go.Ax.SU
/- Lk3 -/
namespace Go.Ax.SU
open Go.Ax
def bl(n:Nat):Nat:=if n=0 then 0 else n.log2+1
def bl_div(n:Nat)(h:0<n):bl n=bl (n/2)+1:=by
 unfold bl;rw[if_neg (by omega)];by_cases e:n/2=0
 ·rw[if_pos e];have:n=1:=by omega
  subst this;rfl
 ·rw[if_neg e,Nat.log2_def,if_pos (by omega)]
def lt_bl(n:Nat):n<2 ^ bl n:=by
 unfold bl;split
 ·omega
 ·exact Nat.lt_log2_self
def bl_le(n:Nat)(h:0<n):2 ^ (bl n-1)<=n:=by
 unfold bl;rw[if_neg (by omega)];exact Nat.log2_self_le (by omega)
def zdq(n k:Nat):bl n<=k<->n<2 ^ k:=by
 constructor
 ·intro h;exact yak (lt_bl n) (ybF (by decide) h)
 ·intro h;by_cases h0:n=0
  ·subst h0;simp[bl]
  ·by_cases hk:bl n<=k
   ·exact hk
   ·have h1:=bl_le n (by omega);have:2 ^ k<=2 ^ (bl n-1):=ybF (by decide) (by omega);omega
def zlR(x:Nat)(h:x<256):Ax.sindex (.str zcb) (.int .u8 (x:Int))=some (.int .u8 (bl x:Nat)):=by
 have key:∀y:Fin 256,(zcb[y.val]?).map UInt8.toNat=some (bl y.val):=by decide +kernel
 have:=key ⟨x,h⟩;simp only[Ax.sindex];rw[if_pos (by omega)];simp only[yao];cases ht:zcb[x]? with
 | none=>rw[ht]at this;cases this
 | some b=>rw[ht]at this;simp only[yar,yaa]at this ⊢;rw[this]
def ztm(n k m:Nat)(hm:m=2 ^ k)(h:0<n/m):bl n=bl (n/m)+k:=by
 subst hm
 induction k with
 | zero=>simp
 | succ k ih=>
  have e:n/2 ^ (k+1)=(n/2 ^ k)/2:=by rw[ybx,ycj]
  rw[e]at h ⊢;have h':0<n/2 ^ k:=by omega
  rw[ih h',bl_div _ h'];omega
def len64(n:Nat)(h:n<18446744073709551616):sem T zcS [.int .u64 n]=M.pure (.int .i64 (bl n:Nat)):=by
 refine zgE λH=>?_;refine zkp ?_;unfold zgX uL uB uR uK uc uq ug;simp(disch:=omega)only[↓RD,RZ,eq_self,seval];refine zcm (λh1=>?_) (λh1=>?_)
 ·have b1:=ztm n 32 4294967296 rfl (by omega);simp(disch:=omega)only[↓RD,RZ,eq_self,seval];refine zcm (λh2=>?_) (λh2=>?_)
  ·have b2:=ztm (n/4294967296) 16 65536 rfl (by omega);simp(disch:=omega)only[↓RD,RZ,eq_self,seval];refine zcm (λh3=>?_) (λh3=>?_)
   ·have b3:=ztm (n/4294967296/65536) 8 256 rfl (by omega);have b8:bl (n/4294967296/65536/256)<=8:=(zdq _ 8).2 (by omega);simp(disch:=omega)only[↓RD,RZ,eq_self,seval,zlR];congr 1;omega
   ·have b8:bl (n/4294967296/65536)<=8:=(zdq _ 8).2 (by omega);simp(disch:=omega)only[↓RD,RZ,eq_self,seval,zlR];congr 1;omega
  ·simp(disch:=omega)only[↓RD,RZ,eq_self,seval];refine zcm (λh3=>?_) (λh3=>?_)
   ·have b3:=ztm (n/4294967296) 8 256 rfl (by omega);have b8:bl (n/4294967296/256)<=8:=(zdq _ 8).2 (by omega);simp(disch:=omega)only[↓RD,RZ,eq_self,seval,zlR];congr 1;omega
   ·have b8:bl (n/4294967296)<=8:=(zdq _ 8).2 (by omega);simp(disch:=omega)only[↓RD,RZ,eq_self,seval,zlR];congr 1;omega
 ·simp(disch:=omega)only[↓RD,RZ,eq_self,seval];refine zcm (λh2=>?_) (λh2=>?_)
  ·have b2:=ztm n 16 65536 rfl (by omega);simp(disch:=omega)only[↓RD,RZ,eq_self,seval];refine zcm (λh3=>?_) (λh3=>?_)
   ·have b3:=ztm (n/65536) 8 256 rfl (by omega);have b8:bl (n/65536/256)<=8:=(zdq _ 8).2 (by omega);simp(disch:=omega)only[↓RD,RZ,eq_self,seval,zlR];congr 1;omega
   ·have b8:bl (n/65536)<=8:=(zdq _ 8).2 (by omega);simp(disch:=omega)only[↓RD,RZ,eq_self,seval,zlR];congr 1;omega
  ·simp(disch:=omega)only[↓RD,RZ,eq_self,seval];refine zcm (λh3=>?_) (λh3=>?_)
   ·have b3:=ztm n 8 256 rfl (by omega);have b8:bl (n/256)<=8:=(zdq _ 8).2 (by omega);simp(disch:=omega)only[↓RD,RZ,eq_self,seval,zlR];congr 1;omega
   ·have b8:bl (n)<=8:=(zdq _ 8).2 (by omega);simp(disch:=omega)only[↓RD,RZ,eq_self,seval,zlR];congr 1;omega
def wsv(w:WS):V:=.agg [.bool w.1,.int .u64 (w.2.1:Nat),.int .u64 (w.2.2:Nat)]
def wsR(w:WS):Prop:=w.2.1<18446744073709551616/\w.2.2<18446744073709551616
def zqm(w:WS):Bool:=if w.1 then decide (w.2.2%2=1)&&decide (bl w.2.2<=w.2.1+1) else decide (w.2.1=0)&&decide (w.2.2=0)
def mayW(w:WS)(n:Nat):Nat:=if zqm w=false then 1 else if w.1=false\/w.2.1<n then 0 else if 64<=w.2.1-n\/shr w.2.2 (w.2.1-n)%2=1 then 9 else 0
def zhY(w:WS)(n:Nat):WS:=if w.1=false then (true,n,1) else if w.2.1<n then (true,n,w.2.2*2 ^ min (n-w.2.1) 64%18446744073709551616 ||| 1) else (true,w.2.1,w.2.2 ||| 2 ^ (w.2.1-n))
def zx3{H:Heap}{w:WS}(hw:wsR w):Ok (sem T zeo [wsv w]) H λr H'=>r = .bool (zqm w)/\Grow H H':=by
 refine zov ?_;unfold zkN uL uS uFM uB uG uH uO uU uZ uR uq;obtain⟨a,hi,se⟩:=w;obtain⟨h1,h2⟩:=hw;dsimp only at h1 h2;have s1:=Grow.new H ⟨zan,[.bool a,.int .u64 (hi:Nat),.int .u64 (se:Nat)],none⟩;unfold wsv;cases a with
 | false=>
  have e:Ax.eqr (.st [.bool,.int,.int]) false (.agg [.bool false,.int .u64 (hi:Nat),.int .u64 (se:Nat)]) (.agg [.bool false,.int .u64 0,.int .u64 0])=some (.bool (zqm (false,hi,se))):=by
   have d1:(((hi:Nat):Int)==0)=decide (hi=0):=by
    by_cases h:hi=0
    ·subst h;rfl
    ·rw[decide_eq_false h];have:¬((hi:Nat):Int)=0:=by omega
     simpa using this
   have d2:(((se:Nat):Int)==0)=decide (se=0):=by
    by_cases h:se=0
    ·subst h;rfl
    ·rw[decide_eq_false h];have:¬((se:Nat):Int)=0:=by omega
     simpa using this
   simp only[Ax.eqr,eqv,zaN,if_true,yar,zqm,yaR,if_false,beq_self_eq_true,ycu,yaJ,d1,d2]
  simp(disch:=first|omega|(simp only[RY]<;>omega)|decide)only[↓RD,RZ,eq_self,seval,e];exact s1
 | true=>
  have hb:=len64 se h2;have l1:bl se<=64:=(zdq _ _).2 (by omega);by_cases h:se%2=1
  ·have c1:(((se &&& 1:Nat):Int)==1)=true:=by rw[ycE,h];rfl
   have b1:1<=bl se:=by
    have:=(zdq se 0);omega
   have w1:IntKind.u64.wrap ((bl se:Nat):Int)=((bl se:Nat):Int):=by rw[wrap_u64];omega
   have w2:IntKind.u64.wrap (((bl se:Nat):Int)-1)=((bl se-1:Nat):Int):=by rw[wrap_u64];omega
   have g:zqm (true,hi,se)=decide (bl se-1<=hi):=by
    simp only[zqm,if_true,h,decide_true,ycu];exact decide_eq_decide.2 (by omega)
   have d:decide (((bl se-1:Nat):Int)<=((hi:Nat):Int))=decide (bl se-1<=hi):=decide_eq_decide.2 (by omega);simp(disch:=first|omega|(simp only[RY]<;>omega)|decide)only[↓RD,RZ,eq_self,seval,c1,hb,w1,w2,g,d];exact s1
  ·have c1:(((se &&& 1:Nat):Int)==1)=false:=by rw[ycE,show se%2=0 by omega];rfl
   have g:zqm (true,hi,se)=false:=by simp only[zqm,if_true,decide_eq_false h,ycI]
   simp(disch:=first|omega|(simp only[RY]<;>omega)|decide)only[↓RD,RZ,eq_self,seval,c1,g];exact s1
def zt4{H:Heap}{w:WS}{n:Nat}(hw:wsR w)(hn:n<18446744073709551616):Ok (sem T zdR [wsv w,.int .u64 (n:Nat)]) H λr H'=>r = .int .i64 (mayW w n:Nat)/\Grow H H':=by
 refine zp6 ?_;unfold zl3 uL uS uFM uB uG uH uO uA uR uK uc uq;have hgw:=λH=>@zx3 H w hw;obtain⟨a,hi,se⟩:=w;obtain⟨h1,h2⟩:=hw;dsimp only at h1 h2;have s1:=Grow.new H ⟨zan,[.bool a,.int .u64 (hi:Nat),.int .u64 (se:Nat)],none⟩;have g1:(H.new ⟨zan,[.bool a,.int .u64 (hi:Nat),.int .u64 (se:Nat)],none⟩).get H.next=some ⟨zan,[.bool a,.int .u64 (hi:Nat),.int .u64 (se:Nat)],none⟩:=zae _ _;have n1:(H.new ⟨zan,[.bool a,.int .u64 (hi:Nat),.int .u64 (se:Nat)],none⟩).next=H.next+1:=zac _ _;unfold wsv;dsimp only;simp(maxSteps:=1000000) (disch:=first|omega|(simp only[RY]<;>omega)|decide)only[↓RD,RZ,eq_self,Int.reduceToNat,Int.reduceAdd,Int.reduceSub,Int.reduceMul,Nat.reduceAdd,Nat.reduceSub,Nat.reduceMul,Nat.reduceDiv,Nat.reduceMod,Nat.reduceBEq,Nat.reduceLeDiff];generalize hq:H.next=q at *;generalize H.new _=H1 at *;refine zaf (hgw H1) ?_;rintro _ H2 ⟨rfl,s2⟩;have g2:=(s2.same q (by omega)).trans g1;have s12:=s1.trans s2;cases hg:zqm (a,hi,se) with
 | false=>
  have e:mayW (a,hi,se) n=1:=by simp only[mayW,hg,if_true]
  simp(maxSteps:=1000000) (disch:=first|omega|(simp only[RY]<;>omega)|decide)only[↓RD,RZ,eq_self,Int.reduceToNat,Int.reduceAdd,Int.reduceSub,Int.reduceMul,Nat.reduceAdd,Nat.reduceSub,Nat.reduceMul,Nat.reduceDiv,Nat.reduceMod,Nat.reduceBEq,Nat.reduceLeDiff,e];exact⟨rfl,s12⟩
 | true=>
  cases a with
  | false=>
   have e:mayW (false,hi,se) n=0:=by simp[mayW,hg]
   simp(maxSteps:=1000000) (disch:=first|omega|(simp only[RY]<;>omega)|decide)only[↓RD,RZ,eq_self,Int.reduceToNat,Int.reduceAdd,Int.reduceSub,Int.reduceMul,Nat.reduceAdd,Nat.reduceSub,Nat.reduceMul,Nat.reduceDiv,Nat.reduceMod,Nat.reduceBEq,Nat.reduceLeDiff,g2,e];exact⟨rfl,s12⟩
  | true=>
   by_cases h3:hi<n
   ·have e:mayW (true,hi,se) n=0:=by simp[mayW,hg,h3]
    have d:decide (hi<n)=true:=decide_eq_true h3;simp(maxSteps:=1000000) (disch:=first|omega|(simp only[RY]<;>omega)|decide)only[↓RD,RZ,eq_self,Int.reduceToNat,Int.reduceAdd,Int.reduceSub,Int.reduceMul,Nat.reduceAdd,Nat.reduceSub,Nat.reduceMul,Nat.reduceDiv,Nat.reduceMod,Nat.reduceBEq,Nat.reduceLeDiff,g2,d,e];exact⟨rfl,s12⟩
   ·have d:decide (hi<n)=false:=decide_eq_false h3;have w1:IntKind.u64.wrap (((hi:Nat):Int)-((n:Nat):Int))=((hi-n:Nat):Int):=by rw[wrap_u64];omega
    by_cases h4:64<=hi-n
    ·have e:mayW (true,hi,se) n=9:=by simp[mayW,hg,h3,h4]
     have d4:decide (64<=hi-n)=true:=decide_eq_true h4;have d4':decide ((64:Int)<=((hi-n:Nat):Int))=true:=decide_eq_true (by omega);simp(maxSteps:=1000000) (disch:=first|omega|(simp only[RY]<;>omega)|decide)only[↓RD,RZ,eq_self,Int.reduceToNat,Int.reduceAdd,Int.reduceSub,Int.reduceMul,Nat.reduceAdd,Nat.reduceSub,Nat.reduceMul,Nat.reduceDiv,Nat.reduceMod,Nat.reduceBEq,Nat.reduceLeDiff,g2,d,w1,d4,d4',e];exact⟨rfl,s12⟩
    ·have hb:shr se (hi-n)<18446744073709551616:=ydc (zwL _ _) h2;have d4:decide (64<=hi-n)=false:=decide_eq_false h4;have d4':decide ((64:Int)<=((hi-n:Nat):Int))=false:=decide_eq_false (by omega);by_cases h5:shr se (hi-n)%2=1
     ·have e:mayW (true,hi,se) n=9:=by simp[mayW,hg,h3,h5]
      have c1:(((shr se (hi-n) &&& 1:Nat):Int)==1)=true:=by rw[ycE,h5];rfl
      simp(maxSteps:=1000000) (disch:=first|omega|(simp only[RY]<;>omega)|decide)only[↓RD,RZ,eq_self,Int.reduceToNat,Int.reduceAdd,Int.reduceSub,Int.reduceMul,Nat.reduceAdd,Nat.reduceSub,Nat.reduceMul,Nat.reduceDiv,Nat.reduceMod,Nat.reduceBEq,Nat.reduceLeDiff,g2,d,w1,d4,d4',c1,e];exact⟨rfl,s12⟩
     ·have e:mayW (true,hi,se) n=0:=by simp[mayW,hg,h3,h4,h5]
      have c1:(((shr se (hi-n) &&& 1:Nat):Int)==1)=false:=by rw[ycE,show shr se (hi-n)%2=0 by omega];rfl
      simp(maxSteps:=1000000) (disch:=first|omega|(simp only[RY]<;>omega)|decide)only[↓RD,RZ,eq_self,Int.reduceToNat,Int.reduceAdd,Int.reduceSub,Int.reduceMul,Nat.reduceAdd,Nat.reduceSub,Nat.reduceMul,Nat.reduceDiv,Nat.reduceMod,Nat.reduceBEq,Nat.reduceLeDiff,g2,d,w1,d4,d4',c1,e];exact⟨rfl,s12⟩
def zt5{w:WS}{n:Nat}(h:mayW w n=0)(ha:w.1=true)(hn:¬w.2.1<n):¬64<=w.2.1-n:=by
 intro h4;unfold mayW at h;split at h
 ·cases h
 ·rw[if_neg (by simp[ha,hn]),if_pos (.inl h4)]at h;cases h
def shl_u64{a k:Nat}:Ax.bin .shl (.int .u64 (a:Nat)) (.int .u64 (k:Nat))=some (.int .u64 (a*2 ^ min k 64%18446744073709551616:Nat)):=by
 have h0:¬((k:Nat):Int)<0:=by omega
 simp only[Ax.bin,if_neg h0,wrap_u64,yao];have:((a:Nat):Int)*2 ^ min k 64=((a*2 ^ min k 64:Nat):Int):=by push_cast;rfl
 show some (V.int .u64 (((a:Nat):Int)*2 ^ min k 64%18446744073709551616)) = _;rw[this];rfl
def zxK{H:Heap}{w:WS}{n:Nat}(hw:wsR w)(hn:n<18446744073709551616):Ok (sem T zen [wsv w,.int .u64 (n:Nat)]) H λr H'=>Grow H H'/\(mayW w n=0->r = .tup [wsv (zhY w n),.int .i64 0])/\(mayW w n≠0->r = .tup [wsv (false,0,0),.int .i64 (mayW w n:Nat)]):=by
 refine zou ?_;unfold zkM uL uS uT uF uFM uB uO uA uR uK uc uq;have hgw:=λH=>@zt4 H w n hw hn;obtain⟨a,hi,se⟩:=w;obtain⟨h1,h2⟩:=hw;dsimp only at h1 h2;have s0:=Grow.new H ⟨zan,[.bool a,.int .u64 (hi:Nat),.int .u64 (se:Nat)],none⟩;have g0:(H.new ⟨zan,[.bool a,.int .u64 (hi:Nat),.int .u64 (se:Nat)],none⟩).get H.next=some ⟨zan,[.bool a,.int .u64 (hi:Nat),.int .u64 (se:Nat)],none⟩:=zae _ _;have n0:(H.new ⟨zan,[.bool a,.int .u64 (hi:Nat),.int .u64 (se:Nat)],none⟩).next=H.next+1:=zac _ _;unfold wsv;dsimp only;refine zaL (zdO rfl ?_);rw[zaA];generalize hq:H.next=q at *;generalize H.new _=H0 at *;refine zaL (zdO rfl ?_);rw[zaA];have s1:=s0.trans (Grow.new H0 ⟨zan,[.bool false,.int .u64 0,.int .u64 0],none⟩);have g1:=(zas H0 ⟨zan,[.bool false,.int .u64 0,.int .u64 0],none⟩ (i:=q) (by omega)).trans g0;have p1:(H0.new ⟨zan,[.bool false,.int .u64 0,.int .u64 0],none⟩).get H0.next=some ⟨zan,[.bool false,.int .u64 0,.int .u64 0],none⟩:=zae _ _;have n1:(H0.new ⟨zan,[.bool false,.int .u64 0,.int .u64 0],none⟩).next=q+2:=by rw[zac,n0]
 rw[n0]at *;generalize H0.new _=H1 at *;simp(maxSteps:=1000000) (disch:=first|omega|(simp only[RY]<;>omega)|decide)only[↓RD,RZ,eq_self,Int.reduceToNat,Int.reduceAdd,Int.reduceSub,Int.reduceMul,Nat.reduceAdd,Nat.reduceSub,Nat.reduceMul,Nat.reduceDiv,Nat.reduceMod,Nat.reduceBEq,Nat.reduceLeDiff,g1];refine zaf (hgw H1) ?_;rintro _ H2 ⟨rfl,s2⟩;have g2:=(s2.same q (by omega)).trans g1;have p2:=(s2.same (q+1) (by omega)).trans p1;have s12:=s1.trans s2;have n2:=s2.next;have fin:∀b,Grow H (H2.set (q+1) b):=λb=>s12.set (by omega) b;have fin2:∀b b',Grow H ((H2.set q b).set (q+1) b'):=λb b'=>(s12.set (by omega) b).set (by omega) b';by_cases hm:mayW (a,hi,se) n=0
 ·have e0:(((mayW (a,hi,se) n:Nat):Int) != 0)=false:=by rw[hm];rfl
  cases a with
  | false=>
   have em:zhY (false,hi,se) n=(true,n,1):=rfl;simp(maxSteps:=1000000) (disch:=first|omega|(simp only[RY]<;>omega)|decide)only[↓RD,RZ,eq_self,Int.reduceToNat,Int.reduceAdd,Int.reduceSub,Int.reduceMul,Nat.reduceAdd,Nat.reduceSub,Nat.reduceMul,Nat.reduceDiv,Nat.reduceMod,Nat.reduceBEq,Nat.reduceLeDiff,e0,g2,p2];exact⟨fin _,λ_=>by rw[em];rfl,λh=>absurd hm h⟩
  | true=>
   by_cases h3:hi<n
   ·have em:zhY (true,hi,se) n=(true,n,se*2 ^ min (n-hi) 64%18446744073709551616 ||| 1):=by simp[zhY,h3]
    have d:decide (hi<n)=true:=decide_eq_true h3;have w1:IntKind.u64.wrap (((n:Nat):Int)-((hi:Nat):Int))=((n-hi:Nat):Int):=by rw[wrap_u64];omega
    have sh:=@shl_u64 se (n-hi);have hb:se*2 ^ min (n-hi) 64%18446744073709551616<18446744073709551616:=ybf _ (by decide);generalize se*2 ^ min (n-hi) 64%18446744073709551616=z at *;simp(maxSteps:=1000000) (disch:=first|omega|(simp only[RY]<;>omega)|decide)only[↓RD,RZ,eq_self,Int.reduceToNat,Int.reduceAdd,Int.reduceSub,Int.reduceMul,Nat.reduceAdd,Nat.reduceSub,Nat.reduceMul,Nat.reduceDiv,Nat.reduceMod,Nat.reduceBEq,Nat.reduceLeDiff,e0,g2,p2,d,w1,sh];exact⟨fin _,λ_=>by rw[em],λh=>absurd hm h⟩
   ·have d:decide (hi<n)=false:=decide_eq_false h3;have h4:¬64<=hi-n:=zt5 hm rfl h3;have em:zhY (true,hi,se) n=(true,hi,se ||| 2 ^ (hi-n)):=by simp[zhY,h3]
    have w1:IntKind.u64.wrap (((hi:Nat):Int)-((n:Nat):Int))=((hi-n:Nat):Int):=by rw[wrap_u64];omega
    have sh:Ax.bin .shl (.int .u64 1) (.int .u64 (hi-n:Nat))=some (.int .u64 (2 ^ (hi-n):Nat)):=by
     have:=@shl_u64 1 (hi-n);rw[Nat.one_mul,ybc (by omega),yav (yak (yc3 (by decide) (show hi-n<64 by omega)) (by decide))]at this;exact this
    have hb:2 ^ (hi-n)<18446744073709551616:=yak (yc3 (by decide) (show hi-n<64 by omega)) (by decide);generalize 2 ^ (hi-n)=z at *;simp(maxSteps:=1000000) (disch:=first|omega|(simp only[RY]<;>omega)|decide)only[↓RD,RZ,eq_self,Int.reduceToNat,Int.reduceAdd,Int.reduceSub,Int.reduceMul,Nat.reduceAdd,Nat.reduceSub,Nat.reduceMul,Nat.reduceDiv,Nat.reduceMod,Nat.reduceBEq,Nat.reduceLeDiff,e0,g2,p2,d,w1,sh];exact⟨fin2 _ _,λ_=>by rw[em],λh=>absurd hm h⟩
 ·have e0:(((mayW (a,hi,se) n:Nat):Int) != 0)=true:=by
   have:¬((mayW (a,hi,se) n:Nat):Int)=0:=by omega
   simpa using this
  simp(maxSteps:=1000000) (disch:=first|omega|(simp only[RY]<;>omega)|decide)only[↓RD,RZ,eq_self,Int.reduceToNat,Int.reduceAdd,Int.reduceSub,Int.reduceMul,Nat.reduceAdd,Nat.reduceSub,Nat.reduceMul,Nat.reduceDiv,Nat.reduceMod,Nat.reduceBEq,Nat.reduceLeDiff,e0,p2];exact⟨fin _,λh=>absurd h hm,λ_=>rfl⟩
end Go.Ax.SU
/- Re21 -/
namespace Go.Ax.SU
open Go.Ax
end Go.Ax.SU
namespace Go.Ax
open SU
end Go.Ax
/- Lk5 -/
namespace Go.Ax.SU
open Go.Ax
abbrev SS:=Option (Ky×Int×Int×Nat)
def sndC(id slot:Int)(kv:V)(e st:Int)(kid c:Nat):List V:=[.int .i64 id,.int .i64 slot,kv,.int .i64 e,.int .i64 st,.int .u64 (kid:Nat),.int .u64 (c:Nat)]
def SndM(lo:Nat)(H:Heap)(s:Nat)(id slot:Int)(x:SS):Prop:=s<H.next /\
 match x with
 | none=>H.get s=some ⟨zaJ,sndC id slot .nilp 0 0 0 0,none⟩
 | some (K,e,st,c)=>c<18446744073709551616/\∃k,H.get s=some ⟨zaJ,sndC id slot (.ptr k 0) e st K.kid c,none⟩/\KeyM H k K/\zmA lo H k
def zmA.to{lo k:Nat}{H H':Heap}(h:zmA lo H k)(e:H'.get k=H.get k):zmA lo H' k:=λx y a av sv g=>h x y a av sv (e ▸ g)
def zmA.zero{k:Nat}{H:Heap}:zmA 0 H k:=λ_ _ _ _ _ _ _ _=>yaI _
def zmA.low{lo lo' k:Nat}{H:Heap}(h:zmA lo H k)(hl:lo'<=lo):zmA lo' H k:=λx y a av sv g j hj=>yay hl (h x y a av sv g j hj)
def KeyM.atL{lo:Nat}{S:List Nat}{H H':Heap}{k:Nat}{K:Ky}(h:KeyM H k K)(hl:zmA lo H k)(s:AtS S H H')(hS:∀i∈S,i<lo/\∃b,H.get i=some b/\b.ty≠zaO/\b.ty≠zaR/\b.ty≠zaw):KeyM H' k K/\H'.get k=H.get k:=by
 obtain⟨a,av,sv,h1,h2,h3,h4⟩:=h.mem;obtain⟨id,g1,g2,l1,l2,hw⟩:=h2;have hne:∀{i b},H.get i=some b->(b.ty=zaO\/b.ty=zaR\/b.ty=zaw)->i∉S:=λhb ho e=>by
  obtain⟨_,b',hb',o1,o2,o3⟩:=hS _ e;rw[hb]at hb';injection hb' with hb'
  subst hb';rcases ho with o|o|o
  ·exact o1 o
  ·exact o2 o
  ·exact o3 o
 have by':∀{v:V} {l:List Nat},By 0 H v l->(∀j,v.pid=some j->lo<=j)->By 0 H' v l:=λhv hj=>Lc.atS hv s λi hi e=>by
  have:=(hS _ e).1;have:=hj i hi;omega
 have hlo:=hl _ _ _ _ _ h1;have ek:=s.same k h.low (hne h1 (.inl rfl));refine⟨⟨h.good,⟨a,av,sv,ek.trans h1,⟨id,?_,?_,yak l1 s.next,yak l2 s.next,hw⟩,by' h3 λj hj=>hlo j (.inl hj),by' h4 λj hj=>hlo j (.inr hj)⟩,yak h.low s.next⟩,ek⟩
 ·rw[s.same a l1 (hne g1 (.inr (.inl rfl)))];exact g1
 ·rw[s.same id l2 (hne g2 (.inr (.inr rfl)))];exact g2
def zbx(H:Heap)(k:Nat)(a b:Option Blk):(H.set k a).set k b=H.set k b:=by
 unfold Heap.set;congr 1;funext i;dsimp only;split<;>rfl
def odd_snd(id slot:Int){kv:V}(e st:Int)(kid c:Nat)(hk:kv = .nilp\/∃k,kv = .ptr k 0):Odd ⟨zaJ,sndC id slot kv e st kid c,none⟩:=by
 refine⟨show zaJ≠zaO by decide,show zaJ≠zaR by decide,show zaJ≠zaw by decide,λv hv n e=>?_⟩;subst e;unfold sndC at hv;rcases hk with rfl|⟨k,rfl⟩<;>simp at hv
def SndM.grow{lo:Nat}{H H':Heap}{s:Nat}{id slot:Int}{x:SS}(h:SndM lo H s id slot x)(g:Grow H H'):SndM lo H' s id slot x:=by
 obtain⟨h0,h1⟩:=h;refine⟨yak h0 g.next,?_⟩;cases x with
 | none=>exact(g.same s h0).trans h1
 | some q=>
  obtain⟨K,e,st,c⟩:=q;obtain⟨h2,k,h3,h4,h5⟩:=h1;exact⟨h2,k,(g.same s h0).trans h3,h4.grow g,h5.to (g.same k h4.low)⟩
def SndM.atS{lo:Nat}{S:List Nat}{H H':Heap}{s:Nat}{id slot:Int}{x:SS}(h:SndM lo H s id slot x)(g:AtS S H H')(hs:s∉S)(hS:∀i∈S,∃b,H.get i=some b/\Odd b):SndM lo H' s id slot x:=by
 obtain⟨h0,h1⟩:=h;refine⟨yak h0 g.next,?_⟩;cases x with
 | none=>exact(g.same s h0 hs).trans h1
 | some q=>
  obtain⟨K,e,st,c⟩:=q;obtain⟨h2,k,h3,h4,h5⟩:=h1;have hk:k∉S:=λe=>by
   obtain⟨a,av,sv,m1,_⟩:=h4.mem;obtain⟨b,hb,ho⟩:=hS k e;rw[m1]at hb;injection hb with hb;subst hb;exact ho.1 rfl
  exact⟨h2,k,(g.same s h0 hs).trans h3,h4.atS g hS,h5.to (g.same k h4.low hk)⟩
def SndM.atL{lo:Nat}{S:List Nat}{H H':Heap}{s:Nat}{id slot:Int}{x:SS}(h:SndM lo H s id slot x)(g:AtS S H H')(hs:s∉S)(hS:∀i∈S,i<lo/\∃b,H.get i=some b/\b.ty≠zaO/\b.ty≠zaR/\b.ty≠zaw):SndM lo H' s id slot x:=by
 obtain⟨h0,h1⟩:=h;refine⟨yak h0 g.next,?_⟩;cases x with
 | none=>exact(g.same s h0 hs).trans h1
 | some q=>
  obtain⟨K,e,st,c⟩:=q;obtain⟨h2,k,h3,h4,h5⟩:=h1;obtain⟨h6,h7⟩:=h4.atL h5 g hS;exact⟨h2,k,(g.same s h0 hs).trans h3,h6,h5.to h7⟩
def sealS(x:SS)(p:List Nat):SS:=
 match x with
 | none=>none
 | some (K,e,st,c)=>if 1000<p.length then some (K,e,st,c) else some (K,e,st,(c+1)%18446744073709551616)
def SealS_ok{ll lo1 lo2 s:Nat}{H:Heap}{id slot:Int}{x:SS}{mv pv:V}{m p:List Nat}(hx:SndM ll H s id slot x)(hm:By lo1 H mv m)(m8:Ok8 m)(hp:By lo2 H pv p)(p8:Ok8 p)(hml:m.length<=274877906944)(hpl:p.length<=1099511627776) :
  Ok (sem T zcG [.ptr s 0,mv,pv]) H λr H'=>SndM ll H' s id slot (sealS x p)/\AtS [s] H H' /\
   match x with
   | none=>r = .tup [.nils,.int .i64 10]
   | some (K,e,st,c)=>if 1000<p.length then r = .tup [.nils,.int .i64 4] else ∃v,r = .tup [v,.int .i64 0]/\By H.next H' v (zcr K c m p):=by
 refine zjQ ?_;unfold zgh uL uT uNFM uNF uE uB uA uR uK uc uq;obtain⟨x0,hx1⟩:=hx;cases x with
 | none=>
  have hx1:H.get s=some ⟨zaJ,sndC id slot .nilp 0 0 0 0,none⟩:=hx1;have hx2:=hx1;unfold sndC at hx1;simp(disch:=omega)only[↓RD,RZ,hx1];exact⟨⟨x0,hx2⟩,AtS.refl _ _⟩
 | some q=>
  obtain⟨K,e0,st0,c0⟩:=q;obtain⟨hc,k0,hx1,hkm,hkl⟩:=hx1;have hx2:=hx1;unfold sndC at hx1;simp(disch:=omega)only[↓RD,RZ,hx1];refine zaf (Seal_ok hkm hc hm m8 hp p8 hml hpl) ?_;rintro _ H1 ⟨s1,h1⟩;have g1:=(s1.same s x0).trans hx1;have g2:=(s1.same s x0).trans hx2;have n1:=s1.next;split at h1
  ·rename_i h3;subst h1;simp(disch:=omega)only[↓RD,RZ];refine⟨?_,Grow.atS s1 _,?_⟩
   ·unfold sealS;dsimp only;rw[if_pos h3];exact⟨by omega,hc,k0,g2,hkm.grow s1,hkl.to (s1.same k0 hkm.low)⟩
   ·rw[if_pos h3];trivial
  ·rename_i h3;obtain⟨v,rfl,hv⟩:=h1;have w1:IntKind.u64.wrap (((c0:Nat):Int)+1)=(((c0+1)%18446744073709551616:Nat):Int):=by rw[wrap_u64];omega
   simp(disch:=omega)only[↓RD,RZ,eq_self,seval,g1,w1];have a1:AtS [s] H (H1.set s (some ⟨zaJ,sndC id slot (.ptr k0 0) e0 st0 K.kid ((c0+1)%18446744073709551616),none⟩)):=(Grow.atS s1 _).trans (AtS.set _ (by simp) _);refine⟨?_,a1,?_⟩
   ·unfold sealS;dsimp only;rw[if_neg h3];have hks:k0≠s:=λe=>by
     obtain⟨a,av,sv,m1,_⟩:=hkm.mem;rw[e,hx2]at m1;injection m1 with m1
     injection m1 with m1
     exact absurd m1 (show zaJ≠zaO by decide)
    refine⟨by rw[zal];omega,ybf _ (by decide),k0,zah _ _ _,?_,hkl.to ((zai _ _ hks).trans (s1.same k0 hkm.low))⟩;exact(hkm.grow s1).atS (AtS.set (S:=[s]) H1 (by simp) _) λi hi=>by
     simp only[yas]at hi;subst hi;exact⟨_,g2,odd_snd _ _ _ _ _ _ (.inr ⟨k0,rfl⟩)⟩
   ·rw[if_neg h3];exact⟨v,rfl,Lc.atS hv (AtS.set (S:=[s]) H1 (by simp) _) λi hi e=>by
     simp only[yas]at e;subst e;have:=(hv.own i hi).1;omega⟩
def Apf.ty{ty e lo n:Nat}{H:Heap}{v:V}{cs:List V}(h:Apf ty e lo H v cs n):∀i,v.pid=some i->∃b,H.get i=some b/\b.ty=ty:=by
 intro i hi;cases h with
 | full h _ _ _=>simp only[V.pid,yaa]at hi;subst hi;exact⟨_,h,rfl⟩
 | app h=>
  cases h with
  | lit h _ _=>simp only[V.pid,yaa]at hi;subst hi;exact⟨_,h,rfl⟩
  | opn h _=>
   rcases h with⟨rfl,_,_⟩|⟨id,rfl,h,_⟩
   ·cases hi
   ·simp only[V.pid,yaa]at hi;subst hi;exact⟨_,h,rfl⟩
def OddR(b:Blk):Prop:=Odd b/\b.ty≠zad/\b.ty≠zaX
structure ChainM (lo:Nat) (H:Heap) (q st:Nat) (base:List Nat):Prop where
 low:q<H.next
 lo':lo<=q
 mem:∃bv,H.get q=some ⟨zaX,[.int .i64 (st:Nat),bv],none⟩/\By lo H bv base/\∀i,bv.pid=some i->∃b,H.get i=some b/\b.ty=zad
 b8:Ok8 base
 bl:base.length<=1099511627
 st31:st<=31
def ChainM.atS{lo:Nat}{S:List Nat}{H H':Heap}{q st:Nat}{base:List Nat}(h:ChainM lo H q st base)(s:AtS S H H')(hS:∀i∈S,i<lo\/∃b,H.get i=some b/\OddR b):ChainM lo H' q st base:=by
 obtain⟨bv,h1,h2,h3⟩:=h.mem;have hq:q∉S:=λe=>by
  rcases hS q e with h4|⟨b,hb,ho⟩
  ·have:=h.lo';omega
  ·rw[h1]at hb;injection hb with hb;subst hb;exact ho.2.2 rfl
 have hv:∀i,bv.pid=some i->i∉S:=λi hi e=>by
  rcases hS i e with h4|⟨b,hb,ho⟩
  ·have:=(h2.own i hi).1;omega
  ·obtain⟨b',hb',ht⟩:=h3 i hi;rw[hb]at hb';injection hb' with hb';subst hb';exact ho.2.1 ht
 exact⟨yak h.low s.next,h.lo',⟨bv,(s.same q h.low hq).trans h1,Lc.atS h2 s hv,λi hi=>by
  obtain⟨b,hb,ht⟩:=h3 i hi;exact⟨b,(s.same i (h2.own i hi).2 (hv i hi)).trans hb,ht⟩⟩,h.b8,h.bl,h.st31⟩
def ChainM.grow{lo:Nat}{H H':Heap}{q st:Nat}{base:List Nat}(h:ChainM lo H q st base)(s:Grow H H'):ChainM lo H' q st base:=h.atS (Grow.atS s []) λi hi=>by simp at hi
structure Rc where
 id:Nat
 ch:List ((Int×Int)×(Nat×List Nat))
 win:List (Nat×WS)
 ks:List (Nat×Ky)
def Al{α β γ:Type}(P:β->γ->Prop):List (α×β)->List (α×γ)->Prop
 | [],[]=>True
 | p::l,q::m=>p.1=q.1/\P p.2 q.2/\Al P l m
 | _,_=>False
def Al.mono{α β γ:Type}{P Q:β->γ->Prop}(h:∀b c,P b c->Q b c):∀{l:List (α×β)} {m:List (α×γ)},Al P l m->Al Q l m
 | [],[],_=>trivial
 | _ :: _,_ :: _,⟨h1,h2,h3⟩=>⟨h1,h _ _ h2,Al.mono h h3⟩
 | [],_ :: _,h=>h.elim
 | _ :: _,[],h=>h.elim
def Al.len{α β γ:Type}{P:β->γ->Prop}:∀{l:List (α×β)} {m:List (α×γ)},Al P l m->l.length=m.length
 | [],[],_=>rfl
 | _ :: _,_ :: _,⟨_,_,h3⟩=>by rw[List.length_cons,List.length_cons,Al.len h3]
 | [],_ :: _,h=>h.elim
 | _ :: _,[],h=>h.elim
def Al.look{α β γ:Type}[DecidableEq α]{P:β->γ->Prop}(a:α):∀{l:List (α×β)} {m:List (α×γ)},Al P l m->(look a l=none/\look a m=none)\/∃x y,look a l=some x/\look a m=some y/\P x y
 | [],[],_=>.inl ⟨rfl,rfl⟩
 | (k,v)::l,(k',v')::m,⟨h1,h2,h3⟩=>by
  have h1:k=k':=h1;subst h1;simp only[SU.look];by_cases e:a=k
  ·rw[if_pos e,if_pos e];exact .inr ⟨_,_,rfl,rfl,h2⟩
  ·rw[if_neg e,if_neg e];exact Al.look a h3
 | [],_ :: _,h=>h.elim
 | _ :: _,[],h=>h.elim
def Al.put{α β γ:Type}[DecidableEq α]{P:β->γ->Prop}(a:α){x:β}{y:γ}(hp:P x y):∀{l:List (α×β)} {m:List (α×γ)},Al P l m->Al P (putl a x l) (putl a y m)
 | [],[],_=>⟨rfl,hp,trivial⟩
 | (k,v)::l,(k',v')::m,⟨h1,h2,h3⟩=>by
  have h1:k=k':=h1;subst h1;simp only[putl];by_cases e:a=k
  ·rw[if_pos e,if_pos e];exact⟨rfl,hp,h3⟩
  ·rw[if_neg e,if_neg e];exact⟨rfl,h2,Al.put a hp h3⟩
 | [],_ :: _,h=>h.elim
 | _ :: _,[],h=>h.elim
def mapv{α β:Type}(f:β->V) (l:List (α×β)):List (α×V):=l.map λp=>(p.1,f p.2)
def zkw{α β:Type}[DecidableEq α](f:β->V)(a:α):∀l:List (α×β),look a (mapv f l)=(look a l).map f
 | []=>rfl
 | (k,v)::l=>by
  show look a ((k,f v)::mapv f l) = _;simp only[look];split
  ·rfl
  ·exact zkw f a l
def zp2{α β:Type}[DecidableEq α](f:β->V)(a:α)(b:β):∀l:List (α×β),putl a (f b) (mapv f l)=mapv f (putl a b l)
 | []=>rfl
 | (k,v)::l=>by
  show putl a (f b) ((k,f v)::mapv f l) = _;simp only[putl];split
  ·rfl
  ·rw[zp2 f a b l];rfl
def ptrv(k:Nat):V:=.ptr k 0
def ztd{α:Type}{ek:α->V} {l:List (α×V)} (h1:∀a n,ek a≠.int .u8 n) (h2:∀p∈l,∀n,p.2≠.int .u8 n):∀v∈encM ek l,∀n,v≠.int .u8 n:=by
 intro v hv n;unfold encM at hv;obtain⟨p,hp,hv⟩:=List.mem_flatMap.1 hv;simp only[yau,yaw,or_false]at hv;rcases hv with rfl|rfl
 ·exact h1 _ _
 ·exact h2 p hp n
abbrev tyC:=zdL
abbrev tyW:=zfh
abbrev tyK:=zfR
def odd_c (l:List ((Int×Int)×Nat)):OddR ⟨tyC,encM eplc (mapv ptrv l),none⟩:=
 ⟨⟨show tyC≠zaO by decide,show tyC≠zaR by decide,show tyC≠zaw by decide,ztd (λ_ _ h=>by cases h) λp hp n h=>by
  obtain⟨q,_,rfl⟩:=ya3.1 hp;cases h⟩,show tyC≠zad by decide,show tyC≠zaX by decide⟩
def odd_w (l:List (Nat×WS)):OddR ⟨tyW,encM ekid (mapv wsv l),none⟩:=
 ⟨⟨show tyW≠zaO by decide,show tyW≠zaR by decide,show tyW≠zaw by decide,ztd (λ_ _ h=>by cases h) λp hp n h=>by
  obtain⟨q,_,rfl⟩:=ya3.1 hp;cases h⟩,show tyW≠zad by decide,show tyW≠zaX by decide⟩
def odd_k (l:List (Nat×Nat)):OddR ⟨tyK,encM ekid (mapv ptrv l),none⟩:=
 ⟨⟨show tyK≠zaO by decide,show tyK≠zaR by decide,show tyK≠zaw by decide,ztd (λ_ _ h=>by cases h) λp hp n h=>by
  obtain⟨q,_,rfl⟩:=ya3.1 hp;cases h⟩,show tyK≠zad by decide,show tyK≠zaX by decide⟩
structure RcM (H:Heap) (c:Nat) (R:Rc):Prop where
 top:c+4<=H.next
 rcd:H.get (c+3)=some ⟨zb9,[.int .i64 (R.id:Nat),.mp c,.mp (c+1),.mp (c+2)],none⟩
 ch:∃lc:List ((Int×Int)×Nat),H.get c=some ⟨tyC,encM eplc (mapv ptrv lc),none⟩/\Al (λq x=>ChainM (c+4) H q x.1 x.2) lc R.ch
 win:H.get (c+1)=some ⟨tyW,encM ekid (mapv wsv R.win),none⟩
 wr:∀p∈R.win,wsR p.2
 ks:∃lk:List (Nat×Nat),H.get (c+2)=some ⟨tyK,encM ekid (mapv ptrv lk),none⟩/\Al (λq x=>KeyM H q x) lk R.ks
def RcM.atS{S:List Nat}{H H':Heap}{c:Nat}{R:Rc}(h:RcM H c R)(s:AtS S H H')(hc:∀i∈S,i<c\/c+4<=i)(hS:∀i∈S,∃b,H.get i=some b/\OddR b):RcM H' c R:=by
 have ht:=h.top;have hn:∀i,c<=i->i<c+4->H'.get i=H.get i:=λi h1 h2=>s.same i (by omega) λe=>by have:=hc i e;omega
 obtain⟨lc,h1,h2⟩:=h.ch;obtain⟨lk,h3,h4⟩:=h.ks;exact⟨yay ht s.next,(hn _ (by omega) (by omega)).trans h.rcd,⟨lc,(hn _ (by omega) (by omega)).trans h1,h2.mono λ_ _ g=>g.atS s λi hi=>.inr (hS i hi)⟩,
  (hn _ (by omega) (by omega)).trans h.win,h.wr,⟨lk,(hn _ (by omega) (by omega)).trans h3,h4.mono λ_ _ g=>g.atS s λi hi=>by
   obtain⟨b,hb,ho⟩:=hS i hi;exact⟨b,hb,ho.1⟩⟩⟩
def RcM.grow{H H':Heap}{c:Nat}{R:Rc}(h:RcM H c R)(s:Grow H H'):RcM H' c R:=h.atS (Grow.atS s []) (λi hi=>by simp at hi) λi hi=>by simp at hi
def RcM.odd{H:Heap}{c:Nat}{R:Rc}(h:RcM H c R):∀i,c<=i->i<c+3->∃b,H.get i=some b/\OddR b:=by
 intro i h1 h2;obtain⟨lc,g1,_⟩:=h.ch;obtain⟨lk,g3,_⟩:=h.ks;have:i=c\/i=c+1\/i=c+2:=by omega
 rcases this with rfl|rfl|rfl
 ·exact⟨_,g1,odd_c _⟩
 ·exact⟨_,h.win,odd_w _⟩
 ·exact⟨_,g3,odd_k _⟩
def kok_plc(p:Int×Int):kok (.st [.int,.int]) (eplc p)=true:=rfl
def zqg(n:Nat):kok .int (ekid n)=true:=rfl
def zze{lo q st:Nat}{H:Heap}{base:List Nat}(h:ChainM lo H q st base):Ok (sem T zce [.ptr q 0]) H λr H'=>r = .int .i64 (st:Nat)/\H'=H:=by
 refine zil ?_;unfold zeT uNFM uR;obtain⟨bv,h1,h2,h3⟩:=h.mem;simp(disch:=omega)only[↓RD,RZ,h1]
def At_c_ok{lo q st n:Nat}{H:Heap}{base:List Nat}(h:ChainM lo H q st base)(hn:n<=31)(hst:st<=n):Ok (sem T zcF [.ptr q 0,.int .i64 (n:Nat)]) H λr H'=>∃v,r = .tup [v,.int .i64 0]/\By H.next H' v (zeI base (n-st))/\Grow H H':=by
 refine zjP ?_;unfold zgg uL uNFM uE uB uA uR uK uc;obtain⟨bv,h1,h2,h3⟩:=h.mem;have hw:=@zeR _ _ _ _ (@zqU H ((n:Nat):Int));rw[decide_eq_true (show 0<=((n:Nat):Int)/\((n:Nat):Int)<=31 by omega)]at hw;have d:decide (((n:Nat):Int)<((st:Nat):Int))=false:=decide_eq_false (by omega);have w1:IntKind.i64.wrap (((n:Nat):Int)-((st:Nat):Int))=((n-st:Nat):Int):=by rw[wrap_i64 (by omega) (by omega)];omega
 simp(disch:=omega)only[↓RD,RZ,hw,h1,d,w1];refine zaf (zv8 h2 h.b8 h.bl (by omega)) ?_;rintro _ H1 ⟨v,rfl,hv,s1⟩;simp(disch:=omega)only[↓RD,RZ];exact⟨v,rfl,hv,s1⟩
def keyR(R:Rc)(n t kid:Nat)(base:List Nat):Ky:=(look kid R.ks).getD (drv R.id kid n t base)
def zfU(R:Rc)(n t kid:Nat)(base:List Nat):Rc:=match look kid R.ks with|some _=>R|none=>{ R with ks:=putl kid (drv R.id kid n t base) R.ks }
def key_ok{lo c n t kid:Nat}{H:Heap}{R:Rc}{bv:V}{base:List Nat}(hR:RcM H c R) (hsz:szs R.id=some (n,t)) (hk:kid<18446744073709551616) (hb:By lo H bv base) (b8:Ok8 base) (bl:base.length<=1099511627776) :
  Ok (sem T zcn [.ptr (c+3) 0,.int .u64 (kid:Nat),bv]) H λr H'=>∃k,r = .tup [.ptr k 0,.int .i64 0]/\KeyM H' k (keyR R n t kid base)/\RcM H' c (zfU R n t kid base)/\AtS [c,c+1,c+2] H H':=by
 refine zjd ?_;unfold zfH uL uNFM uE uB uA uR uK uc;have hr:=hR.rcd;have htop:=hR.top;obtain⟨lk,h3,h4⟩:=hR.ks;simp(disch:=omega)only[↓RD,RZ,hr];refine zlo (ek:=ekid) (a:=kid) zqh (zqg _) h3 ?_;rw[zkw];rcases Al.look kid h4 with⟨a,b⟩|⟨k,K,a,b,hK⟩
 ·have e1:keyR R n t kid base=drv R.id kid n t base:=by unfold keyR;rw[b];rfl
  have e2:zfU R n t kid base = { R with ks:=putl kid (drv R.id kid n t base) R.ks }:=by unfold zfU;rw[b]
  have e3:Ax.eqr .ptr true (((none:Option Nat).map ptrv).getD .nilp) .nilp=some (.bool false):=rfl;rw[a,e1,e2];simp(disch:=omega)only[↓RD,RZ,e3,hr];refine zaf (zr3 hsz hk hb b8 bl) ?_;rintro _ H1 ⟨s1,k,rfl,hK,hlow⟩;have hR1:=hR.grow s1;have hr1:=hR1.rcd;have n1:=s1.next;simp(disch:=omega)only[↓RD,RZ,hr1];obtain⟨lk',h3',h4'⟩:=hR1.ks;refine zpc (ek:=ekid) (a:=kid) (v:=ptrv k) zqh (zqg _) h3' ?_;rw[zp2];simp(disch:=omega)only[↓RD,RZ];have a1:AtS [c,c+1,c+2] H1 (H1.set (c+2) (some ⟨tyK,encM ekid (mapv ptrv (putl kid k lk')),none⟩)):=AtS.set _ (by simp) _;have nn:∀i,i≠c+2->(H1.set (c+2) (some ⟨tyK,encM ekid (mapv ptrv (putl kid k lk')),none⟩)).get i=H1.get i:=λi hi=>zai _ _ hi;have hS:∀i∈[c,c+1,c+2],i<c+4\/∃b,H1.get i=some b/\OddR b:=λi hi=>by simp at hi;omega
  have hO:∀i∈[c,c+1,c+2],∃b,H1.get i=some b/\Odd b:=λi hi=>by
   obtain⟨b,hb,ho⟩:=hR1.odd i (by simp at hi;omega) (by simp at hi;omega);exact⟨b,hb,ho.1⟩
  obtain⟨lc,h1,h2⟩:=hR1.ch;refine⟨k,rfl,hK.atS a1 hO,⟨by rw[zal];omega,(nn _ (by omega)).trans hr1,⟨lc,(nn _ (by omega)).trans h1,h2.mono λ_ _ g=>g.atS a1 hS⟩,(nn _ (by omega)).trans hR1.win,hR1.wr,⟨putl kid k lk',zah _ _ _,?_⟩⟩,(Grow.atS s1 _).trans a1⟩;exact Al.put (P:=λq x=>KeyM (H1.set (c+2) (some ⟨tyK,encM ekid (mapv ptrv (putl kid k lk')),none⟩)) q x) kid (hK.atS a1 hO) (h4'.mono λ_ _ g=>g.atS a1 hO)
 ·have e1:keyR R n t kid base=K:=by unfold keyR;rw[b];rfl
  have e2:zfU R n t kid base=R:=by unfold zfU;rw[b]
  have e3:Ax.eqr .ptr true (.ptr k 0) .nilp=some (.bool true):=rfl;have e4:((some k:Option Nat).map ptrv).getD .nilp = .ptr k 0:=rfl;rw[a,e1,e2,e4];simp(disch:=omega)only[↓RD,RZ,e3];exact⟨k,rfl,hK,hR,AtS.refl _ _⟩
inductive GR
 | err (e:Nat)
 | got (e st sl c:Nat) (p:List Nat)
def grv(H0 H:Heap)(r:V):GR->Prop
 | .err e=>r = .tup [.agg [.int .i64 0,.int .i64 0,.int .i64 0,.int .u64 0,.nils],.int .i64 (e:Nat)]
 | .got e st sl c p=>∃v,r = .tup [.agg [.int .i64 (e:Nat),.int .i64 (st:Nat),.int .i64 (sl:Nat),.int .u64 (c:Nat),v],.int .i64 0]/\By H0.next H v p
def winR(R:Rc)(k:Nat):WS:=(look k R.win).getD (false,0,0)
def zfT(R:Rc)(n t:Nat)(m b:List Nat):Rc×GR:=
 match parse b with
 | .err e=>(R,.err e)
 | .ok k c _=>
  if 16777216<=k then (R,.err 2) else
  match look (((k/256:Nat):Int),((k%8:Nat):Int)) R.ch with
  | none=>(R,.err 10)
  | some (st,base)=>
   if k%256/8<st then (R,.err 10) else
   if mayW (winR R k) c≠0 then (R,.err (mayW (winR R k) c)) else
   match znk (keyR R n t k (zeI base (k%256/8-st))) b m with
   | .err e=>(zfU R n t k (zeI base (k%256/8-st)),.err e)
   | .ok p _=>({ zfU R n t k (zeI base (k%256/8-st)) with win:=putl k (zhY (winR R k) c) R.win },.got (k/256) (k%256/8) (k%8) c p)
def zxS(R:Rc)(n t kid:Nat)(base:List Nat):(zfU R n t kid base).win=R.win:=by unfold zfU;split<;>rfl
def zue(R:Rc)(n t kid:Nat)(base:List Nat):(zfU R n t kid base).ch=R.ch:=by unfold zfU;split<;>rfl
def zud(R:Rc)(n t kid:Nat)(base:List Nat):(zfU R n t kid base).id=R.id:=by unfold zfU;split<;>rfl
def zt8{α β:Type}[DecidableEq α]{a:α}{b:β}:∀{l:List (α×β)},look a l=some b->(a,b)∈l
 | [],h=>by cases h
 | (k,v)::l,h=>by
  simp only[look]at h;split at h
  ·rename_i e;subst e;injection h with h
   subst h;exact yaU
  ·exact yaS _ (zt8 h)
def zt3{α β:Type}[DecidableEq α]{a:α}{b:β}{p:α×β}:∀{l:List (α×β)},p∈putl a b l->p=(a,b)\/p∈l
 | [],h=>by simp[putl]at h;exact .inl h
 | (k,v)::l,h=>by
  simp only[putl]at h;split at h
  ·rcases yau.1 h with h|h
   ·exact .inl h
   ·exact .inr (yaS _ h)
  ·rcases yau.1 h with h|h
   ·exact .inr (h ▸ yaU)
   ·rcases zt3 h with h|h
    ·exact .inl h
    ·exact .inr (yaS _ h)
def winR_r{R:Rc}(h:∀p∈R.win,wsR p.2)(k:Nat):wsR (winR R k):=by
 unfold winR;cases hl:look k R.win with
 | none=>exact⟨by decide,by decide⟩
 | some w=>exact h _ (zt8 hl)
def markW_r{w:WS}{n:Nat}(hw:wsR w)(hn:n<18446744073709551616)(hm:mayW w n=0):wsR (zhY w n):=by
 obtain⟨a,hi,se⟩:=w;obtain⟨h1,h2⟩:=hw;dsimp only at h1 h2;unfold zhY;dsimp only;split
 ·exact⟨hn,show(1:Nat)<18446744073709551616 by decide⟩
 ·rename_i ha;have ha:a=true:=by simpa using ha
  subst ha;split
  ·exact⟨hn,yck (n:=64) (ybf _ (by decide)) (by decide)⟩
  ·rename_i h3;have h4:=zt5 hm rfl h3;dsimp only at h4;exact⟨h1,yck (n:=64) h2 (yc3 (by decide) (by omega))⟩
def ztR{b:List Nat}{e:Nat}(hp:parse b = .err e):e≠0:=by
 unfold parse at hp;split at hp
 ·injection hp with hp;omega
 ·dsimp only at hp;split at hp
  ·injection hp with hp;omega
  ·split at hp
   ·cases hp
   ·injection hp with hp;omega
def open_err{K:Ky}{b m:List Nat}{e:Nat}(h:znk K b m = .err e):e≠0:=by
 unfold znk at h;cases hp:parse b with
 | err e'=>rw[hp]at h;injection h with h;subst h;exact ztR hp
 | ok kid c n=>
  rw[hp]at h;dsimp only at h;split at h
  ·injection h with h;omega
  ·split at h
   ·injection h with h;omega
   ·split at h
    ·injection h with h;omega
    ·split at h
     ·cases h
     ·injection h with h;omega
def neqz{e:Nat}(h:e≠0):(((e:Nat):Int)==0)=false:=by
 have:¬((e:Nat):Int)=0:=by omega
 simpa using this
def AtS.setn{S:List Nat}{H H':Heap}(h:AtS S H H'){q:Nat}(hq:H.next<=q)(b:Option Blk):AtS S H (H'.set q b):=
 ⟨by rw[zal];exact h.next,λi hi hs=>by rw[zai _ _ (by omega)];exact h.same i hi hs⟩
def zxx{cs:List V}(h:∀v∈cs,∀n,v≠.int .u8 n):OddR ⟨zaP,cs,none⟩:=
 ⟨⟨show zaP≠zaO by decide,show zaP≠zaR by decide,show zaP≠zaw by decide,h⟩,show zaP≠zad by decide,show zaP≠zaX by decide⟩
def OpenR_ok{lo1 lo2 c n t:Nat}{H:Heap}{R:Rc}{mv bv:V}{m b:List Nat}(hR:RcM H c R) (hsz:szs R.id=some (n,t)) (hm:By lo1 H mv m) (m8:Ok8 m) (hb:By lo2 H bv b) (b8:Ok8 b) (ml:m.length<=274877906944) (bl:b.length<=1099511627776)
  (hmp:∀i,mv.pid=some i->i<c\/c+4<=i) (hbp:∀i,bv.pid=some i->i<c\/c+4<=i) :
  Ok (sem T zcg [.ptr (c+3) 0,mv,bv]) H λr H'=>grv H H' r (zfT R n t m b).2/\RcM H' c (zfT R n t m b).1/\AtS [c,c+1,c+2] H H':=by
 refine zin ?_;unfold zeV uL uM uS uT uNFM uNF uE uB uG uH uO uU uA uZ uR uc uq;have htop:=hR.top;refine zaL (zdO rfl ?_);rw[zaA];have s0:=Grow.new H ⟨zaP,[.int .i64 0,.int .i64 0,.int .i64 0,.int .u64 0,.nils],none⟩;have g0:(H.new ⟨zaP,[.int .i64 0,.int .i64 0,.int .i64 0,.int .u64 0,.nils],none⟩).get H.next=some ⟨zaP,[.int .i64 0,.int .i64 0,.int .i64 0,.int .u64 0,.nils],none⟩:=zae _ _;have n0:(H.new ⟨zaP,[.int .i64 0,.int .i64 0,.int .i64 0,.int .u64 0,.nils],none⟩).next=H.next+1:=zac _ _;generalize hq:H.next=q at *;generalize H.new _=H0 at *;have hR0:=hR.grow s0;have hb0:=hb.ext s0;have hm0:=hm.ext s0;have fin:∀(H1:Heap) (R1:Rc) (cs:List V),RcM H1 c R1->AtS [c,c+1,c+2] H H1->H1.get q=some ⟨zaP,[.int .i64 0,.int .i64 0,.int .i64 0,.int .u64 0,.nils],none⟩ ->
   RcM (H1.set q (some ⟨zaP,cs,none⟩)) c R1/\AtS [c,c+1,c+2] H (H1.set q (some ⟨zaP,cs,none⟩)):=λH1 R1 cs h1 h2 h3=>
  ⟨h1.atS (AtS.set (S:=[q]) H1 (by simp) _) (λi hi=>by simp at hi;omega) λi hi=>by
   simp only[yas]at hi;subst hi;exact⟨_,h3,zxx (by simp)⟩,h2.setn (by omega) _⟩
 have hpar:=@zeR _ _ _ _ (zpI hb0 b8 (by omega));cases hp:parse b with
 | err e=>
  have eo:zfT R n t m b=(R,.err e):=by unfold zfT;rw[hp]
  rw[hp]at hpar;have e0:=neqz (ztR hp);rw[eo];simp(disch:=first|omega|(simp only[RY]<;>omega)|decide)only[↓RD,RZ,eq_self,seval,hpar,phv,e0,ybb,g0];obtain⟨f1,f2⟩:=fin H0 R [.int .i64 0,.int .i64 0,.int .i64 0,.int .u64 0,.nils] hR0 (Grow.atS s0 _) g0;exact⟨rfl,f1,f2⟩
 | ok k ct hl=>
  rw[hp]at hpar;obtain⟨p1,p2,p3,p4⟩:=zxf hp b8;have hpt:=@zeR _ _ _ _ (@zrF H0 k p3);by_cases h1:16777216<=k
  ·have eo:zfT R n t m b=(R,.err 2):=by unfold zfT;rw[hp];dsimp only;rw[if_pos h1]
   have ep:zng k = .tup [.int .i64 0,.int .i64 0,.int .i64 0,.bool false]:=by unfold zng;rw[if_pos h1]
   rw[ep]at hpt;rw[eo];simp(disch:=first|omega|(simp only[RY]<;>omega)|decide)only[↓RD,RZ,eq_self,seval,hpar,phv,hpt,g0];obtain⟨f1,f2⟩:=fin H0 R [.int .i64 0,.int .i64 0,.int .i64 0,.int .u64 0,.nils] hR0 (Grow.atS s0 _) g0;exact⟨rfl,f1,f2⟩
  ·have ep:zng k = .tup [.int .i64 (k/256:Nat),.int .i64 (k%256/8:Nat),.int .i64 (k%8:Nat),.bool true]:=by unfold zng;rw[if_neg h1]
   rw[ep]at hpt;have hr0:=hR0.rcd;obtain⟨lc,c1,c2⟩:=hR0.ch;simp(disch:=first|omega|(simp only[RY]<;>omega)|decide)only[↓RD,RZ,eq_self,seval,hpar,phv,hpt,hr0];refine zlo (ek:=eplc) (a:=(((k/256:Nat):Int),((k%8:Nat):Int))) keq_plc (kok_plc _) c1 ?_;rw[zkw];rcases Al.look (((k/256:Nat):Int),((k%8:Nat):Int)) c2 with⟨a1,a2⟩|⟨y,x,a1,a2,hch⟩
   ·have eo:zfT R n t m b=(R,.err 10):=by unfold zfT;rw[hp];dsimp only;rw[if_neg h1,a2]
    have e3:((none:Option Nat).map ptrv).getD .nilp = .nilp:=rfl;rw[eo,a1,e3];simp(disch:=first|omega|(simp only[RY]<;>omega)|decide)only[↓RD,RZ,eq_self,seval,g0];obtain⟨f1,f2⟩:=fin H0 R [.int .i64 0,.int .i64 0,.int .i64 0,.int .u64 0,.nils] hR0 (Grow.atS s0 _) g0;exact⟨rfl,f1,f2⟩
   ·obtain⟨st,base⟩:=x;dsimp only at hch;have e3:((some y:Option Nat).map ptrv).getD .nilp = .ptr y 0:=rfl;have hst:=@zeR _ _ _ _ (zze hch);rw[a1,e3];by_cases h2:k%256/8<st
    ·have eo:zfT R n t m b=(R,.err 10):=by unfold zfT;rw[hp];dsimp only;rw[if_neg h1,a2];dsimp only;rw[if_pos h2]
     have d:decide (((k%256/8:Nat):Int)<((st:Nat):Int))=true:=decide_eq_true (by omega);have d':decide (k%256/8<st)=true:=decide_eq_true h2;rw[eo];simp(disch:=first|omega|(simp only[RY]<;>omega)|decide)only[↓RD,RZ,eq_self,seval,hst,d,d',g0];obtain⟨f1,f2⟩:=fin H0 R [.int .i64 0,.int .i64 0,.int .i64 0,.int .u64 0,.nils] hR0 (Grow.atS s0 _) g0;exact⟨rfl,f1,f2⟩
    ·have d:decide (((k%256/8:Nat):Int)<((st:Nat):Int))=false:=decide_eq_false (by omega);have d':decide (k%256/8<st)=false:=decide_eq_false h2;simp(disch:=first|omega|(simp only[RY]<;>omega)|decide)only[↓RD,RZ,eq_self,seval,hst,d,d',hr0];refine zlo (ek:=ekid) (a:=k) zqh (zqg _) hR0.win ?_;rw[zkw];have ew:((look k R.win).map wsv).getD (.agg [.bool false,.int .u64 0,.int .u64 0])=wsv (winR R k):=by unfold winR;cases look k R.win<;>rfl
     rw[ew];have hwr:=winR_r hR0.wr k;have gz:=zae H0 ⟨zan,[.bool false,.int .u64 0,.int .u64 0],none⟩;have sz:=Grow.new H0 ⟨zan,[.bool false,.int .u64 0,.int .u64 0],none⟩;have nz:(H0.new ⟨zan,[.bool false,.int .u64 0,.int .u64 0],none⟩).next=H0.next+1:=zac _ _;refine zaL (zdO rfl ?_);rw[zaA];generalize hqw:H0.next=q1 at *;generalize H0.new _=Hz at *;refine zaL (ztZ gz (by rfl) (by decide) (by rfl) ?_);have s1:Grow H0 (Hz.set q1 (some ⟨zan,[.bool (winR R k).1,.int .u64 ((winR R k).2.1:Nat),.int .u64 ((winR R k).2.2:Nat)],none⟩)):=sz.set (by omega) _;have g1:(Hz.set q1 (some ⟨zan,[.bool (winR R k).1,.int .u64 ((winR R k).2.1:Nat),.int .u64 ((winR R k).2.2:Nat)],none⟩)).get q1 = _:=zah _ _ _;have n1:(Hz.set q1 (some ⟨zan,[.bool (winR R k).1,.int .u64 ((winR R k).2.1:Nat),.int .u64 ((winR R k).2.2:Nat)],none⟩)).next=Hz.next:=rfl;show Ok _ (Hz.set q1 (some ⟨zan,[.bool (winR R k).1,.int .u64 ((winR R k).2.1:Nat),.int .u64 ((winR R k).2.2:Nat)],none⟩)) _;generalize hw:winR R k=W at *;generalize Heap.set Hz _ _=H1 at *;have hmay:=@zt4 H1 W ct hwr p4;obtain⟨wa,wh,ws⟩:=W;simp(disch:=first|omega|(simp only[RY]<;>omega)|decide)only[↓RD,RZ,eq_self,seval,g1];refine zaf hmay ?_;rintro _ H2 ⟨rfl,s2⟩;have s12:=s1.trans s2;have hR2:=hR0.grow s12;have g2:=(s12.same q (by omega)).trans g0;have gw2:=(s2.same q1 (by omega)).trans g1;have a02:=Grow.atS (s0.trans s12) [c,c+1,c+2];have n2:=s2.next;by_cases h3:mayW (wa,wh,ws) ct=0
     ·have e0:(((mayW (wa,wh,ws) ct:Nat):Int)==0)=true:=by rw[h3];rfl
      have hst31:k%256/8<=31:=by omega
      simp(disch:=first|omega|(simp only[RY]<;>omega)|decide)only[↓RD,RZ,eq_self,seval,e0,ybs];refine zaf (At_c_ok (hch.grow s12) hst31 (by omega)) ?_;rintro _ H3 ⟨v3,rfl,hv3,s3⟩;have n3:=s3.next;have B8:=zuE hch.b8 (k%256/8-st);have Bl:=zpF (m:=1099511627) hch.bl (by decide) (k%256/8-st);generalize hB:zeI base (k%256/8-st)=B at *;simp(disch:=first|omega|(simp only[RY]<;>omega)|decide)only[↓RD,RZ,eq_self,seval];refine zaf (key_ok (hR2.grow s3) hsz p3 hv3 B8 (by omega)) ?_;rintro _ H4 ⟨k4,rfl,hk4,hR4,a4⟩;have n4:=a4.next;have a04:=(a02.trans (Grow.atS s3 _)).trans a4;have nS:∀i,c+4<=i->i∉[c,c+1,c+2]:=λi hi=>by simp;omega
      have bS:∀{v:V},(∀i,v.pid=some i->i<c\/c+4<=i)->∀i,v.pid=some i->i∉[c,c+1,c+2]:=λh i hi=>by have:=h i hi;simp;omega
      have g4:=(a4.same q (by omega) (nS _ (by omega))).trans ((s3.same q (by omega)).trans g2);have gw4:=(a4.same q1 (by omega) (nS _ (by omega))).trans ((s3.same q1 (by omega)).trans gw2);have hb4:=Lc.atS ((hb0.ext s12).ext s3) a4 (bS hbp);have hm4:=Lc.atS ((hm0.ext s12).ext s3) a4 (bS hmp);simp(disch:=first|omega|(simp only[RY]<;>omega)|decide)only[↓RD,RZ,eq_self,seval];refine zaf (Open_ok hk4 hb4 b8 hm4 m8 ml bl) ?_;rintro _ H5 ⟨s5,h5⟩;have n5:=s5.next;have hR5:=hR4.grow s5;have g5:=(s5.same q (by omega)).trans g4;have gw5:=(s5.same q1 (by omega)).trans gw4;have a05:=a04.trans (Grow.atS s5 _);have eo0:zfT R n t m b=match znk (keyR R n t k B) b m with
        | .err e=>(zfU R n t k B,.err e)
        | .ok p _=>({ zfU R n t k B with win:=putl k (zhY (wa,wh,ws) ct) R.win },.got (k/256) (k%256/8) (k%8) ct p):=by
       unfold zfT;rw[hp];dsimp only;rw[if_neg h1,a2];dsimp only;rw[if_neg h2,hw,hB,if_neg (λh=>h h3)]
      cases hop:znk (keyR R n t k B) b m with
      | err e=>
       rw[hop]at h5 eo0;have h5:_ = _:=h5;subst h5;have e5:=neqz (open_err hop);rw[eo0];simp(disch:=first|omega|(simp only[RY]<;>omega)|decide)only[↓RD,RZ,eq_self,seval,e5,ybb,g5];obtain⟨f1,f2⟩:=fin H5 _ [.int .i64 0,.int .i64 0,.int .i64 0,.int .u64 0,.nils] hR5 a05 g5;exact⟨rfl,f1,f2⟩
      | ok p c'=>
       rw[hop]at h5 eo0;obtain⟨v5,rfl,hv5⟩:=h5;have hr5:=hR5.rcd;have hmk:=@zxK H5 (wa,wh,ws) ct hwr p4;rw[eo0];simp(disch:=first|omega|(simp only[RY]<;>omega)|decide)only[↓RD,RZ,eq_self,seval,hr5,gw5];refine zaf hmk ?_;rintro _ H6 ⟨s6,h6,-⟩;have h6:=h6 h3;subst h6;have n6:=s6.next;have hR6:=hR5.grow s6;have hr6:=hR6.rcd;have e6:H6.get (c+3)=H5.get (c+3):=s6.same _ (by omega);have g6:=(s6.same q (by omega)).trans g5;have hw6:=hR6.win;rw[zxS]at hw6;have m1:=markW_r (n:=ct) hwr p4 h3;simp(disch:=first|omega|(simp only[RY]<;>omega)|decide)only[↓RD,RZ,eq_self,seval,e6];refine zpc (ek:=ekid) (a:=k) (v:=wsv (zhY (wa,wh,ws) ct)) zqh (zqg _) hw6 ?_;rw[zp2];have a7:AtS [c,c+1,c+2] H6 (H6.set (c+1) (some ⟨tyW,encM ekid (mapv wsv (putl k (zhY (wa,wh,ws) ct) R.win)),none⟩)):=AtS.set _ (by simp) _;have g7:(H6.set (c+1) (some ⟨tyW,encM ekid (mapv wsv (putl k (zhY (wa,wh,ws) ct) R.win)),none⟩)).get (c+1) = _:=zah _ _ _;have nn:∀i,i≠c+1->(H6.set (c+1) (some ⟨tyW,encM ekid (mapv wsv (putl k (zhY (wa,wh,ws) ct) R.win)),none⟩)).get i=H6.get i:=λi hi=>zai _ _ hi;have n7:(H6.set (c+1) (some ⟨tyW,encM ekid (mapv wsv (putl k (zhY (wa,wh,ws) ct) R.win)),none⟩)).next=H6.next:=rfl;generalize Heap.set H6 _ _=H7 at *;have hS:∀i∈[c,c+1,c+2],i<c+4\/∃b,H6.get i=some b/\OddR b:=λi hi=>by simp at hi;omega
       have hO:∀i∈[c,c+1,c+2],∃b,H6.get i=some b/\Odd b:=λi hi=>by
        obtain⟨b,hb,ho⟩:=hR6.odd i (by simp at hi;omega) (by simp at hi;omega);exact⟨b,hb,ho.1⟩
       obtain⟨lc',x1,x2⟩:=hR6.ch;obtain⟨lk',x3,x4⟩:=hR6.ks;have hR7:RcM H7 c { zfU R n t k B with win:=putl k (zhY (wa,wh,ws) ct) R.win }:=
        ⟨by have:=hR6.top;omega,(nn _ (by omega)).trans hr6,⟨lc',(nn _ (by omega)).trans x1,x2.mono λ_ _ g=>g.atS a7 hS⟩,g7,λp hp=>by
         rcases zt3 hp with rfl|hp
         ·exact m1
         ·exact hR.wr p hp,⟨lk',(nn _ (by omega)).trans x3,x4.mono λ_ _ g=>g.atS a7 hO⟩⟩
       have gq7:=(nn q (by omega)).trans g6;have a07:=(a05.trans (Grow.atS s6 _)).trans a7;have hv7:=Lc.atS (hv5.ext s6) a7 λi hi=>nS i (by have:=(hv5.own i hi).1;omega);have vc:=hv7.cells1;have vo:=hv7.okc;simp(disch:=first|omega|(simp only[RY]<;>omega)|decide)only[↓RD,RZ,eq_self,seval,gq7,vc,vo];obtain⟨f1,f2⟩:=fin H7 _ [.int .i64 (k/256:Nat),.int .i64 (k%256/8:Nat),.int .i64 (k%8:Nat),.int .u64 (ct:Nat),v5] hR7 a07 gq7;refine⟨⟨v5,rfl,?_⟩,f1,f2⟩;exact(Lc.atS hv7 (AtS.set (S:=[q]) H7 (by simp) _) λi hi e=>by
        simp only[yas]at e;have:=(hv5.own i hi).1;omega).low (by omega)
     ·have eo:zfT R n t m b=(R,.err (mayW (wa,wh,ws) ct)):=by
       unfold zfT;rw[hp];dsimp only;rw[if_neg h1,a2];dsimp only;rw[if_neg h2,hw,if_pos h3]
      have e0:=neqz h3;rw[eo];simp(disch:=first|omega|(simp only[RY]<;>omega)|decide)only[↓RD,RZ,eq_self,seval,e0,ybb,g2];obtain⟨f1,f2⟩:=fin H2 R [.int .i64 0,.int .i64 0,.int .i64 0,.int .u64 0,.nils] hR2 a02 g2;exact⟨rfl,f1,f2⟩
end Go.Ax.SU
/- St1 -/
namespace Go.Ax.SU
open Go.Ax Go.Proofs
def hT:∀f ir,T f=some ir->ir.body.still=true:=λf ir h=>zlQ h
def rn0(n:Nat):Rn:=rnOf [] n ydu (λ_ h=>by cases h)
def clo_ok{f:FuncId}{args:List V}{m:Nat}{v:V}{l:List Nat} {os:List (Option Blk)} (h:Ax.look l (Cc.cd T m f args (Cc.hp []))=some (v,os)) (ha:V.stills args=true) {H:Heap} (hc:H.Cl) :
  Ok (sem T f args) H λr H'=>r=sh (rn0 H.next) v/\Grow H H'/\(∀j (hj:j<l.length),H'.get (H.next+l[j])=(os[j]?.join).map (shB (rn0 H.next)))/\H'.Cl:=by
 have:=zyV hT (s:=[]) (bs:=[]) h hc ydu (λ_ h=>by cases h) ⟨rfl,ydu,λ_ h=>(by cases h),λi hi=>absurd hi (Nat.not_lt_zero _)⟩ (λj _=>.inl (yaI j));rw[stills_sh args ha]at this;refine zao this ?_;rintro r H' ⟨rfl,h1,h2,h3,h4⟩;exact⟨rfl,⟨h1,λi hi=>h2 i hi λj hj=>absurd hj (Nat.not_lt_zero _)⟩,h3,h4⟩
def ztA:∀l:List Nat,V.stills (l.map by8)=true
 | []=>rfl
 | x::l=>by show((V.int .u8 (x:Nat)).still&&V.stills (l.map by8))=true;rw[ztA l];rfl
def ztX{β:Type}{H:Heap}{ty:TypeId}{zs:List V}{f:V->M β}{Q:β->Heap->Prop} (k:∀q H',q=H.next->H'.get q=some ⟨ty,zs,none⟩->Grow H H'->H'.next=H.next+1->(H.Cl->H'.Cl)->Ok (f (.ptr q 0)) H' Q):Ok ((mbox ty (.agg zs)).bind f) H Q:=by
 refine zaL (zdO rfl ?_);rw[zaA];exact k _ _ rfl (zae _ _) (Grow.new _ _) rfl λhc=>zeY hc _
def zrr{β:Type}{H:Heap}{ty:TypeId}{n:Nat}{zs cs:List V}{f:V->V->M β}{Q:β->Heap->Prop}(hc:H.Cl)(hz:zs.length=n)(hl:cs.length=n) (k:∀q H',q=H.next->H'.get q=some ⟨ty,cs,none⟩->Grow H H'->H'.next=H.next+1->H'.Cl->Ok (f (.ptr q 0) .undef) H' Q) :
  Ok ((mbox ty (.agg zs)).bind λt=>(mstore n t (.agg cs)).bind λu=>f t u) H Q:=by
 refine zaL (zdO rfl ?_);rw[zaA];have g:=zae H ⟨ty,zs,none⟩;refine zaL (ztZ g (by rw[zaA];exact hl) (by show 0+n<=zs.length;omega) rfl ?_);refine k _ _ rfl ?_ ((Grow.new _ _).set (yaj _) _) rfl (zc6 (zeY hc _) (by rw[zac];omega) _);rw[zah,zaA];congr 2;unfold splice;rw[ya8,yaY,yaV (by show zs.length<=0+cs.length;omega),yaK]
def zcd{H:Heap}(hc:H.Cl){i:Nat}{b:Blk}(hg:H.get i=some b):i<H.next:=by
 by_cases h:i<H.next
 ·exact h
 ·rw[hc i (by omega)]at hg;cases hg
def ztl{H:Heap}{d:Rn}{lo k n:Nat}{l:List Nat} (g:H.get k=some (shB d ⟨zad,l.map by8,some 1⟩)) (hc:H.Cl) (hk:lo<=k) (hn:l.length=n:=by rfl):By lo H (.sl k 0 n (.opn 1)) l:=by
 subst hn;unfold shB at g;rw[stills_sh _ (ztA l)]at g;refine⟨?_,λi h=>?_,rfl⟩
 ·simp only[rcells,g,Option.bind_some,yai,ybe,ya9,yaC];rw[if_pos (yaj _),yal (by rw[yai];exact yaj _)]
 ·injection h with h
  subst h;exact⟨hk,zcd hc g⟩
def zwt{H:Heap}{k:Int}(hk:k=0\/k=1\/k=2):Ok (sem T zcJ [.int .i64 k]) H λr H'=>r = .bool true/\H'=H:=by
 refine zmk ?_;unfold ziQ uL uB uG uH uR uc;rcases hk with rfl|rfl|rfl<;>simp(maxSteps:=1000000) (disch:=first|omega|(simp only[RY]<;>omega)|decide)only[↓RD,RZ,eq_self,Int.reduceToNat,Int.reduceAdd,Int.reduceSub,Int.reduceMul,Nat.reduceAdd,Nat.reduceSub,Nat.reduceMul,Nat.reduceDiv,Nat.reduceMod,Nat.reduceBEq,Nat.reduceLeDiff,RG]
def Has(H:Heap) (L:List (Nat×Blk)):Prop:=∀p∈L,H.get p.1=some p.2
def Has.lt{H:Heap} {L:List (Nat×Blk)} (h:Has H L) (hc:H.Cl):∀j∈L.map Prod.fst,j<H.next:=λj hj=>by
 obtain⟨p,hp,rfl⟩:=ya3.1 hj;exact zcd hc (h p hp)
def Has.grow{H H':Heap} {L:List (Nat×Blk)} (h:Has H L) (hc:H.Cl) (g:Grow H H'):Has H' L:=λp hp=>(g.same p.1 (zcd hc (h p hp))).trans (h p hp)
def Has.atS{H H':Heap}{S:List Nat} {L:List (Nat×Blk)} (h:Has H L) (hc:H.Cl) (g:AtS S H H') (hS:∀i∈S,i∉L.map Prod.fst):Has H' L:=λp hp=>(g.same p.1 (zcd hc (h p hp)) λe=>hS _ e (ycw hp)).trans (h p hp)
def Has.app{H:Heap} {L L':List (Nat×Blk)} (h:Has H L) (h':Has H L'):Has H (L++L'):=λp hp=>(yaN.1 hp).elim (h p) (h' p)
def zla{f:FuncId}{args:List V}{m:Nat}{v:V}{bs:List Blk}{l:List Nat} {os:List (Option Blk)} (h:Ax.look (List.range bs.length++l) (Cc.cd T m f args (Cc.hp (bs.reverse.map some)))=some (v,bs.map some++os)) {H:Heap} (hc:H.Cl) {L:List (Nat×Blk)} (hL:Has H L) (nd:(L.map Prod.fst).Nodup) (hl:L.length=bs.length)
  (e:L.map Prod.snd=bs.map (shB (rnOf (L.map Prod.fst) H.next nd (hL.lt hc)))) (hv:∀j∈l,bs.length<=j) :
  Ok (sem T f (shL (rnOf (L.map Prod.fst) H.next nd (hL.lt hc)) args)) H λr H'=>r=sh (rnOf (L.map Prod.fst) H.next nd (hL.lt hc)) v/\Grow H H'/\(∀j (hj:j<l.length),H'.get (rnF (L.map Prod.fst) H.next l[j])=(os[j]?.join).map (shB (rnOf (L.map Prod.fst) H.next nd (hL.lt hc))))/\H'.Cl:=by
 have lt:=hL.lt hc;have hb:∀i (hi:i<bs.length),(bs.reverse.map some)[(bs.reverse.map some).length-1-i]?=some (some bs[i]):=λi hi=>by
  rw[yaQ,yai,yc9,List.getElem?_reverse (by omega)];have:bs.length-1-(bs.length-1-i)=i:=by omega
  rw[this,yaf hi];rfl
 have hs:∀i (hi:i<L.length) (hi':i<bs.length),H.get (L[i]).1=some (shB (rnOf (L.map Prod.fst) H.next nd lt) bs[i]):=λi hi hi'=>by
  rw[hL _ (yaW hi)];have h1:(L.map Prod.snd)[i]?=some (L[i]).2:=by rw[yaQ,yaf hi];rfl
  rw[e,yaQ,yaf hi']at h1;exact h1.symm
 refine zao (zyV hT h hc nd lt ⟨by rw[yai,hl,yai,yc9],nd,lt,λi hi b hb'=>?_⟩ λj hj=>?_) ?_
 ·have hi':i<L.length:=by rw[yai]at hi;exact hi
  rw[hb i (by omega)]at hb';injection hb' with hb'
  injection hb' with hb'
  subst hb';rw[ybH];exact hs i hi' (by omega)
 ·rcases yaN.1 hj with hj|hj
  ·refine .inr ⟨_,hb j (ya2.1 hj)⟩
  ·exact .inl (by rw[yai,yc9];exact hv j hj)
 ·rintro r H' ⟨rfl,h1,h2,h3,h4⟩;refine⟨rfl,⟨h1,λk hk=>?_⟩,λj hj=>?_,h4⟩
  ·by_cases hx:k∈L.map Prod.fst
   ·obtain⟨i,hi,e'⟩:=List.mem_iff_getElem.1 hx;have hi':i<L.length:=by rw[yai]at hi;exact hi
    have:=h3 i (by rw[yag,ybg];omega);have e1:(List.range bs.length++l)[i]'(by rw[yag,ybg];omega)=i:=by rw[List.getElem_append_left (by rw[ybg];omega),ycF]
    rw[e1]at this;have e2:rnF (L.map Prod.fst) H.next i=k:=by unfold rnF;rw[dif_pos hi];exact e'
    rw[e2,ybL (by rw[yai];omega),yaQ,yaf (by omega)]at this;rw[this];have h5:=hs i hi' (by omega);rw[ybH]at e';rw[e']at h5;exact h5.symm
   ·refine h2 k hk λj hj b _ e'=>hx ?_;rw[<-e'];exact yaW hj
  ·have:=h3 (bs.length+j) (by rw[yag,ybg];omega);have e1:(List.range bs.length++l)[bs.length+j]'(by rw[yag,ybg];omega)=l[j]:=by
    rw[List.getElem_append_right (by rw[ybg];omega)];congr 1;rw[ybg];omega
   rw[e1,ybp (by rw[yai];omega)]at this;rw[this];congr 3;rw[yai];omega
def strL(k:Nat):List (Nat×Blk):=[(k,⟨zdE,[.int .i64 2,.int .i64 2],none⟩),(k+1,⟨zdE,[.int .i64 0],none⟩),(k+2,⟨zdE,[.int .i64 2,.int .i64 2],none⟩),(k+3,⟨zdE,[.int .i64 2],none⟩),(k+4,⟨zdE,[.int .i64 2],none⟩),(k+5,⟨zdE,[.int .i64 1,.int .i64 0],none⟩),(k+6,⟨zdE,[.int .i64 1],none⟩),(k+7,⟨zdE,[.int .i64 1],none⟩),
 (k+8,⟨zf2,[.int .i64 0,.int .i64 0,.sl k 0 2 (.fix 2),.nils,.sl (k+1) 0 1 (.fix 1),.int .i64 0,.int .i64 0,.sl (k+2) 0 2 (.fix 2),.sl (k+3) 0 1 (.fix 1),.sl (k+4) 0 1 (.fix 1),.int .i64 0,.int .i64 1,.sl (k+5) 0 2 (.fix 2),.sl (k+6) 0 1 (.fix 1),.sl (k+7) 0 1 (.fix 1)],none⟩),(k+9,⟨zdE,[.int .i64 0,.int .i64 0],none⟩)]
def strV(k:Nat):List V:=[.int .i64 0,.int .i64 2,.sl (k+8) 0 3 (.fix 3),.int .i64 1,.sl (k+9) 0 2 (.fix 2),.nils]
def zie{H:Heap}(hc:H.Cl):Ok (sem T zbU []) H λr H'=>∃k,r = .agg (strV k)/\H.next<=k/\Has H' (strL k)/\Grow H H'/\H'.Cl:=by
 have hr:Ax.look [1,2,3,4,5,6,7,8,9,10] (Cc.cd T 5 zbU [] (Cc.hp []))=some (.agg (strV 1),(strL 1).map λp=>some p.2):=by kernel_rfl
 refine zao (clo_ok hr rfl hc) ?_;rintro r H' ⟨rfl,s,h,c⟩;refine⟨H.next+1,rfl,ybT _,?_,s,c⟩;intro p hp;simp only[strL,yau,yaw,or_false]at hp;rcases hp with rfl|rfl|rfl|rfl|rfl|rfl|rfl|rfl|rfl|rfl
 ·exact h 0 (by decide)
 ·exact h 1 (by decide)
 ·exact h 2 (by decide)
 ·exact h 3 (by decide)
 ·exact h 4 (by decide)
 ·exact h 5 (by decide)
 ·exact h 6 (by decide)
 ·exact h 7 (by decide)
 ·exact h 8 (by decide)
 ·exact h 9 (by decide)
def zg6{k:Nat}:∀j∈(strL k).map Prod.fst,k<=j/\j<=k+9:=by
 intro j hj;simp only[strL,yaT,ybS,yau,yaw,or_false]at hj;omega
def zlf(k:Nat):((strL k).map Prod.fst).Nodup:=by
 simp[strL]
def strL2_nd{k k':Nat}(h:k+9<k'):((strL k++strL k').map Prod.fst).Nodup:=by
 rw[yaE,ycM];refine⟨zlf k,zlf k',λa ha b hb=>?_⟩;have:=zg6 a ha;have:=zg6 b hb;omega
def frA(st en:Bool)(id f:Nat)(new:Bool)(S:List V)(a b c:V):List V:=[.bool st,.bool en,.int .i64 (id:Nat),.int .u16 (f:Nat),.bool new]++S++[.bool false,.int .u32 0,.bool false,.bool false,.bool false,a,b,c]
def nS:List V:=[.int .i64 0,.int .i64 0,.nils,.int .i64 0,.nils,.nils]
def frL(i j:Nat):List (Nat×Blk):=[(i,⟨zdE,[.int .i64 2,.int .i64 2],some 1⟩),(j,⟨zdE,[.int .i64 0],some 1⟩)]
def frL2(i j l:Nat):List (Nat×Blk):=[(i,⟨zdE,[.int .i64 1,.int .i64 0],some 1⟩),(j,⟨zdE,[.int .i64 1],some 1⟩),(l,⟨zdE,[.int .i64 1],some 1⟩)]
def ddB(st en:Bool)(id f:Nat)(new:Bool):List Nat:=[(if st then 128 else 0)+(if en then 64 else 0)+id,0,f]++if new then [128,1,30,169,17,65,1,8] else []
def of_new{H:Heap}{k k' f:Nat}(hc:H.Cl) (h1:Has H (strL k)) (h2:Has H (strL k')) (hk:k+9<k') (hf:f=0\/f=1) :
  Ok (sem T zdH [.agg (frA false false 0 f true (strV k) .nils .nils .nils),.agg (strV k')]) H λr H'=>∃i j b,r = .tup [.agg [.int .i64 0,.int .i64 0,.sl i 0 2 (.opn 1),.nils,.sl j 0 1 (.opn 1)],b]/\H.next<=i/\i<j/\Has H' (frL i j)/\Grow H H'/\H'.Cl:=by
 have hr:Ax.look (List.range 20++[73,75]) (Cc.cd T 30 zdH [.agg (frA false false 0 f true (strV 0) .nils .nils .nils),.agg (strV 10)] (Cc.hp (((strL 0).map Prod.snd++(strL 10).map Prod.snd).reverse.map some)))=some (.tup [.agg [.int .i64 0,.int .i64 0,.sl 73 0 2 (.opn 1),.nils,.sl 75 0 1 (.opn 1)],.bool true],((strL 0).map Prod.snd++(strL 10).map Prod.snd).map some++[some ⟨zdE,[.int .i64 2,.int .i64 2],some 1⟩,some ⟨zdE,[.int .i64 0],some 1⟩]):=by
  rcases hf with rfl|rfl<;>kernel_rfl
 refine zao (zla (bs:=(strL 0).map Prod.snd++(strL 10).map Prod.snd) (l:=[73,75]) hr hc (h1.app h2) (strL2_nd hk) rfl rfl (by decide)) ?_;rintro r H' ⟨rfl,s,h,c⟩;refine⟨H.next+53,H.next+55,_,rfl,by omega,by omega,?_,s,c⟩;intro p hp;simp only[frL,yau,yaw,or_false]at hp;rcases hp with rfl|rfl
 ·exact h 0 (by decide)
 ·exact h 1 (by decide)
def of_two{H:Heap}{k':Nat}(hc:H.Cl) (h2:Has H (strL k')) :
  Ok (sem T zdH [.agg (frA false false 2 1 false nS .nils .nils .nils),.agg (strV k')]) H λr H'=>∃i j l b,r = .tup [.agg [.int .i64 0,.int .i64 1,.sl i 0 2 (.opn 1),.sl j 0 1 (.opn 1),.sl l 0 1 (.opn 1)],b]/\H.next<=i/\i<j/\j<l/\Has H' (frL2 i j l)/\Grow H H'/\H'.Cl:=by
 have hr:Ax.look (List.range 10++[63,65,67]) (Cc.cd T 30 zdH [.agg (frA false false 2 1 false nS .nils .nils .nils),.agg (strV 0)] (Cc.hp (((strL 0).map Prod.snd).reverse.map some)))=some (.tup [.agg [.int .i64 0,.int .i64 1,.sl 63 0 2 (.opn 1),.sl 65 0 1 (.opn 1),.sl 67 0 1 (.opn 1)],.bool true],((strL 0).map Prod.snd).map some++[some ⟨zdE,[.int .i64 1,.int .i64 0],some 1⟩,some ⟨zdE,[.int .i64 1],some 1⟩,some ⟨zdE,[.int .i64 1],some 1⟩]):=by
  kernel_rfl
 refine zao (zla (bs:=(strL 0).map Prod.snd) (l:=[63,65,67]) hr hc h2 (zlf _) rfl rfl (by decide)) ?_;rintro r H' ⟨rfl,s,h,c⟩;refine⟨H.next+53,H.next+55,H.next+57,_,rfl,by omega,by omega,by omega,?_,s,c⟩;intro p hp;simp only[frL2,yau,yaw,or_false]at hp;rcases hp with rfl|rfl|rfl
 ·exact h 0 (by decide)
 ·exact h 1 (by decide)
 ·exact h 2 (by decide)
def frL_nd{i j k':Nat}(h:i<j)(h':j<k'):((frL i j++strL k').map Prod.fst).Nodup:=by
 rw[yaE,ycM];refine⟨by simp[frL];omega,zlf k',λa ha b hb=>?_⟩;have:=zg6 b hb;simp[frL]at ha;omega
def frL2_nd{i j l k':Nat}(h:i<j)(h1:j<l)(h':l<k'):((frL2 i j l++strL k').map Prod.fst).Nodup:=by
 rw[yaE,ycM];refine⟨by simp[frL2];omega,zlf k',λa ha b hb=>?_⟩;have:=zg6 b hb;simp[frL2]at ha;omega
def frLk_nd{k i j k':Nat}(hk:k+9<i)(h:i<j)(h':j<k'):((strL k++(frL i j++strL k')).map Prod.fst).Nodup:=by
 rw[yaE,ycM];refine⟨zlf k,frL_nd h h',λa ha b hb=>?_⟩;have:=zg6 a ha;rw[yaE,yaN]at hb;rcases hb with hb|hb
 ·simp[frL]at hb;omega
 ·have:=zg6 b hb;omega
def ddb_new{H:Heap}{k i j k' f:Nat}{en:Bool}(hc:H.Cl) (h1:Has H (strL k)) (h3:Has H (frL i j)) (h2:Has H (strL k')) (hk:k+9<i) (hi:i<j) (hj:j<k') (hf:f=0\/f=1) :
  Ok (sem T za2 [.agg (frA true en 0 f true (strV k) (.sl i 0 2 (.opn 1)) .nils (.sl j 0 1 (.opn 1))),.agg (strV k')]) H λr H'=>∃v,r = .tup [v,.int .i64 0]/\By H.next H' v (ddB true en 0 f true)/\Grow H H'/\H'.Cl:=by
 have hr:Ax.look (List.range 22++[177]) (Cc.cd T 40 za2 [.agg (frA true en 0 f true (strV 0) (.sl 10 0 2 (.opn 1)) .nils (.sl 11 0 1 (.opn 1))),.agg (strV 12)] (Cc.hp (((strL 0).map Prod.snd++((frL 10 11).map Prod.snd++(strL 12).map Prod.snd)).reverse.map some)))=some (.tup [.sl 177 0 11 (.opn 1),.int .i64 0],((strL 0).map Prod.snd++((frL 10 11).map Prod.snd++(strL 12).map Prod.snd)).map some++[some ⟨zad,(ddB true en 0 f true).map by8,some 1⟩]):=by
  rcases hf with rfl|rfl<;>cases en<;>kernel_rfl
 refine zao (zla (bs:=(strL 0).map Prod.snd++((frL 10 11).map Prod.snd++(strL 12).map Prod.snd)) (l:=[177]) hr hc (h1.app (h3.app h2)) (frLk_nd hk hi hj) rfl rfl (by decide)) ?_;rintro r H' ⟨rfl,s,h,c⟩;exact⟨_,rfl,ztl (h 0 (by decide)) c (ydn _ _),s,c⟩
def ddb_mid{H:Heap}{i j k' f:Nat}{en:Bool}(hc:H.Cl) (h3:Has H (frL i j)) (h2:Has H (strL k')) (hi:i<j) (hj:j<k') (hf:f=0\/f=1) :
  Ok (sem T za2 [.agg (frA false en 0 f false nS (.sl i 0 2 (.opn 1)) .nils (.sl j 0 1 (.opn 1))),.agg (strV k')]) H λr H'=>∃v,r = .tup [v,.int .i64 0]/\By H.next H' v (ddB false en 0 f false)/\Grow H H'/\H'.Cl:=by
 have hr:Ax.look (List.range 12++[92]) (Cc.cd T 40 za2 [.agg (frA false en 0 f false nS (.sl 0 0 2 (.opn 1)) .nils (.sl 1 0 1 (.opn 1))),.agg (strV 2)] (Cc.hp (((frL 0 1).map Prod.snd++(strL 2).map Prod.snd).reverse.map some)))=some (.tup [.sl 92 0 3 (.opn 1),.int .i64 0],((frL 0 1).map Prod.snd++(strL 2).map Prod.snd).map some++[some ⟨zad,(ddB false en 0 f false).map by8,some 1⟩]):=by
  rcases hf with rfl|rfl<;>cases en<;>kernel_rfl
 refine zao (zla (bs:=(frL 0 1).map Prod.snd++(strL 2).map Prod.snd) (l:=[92]) hr hc (h3.app h2) (frL_nd hi hj) rfl rfl (by decide)) ?_;rintro r H' ⟨rfl,s,h,c⟩;exact⟨_,rfl,ztl (h 0 (by decide)) c (ydn _ _),s,c⟩
def zyB{H:Heap}{i j l k':Nat}{st en:Bool}(hc:H.Cl) (h3:Has H (frL2 i j l)) (h2:Has H (strL k')) (hi:i<j) (hj:j<l) (hl:l<k') :
  Ok (sem T za2 [.agg (frA st en 2 1 false nS (.sl i 0 2 (.opn 1)) (.sl j 0 1 (.opn 1)) (.sl l 0 1 (.opn 1))),.agg (strV k')]) H λr H'=>∃v,r = .tup [v,.int .i64 0]/\By H.next H' v (ddB st en 2 1 false)/\Grow H H'/\H'.Cl:=by
 have hr:Ax.look (List.range 13++[95]) (Cc.cd T 40 za2 [.agg (frA st en 2 1 false nS (.sl 0 0 2 (.opn 1)) (.sl 1 0 1 (.opn 1)) (.sl 2 0 1 (.opn 1))),.agg (strV 3)] (Cc.hp (((frL2 0 1 2).map Prod.snd++(strL 3).map Prod.snd).reverse.map some)))=some (.tup [.sl 95 0 3 (.opn 1),.int .i64 0],((frL2 0 1 2).map Prod.snd++(strL 3).map Prod.snd).map some++[some ⟨zad,(ddB st en 2 1 false).map by8,some 1⟩]):=by
  cases st<;>cases en<;>kernel_rfl
 refine zao (zla (bs:=(frL2 0 1 2).map Prod.snd++(strL 3).map Prod.snd) (l:=[95]) hr hc (h3.app h2) (frL2_nd hi hj hl) rfl rfl (by decide)) ?_;rintro r H' ⟨rfl,s,h,c⟩;exact⟨_,rfl,ztl (h 0 (by decide)) c (ydn _ _),s,c⟩
def stX(a id:Nat)(sv rv:V)(W:Nat->V)(snd rcv:V)(f q:Nat)(b o:Bool):List V:=[.int .i64 (a:Nat),.int .i64 (id:Nat),sv,rv,W 4,W 5,.bool true,W 7,W 8,W 9,W 10,W 11,W 12,W 13,W 14,W 15,W 16,W 17,W 18,W 19,W 20,W 21,snd,rcv,.int .i64 (f:Nat),.int .u16 (q:Nat),.bool b,.bool o,.int .i64 0,.int .u16 0,.bool false,.bool false,.int .i64 0,.int .u16 0,.bool false,.bool false]
def zsA{H:Heap}{s a id f q:Nat}{W:Nat->V}{sv rv snd rcv:V}{b o key:Bool}(hc:H.Cl) (hg:H.get s=some ⟨zaj,stX a id sv rv W snd rcv f q b o,none⟩) (hk:key=true\/b=false) (hf:f=0\/f=1) :
  Ok (sem T zbF [.ptr s 24,.bool key]) H λr H'=>∃k i j,r = .agg (frA false false 0 f true (strV k) (.sl i 0 2 (.opn 1)) .nils (.sl j 0 1 (.opn 1)))/\H'.get s=some ⟨zaj,stX a id sv rv W snd rcv f q true false,none⟩ /\
   H.next<=k/\k+9<i/\i<j/\Has H' (strL k)/\Has H' (frL i j)/\AtS [s] H H'/\H'.Cl:=by
 have hlt:=zcd hc hg;have w:IntKind.u16.wrap ((f:Nat):Int)=(f:Nat):=by rcases hf with rfl|rfl<;>rfl
 refine zeS ?_;unfold zdy uL uM uS uT uF uFM uNFM uNF uE uG uH uO uU uA uZ uR uK uc;refine ztX λq0 H1 e1 g1 s1 n1 c1=>?_;have c1:=c1 hc;have gs1:=(s1.same s hlt).trans hg;have l1:s<H1.next:=by omega
 unfold stX at gs1;rcases hk with rfl|rfl
 all_goals
  simp(disch:=first|omega|(simp only[RY]<;>omega)|decide)only[↓RD,RZ,eq_self,seval,RG,gs1,w,zbx,ydI];rw[za1];generalize hX:Heap.set (Heap.set (Heap.new H1 _) _ _) s _=H2;have n2:H2.next=H1.next+1:=by rw[<-hX];rfl
  have g2s:H2.get s=some ⟨zaj,stX a id sv rv W snd rcv f q true false,none⟩:=by rw[<-hX];exact zah _ _ _
  have g2q:H2.get H1.next=some ⟨zaK,frA false false 0 f false nS .nils .nils .nils,none⟩:=by rw[<-hX];exact(zai _ _ (by omega)).trans (zah _ _ _)
  have a2:AtS [s] H1 H2:=by rw[<-hX];exact(Grow.atS ((Grow.new _ _).set (yaj _) _) _).trans (AtS.set _ (by simp) _)
  have c2:H2.Cl:=by rw[<-hX];exact zc6 (zc6 (zeY c1 _) (by rw[zac];omega) _) (by rw[zal,zac];omega) _
  clear hX;refine zaf (zie c2) ?_;rintro _ H3 ⟨k,rfl,lk,hk,s3,c3⟩;have n3:=s3.next;have g3q:=(s3.same _ (by omega)).trans g2q;have g3s:=(s3.same _ (by omega)).trans g2s;simp only[frA,nS,ybY,yaY]at g3q;simp only[strV];simp(disch:=first|omega|(simp only[RY]<;>omega)|decide)only[↓RD,RZ,eq_self,seval,RG,g3q,zbx];rw[za1];generalize hX:Heap.set H3 _ _=H4;have n4:H4.next=H3.next:=by rw[<-hX];rfl
  have g4q:H4.get H1.next=some ⟨zaK,frA false false 0 f true (strV k) .nils .nils .nils,none⟩:=by rw[<-hX];exact zah _ _ _
  have g4s:H4.get s=some ⟨zaj,stX a id sv rv W snd rcv f q true false,none⟩:=by rw[<-hX];exact(zai _ _ (by omega)).trans g3s
  have a4:AtS [H1.next] H3 H4:=by rw[<-hX];exact AtS.set _ (by simp) _
  have c4:H4.Cl:=by rw[<-hX];exact zc6 c3 (by omega) _
  clear hX;refine zaf (zie c4) ?_;rintro _ H5 ⟨k',rfl,lk',hk',s5,c5⟩;have n5:=s5.next;have g5q:=(s5.same _ (by omega)).trans g4q;have g5s:=(s5.same _ (by omega)).trans g4s;have hk4:=hk.atS c3 a4 (by simp only[yas];rintro x rfl hx;have:=zg6 _ hx;omega);have hk5:=hk4.grow c4 s5;simp(disch:=first|omega|(simp only[RY]<;>omega)|decide)only[↓RD,RZ,eq_self,seval,RG,g4q,g5q];have lk9:k+9<H4.next:=zcd c4 (hk4 (k+9,⟨zdE,[.int .i64 0,.int .i64 0],none⟩) (by simp[strL]));refine zaf (of_new c5 hk5 hk' (by omega) hf) ?_;rintro _ H6 ⟨i,j,b1,rfl,li,lij,hij,s6,c6⟩;have n6:=s6.next;have g6q:=(s6.same _ (by omega)).trans g5q;have g6s:=(s6.same _ (by omega)).trans g5s;simp only[frA,strV,ybY,yaY]at g6q;have l6:H1.next<H6.next:=by omega
  have l6':H1.next≠H6.next:=by omega
  have g6a:=((s6.same _ (by omega)).trans ((s5.same _ (by omega)).trans ((a4.same _ (by omega) (by simp;omega)).trans ((s3.same _ (by omega)).trans (a2.same q0 (by omega) (by simp;omega)))))).trans g1;have nq:q0≠H1.next:=by omega
  have nq':H1.next≠q0:=by omega
  have l0:q0<H6.next:=by omega
  have hlt0:q0≠H6.next:=by omega
  simp(disch:=first|omega|(simp only[RY]<;>omega)|decide)only[↓RD,RZ,eq_self,seval,RG,g6q,g6a,zbx];generalize hX:Heap.set (Heap.set (Heap.set (Heap.new H6 _) _ _) _ _) _ _=H7;have n7:H7.next=H6.next+1:=by rw[<-hX];rfl
  have a7:AtS [H1.next,q0] H6 H7:=by rw[<-hX];exact((Grow.atS ((Grow.new _ _).set (yaj _) _) _).trans (AtS.set _ (by simp) _)).trans (AtS.set _ (by simp) _)
  have c7:H7.Cl:=by rw[<-hX];exact zc6 (zc6 (zc6 (zeY c6 _) (by rw[zac];omega) _) (by rw[zal,zac];omega) _) (by rw[zal,zal,zac];omega) _
  clear hX;refine⟨k,i,j,rfl,g6s,by omega,by omega,lij,(hk5.grow c5 s6).atS c6 a7 ?_,hij.atS c6 a7 ?_,⟨by omega,λx hx hn=>?_⟩,c7⟩
  ·intro x hx hx';have:=zg6 _ hx';simp at hx;omega
  ·intro x hx hx';simp[frL]at hx hx';omega
  ·have hn':x≠s:=by simpa using hn
   rw[a7.same x (by omega) (by simp;omega),s6.same x (by omega),s5.same x (by omega),a4.same x (by omega) (by simp;omega),s3.same x (by omega),a2.same x (by omega) hn,s1.same x (by omega)]
def zsz{H:Heap}{s a id q:Nat}{W:Nat->V}{sv rv snd rcv:V}(hc:H.Cl) (hg:H.get s=some ⟨zaj,stX a id sv rv W snd rcv 1 q true false,none⟩) :
  Ok (sem T zbF [.ptr s 24,.bool false]) H λr H'=>∃i j l,r = .agg (frA false false 2 1 false nS (.sl i 0 2 (.opn 1)) (.sl j 0 1 (.opn 1)) (.sl l 0 1 (.opn 1)))/\H'.get s=some ⟨zaj,stX a id sv rv W snd rcv 1 q true true,none⟩ /\
   H.next<=i/\i<j/\j<l/\Has H' (frL2 i j l)/\AtS [s] H H'/\H'.Cl:=by
 have hlt:=zcd hc hg;have w:IntKind.u16.wrap (((1:Nat):Nat):Int)=(1:Nat):=rfl;refine zeS ?_;unfold zdy uL uM uS uT uF uFM uNFM uNF uE uG uH uO uU uA uZ uR uK uc;refine ztX λq0 H1 e1 g1 s1 n1 c1=>?_;have c1:=c1 hc;have gs1:=(s1.same s hlt).trans hg;have l1:s<H1.next:=by omega
 unfold stX at gs1;simp(disch:=first|omega|(simp only[RY]<;>omega)|decide)only[↓RD,RZ,eq_self,seval,RG,gs1,w,zbx,ydI];rw[za1];generalize hX:Heap.set (Heap.set (Heap.new H1 _) _ _) s _=H4;have n2:H4.next=H1.next+1:=by rw[<-hX];rfl
 have g4s:H4.get s=some ⟨zaj,stX a id sv rv W snd rcv 1 q true true,none⟩:=by rw[<-hX];exact zah _ _ _
 have g4q:H4.get H1.next=some ⟨zaK,frA false false 2 1 false nS .nils .nils .nils,none⟩:=by rw[<-hX];exact(zai _ _ (by omega)).trans (zah _ _ _)
 have a2:AtS [s] H1 H4:=by rw[<-hX];exact(Grow.atS ((Grow.new _ _).set (yaj _) _) _).trans (AtS.set _ (by simp) _)
 have c4:H4.Cl:=by rw[<-hX];exact zc6 (zc6 (zeY c1 _) (by rw[zac];omega) _) (by rw[zal,zac];omega) _
 clear hX;refine zaf (zie c4) ?_;rintro _ H5 ⟨k',rfl,lk',hk',s5,c5⟩;have n5:=s5.next;have g5q:=(s5.same _ (by omega)).trans g4q;have g5s:=(s5.same _ (by omega)).trans g4s;simp(disch:=first|omega|(simp only[RY]<;>omega)|decide)only[↓RD,RZ,eq_self,seval,RG,g4q,g5q];refine zaf (of_two c5 hk') ?_;rintro _ H6 ⟨i,j,l,b1,rfl,li,lij,ljl,hij,s6,c6⟩;have n6:=s6.next;have g6q:=(s6.same _ (by omega)).trans g5q;have g6s:=(s6.same _ (by omega)).trans g5s;simp only[frA,nS,ybY,yaY]at g6q;have l6:H1.next<H6.next:=by omega
 have l6':H1.next≠H6.next:=by omega
 have g6a:=((s6.same _ (by omega)).trans ((s5.same _ (by omega)).trans (a2.same q0 (by omega) (by simp;omega)))).trans g1;have nq:q0≠H1.next:=by omega
 have nq':H1.next≠q0:=by omega
 have l0:q0<H6.next:=by omega
 have hlt0:q0≠H6.next:=by omega
 simp(disch:=first|omega|(simp only[RY]<;>omega)|decide)only[↓RD,RZ,eq_self,seval,RG,g6q,g6a,zbx];generalize hX:Heap.set (Heap.set (Heap.set (Heap.new H6 _) _ _) _ _) _ _=H7;have n7:H7.next=H6.next+1:=by rw[<-hX];rfl
 have a7:AtS [H1.next,q0] H6 H7:=by rw[<-hX];exact((Grow.atS ((Grow.new _ _).set (yaj _) _) _).trans (AtS.set _ (by simp) _)).trans (AtS.set _ (by simp) _)
 have c7:H7.Cl:=by rw[<-hX];exact zc6 (zc6 (zc6 (zeY c6 _) (by rw[zac];omega) _) (by rw[zal,zac];omega) _) (by rw[zal,zal,zac];omega) _
 clear hX;refine⟨i,j,l,rfl,g6s,by omega,by omega,by omega,hij.atS c6 a7 ?_,⟨by omega,λx hx hn=>?_⟩,c7⟩
 ·intro x hx hx';simp[frL2]at hx hx';omega
 ·have hn':x≠s:=by simpa using hn
  rw[a7.same x (by omega) (by simp;omega),s6.same x (by omega),s5.same x (by omega),a2.same x (by omega) hn,s1.same x (by omega)]
def hTs:∀f ir,T f=some ir->ir.body.still=true:=λf ir h=>zlQ h
section
variable {t:Tabs} {s:Nat->Nat} {q:Nat->List Nat} {g:Y.Sg} {h K:Heap}
def zyU (st:Y.St (tbOf t s q) g h K) {i k:Nat} {b:Blk} {v:V} (hb:h.get i=some b) (hk:b.cells[k]?=some v):Y.Rl g Y.sh v (Y.sh g.e v):=λd hd=>by
 have h1:=st.em g.e (Y.Ag.self g) i b hb;have h2:=st.em d hd i b hb;rw[hd.2.1 i (st.kn i b hb).1,h1]at h2;simp only[Y.shB,yaa,Blk.mk.injEq,true_and,and_true]at h2;have h3:=Y.get_of (d:=g.e) hk;rw[h2,Y.get_of hk]at h3;injection h3 with h3
 exact h3.symm
def key_at(ht:TabV t s q) (st:Y.St (tbOf t s q) g h K) {i k m n0 id kid:Nat} {b:Blk} {bl:List V} (hb:h.get i=some b) (hk:b.cells[k]?=some (.ptr m 0)) (hm:t.ks[m]?=some (n0,.key id kid bl)) :
  ∃n tg lo,szs id=some (n,tg)/\KeyB lo K (g.e.f m) (drv id kid n tg (iv s q bl))/\∀j,t.ks.length<=j->j<n0->g.nf j->g.e.f j<lo:=by
 obtain⟨hf,-⟩:=Y.fnamed (zyU st hb hk);have hmR:m<(tbOf t s q).R:=(yaB.1 hm).1;obtain⟨-,lo,Hc,hP,sf,hl⟩:=st.mf m hmR hf;have hP:(match t.ks[m]? with|some (_,.key i kid bl)=>∃n tg,szs i=some (n,tg)/\KeyB lo Hc (g.e.f m) (drv i kid n tg (iv s q bl)) | _=>False):=hP;have et:(tbOf t s q).t m=n0:=by
  show(match t.ks[m]? with|some p=>p.1|none=>0)=n0;rw[hm]
 rw[hm]at hP;obtain⟨n,tg,h1,h2⟩:=hP;exact⟨n,tg,lo,h1,h2.keep ⟨sf.le,λi h1 h2=>sf.sm i h1 h2⟩,λj h3 h4 h5=>hl j h3 (by rw[et];exact h4) h5⟩
def zgk (st:Y.St (tbOf t s q) g h K) {i:Nat} {b:Blk} (hb:h.get i=some b):K.get (g.e.f i)=some (Y.shB g.e b)/\g.nf i/\g.e.f i<K.next/\t.ks.length<=i:=
 ⟨st.em g.e (Y.Ag.self g) i b hb,(st.kn i b hb).1,st.lt i (st.kn i b hb).1,(st.kn i b hb).2⟩
end
def sym_ok{t:Tabs}{q:Nat->List Nat}{s:Nat->Nat}(ht:TabV t s q){ws:List V} (hw:∀(m:Nat) (v:V),ws[m]?=some v->∃l,t.ks[m]?=some (0,Kd.sl l)/\(∀H,By 0 H v (iv s q l))/\l.all bokd=true/\v.pid=none) (h0:0<t.ks.length)
  {f:FuncId} {m:Nat} {args args':List V} {v:V} {l:List Nat} {os:List (Option Blk)} (hr:Ax.look l (Y.cdo T selO (orc t.fnd) m f args (Cc.hp (List.replicate t.ks.length none)))=some (v,os))
  (ha:∀d:Y.Nm,(∀(m:Nat) (v:V),ws[m]?=some v->d.w m=v)->args'=Y.shL d args) {H:Heap} (hc:H.Cl) :
  Ok (sem T f args') H λr H'=>∃g h',Y.St (tbOf t s q) g h' H'/\r=Y.sh g.e v/\os=l.map h'.get/\Grow H H'/\H'.Cl/\∀i,g.nf i->H.next<=g.e.f i:=by
 unfold Ax.look at hr;obtain⟨⟨v',c⟩,hr2,e⟩:=yac.1 hr;injection e with e1 e2
 subst e1 e2;clear hr;have st0:=st_0 (t:=t) (s:=s) (q:=q) hw h0 hc;obtain⟨g',b,K',e1,s1,f1,r1⟩:=Y.run_ok hTs (orc_ok ht) hr2 (args':=args') st0 λd hd=>ha d λm v hm=>by
  have:=hd.2.2 m (yaB.1 hm).1;rw[this];show(ws[m]?).getD .any=v;rw[hm];rfl
 refine⟨b,K',e1,g',c.abs,s1,r1 g'.e (Y.Ag.self g'),rfl,⟨f1.le,λi hi=>f1.fr i hi λj b hj=>?_⟩,s1.cl,λi hi=>?_⟩
 ·exact absurd (st0.kn j b hj).1 (λx=>x)
 ·exact f1.ex.new i hi (λx=>x)
end Go.Ax.SU
/- Rtp1 -/
namespace Go.Ax.R7
open Go.Ax
def be(l:List Nat):Nat:=l.foldl (λa b=>a*256+b) 0
def be_snoc(l:List Nat)(b:Nat):be (l++[b])=be l*256+b:=by simp[be]
def be_lt(l:List Nat)(h:∀x∈l,x<256):be l<256 ^ l.length:=by
 have key:∀(l:List Nat),(∀x∈l,x<256)->∀l':List Nat,l=l'.reverse->be l<256 ^ l.length:=by
  intro l hl l' e;subst e
  induction l' with
  | nil=>simp[be]
  | cons b l' ih=>
   rw[ycK,be_snoc,yag,ycm,ybx];have h1:=ih λx hx=>hl x (by rw[ycK];exact yct _ hx);have h2:=hl b (by simp);omega
 exact key l h l.reverse (by simp)
def or256(a b:Nat)(h:b<256):a*256 ||| b=a*256+b:=by
 have:=ybW (i:=8) (b:=b) h a;rw[yap]at this;exact this.symm
abbrev By(lo:Nat)(H:Heap)(v:V)(l:List Nat):Prop:=Lc 1 lo H v (l.map by8) l.length
def Ok8(l:List Nat):Prop:=∀x∈l,x<256
def Ok8.take{l:List Nat}(h:Ok8 l)(n:Nat):Ok8 (l.take n):=λx hx=>h x (ybM hx)
def Ok8.drop{l:List Nat}(h:Ok8 l)(n:Nat):Ok8 (l.drop n):=λx hx=>h x (ybN hx)
def by_at{lo:Nat}{H:Heap}{v:V}{l:List Nat}(h:By lo H v l){i:Int}(h0:0<=i)(h1:i<l.length):∃p,(∀{k:IntKind},Ax.iaddr none 1 v (.int k i)=some p)/\LdR none H p (.int .u8 (l.getD i.toNat 0:Nat))/\p.pid=v.pid:=by
 obtain⟨p,hp,hl⟩:=h.at h0 h1;have hi:i.toNat<l.length:=by omega
 have e:((l.map by8).drop (i.toNat*1)).take 1=[by8 l[i.toNat]]:=by
  rw[ya9,<-yb6,yaP hi];rfl
 rw[e]at hl;refine⟨p,hp,λf Q=>?_,hl.pid.1⟩;rw[hl.ld0 (by simp)];have hg:l.getD i.toNat 0=l[i.toNat]:=by rw[yan,yaf hi];rfl
 rw[hg];exact zpE
def zsg{lo:Nat}{H:Heap}{v:V}{l:List Nat}(h:By lo H v l){i:Int}(h0:0<=i)(h1:i<l.length):∃p,(∀{k:IntKind},Ax.iaddr none 1 v (.int k i)=some p)/\(∀H',By lo H' v l->LdR none H' p (.int .u8 (l.getD i.toNat 0:Nat)))/\p.pid=v.pid:=by
 obtain⟨p,hp,hl,hd⟩:=by_at h h0 h1;refine⟨p,hp,λH' h'=>?_,hd⟩;obtain⟨p',hp',hl',-⟩:=by_at h' h0 h1;have:p=p':=by
  have:=(hp (k:=.i64)).symm.trans (hp' (k:=.i64));simpa using this
 subst this;exact hl'
def by_slice{lo:Nat}{H:Heap}{v:V}{l:List Nat}(h:By lo H v l){x y:Int}(h0:0<=x)(h1:x<=y)(h2:y<=l.length) :
  ∃v',(∀{k k':IntKind},zat .sl 1 v (some (.int k x)) (some (.int k' y)) none=some v')/\(x=0->∀{k':IntKind},zat .sl 1 v none (some (.int k' y)) none=some v')/\(y=l.length->∀{k:IntKind},zat .sl 1 v (some (.int k x)) none none=some v') /\
   By lo H v' ((l.drop x.toNat).take (y.toNat-x.toNat))/\v'.pid=v.pid:=by
 obtain⟨v',a,b,c,d,e⟩:=h.slice h0 h1 h2;refine⟨v',a,b,c,?_,e⟩;have hl:((l.drop x.toNat).take (y.toNat-x.toNat)).length=y.toNat-x.toNat:=by rw[yaq,yat];omega
 have:=d;rw[ya9,ya9,<-yb6,<-yb5]at this;unfold By;rw[hl];exact this
def getD_lt{l:List Nat}(h:Ok8 l)(i:Nat):l.getD i 0<256:=by
 rw[yan];cases e:l[i]? with
 | none=>simp
 | some x=>exact h x (ybm e)
def take_snoc{l:List Nat}{i:Nat}(h:i<l.length):l.take (i+1)=l.take i++[l.getD i 0]:=by
 rw[yb4,yaf h,yan,yaf h];rfl
def be_take_lt{l:List Nat}(h:Ok8 l){i n:Nat}(hi:i<=n):be (l.take i)<256 ^ n:=by
 have h1:=be_lt _ (h.take i);have h2:256 ^ (l.take i).length<=256 ^ n:=ybF (by decide) (by rw[yaq];omega);omega
def zpo{lo:Nat}{H:Heap}{v:V}{l:List Nat}(h:By lo H v l)(h8:Ok8 l)(hn:l.length<=4):Ok (sem T zdb [v]) H λr H'=>r = .int .u32 (be l:Nat)/\H'=H:=by
 refine zvm ?_;unfold zrT uL uR uc ug;simp(maxSteps:=1000000) (disch:=first|omega|(simp only[RY]<;>omega)|decide)only[↓RD,RZ,eq_self,Int.reduceToNat,Int.reduceAdd,Int.reduceSub,Int.reduceMul,Nat.reduceAdd,Nat.reduceSub,Nat.reduceMul,Nat.reduceDiv,Nat.reduceMod,Nat.reduceBEq,Nat.reduceLeDiff,h.vlen];refine zaQ (λk L H'=>L=[.int .u32 (be (l.take k):Nat),.int .i64 (k:Nat)]/\H'=H) l.length ?_ ?_ ?_
 ·exact⟨by simp[be],rfl⟩
 ·rintro k L H1 hk ⟨rfl,rfl⟩;obtain⟨p,hp,hld,-⟩:=by_at h (i:=(k:Nat)) (by omega) (by omega);have hb:=be_take_lt h8 (i:=k) (n:=3) (by omega);have hg:=getD_lt h8 k;have hm:be (l.take k)*256%4294967296=be (l.take k)*256:=yav (by omega);unfold zj5 uL uB uIM uK uc uq ug;simp(maxSteps:=1000000) (disch:=first|omega|(simp only[RY]<;>omega)|decide)only[↓RD,RZ,eq_self,Int.reduceToNat,Int.reduceAdd,Int.reduceSub,Int.reduceMul,Nat.reduceAdd,Nat.reduceSub,Nat.reduceMul,Nat.reduceDiv,Nat.reduceMod,Nat.reduceBEq,Nat.reduceLeDiff,hp,hld,hm,or256 _ _ hg];rw[take_snoc hk,be_snoc];rfl
 ·rintro L H1 ⟨rfl,rfl⟩;unfold zj5 uL uB uIM uK uc uq ug;simp(maxSteps:=1000000) (disch:=first|omega|(simp only[RY]<;>omega)|decide)only[↓RD,RZ,eq_self,Int.reduceToNat,Int.reduceAdd,Int.reduceSub,Int.reduceMul,Nat.reduceAdd,Nat.reduceSub,Nat.reduceMul,Nat.reduceDiv,Nat.reduceMod,Nat.reduceBEq,Nat.reduceLeDiff];rw[ya6]
def okb_copy{β:Type}{ty e bytes m:Nat}{H:Heap}{y:V}{q:List V}{f:V->M β}{Q:β->Heap->Prop} (hy:acells e H y=some (q,m)) (hp:∀id,y.pid=some id->id<H.next) (hq:q.length=m*e)
  (hb:m*bytes<=140737488355328) (hm:m<=140737488355328)
  (k:∀x' H',App ty e H.next H' x' q m->Grow H H'->Ok (f x') H' Q):Ok ((mappend ty e bytes (.sl H.next 0 0 (.fix 0)) y).bind f) (H.new ⟨ty,[],none⟩) Q:=by
 have ha:App ty e H.next (H.new ⟨ty,[],none⟩) (.sl H.next 0 0 (.fix 0)) [] 0:=.lit (zae _ _) (yaj _) (by rw[zac];omega);refine zij ha (by rw[zac];omega) (by rw[zsj λi hi=>zas _ _ (by have:=hp i hi;omega)];exact hy) hq (by simpa using hb) (by omega) λx' H' h hs=>?_;refine k x' H' (by simpa using h) ⟨by have:=hs.next;rw[zac]at this;omega,λi hi=>?_⟩;rw[hs.same i (by rw[zac];omega) (by simp[V.pid];omega),zas _ _ (by omega)]
def zuM{lo:Nat}{H:Heap}{v:V}{l:List Nat}(h:By lo H v l)(hl:l.length<=1099511627776):Ok (sem T zbk [v]) H λr H'=>By H.next H' r l/\Grow H H':=by
 refine zju ?_;unfold zhC uL uR ub;rcases h.cases with⟨rfl,hc,hn⟩|⟨id,off,cap,b,rfl,_⟩|⟨cs,rfl,_⟩
 ·simp(disch:=omega)only[↓RD,RZ];have:l=[]:=yaA hn;subst this;exact⟨Lc.nil,Grow.refl _⟩
 ·simp(disch:=omega)only[↓RD,RZ];refine okb_copy h.ac (λi hi=>(h.own i hi).2) (by simp) (by omega) (by omega) λx' H' ha hg=>?_;simp(disch:=omega)only[↓RD,RZ];exact⟨ha.lc,hg⟩
 ·simp(disch:=omega)only[↓RD,RZ];refine okb_copy h.ac (λi hi=>(h.own i hi).2) (by simp) (by omega) (by omega) λx' H' ha hg=>?_;simp(disch:=omega)only[↓RD,RZ];exact⟨ha.lc,hg⟩
end Go.Ax.R7
/- Rtp2 -/
namespace Go.Ax
def Lc.step{e lo n:Nat}{H H':Heap}{F F':List Nat}{v:V}{cells:List V}(h:Lc e lo H v cells n)(s:Step H H' F F')(hd:∀id,v.pid=some id->id∉F):Lc e lo H' v cells n:=
 ⟨by rw[zcZ λi hi=>s.same i (h.own i hi).2 (hd i hi)];exact h.rc,λi hi=>⟨(h.own i hi).1,yak (h.own i hi).2 s.next⟩,h.cap⟩
def Lc.setn{e lo n:Nat}{H:Heap}{v:V}{cells:List V}(h:Lc e lo H v cells n){w:Nat}(hd:v.pid≠some w)(b:Option Blk):Lc e lo (H.set w b) v cells n:=
 ⟨by rw[zcZ λi hi=>zai _ _ (λe=>hd (by rw[hi,e]))];exact h.rc,h.own,h.cap⟩
def Lc.newn{e lo n:Nat}{H:Heap}{v:V}{cells:List V}(h:Lc e lo H v cells n)(b:Blk):Lc e lo (H.new b) v cells n:=h.ext (Grow.new H b)
end Go.Ax
namespace Go.Ax.R7
open Go.Ax
abbrev X:Type:=Int×List Nat
def xc(w:X×V):List V:=[.int .i64 w.1.1,w.2]
structure Exs (lo:Nat) (H:Heap) (v:V) (xs:List X):Prop where
 ex:∃ws:List (X×V),ws.map (·.1)=xs/\Lc 2 lo H v (ws.map xc).flatten ws.length/\∀w∈ws,By lo H w.2 w.1.2
def Exs.nil{lo:Nat}{H:Heap}:Exs lo H .nils []:=⟨[],rfl,Lc.nil,λw h=>by cases h⟩
def Exs.keep{lo:Nat}{H H':Heap}{v:V}{xs:List X}(h:Exs lo H v xs)(k:Keep lo H H'):Exs lo H' v xs:=by
 obtain⟨ws,h1,h2,h3⟩:=h;exact⟨ws,h1,h2.keep k,λw hw=>(h3 w hw).keep k⟩
def Exs.ext{lo:Nat}{H H':Heap}{v:V}{xs:List X}(h:Exs lo H v xs)(k:Grow H H'):Exs lo H' v xs:=h.keep (k.keep lo)
def Exs.low{lo lo':Nat}{H:Heap}{v:V}{xs:List X}(h:Exs lo H v xs)(hl:lo'<=lo):Exs lo' H v xs:=by
 obtain⟨ws,h1,h2,h3⟩:=h;exact⟨ws,h1,h2.low hl,λw hw=>(h3 w hw).low hl⟩
def Exs.vlen{lo:Nat}{H:Heap}{v:V}{xs:List X}(h:Exs lo H v xs):Ax.vlen v=some (.int .i64 (xs.length:Nat)):=by
 obtain⟨ws,rfl,h2,h3⟩:=h;rw[h2.vlen,yai]
def Exs.cells1{lo:Nat}{H:Heap}{v:V}{xs:List X}(h:Exs lo H v xs):v.cells=[v]:=by
 obtain⟨ws,rfl,h2,h3⟩:=h;exact h2.cells1
def Exs.okc{lo:Nat}{H:Heap}{v:V}{xs:List X}(h:Exs lo H v xs):v.okc=true:=by
 obtain⟨ws,rfl,h2,h3⟩:=h;exact h2.okc
def zlF{α:Type}{k:Nat} (es:List (List α)) (h:∀x∈es,x.length=k) (i:Nat) (hi:i<es.length):(es.flatten.drop (i*k)).take k=es[i]:=(zyn es h i es[i] (yaf hi)).1
def xc_len (ws:List (X×V)):∀x∈ws.map xc,x.length=2:=λx hx=>by
 obtain⟨w,_,rfl⟩:=ya3.1 hx;rfl
def Exs.at{lo:Nat}{H:Heap}{v:V}{xs:List X}(h:Exs lo H v xs){i:Nat}(hi:i<xs.length):∃p bv,(∀{k:IntKind},Ax.iaddr none 2 v (.int k i)=some p)/\Pl H p [.int .i64 xs[i].1,bv] v.pid/\By lo H bv xs[i].2:=by
 obtain⟨ws,rfl,h2,h3⟩:=h;rw[yai]at hi;obtain⟨p,hp,hl⟩:=h2.at (i:=(i:Nat)) (by omega) (by omega);have e:((ws.map xc).flatten.drop (i*2)).take 2=[.int .i64 ws[i].1.1,ws[i].2]:=by
  rw[zlF _ (xc_len ws) i (by rw[yai];exact hi),ybH];rfl
 rw[yao,e]at hl;refine⟨p,ws[i].2,hp,?_,?_⟩
 ·simpa using hl
 ·simpa using h3 _ (yaW hi)
structure AppX (ty lo:Nat) (H:Heap) (v:V) (xs:List X):Prop where
 ex:∃ws:List (X×V),ws.map (·.1)=xs/\App ty 2 lo H v (ws.map xc).flatten ws.length/\∀w∈ws,By lo H w.2 w.1.2/\∀id,w.2.pid=some id->v.pid≠some id
def AppX.exs{ty lo:Nat}{H:Heap}{v:V}{xs:List X}(h:AppX ty lo H v xs):Exs lo H v xs:=by
 obtain⟨ws,h1,h2,h3⟩:=h;exact⟨ws,h1,h2.lc,λw hw=>(h3 w hw).1⟩
def AppX.nil{ty lo:Nat}{H:Heap}:AppX ty lo H .nils []:=⟨[],rfl,App.nil,λw h=>by cases h⟩
def App.keep{ty e lo n:Nat}{H H':Heap}{v:V}{cells:List V}(h:App ty e lo H v cells n)(k:Keep lo H H'):App ty e lo H' v cells n:=by
 cases h with
 | opn h ho=>exact .opn (h.to λi hi=>k.same i (ho i hi).1 (ho i hi).2) λi hi=>⟨(ho i hi).1,yak (ho i hi).2 k.next⟩
 | lit h h0 h1=>exact .lit (by rw[k.same _ h0 h1,h]) h0 (yak h1 k.next)
def AppX.keep{ty lo:Nat}{H H':Heap}{v:V}{xs:List X}(h:AppX ty lo H v xs)(k:Keep lo H H'):AppX ty lo H' v xs:=by
 obtain⟨ws,h1,h2,h3⟩:=h;exact⟨ws,h1,App.keep h2 k,λw hw=>⟨(h3 w hw).1.keep k,(h3 w hw).2⟩⟩
def okb_appx{β:Type}{ty bytes lo:Nat}{H:Heap}{x y bv:V}{xs:List X}{a:Int}{b:List Nat}{f:V->M β}{Q:β->Heap->Prop}(hx:AppX ty lo H x xs)(hlo:lo<=H.next) (hy:acells 2 H y=some ([.int .i64 a,bv],1)) (hbv:By lo H bv b) (hd:∀id,bv.pid=some id->x.pid≠some id)
  (hb:(xs.length+1)*bytes<=140737488355328) (hm:xs.length+1<=140737488355328)
  (k:∀x' H',AppX ty lo H' x' (xs++[(a,b)])->Step H H' x.pid.toList x'.pid.toList->Ok (f x') H' Q):Ok ((mappend ty 2 bytes x y).bind f) H Q:=by
 obtain⟨ws,rfl,h2,h3⟩:=hx;rw[yai]at hb hm;refine zij h2 hlo hy rfl hb hm λx' H' h s=>k x' H' ⟨ws++[((a,b),bv)],by simp,?_,?_⟩ s
 ·simpa [xc]using h
 ·have hpid:∀id,x'.pid=some id->x.pid=some id\/H.next<=id:=λid hi=>by
   rcases s.own id (by simp[hi]) with h|h
   ·exact .inl (by simpa [zbK]using h)
   ·exact .inr h.1
  have key:∀(u:V) (l:List Nat),By lo H u l->(∀id,u.pid=some id->x.pid≠some id)->By lo H' u l/\∀id,u.pid=some id->x'.pid≠some id:=by
   intro u l hu hn;refine⟨hu.step s λid hi hF=>hn id hi (by simpa [zbK]using hF),λid hi he=>?_⟩;rcases hpid id he with h|h
   ·exact hn id hi h
   ·have:=(hu.own id hi).2;omega
  intro w hw;rcases yaN.1 hw with hw|hw
  ·exact key _ _ (h3 w hw).1 (h3 w hw).2
  ·simp only[yas]at hw;subst hw;exact key _ _ hbv hd
/-! One element. -/
def eid(one:Bool)(l:List Nat):Nat:=if one then l.getD 0 0/16 else l.getD 0 0
def zfe(one:Bool):Nat:=if one then 1 else 2
def enum(one:Bool)(l:List Nat):Nat:=if one then l.getD 0 0%16+1 else l.getD 1 0
def ebad(one:Bool)(l:List Nat):Prop:=eid one l=0\/l.length<zfe one+enum one l
def zoU(one:Bool)(l:List Nat):X:=((eid one l:Nat),(l.drop (zfe one)).take (enum one l))
def elen(one:Bool)(l:List Nat):Nat:=zfe one+enum one l
instance (one:Bool) (l:List Nat):Decidable (ebad one l):=by unfold ebad;infer_instance
def zvP {lo : Nat} {H : Heap} {v : V} {l : List Nat} (h : By lo H v l) (h8 : Ok8 l) (hl : l.length <= 1048576) (h0 : 0 < l.length) (prof : Int) (hp : -9223372036854775808 <= prof /\ prof <= 9223372036854775807) :
    Ok (sem T zes [.int .i64 prof, v]) H fun r H'=> Grow H H' /\
      (if ebad (decide (prof = 48862)) l then r = .tup [.agg [.int .i64 0, .nils], .int .i64 0, .bool false]
       else ∃ bv, r = .tup [.agg [.int .i64 (zoU (decide (prof = 48862)) l).1, bv], .int .i64 (elen (decide (prof = 48862)) l : Nat), .bool true] /\ By H.next H' bv (zoU (decide (prof = 48862)) l).2):= by
  obtain ⟨p0, hp0, hl0, -⟩:= zsg h (i:= 0) (by omega) (by omega)
  have hb0:= getD_lt h8 0
  have hb1:= getD_lt h8 1
  have hv : ∀ id, v.pid = some id -> id < H.next:= fun id hi=> (h.own id hi).2
  refine zoB ?_
  unfold zkT uL uS uT uF uFM uB uIM uG uH uO uA uR uK uc ub uq ug
  have e1:= hl0 (H.new ⟨zaS, [.int .i64 0, .nils], none⟩) (h.newn _)
  simp (disch:= first | omega | (simp only [RY] <;> omega) | decide) only [↓RD, RZ, eq_self, seval, hp0, e1]
  generalize hH1 : (Heap.new (Heap.new _ _) _).set _ _ = H1
  have hn1 : H1.next = H.next + 2:= by rw [<- hH1];rfl
  have hg1 : Grow H H1:= by rw [<- hH1];exact ((Grow.new H _).trans (Grow.new _ _)).set (by omega) _
  have hd4 : H1.get H.next = some ⟨zaS, [.int .i64 0, .nils], none⟩:= by rw [<- hH1, zai _ _ (by omega), zas _ _ (by rw [zac];omega), zae]
  have hd7 : H1.get (H.next + 1) = some ⟨zaS, [.int .i64 (l.getD 0 0 : Nat), .nils], none⟩:= by rw [<- hH1, zah]
  have h1 : By lo H1 v l:= h.ext hg1
  clear hH1
  -- both shapes of a head
  refine zao (Q:= fun r H'=> r = Res.nrm [.int .i64 (zfe (decide (prof = 48862)) : Nat), .int .i64 (enum (decide (prof = 48862)) l : Nat)] /\ By lo H' v l /\ Grow H H' /\ H'.next = H1.next /\ H'.get H.next = H1.get H.next /\ H'.get (H.next + 1) = some ⟨zaS, [.int .i64 (eid (decide (prof = 48862)) l : Nat), .nils], none⟩) ?_ ?_
  · have e2:= hl0 H1 h1
    refine zxt (fun hpr=> ?_) fun hpr=> ?_
    · have e3:= hl0 (H1.set (H.next + 1) (some ⟨zaS, [.int .i64 (l.getD 0 0 / 16 : Nat), .nils], none⟩)) (h1.setn (fun e=> by have:= hv _ e;omega) _)
      simp (disch:= omega) only [↓RD, RZ, eq_self, seval, hp0, e2, hd7, e3]
      have hen : enum (decide (prof = 48862)) l = l.getD 0 0 % 16 + 1:= by rw [decide_eq_true hpr];rfl
      have hef : zfe (decide (prof = 48862)) = 1:= by rw [decide_eq_true hpr];rfl
      have hei : eid (decide (prof = 48862)) l = l.getD 0 0 / 16:= by rw [decide_eq_true hpr];rfl
      rw [hen, hef, hei]
      exact ⟨rfl, h1.setn (fun e=> by have:= hv _ e;omega) _, hg1.set (by omega) _, by trivial⟩
    · have hei : eid (decide (prof = 48862)) l = l.getD 0 0:= by rw [decide_eq_false hpr];rfl
      have hef : zfe (decide (prof = 48862)) = 2:= by rw [decide_eq_false hpr];rfl
      have hen : enum (decide (prof = 48862)) l = l.getD 1 0:= by rw [decide_eq_false hpr];rfl
      rw [hen, hef, hei]
      simp (maxSteps:= 1000000) (disch:= first | omega | (simp only [RY] <;> omega) | decide) only [↓RD, RZ, eq_self, Int.reduceToNat, Int.reduceAdd, Int.reduceSub, Int.reduceMul, Nat.reduceAdd, Nat.reduceSub, Nat.reduceMul, Nat.reduceDiv, Nat.reduceMod, Nat.reduceBEq, Nat.reduceLeDiff, h1.vlen]
      by_cases hl1 : 1 < l.length
      · obtain ⟨p1, hp1, hl1', -⟩:= by_at h1 (i:= 1) (by omega) (by omega)
        simp (maxSteps:= 1000000) (disch:= first | omega | (simp only [RY] <;> omega) | decide) only [↓RD, RZ, eq_self, Int.reduceToNat, Int.reduceAdd, Int.reduceSub, Int.reduceMul, Nat.reduceAdd, Nat.reduceSub, Nat.reduceMul, Nat.reduceDiv, Nat.reduceMod, Nat.reduceBEq, Nat.reduceLeDiff, hp1, hl1']
        exact ⟨rfl, h1, hg1, hd7⟩
      · have hz : l.getD 1 0 = 0:= by rw [yan, ybB (by omega)];rfl
        simp (maxSteps:= 1000000) (disch:= first | omega | (simp only [RY] <;> omega) | decide) only [↓RD, RZ, eq_self, Int.reduceToNat, Int.reduceAdd, Int.reduceSub, Int.reduceMul, Nat.reduceAdd, Nat.reduceSub, Nat.reduceMul, Nat.reduceDiv, Nat.reduceMod, Nat.reduceBEq, Nat.reduceLeDiff, hz]
        exact ⟨rfl, h1, hg1, hd7⟩
  · rintro _ H2 ⟨rfl, h2, hg2, hn2, hd4', hd7'⟩
    rw [hd4] at hd4'
    simp (disch:= omega) only [↓RD, RZ, eq_self, seval, hd4', hd7', h2.vlen]
    have hef : zfe (decide (prof = 48862)) <= 2:= by unfold zfe;split <;> omega
    have hen : enum (decide (prof = 48862)) l <= 255:= by unfold enum;split <;> omega
    have hei : eid (decide (prof = 48862)) l <= 255:= by unfold eid;split <;> omega
    unfold zoU elen
    generalize hone : decide (prof = 48862) = one at *
    by_cases hz : eid one l = 0
    · have hbad : ebad one l:= .inl hz
      rw [hz] at hd7'
      simp (disch:= first | omega | (simp only [RY] <;> omega) | decide) only [↓RD, RZ, eq_self, seval, hz, hd4', hd7']
      rw [if_pos hbad]
      exact ⟨hg2.set (by omega) _, by trivial⟩
    · by_cases hs : l.length < zfe one + enum one l
      · have hbad : ebad one l:= .inr hs
        simp (disch:= first | omega | (simp only [RY] <;> omega) | decide) only [↓RD, RZ, eq_self, seval, hd4', hd7', h2.vlen]
        rw [if_pos hbad]
        exact ⟨hg2.set (by omega) _, by trivial⟩
      · have hbad : ¬ ebad one l:= fun h=> h.elim hz hs
        obtain ⟨v', hs1, -, -, hs4, hs5⟩:= by_slice h2 (x:= (zfe one : Nat)) (y:= (zfe one + enum one l : Nat)) (by omega) (by omega) (by omega)
        have ec : (zfe one : Int) + (enum one l : Int) = ((zfe one + enum one l : Nat) : Int):= rfl
        have el : ((zfe one + enum one l : Nat) : Int).toNat - ((zfe one : Nat) : Int).toNat = enum one l:= by omega
        rw [el, yao] at hs4
        simp (disch:= omega) only [↓RD, RZ, eq_self, seval, h2.vlen, ec, hs1]
        refine zaf (zuM hs4 (by rw [yaq, yat];omega)) ?_
        rintro bv H3 ⟨hb3, hg3⟩
        have hd4'' : H3.get H.next = some ⟨zaS, [.int .i64 0, .nils], none⟩:= by rw [hg3.same _ (by omega), hd4']
        have hd7'' : H3.get (H.next + 1) = some ⟨zaS, [.int .i64 (eid one l : Nat), .nils], none⟩:= by rw [hg3.same _ (by omega), hd7']
        simp (disch:= first | omega | (simp only [RY] <;> omega) | decide) only [↓RD, RZ, eq_self, seval, hd4'', hd7'', hb3.cells1, hb3.okc]
        rw [if_neg hbad]
        have hne : ∀ w, w <= H.next + 1 -> bv.pid ≠ some w:= fun w hw e=> by have:= (hb3.own w e).1;omega
        exact ⟨((hg2.trans hg3).set (by omega) _).set (by omega) _, bv, rfl, ((hb3.low (by omega)).setn (hne _ (by omega)) _).setn (hne _ (by omega)) _⟩
/-! All elements. -/
def zfS(one:Bool)(l:List Nat):Option (List X):=
 if h:l.length=0 then some []
 else if l.getD 0 0=0 then zfS one (l.drop 1)
 else if one=true/\l.getD 0 0/16=15 then some []
 else if ebad one l then none
 else (zfS one (l.drop (elen one l))).map (zoU one l :: ·)
termination_by l.length
decreasing_by
 all_goals simp only[yat]
 ·omega
 ·unfold elen zfe;split<;>omega
def elen_pos(one:Bool)(l:List Nat):0<elen one l:=by unfold elen zfe;split<;>omega
def exts_ok{lo:Nat}{H:Heap}{v:V}{l:List Nat}(h:By lo H v l)(h8:Ok8 l)(hl:l.length<=1048576)(prof:Int)(hp:-9223372036854775808<=prof/\prof<=9223372036854775807) :
  Ok (sem T zfq [.int .i64 prof,v]) H λr H'=>Grow H H'/\match zfS (decide (prof=48862)) l with
   | none=>r = .tup [.nils,.bool false]
   | some xs=>∃xv,r = .tup [xv,.bool true]/\Exs H.next H' xv xs/\xs.length<=l.length:=by
 refine zsR ?_;unfold zpt uR ug;simp(disch:=omega)only[↓RD,RZ,eq_self,seval];generalize hone:decide (prof=48862)=one;refine ztY (λL H' m=>∃w acc k xs,L=[w,acc]/\m=l.length-k/\k<=l.length/\By lo H' w (l.drop k)/\w.pid=v.pid/\AppX zaS H.next H' acc xs/\Grow H H'/\xs.length<=k/\zfS one l=(zfS one (l.drop k)).map (xs ++ ·)) l.length ?_ ?_
 ·exact⟨v,.nils,0,[],rfl,by simp,by omega,by simpa using h,rfl,AppX.nil,Grow.refl _,by simp,by simp⟩
 ·rintro L H1 m ⟨w,acc,k,xs,rfl,rfl,hk,hw,hwp,ha,hg,hx,hpe⟩;have hdl:(l.drop k).length=l.length-k:=by rw[yat]
  unfold zl4 uL uM uS uT uE uB uG uH uO uA uR uK uc ub uq ug;simp(disch:=omega)only[↓RD,RZ,eq_self,seval,hw.vlen,hdl];by_cases h0:l.length-k=0
  ·have hp0:zfS one (l.drop k)=some []:=by rw[zfS,dif_pos (by omega)]
   rw[hp0]at hpe;simp(disch:=omega)only[↓RD,RZ,eq_self,seval,hw.vlen,hdl];refine⟨hg,?_⟩;rw[hpe];exact⟨acc,rfl,by simpa using ha.exs,by simpa using (by omega:xs.length<=l.length)⟩
  ·have hpos:0<l.length-k:=by omega
   obtain⟨p0,hp0,hl0,-⟩:=zsg hw (i:=0) (by omega) (by omega);have e1:=hl0 H1 hw;have h8k:=h8.drop k;have hb0:=getD_lt h8k 0;have ht0:(0:Int).toNat=0:=rfl;rw[ht0]at e1;have hp1:zfS one (l.drop k)=if (l.drop k).getD 0 0=0 then zfS one ((l.drop k).drop 1) else if one=true/\(l.drop k).getD 0 0/16=15 then some [] else if ebad one (l.drop k) then none else (zfS one ((l.drop k).drop (elen one (l.drop k)))).map (zoU one (l.drop k) :: ·):=by
    rw[zfS,dif_neg (by omega)]
   simp(disch:=omega)only[↓RD,RZ,eq_self,seval,hp0,e1];refine zxt (λhz=>?_) λhz=>?_
   ·obtain⟨v',-,-,hs3,hs4,hs5⟩:=by_slice hw (x:=1) (y:=(l.length-k:Nat)) (by omega) (by omega) (by omega);rw[if_pos (by omega)]at hp1;have hs3':=@hs3 (by rw[hdl]);simp(disch:=omega)only[↓RD,RZ,eq_self,seval,hs3'];refine⟨l.length-(k+1),by omega,v',acc,k+1,xs,rfl,rfl,by omega,?_,hs5.trans hwp,ha,hg,by omega,?_⟩
    ·have el:(l.drop k).drop 1=l.drop (k+1):=by rw[ybd]
     have:(((l.drop k).drop (1:Int).toNat).take (((l.length-k:Nat):Int).toNat-(1:Int).toNat))=l.drop (k+1):=by
      rw[<-el];exact yal (by rw[yat,yat];omega)
     rw[this]at hs4;exact hs4
    ·rw[hpe,hp1,ybd]
   ·rw[if_neg (by omega)]at hp1;by_cases hend:one=true/\(l.drop k).getD 0 0/16=15
    ·rw[if_pos hend]at hp1;have hpr:prof=48862:=by rw[hend.1]at hone;exact of_decide_eq_true hone
     simp(disch:=omega)only[↓RD,RZ,eq_self,seval,hp0,e1,hend.2];rw[hpe,hp1];exact⟨hg,acc,rfl,by simpa using ha.exs,by simp;omega⟩
    ·rw[if_neg hend]at hp1;have hcase:(prof=48862/\(l.drop k).getD 0 0/16≠15)\/prof≠48862:=by
      by_cases hpr:prof=48862
      ·refine .inl ⟨hpr,λe=>hend ⟨?_,e⟩⟩;rw[<-hone];exact decide_eq_true hpr
      ·exact .inr hpr
     rcases hcase with⟨hpr,h15⟩|hpr<;>(
      simp(disch:=omega)only[↓RD,RZ,eq_self,seval,hp0,e1];refine zaf (zvP hw h8k (by omega) (by omega) prof hp) ?_;rintro r H2 ⟨hg2,hr⟩;rw[hone]at hr;by_cases hbad:ebad one (l.drop k)
      ·rw[if_pos hbad]at hr hp1;subst hr;simp(disch:=omega)only[↓RD,RZ,eq_self,seval];rw[hpe,hp1];exact⟨(hg.trans hg2).trans ((Grow.new _ _).set (by omega) _),by trivial⟩
      ·rw[if_neg hbad]at hr hp1;obtain⟨bv,rfl,hbv⟩:=hr;have hel:=elen_pos one (l.drop k);have helr:elen one (l.drop k)<=l.length-k:=by
        have:¬(l.drop k).length<zfe one+enum one (l.drop k):=λe=>hbad (.inr e);unfold elen;omega
       simp(disch:=first|omega|(simp only[RY]<;>omega)|decide)only[↓RD,RZ,eq_self,seval,hbv.cells1,hbv.okc];generalize hH3:(Heap.set _ _ _)=H3;have g23:Grow H2 H3:=by rw[<-hH3];exact(Grow.new _ _).set (by omega) _
       have n3:H3.next=H2.next+1:=by rw[<-hH3];rfl
       have hn1:=hg.next;have hn2:=hg2.next;have g13:=hg2.trans g23;have hbv3:=hbv.ext g23;refine okb_appx (lo:=H.next) (bytes:=32) (ha.keep ((g13.trans (Grow.new _ _)).keep _)) (by rw[zac];omega) (zok (by omega) rfl) ((hbv3.newn _).low (by omega)) (λid hid e=>?_) (by omega) (by omega) λx' H4 ha4 hs4=>?_
       ·obtain⟨ws,_,hw2,_⟩:=ha;have:=(hw2.lc.own id e).2;have:=(hbv.own id hid).1;omega
       ·have hacc:∀id,acc.pid=some id->H.next<=id:=λid e=>by
         obtain⟨ws,_,hw2,_⟩:=ha;exact(hw2.lc.own id e).1
        have n4:=hs4.next;rw[zac]at n4;have g4:Grow H H4:=⟨by omega,λi hi=>by
         rw[hs4.same i (by rw[zac];omega) (λe=>by have:=hacc i (by simpa [zbK]using e);omega),zas _ _ (by omega),g13.same i (by omega),hg.same i hi]⟩
        have hw4:By lo H4 w (l.drop k):=((hw.ext g13).newn _).step hs4 λid e e2=>by
         have:=hacc id (by simpa [zbK]using e2);have:=(h.own id (hwp ▸ e)).2;omega
        obtain⟨v',-,-,hs3,hs5,hs6⟩:=by_slice hw4 (x:=(elen one (l.drop k):Nat)) (y:=(l.length-k:Nat)) (by omega) (by omega) (by omega);have hs3':=@hs3 (by rw[hdl]);simp(disch:=omega)only[↓RD,RZ,eq_self,seval,hs3'];refine⟨l.length-(k+elen one (l.drop k)),by omega,v',x',k+elen one (l.drop k),xs++[zoU one (l.drop k)],rfl,rfl,by omega,?_,hs6.trans hwp,ha4,g4,by simp;omega,?_⟩
        ·have:(((l.drop k).drop ((elen one (l.drop k):Nat):Int).toNat).take (((l.length-k:Nat):Int).toNat-((elen one (l.drop k):Nat):Int).toNat))=l.drop (k+elen one (l.drop k)):=by
          rw[yao,yao,ybd];exact yal (by rw[yat];omega)
         rw[this]at hs5;exact hs5
        ·rw[hpe,hp1,ybd,ybj];congr 1;funext z;simp)
end Go.Ax.R7
/- Rtp3 -/
namespace Go.Ax.R7
open Go.Ax
def by32(n:Nat):V:=.int .u32 n
structure Pkt where
 mark:Bool
 typ:Int
 seq:Nat
 ts:Nat
 ssrc:Nat
 csrc:List Nat
 prof:Int
 exts:List X
 pad:Int
 pay:List Nat
def pcells(p:Pkt)(cv xv pv:V):List V:=[.bool p.mark,.int .i64 p.typ,.int .u16 p.seq,.int .u32 p.ts,.int .u32 p.ssrc,cv,.int .i64 p.prof,xv,.int .i64 p.pad,pv]
structure PkR (lo:Nat) (H:Heap) (v:V) (p:Pkt):Prop where
 ex:∃cv xv pv,v = .agg (pcells p cv xv pv)/\Lc 1 lo H cv (p.csrc.map by32) p.csrc.length/\Exs lo H xv p.exts/\By lo H pv p.pay
def PkR.keep{lo:Nat}{H H':Heap}{v:V}{p:Pkt}(h:PkR lo H v p)(k:Keep lo H H'):PkR lo H' v p:=by
 obtain⟨cv,xv,pv,h1,h2,h3,h4⟩:=h;exact⟨cv,xv,pv,h1,h2.keep k,h3.keep k,h4.keep k⟩
def PkR.ext{lo:Nat}{H H':Heap}{v:V}{p:Pkt}(h:PkR lo H v p)(k:Grow H H'):PkR lo H' v p:=h.keep (k.keep lo)
def PkR.low{lo lo':Nat}{H:Heap}{v:V}{p:Pkt}(h:PkR lo H v p)(hl:lo'<=lo):PkR lo' H v p:=by
 obtain⟨cv,xv,pv,h1,h2,h3,h4⟩:=h;exact⟨cv,xv,pv,h1,h2.low hl,h3.low hl,h4.low hl⟩
def zeroP:Pkt:=⟨false,0,0,0,0,[],0,[],0,[]⟩
def PkR.zero{lo:Nat}{H:Heap}:PkR lo H (.agg [.bool false,.int .i64 0,.int .u16 0,.int .u32 0,.int .u32 0,.nils,.int .i64 0,.nils,.int .i64 0,.nils]) zeroP:=⟨.nils,.nils,.nils,rfl,Lc.nil,Exs.nil,Lc.nil⟩
def piece(b:List Nat)(i n:Nat):List Nat:=(b.drop i).take n
def zoM(b:List Nat):Pkt:=⟨decide (b.getD 1 0/128%2=1),(b.getD 1 0%128:Nat),be (piece b 2 2),be (piece b 4 4),be (piece b 8 4),[],0,[],0,[]⟩
def csn(b:List Nat):Nat:=b.getD 0 0%16
def zg1(b:List Nat):List Nat:=(List.range (csn b)).map λi=>be (piece b (12+4*i) 4)
def pext(r:List Nat):Except Int (Int×List X×Nat):=
 if r.length<4 then .error 3
 else if r.length<4+4*be (piece r 2 2) then .error 3
 else if be (piece r 0 2)≠48862/\be (piece r 0 2)≠4096 then .error 2
 else match zfS (decide (((be (piece r 0 2):Nat):Int)=48862)) (piece r 4 (4*be (piece r 2 2))) with
  | none=>.error 2
  | some xs=>.ok ((be (piece r 0 2):Nat),xs,4+4*be (piece r 2 2))
def zkl(b:List Nat):Except Int (Int×List X×Nat):=if b.getD 0 0/16%2=1 then pext (b.drop (12+4*csn b)) else .ok (0,[],0)
def parse(b:List Nat):Except Int Pkt:=
 if 1200<b.length then .error 4
 else if b.length<12 then .error 3
 else if b.getD 0 0/64≠2 then .error 2
 else if b.length<12+4*csn b then .error 3
 else match zkl b with
  | .error e=>.error e
  | .ok (prof,xs,n)=>
   let at':=12+4*csn b+n
   if b.getD 0 0/32%2=1 then
    let pad:=b.getD (b.length-1) 0
    if pad=0\/b.length-at'<pad then .error 2
    else .ok { zoM b with csrc:=zg1 b,prof:=prof,exts:=xs,pad:=(pad:Nat),pay:=piece b at' (b.length-at'-pad) }
   else .ok { zoM b with csrc:=zg1 b,prof:=prof,exts:=xs,pay:=piece b at' (b.length-at') }
def zfk{b:List Nat}(h:Ok8 b)(i n:Nat):Ok8 (piece b i n):=(h.drop i).take n
def zdN{b:List Nat}{i n:Nat}(h:i+n<=b.length):(piece b i n).length=n:=by unfold piece;rw[yaq,yat];omega
def zfQ{b:List Nat}(h:Ok8 b)(i n:Nat):be (piece b i n)<256 ^ n:=be_take_lt (h.drop i) (yaj n)
def zhL{lo:Nat}{H:Heap}{v:V}{l:List Nat}(h:By lo H v l){x y:Int}(h0:0<=x)(h1:x<=y)(h2:y<=l.length) :
  ∃v',(∀{k k':IntKind},zat .sl 1 v (some (.int k x)) (some (.int k' y)) none=some v')/\(x=0->∀{k':IntKind},zat .sl 1 v none (some (.int k' y)) none=some v')/\(y=l.length->∀{k:IntKind},zat .sl 1 v (some (.int k x)) none none=some v') /\
   By lo H v' (piece l x.toNat (y.toNat-x.toNat))/\v'.pid=v.pid:=by_slice h h0 h1 h2
def ExtQ(H:Heap)(k:Nat)(p:Pkt)(cv pv:V) (o:Except Int (Int×List X×Nat)) (res:V) (H':Heap):Prop:=
 At1 k H H'/\match o with
  | .error e=>res = .tup [.int .i64 0,.int .i64 e]
  | .ok (prof,xs,n)=>res = .tup [.int .i64 (n:Nat),.int .i64 0]/\∃xv',H'.get k=some ⟨zaq,pcells { p with prof:=prof } cv xv' pv,none⟩/\Exs H.next H' xv' xs
def zrU{lo:Nat}{H:Heap}{v:V}{r:List Nat}(h:By lo H v r)(h8:Ok8 r)(hl:r.length<=1048576){k:Nat}{p:Pkt}{cv xv pv:V}(hk:k<H.next) (hb:H.get k=some ⟨zaq,pcells p cv xv pv,none⟩) (hv:v.pid≠some k) :
  Ok (sem T zdr [.ptr k 0,v]) H (ExtQ H k p cv pv (pext r)):=by
 refine zml ?_;unfold ziR uL uT uNFM uNF uE uB uG uH uA uR uc;unfold pext;simp(disch:=omega)only[↓RD,RZ,eq_self,seval,h.vlen];refine zcm (λh4=>?_) λh4=>?_
 ·simp(disch:=omega)only[↓RD,RZ,eq_self,seval];rw[if_pos (by omega)];exact⟨At1.refl _ _,rfl⟩
 ·rw[if_neg (by omega)];obtain⟨v1,hs1,-,-,hb1,hp1⟩:=zhL h (x:=2) (y:=4) (by omega) (by omega) (by omega);have hb1':By lo H v1 (piece r 2 2):=hb1;have hw:=zfQ h8 2 2;have hpr:=zfQ h8 0 2;simp(disch:=omega)only[↓RD,RZ,eq_self,seval,hs1];refine zaf (zpo hb1' (zfk h8 _ _) (by rw[zdN (by omega)];omega)) ?_;rintro _ H ⟨rfl,rfl⟩;have ec:(4:Int)+4*(be (piece r 2 2):Nat)=((4+4*be (piece r 2 2):Nat):Int):=by omega
  simp(disch:=omega)only[↓RD,RZ,eq_self,seval,h.vlen,ec];refine zcm (λh5=>?_) λh5=>?_
  ·simp(disch:=omega)only[↓RD,RZ,eq_self,seval];rw[if_pos (by omega)];exact⟨At1.refl _ _,rfl⟩
  ·rw[if_neg (by omega)];obtain⟨v2,-,hs2,-,hb2,hp2⟩:=zhL h (x:=0) (y:=2) (by omega) (by omega) (by omega);have hb2':By lo H v2 (piece r 0 2):=hb2;have hs2':=@hs2 rfl;simp(disch:=omega)only[↓RD,RZ,eq_self,seval,hs2'];refine zaf (zpo hb2' (zfk h8 _ _) (by rw[zdN (by omega)];omega)) ?_;rintro _ H ⟨rfl,rfl⟩;unfold pcells at hb;generalize hprof:be (piece r 0 2)=prof at *;simp(disch:=omega)only[↓RD,RZ,eq_self,seval,hb];generalize hH1:Heap.set H k _=H1;have g1:H1.get k=some ⟨zaq,pcells { p with prof:=(prof:Nat) } cv xv pv,none⟩:=by rw[<-hH1,zah];rfl
   have s1:At1 k H H1:=by rw[<-hH1];exact At1.set _ _ _
   have n1:H1.next=H.next:=by rw[<-hH1,zal]
   have g1':=g1;unfold pcells at g1';have h1:By lo H1 v r:=h.at1 s1 hv;obtain⟨v3,hs3,-,-,hb3,hp3⟩:=zhL h1 (x:=4) (y:=(4+4*be (piece r 2 2):Nat)) (by omega) (by omega) (by omega);have e3:((4+4*be (piece r 2 2):Nat):Int).toNat-(4:Int).toNat=4*be (piece r 2 2):=by omega
   rw[e3]at hb3;have hb3':By lo H1 v3 (piece r 4 (4*be (piece r 2 2))):=hb3;have h83:=zfk h8 4 (4*be (piece r 2 2));have hl3:(piece r 4 (4*be (piece r 2 2))).length<=1048576:=by rw[zdN (by omega)];omega
   have main:(prof=48862\/prof=4096)->Ok ((sem T zfq [.int .i64 (prof:Nat),v3]).bind λt49=>(M.lift (ext 0 t49)).bind λt50=>(M.lift (ext 1 t49)).bind λt51=>(M.lift (un .not t51)).bind λt53=>
     M.ite t53 (M.pure (Res.ret [.int .i64 0,.int .i64 2])) ((M.lift (nilck (.ptr k 0))).bind λt56=>(M.lift (faddr 7 t56)).bind λt57=>(mstore 1 t57 t50).bind λ_=>M.pure (.ret [.int .i64 (4+4*be (piece r 2 2):Nat),.int .i64 0]))) H1
     λr' H'=>∃L,r'=Res.ret L/\ExtQ H k p cv pv (match zfS (decide (((prof:Nat):Int)=48862)) (piece r 4 (4*be (piece r 2 2))) with|none=>Except.error 2|some xs=>Except.ok (((prof:Nat):Int),xs,4+4*be (piece r 2 2))) (zcX L) H':=by
    intro hor;refine zaf (exts_ok hb3' h83 hl3 (prof:Nat) (by omega)) ?_;rintro res H2 ⟨hg2,hr⟩;cases hx:zfS (decide (((prof:Nat):Int)=48862)) (piece r 4 (4*be (piece r 2 2))) with
    | none=>
     rw[hx]at hr;dsimp only at hr;subst hr;simp(disch:=omega)only[↓RD,RZ,eq_self,seval];exact⟨s1.trans (hg2.at1 k),rfl⟩
    | some xs=>
     rw[hx]at hr;dsimp only at hr;obtain⟨xv',rfl,hxs,hxl⟩:=hr;have g2:H2.get k=some ⟨zaq,[V.bool p.mark,V.int IntKind.i64 p.typ,V.int IntKind.u16 ↑p.seq,V.int IntKind.u32 ↑p.ts,V.int IntKind.u32 ↑p.ssrc,cv,V.int IntKind.i64 ↑prof,xv,V.int IntKind.i64 p.pad,pv],none⟩:=by rw[hg2.same k (by omega)];exact g1'
     simp(disch:=omega)only[↓RD,RZ,eq_self,seval,g2,hxs.cells1,hxs.okc];refine⟨(s1.trans (hg2.at1 k)).trans (At1.set _ _ _),rfl,xv',zah _ _ _,?_⟩;rw[n1]at hxs;exact hxs.keep ⟨yaj _,λi h1 h2=>zai _ _ (by omega)⟩
   by_cases hp1:prof=48862
   ·rw[if_neg (by omega)];subst hp1;simp(disch:=omega)only[↓RD,RZ,eq_self,seval,g1',hs3];exact main (.inl rfl)
   ·by_cases hp2:prof=4096
    ·rw[if_neg (by omega)];subst hp2;simp(disch:=omega)only[↓RD,RZ,eq_self,seval,g1',hs3];exact main (.inr rfl)
    ·rw[if_pos ⟨hp1,hp2⟩];simp(disch:=omega)only[↓RD,RZ,eq_self,seval,g1'];exact⟨s1,rfl⟩
def zyE{lo:Nat}{H:Heap}{v:V}{b:List Nat}(h:By lo H v b)(h8:Ok8 b)(hl:b.length<=1200){k m:Nat}{p:Pkt}{xv pv:V}(t2:V)(hv:∀id,v.pid=some id->id<k)(hk:k<m)(hm:m<=H.next) (hb:H.get k=some ⟨zaq,pcells p .nils xv pv,none⟩) (hn:12+4*csn b<=b.length) {Q:Res->Heap->Prop}
  (kk:∀H' cv,H'.get k=some ⟨zaq,pcells p cv xv pv,none⟩->Lc 1 m H' cv ((zg1 b).map by32) (zg1 b).length->(∀i,i<m->i≠k->H'.get i=H.get i)->H.next<=H'.next->Q (.ex 1 []) H') :
  Ok (M.iter (zfc (sem T) (.int .i64 (12+4*csn b:Nat)) v (.ptr k 0) t2) [.int .i64 12]) H Q:=by
 have hcl:(zg1 b).length=csn b:=by simp[zg1]
 refine zaQ (λj L H'=>∃cv,L=[.int .i64 (12+4*j:Nat)]/\H'.get k=some ⟨zaq,pcells p cv xv pv,none⟩/\App zmV 1 m H' cv (((zg1 b).take j).map by32) j/\(∀i,i<m->i≠k->H'.get i=H.get i)/\H.next<=H'.next) (csn b) ?_ ?_ ?_
 ·exact⟨.nils,rfl,hb,App.nil,λ_ _ _=>rfl,yaj _⟩
 ·rintro j L H1 hj ⟨cv,rfl,g1,ha,gs,gn⟩;have h1:By lo H1 v b:=⟨by rw[zcZ λi hi=>gs i (by have:=hv i hi;omega) (by have:=hv i hi;omega)];exact h.rc,λi hi=>⟨(h.own i hi).1,yak (h.own i hi).2 gn⟩,h.cap⟩;obtain⟨v1,hs1,-,-,hb1,-⟩:=zhL h1 (x:=(12+4*j:Nat)) (y:=(16+4*j:Nat)) (by omega) (by omega) (by omega);have e1:((16+4*j:Nat):Int).toNat-((12+4*j:Nat):Int).toNat=4:=by omega
  rw[e1,yao]at hb1;have e2:((12+4*j:Nat):Int)+4=((16+4*j:Nat):Int):=by omega
  have g1':=g1;unfold pcells at g1';unfold zfc uL uM uT uF uB uU uA uZ uK uc ug;simp(disch:=omega)only[↓RD,RZ,eq_self,seval,g1',e2,hs1];refine zaf (zpo hb1 (zfk h8 _ _) (by rw[zdN (by omega)];omega)) ?_;rintro _ H1 ⟨rfl,rfl⟩;simp(disch:=omega)only[↓RD,RZ,eq_self,seval];refine zij (lo:=m) (bytes:=4) (m:=1) (q:=[by32 (be (piece b (12+4*j) 4))]) (App.keep ha ((Grow.new _ _).keep _)) (by rw[zac];omega) (zcD rfl) rfl (by omega) (by omega) λcv' H2 ha2 hs2=>?_;have hcv:∀id,cv.pid=some id->m<=id:=λid hi=>(ha.lc.own id hi).1;have low:∀i,i<m->H2.get i=H1.get i:=λi hi=>by
   rw[hs2.same i (by rw[zac];omega) (λe=>by have:=hcv i (by simpa [zbK]using e);omega),zas _ _ (by omega)]
  have g2:=g1';rw[<-low k (by omega)]at g2;have n2:=hs2.next;rw[zac]at n2;simp(disch:=omega)only[↓RD,RZ,eq_self,seval,g2,ha2.lc.cells1,ha2.lc.okc];refine⟨cv',by first|rfl|(congr 2;omega),by first|rfl|exact zah _ _ _,?_,λi hi hik=>by rw[zai _ _ hik,low i hi,gs i hi hik],by first|omega|(rw[zal];omega)⟩;have e3:((zg1 b).take (j+1)).map by32=((zg1 b).take j).map by32++[by32 (be (piece b (12+4*j) 4))]:=by
   have e4:(zg1 b).getD j 0=be (piece b (12+4*j) 4):=by
    rw[yan,yaf (by omega)];simp[zg1]
   rw[take_snoc (by omega),yaE,e4];rfl
  rw[e3];exact App.keep ha2 (Keep.set _ (by omega) _)
 ·rintro L H1 ⟨cv,rfl,g1,ha,gs,gn⟩;unfold zfc uL uM uT uF uB uU uA uZ uK uc ug;simp(disch:=omega)only[↓RD,RZ,eq_self,seval];have:=ha.lc;rw[<-hcl,ya6]at this;exact kk H1 cv g1 this gs gn
def zkf:List V:=[.bool false,.int .i64 0,.int .u16 0,.int .u32 0,.int .u32 0,.nils,.int .i64 0,.nils,.int .i64 0,.nils]
def zuJ(H:Heap)(o:Except Int Pkt)(res:V)(H':Heap):Prop:=
 Grow H H'/\match o with
  | .error e=>res = .tup [.agg zkf,.int .i64 e]
  | .ok p=>∃z,res = .tup [z,.int .i64 0]/\PkR H.next H' z p
def errQ{H H':Heap}{e:Int}{b:Option Blk}(h:Grow H H'):zuJ H (.error e) (.tup [.agg zkf,.int .i64 e]) (H'.set H.next b):=⟨h.set (yaj _) _,rfl⟩
def bitne{x:Nat}(m:Nat)(hm:0<m):(!(((x%2*m:Nat):Int)==0))=decide (x%2=1):=by
 rcases Nat.mod_two_eq_zero_or_one x with h|h
 ·simp[h]
 ·simp[h];omega
def PE(H:Heap)(lo:Nat)(v:V)(b:List Nat)(cv:V)(r:Res)(H':Heap):Prop:=
 match zkl b with
 | .error e=>∃L,r = .ret L/\zuJ H (.error e) (zcX L) H'
 | .ok (prof,xs,n)=>r = .nrm [.int .i64 (12+4*csn b+n:Nat)]/\∃xv,H'.get (H.next+1)=some ⟨zaq,pcells { zoM b with prof:=prof } cv xv .nils,none⟩/\Exs (H.next+2) H' xv xs/\Lc 1 (H.next+2) H' cv ((zg1 b).map by32) (zg1 b).length /\
   H'.get H.next=some ⟨zaq,zkf,none⟩/\Grow H H'/\H.next+2<=H'.next/\12+4*csn b+n<=b.length
def PP(H:Heap)(b:List Nat)(cv xv:V)(at':Nat)(prof:Int)(xs:List X)(r:Res)(H':Heap):Prop:=
 if b.getD 0 0/32%2=1/\(b.getD (b.length-1) 0=0\/b.length-at'<b.getD (b.length-1) 0) then ∃L,r = .ret L/\zuJ H (.error 2) (zcX L) H'
 else r = .nrm []/\H'.get (H.next+1)=some ⟨zaq,pcells { zoM b with prof:=prof,pad:=((if b.getD 0 0/32%2=1 then b.getD (b.length-1) 0 else 0:Nat):Int) } cv xv .nils,none⟩/\Exs (H.next+2) H' xv xs/\Lc 1 (H.next+2) H' cv ((zg1 b).map by32) (zg1 b).length /\
   H'.get H.next=some ⟨zaq,zkf,none⟩/\Grow H H'/\H.next+2<=H'.next
def Parse_ok{lo:Nat}{H:Heap}{v:V}{b:List Nat}(h:By lo H v b)(h8:Ok8 b)(hl:b.length<=1048576):Ok (sem T zga [v]) H (zuJ H (parse b)):=by
 have hv:∀id,v.pid=some id->id<H.next:=λid hi=>(h.own id hi).2;have b0:=getD_lt h8 0;have b1:=getD_lt h8 1;refine zrt ?_;unfold znP uL uM uS uT uF uFM uE uB uI uIM uG uH uO uU uA uZ uR uK uc ub uq ug;unfold parse;simp(disch:=omega)only[↓RD,RZ,eq_self,seval,h.vlen];generalize hH1:Heap.new H _=H1;have n1:H1.next=H.next+1:=by rw[<-hH1];rfl
 have s1:Grow H H1:=by rw[<-hH1];exact Grow.new _ _
 have g1:H1.get H.next=some ⟨zaq,zkf,none⟩:=by rw[<-hH1];exact zae _ _
 have h1:=h.ext s1;have g1':=g1;unfold zkf at g1';clear hH1;by_cases c1:1200<b.length
 ·rw[if_pos c1];simp(disch:=first|omega|(simp only[RY]<;>omega)|decide)only[↓RD,RZ,eq_self,seval,g1'];exact errQ s1
 ·rw[if_neg c1];by_cases c2:b.length<12
  ·rw[if_pos c2];simp(disch:=first|omega|(simp only[RY]<;>omega)|decide)only[↓RD,RZ,eq_self,seval,g1',h.vlen];exact errQ s1
  ·rw[if_neg c2];obtain⟨p0,hp0,hl0,hd0⟩:=zsg h1 (i:=0) (by omega) (by omega);obtain⟨p1,hp1,hl1,hd1⟩:=zsg h1 (i:=1) (by omega) (by omega);have ht0:(0:Int).toNat=0:=rfl;have ht1:(1:Int).toNat=1:=rfl;rw[ht0]at hl0;rw[ht1]at hl1;have e0:=hl0 H1 h1;have e1:=hl1 H1 h1;by_cases c3:b.getD 0 0/64≠2
   ·rw[if_pos c3];simp(disch:=first|omega|(simp only[RY]<;>omega)|decide)only[↓RD,RZ,eq_self,seval,g1',h.vlen,hp0,e0];exact errQ s1
   ·rw[if_neg c3];have c3':b.getD 0 0/64=2:=by omega
    obtain⟨v1,hs1,-,-,hb1,-⟩:=zhL h1 (x:=2) (y:=4) (by omega) (by omega) (by omega);obtain⟨v2,hs2,-,-,hb2,-⟩:=zhL h1 (x:=4) (y:=8) (by omega) (by omega) (by omega);obtain⟨v3,hs3,-,-,hb3,-⟩:=zhL h1 (x:=8) (y:=12) (by omega) (by omega) (by omega);have hb1':By lo H1 v1 (piece b 2 2):=hb1;have hb2':By lo H1 v2 (piece b 4 4):=hb2;have hb3':By lo H1 v3 (piece b 8 4):=hb3;have r1:=@zeR _ _ _ _ (zpo hb1' (zfk h8 _ _) (by rw[zdN (by omega)];omega));have r2:=@zeR _ _ _ _ (zpo hb2' (zfk h8 _ _) (by rw[zdN (by omega)];omega));have r3:=@zeR _ _ _ _ (zpo hb3' (zfk h8 _ _) (by rw[zdN (by omega)];omega));have w1:=zfQ h8 2 2;have w2:=zfQ h8 4 4;have w3:=zfQ h8 8 4;have hm:=bitne (x:=b.getD 1 0/128) 128 (by decide);simp(disch:=omega)only[↓RD,RZ,eq_self,seval,h.vlen,hp0,e0,hp1,e1,c3',hs1,hs2,hs3,r1,r2,r3,hm,n1];generalize hH2:Heap.set _ (H.next+1) _=H2;have n2:H2.next=H.next+2:=by rw[<-hH2,zal,zac];omega
    have s2:Grow H H2:=by rw[<-hH2];exact(s1.trans (Grow.new _ _)).set (by omega) _
    have g2:H2.get H.next=some ⟨zaq,zkf,none⟩:=by rw[<-hH2,zai _ _ (by omega),zas _ _ (by omega),g1]
    have q2:H2.get (H.next+1)=some ⟨zaq,pcells (zoM b) .nils .nils .nils,none⟩:=by rw[<-hH2,zah];rfl
    clear hH2;have h2:=h.ext s2;have e0':=hl0 H2 h2;have g2':=g2;unfold zkf at g2';have ec:(12:Int)+4*((b.getD 0 0%16:Nat):Int)=((12+4*csn b:Nat):Int):=by unfold csn;omega
    have hcs:csn b<=15:=by unfold csn;omega
    by_cases c4:b.length<12+4*csn b
    ·rw[if_pos c4];simp(disch:=first|omega|(simp only[RY]<;>omega)|decide)only[↓RD,RZ,eq_self,seval,e0',ec,h2.vlen,g2',n1];exact errQ s2
    ·rw[if_neg c4];simp(disch:=omega)only[↓RD,RZ,eq_self,seval,e0',ec,h2.vlen,n1];refine zyE h2 h8 (by omega) (k:=H.next+1) (m:=H.next+2) _ (λid hi=>by have:=hv id hi;omega) (by omega) (by omega) q2 (by omega) λH3 cv q3 hc3 s3 n3=>?_;have s3':Grow H H3:=⟨by omega,λi hi=>by rw[s3 i (by omega) (by omega),s2.same i hi]⟩;have g3:H3.get H.next=some ⟨zaq,zkf,none⟩:=by rw[s3 _ (by omega) (by omega),g2]
     have h3:=h.ext s3';have e03:=hl0 H3 h3;have q3':=q3;unfold pcells at q3';have g3':=g3;unfold zkf at g3';have hm16:=bitne (x:=b.getD 0 0/16) 16 (by decide);have hm32:=bitne (x:=b.getD 0 0/32) 32 (by decide);simp(disch:=omega)only[↓RD,RZ,eq_self,seval,hp0,e03,hm16,n1]
     -- the extension
     refine zao (Q:=PE H lo v b cv) ?_ ?_
     ·by_cases cx:b.getD 0 0/16%2=1
      ·obtain⟨v4,-,-,hs4,hb4,hp4⟩:=by_slice h3 (x:=(12+4*csn b:Nat)) (y:=b.length) (by omega) (by omega) (by omega);have hs4':=@hs4 rfl;have hb4':By lo H3 v4 (b.drop (12+4*csn b)):=by
        have:((b.drop ((12+4*csn b:Nat):Int).toNat).take ((b.length:Int).toNat-((12+4*csn b:Nat):Int).toNat))=b.drop (12+4*csn b):=by
         rw[yao];exact yal (by rw[yat];omega)
        rw[this]at hb4;exact hb4
       simp(disch:=omega)only[↓RD,RZ,eq_self,seval,cx,hs4',n1];refine zaf (zrU hb4' (h8.drop _) (by rw[yat];omega) (k:=H.next+1) (by omega) q3 (λe=>by have:=hv _ (hp4 ▸ e);omega)) ?_;rintro res H4 ⟨t4,hr⟩;have s4:Grow H H4:=⟨by have:=t4.next;omega,λi hi=>by rw[t4.same i (by omega) (by omega),s3'.same i hi]⟩;have g4:H4.get H.next=some ⟨zaq,zkf,none⟩:=by rw[t4.same _ (by omega) (by omega),g3]
       have g4':=g4;unfold zkf at g4';have n4:=t4.next;cases hx:pext (b.drop (12+4*csn b)) with
       | error e=>
        rw[hx]at hr;dsimp only at hr;subst hr;have hee:e=2\/e=3:=by
         unfold pext at hx;split at hx
         ·cases hx;exact .inr rfl
         ·split at hx
          ·cases hx;exact .inr rfl
          ·split at hx
           ·cases hx;exact .inl rfl
           ·split at hx
            ·cases hx;exact .inl rfl
            ·cases hx
        rcases hee with rfl|rfl
        ·simp(disch:=first|omega|(simp only[RY]<;>omega)|decide)only[↓RD,RZ,eq_self,seval,g4'];unfold PE zkl;rw[if_pos cx,hx];exact⟨_,rfl,errQ s4⟩
        ·simp(disch:=first|omega|(simp only[RY]<;>omega)|decide)only[↓RD,RZ,eq_self,seval,g4'];unfold PE zkl;rw[if_pos cx,hx];exact⟨_,rfl,errQ s4⟩
       | ok o=>
        obtain⟨prof,xs,n⟩:=o;rw[hx]at hr;dsimp only at hr;obtain⟨rfl,xv,q4,hxs⟩:=hr;have hn:n<=b.length-(12+4*csn b):=by
         unfold pext at hx;rw[yat]at hx;split at hx
         ·cases hx
         ·split at hx
          ·cases hx
          ·split at hx
           ·cases hx
           ·split at hx
            ·cases hx
            ·cases hx;omega
        have ea:((12+4*csn b:Nat):Int)+(n:Int)=((12+4*csn b+n:Nat):Int):=rfl;simp(disch:=omega)only[↓RD,RZ,eq_self,seval,ea,n1];unfold PE zkl;rw[if_pos cx,hx];exact⟨rfl,xv,q4,hxs.low (by omega),hc3.at1 t4 (λe=>by have:=(hc3.own _ e).1;omega),g4,s4,by omega,by omega⟩
      ·simp(disch:=omega)only[↓RD,RZ,eq_self,seval,cx,n1];unfold PE zkl;rw[if_neg cx];exact⟨rfl,.nils,q3,Exs.nil,hc3,g3,s3',by omega,by omega⟩
     ·rintro r H4 hPE;unfold PE at hPE;cases hx:zkl b with
      | error e=>
       rw[hx]at hPE;obtain⟨L,rfl,hq⟩:=hPE;simp(disch:=omega)only[↓RD,RZ,eq_self,seval];exact hq
      | ok o=>
       obtain⟨prof,xs,n⟩:=o;rw[hx]at hPE;obtain⟨rfl,xv,q4,hxs,hc4,g4,s4,n4,hat⟩:=hPE;dsimp only;have h4:=h.ext s4;generalize hatd:12+4*csn b+n=at' at *;obtain⟨v5,-,-,hs5,hb5,hp5⟩:=by_slice h4 (x:=(at':Nat)) (y:=b.length) (by omega) (by omega) (by omega);have hs5':=@hs5 rfl;have e5:(b.length:Int).toNat-((at':Nat):Int).toNat=b.length-at':=by omega
       rw[e5,yao]at hb5;have hb5':By (lo) H4 v5 (piece b at' (b.length-at')):=hb5;have hl5:(piece b at' (b.length-at')).length=b.length-at':=zdN (by omega);have vl5:=hb5'.vlen;rw[hl5]at vl5;obtain⟨pl,hpl,hll,hdl⟩:=zsg h4 (i:=(b.length-1:Nat)) (by omega) (by omega);rw[yao]at hll;have e04:=hl0 H4 h4;have el4:=hll H4 h4;have elen':(b.length:Int)-1=((b.length-1:Nat):Int):=by omega
       have bl:=getD_lt h8 (b.length-1);have q4':=q4;unfold pcells at q4';have g4':=g4;unfold zkf at g4';simp(disch:=omega)only[↓RD,RZ,eq_self,seval,hs5',hp0,e04,hm32,n1]
       -- the padding
       refine zao (Q:=PP H b cv xv at' prof xs) ?_ ?_
       ·by_cases cp:b.getD 0 0/32%2=1
        ·by_cases cz:b.getD (b.length-1) 0=0
         ·simp(disch:=first|omega|(simp only[RY]<;>omega)|decide)only[↓RD,RZ,eq_self,seval,cp,h4.vlen,elen',hpl,el4,q4',cz,g4',n1];unfold PP;rw[if_pos ⟨cp,.inl cz⟩];exact⟨_,rfl,errQ (s4.set (by omega) _)⟩
         ·by_cases cl:b.length-at'<b.getD (b.length-1) 0
          ·simp(disch:=first|omega|(simp only[RY]<;>omega)|decide)only[↓RD,RZ,eq_self,seval,cp,h4.vlen,elen',hpl,el4,q4',vl5,g4',n1];unfold PP;rw[if_pos ⟨cp,.inr cl⟩];exact⟨_,rfl,errQ (s4.set (by omega) _)⟩
          ·simp(disch:=omega)only[↓RD,RZ,eq_self,seval,cp,h4.vlen,elen',hpl,el4,q4',vl5,g4',n1];unfold PP;rw[if_neg (λe=>e.2.elim cz cl),if_pos cp];refine⟨rfl,zah _ _ _,hxs.keep (Keep.set _ (by omega) _),hc4.keep (Keep.set _ (by omega) _),by rw[zai _ _ (by omega),g4],s4.set (by omega) _,n4⟩
        ·simp(disch:=omega)only[↓RD,RZ,eq_self,seval,cp,n1];unfold PP;rw[if_neg (λe=>cp e.1),if_neg cp];exact⟨rfl,q4,hxs,hc4,g4,s4,n4⟩
       ·rintro r H5 hPP;unfold PP at hPP;generalize hpad:(if b.getD 0 0/32%2=1 then b.getD (b.length-1) 0 else 0)=pad at *;by_cases ce:b.getD 0 0/32%2=1/\(b.getD (b.length-1) 0=0\/b.length-at'<b.getD (b.length-1) 0)
        ·rw[if_pos ce]at hPP;obtain⟨L,rfl,hq⟩:=hPP;rw[if_pos ce.1,if_pos ce.2];simp(disch:=omega)only[↓RD,RZ,eq_self,seval];exact hq
        ·rw[if_neg ce]at hPP;obtain⟨rfl,q5,hx5,hc5,g5,s5,n5⟩:=hPP;have hpl':pad<=b.length-at':=by
          rw[<-hpad];split
          ·rename_i cp;have:¬(b.getD (b.length-1) 0=0\/b.length-at'<b.getD (b.length-1) 0):=λe=>ce ⟨cp,e⟩;omega
          ·omega
         have q5':=q5;unfold pcells at q5';have hb5'':By lo H5 v5 (piece b at' (b.length-at')):=by
          have hs:∀i,v5.pid=some i->H5.get i=H4.get i:=λi hi=>by
           have:=hv i (hp5 ▸ hi);rw[s5.same i this,s4.same i this]
          refine⟨by rw[zcZ hs];exact hb5'.rc,λi hi=>⟨(hb5'.own i hi).1,?_⟩,hb5'.cap⟩;have:=hv i (hp5 ▸ hi);omega
         obtain⟨v6,-,hs6,-,hb6,-⟩:=by_slice hb5'' (x:=0) (y:=(b.length-at'-pad:Nat)) (by omega) (by omega) (by omega);have hs6':=@hs6 rfl;have e6:((b.length-at'-pad:Nat):Int).toNat-(0:Int).toNat=b.length-at'-pad:=by omega
         have e7:(0:Int).toNat=0:=rfl;rw[e6,e7,yaC]at hb6;have e8:(piece b at' (b.length-at')).take (b.length-at'-pad)=piece b at' (b.length-at'-pad):=by
          unfold piece;rw[ybK,ybc (by omega)]
         rw[e8]at hb6;have e9:((b.length-at':Nat):Int)-(pad:Int)=((b.length-at'-pad:Nat):Int):=by omega
         simp(disch:=omega)only[↓RD,RZ,eq_self,seval,vl5,q5',e9,hs6',n1];refine zaf (zuM hb6 (by rw[zdN (by omega)];omega)) ?_;rintro pv H6 ⟨hb7,s7⟩;have q6:H6.get (H.next+1) = _:=(s7.same _ (by omega)).trans q5';have g6:H6.get H.next = _:=(s7.same _ (by omega)).trans g5;unfold zkf at g6;have n7:=s7.next;simp(disch:=first|omega|(simp only[RY]<;>omega)|decide)only[↓RD,RZ,eq_self,seval,q6,hb7.cells1,hb7.okc,g6,n1];have hfin:(if b.getD 0 0/32%2=1 then (if b.getD (b.length-1) 0=0\/b.length-at'<b.getD (b.length-1) 0 then (Except.error 2:Except Int Pkt) else .ok { zoM b with csrc:=zg1 b,prof:=prof,exts:=xs,pad:=(b.getD (b.length-1) 0:Nat),pay:=piece b at' (b.length-at'-b.getD (b.length-1) 0) }) else .ok { zoM b with csrc:=zg1 b,prof:=prof,exts:=xs,pay:=piece b at' (b.length-at') })
           = .ok { zoM b with csrc:=zg1 b,prof:=prof,exts:=xs,pad:=(pad:Nat),pay:=piece b at' (b.length-at'-pad) }:=by
          rw[<-hpad];by_cases cp:b.getD 0 0/32%2=1
          ·rw[if_pos cp,if_pos cp,if_neg (λe=>ce ⟨cp,e⟩)]
          ·rw[if_neg cp,if_neg cp];rfl
         rw[hfin];refine⟨((s5.trans s7).set (by omega) _).set (by omega) _,_,rfl,cv,xv,pv,rfl,?_,?_,?_⟩
         ·exact(((hc5.ext s7).keep (Keep.set _ (by omega) _)).keep (Keep.set _ (by omega) _)).low (by omega)
         ·exact(((hx5.ext s7).keep (Keep.set _ (by omega) _)).keep (Keep.set _ (by omega) _)).low (by omega)
         ·exact(((hb7.low (lo':=H.next+2) (by omega)).keep (Keep.set _ (by omega) _)).keep (Keep.set _ (by omega) _)).low (by omega)
end Go.Ax.R7
