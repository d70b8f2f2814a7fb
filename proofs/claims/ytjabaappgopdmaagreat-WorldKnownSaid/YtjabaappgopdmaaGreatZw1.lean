/-
  Texts of mine, put together by program (wip/slim.py), for law_worldKnown: part 1.
-/
import Derived.WalkKit
import Derived.WalkSpells
import Derived.WalkLawsBesides
noncomputable section
set_option linter.unusedVariables false
set_option linter.unusedSimpArgs false
set_option linter.defProp false
set_option maxRecDepth 100000
def yaa:=@Option.bind_eq_some_iff
def yab:=@Option.some.injEq
def yac:=@Option.map_eq_some_iff
def yad:=@And.intro
def yae:=@Prod.mk.injEq
def yaf:=@Nat.shiftRight_eq_div_pow
def yag:=@List.getElem?_eq_getElem
def yah:=@List.length_append
def yai:=@List.length_map
def yaj:=@Nat.le_refl
def yak:=@Nat.shiftLeft_eq
def yal:=@Bool.and_eq_true
def yam:=@List.take_of_length_le
def yan:=@List.length_take
def yao:=@List.getD_eq_getElem?_getD
def yap:=@Nat.mod_eq_of_lt
def yaq:=@Nat.lt_of_lt_of_le
def yar:=@Array.getElem?_eq_getElem
def yas:=@Option.map_some
def yat:=@List.length_drop
def yau:=@Nat.le_of_ble_eq_true
def yav:=@Int.toNat_natCast
def yaw:=@List.length_cons
def yax:=@List.getElem?_eq_some_iff
def yay:=@Nat.and_two_pow_sub_one_eq_mod
def yaz:=@List.eq_nil_of_length_eq_zero
def yaA:=@Nat.le_trans
def yaB:=@Option.getD_some
def yaC:=@List.getElem?_cons_zero
def yaD:=@List.mem_cons
def yaE:=@Bool.and_true
def yaF:=@Nat.eq_of_beq_eq_true
def yaG:=@Array.getElem?_eq_some_iff
def yaH:=@List.drop_zero
def yaI:=@List.all_eq_true
def yaJ:=@Nat.zero_le
def yaK:=@Bool.false_eq_true
def yaL:=@List.length_replicate
def yaM:=@List.drop_eq_getElem_cons
def yaN:=@List.append_nil
def yaO:=@BitVec.toNat_ofNat
def yaP:=@List.map_append
def yaQ:=@Option.getD_none
def yaR:=@Nat.lt_succ_self
def yaS:=@List.drop_of_length_le
def yaT:=@List.getElem?_map
def yaU:=@List.getElem?_drop
def yaV:=@Array.getElem?_setIfInBounds_ne
def yaW:=@List.mem_range
def yaX:=@List.not_mem_nil
def yaY:=@List.mem_cons_of_mem
def yaZ:=@List.mem_append
def ya0:=@List.mem_singleton
def ya1:=@List.mem_cons_self
def ya2:=@List.nil_append
def ya3:=@List.getElem?_take_of_lt
def ya4:=@List.take_zero
def ya5:=@List.map_cons
def ya6:=@Nat.zero_add
def ya7:=@List.take_length
def ya8:=@Nat.min_eq_left
def ya9:=@Bool.not_false
def yba:=@List.all_cons
def ybb:=@List.append_assoc
def ybc:=@Nat.mul_one
def ybd:=@Nat.add_right_comm
def ybe:=@Array.getD_eq_getD_getElem?
def ybf:=@Nat.mod_lt
def ybg:=@Nat.mul_le_mul_right
def ybh:=@List.mem_of_getElem?
def ybi:=@List.getElem?_append
def ybj:=@Bool.not_true
def ybk:=@List.flatten_cons
def ybl:=@Classical.choose_spec
def ybm:=@Nat.add_mul
def ybn:=@List.mem_filter
def ybo:=@List.getElem?_cons_succ
def ybp:=@List.mem_map
def ybq:=@List.getElem?_append_right
def ybr:=@List.take_succ_cons
def ybs:=@List.drop_drop
def ybt:=@BitVec.toNat_and
def ybu:=@Nat.lt_succ_of_lt
def ybv:=@Option.toList_some
def ybw:=@Nat.zero_mul
def ybx:=@List.getElem?_take
def yby:=@List.getElem?_eq_none
def ybz:=@List.length_nil
def ybA:=@Bool.or_eq_true
def ybB:=@Nat.pow_succ
def ybC:=@List.getElem?_range
def ybD:=@List.take_append_of_le_length
def ybE:=@List.take_take
def ybF:=@List.drop_eq_nil_of_le
def ybG:=@Nat.lt_or_ge
def ybH:=@Nat.le_succ
def ybI:=@Nat.add_zero
def ybJ:=@List.take_append_drop
def ybK:=@List.set_append_right
def ybL:=@Array.getElem?_setIfInBounds_self_of_lt
def ybM:=@Bool.not_eq_true'
def ybN:=@Array.ext'
def ybO:=@List.getElem?_append_left
def ybP:=@List.drop_take
def ybQ:=@List.eq_of_mem_replicate
def ybR:=@Nat.add_assoc
def ybS:=@List.length_set
def ybT:=@List.filter_cons_of_pos
def ybU:=@List.filter_cons_of_neg
def ybV:=@Ne.symm
def ybW:=@List.take_add_one
def ybX:=@Array.getElem?_modify
def ybY:=@Nat.div_eq_of_lt
def ybZ:=@List.drop_append_of_le_length
def yb0:=@List.any_eq_true
def yb1:=@Int.natCast_zero
def yb2:=@Nat.pow_le_pow_right
def yb3:=@List.mem_of_mem_take
def yb4:=@List.mem_of_mem_drop
def yb5:=@List.map_take
def yb6:=@List.take_left'
def yb7:=@List.flatten_append
def yb8:=@List.drop_replicate
def yb9:=@BitVec.toNat_or
def yca:=@Array.length_toList
def ycb:=@Nat.le_of_mul_le_mul_right
def ycc:=@Nat.sub_zero
def ycd:=@List.map_nil
def yce:=@Bool.false_ne_true
def ycf:=@Nat.lt_trichotomy
def ycg:=@List.pairwise_map
def ych:=@List.filter_congr
def yci:=@List.ext_getElem?
def ycj:=@Int.emod_eq_of_lt
def yck:=@Int.eq_ofNat_of_zero_le
def ycl:=@Option.bind_none
def ycm:=@List.getElem_mem
def ycn:=@List.flatten_nil
def yco:=@List.cons_append
def ycp:=@BitVec.toNat_xor
def ycq:=@BitVec.toNat_not
def ycr:=@List.length_eq_one_iff
def ycs:=@Nat.sub_self
def yct:=@List.foldl_cons
def ycu:=@List.cons.injEq
def ycv:=@List.all_map
def ycw:=@Int.zero_add
def ycx:=@List.set_append_left
def ycy:=@List.contains_eq_mem
def ycz:=@Int.toNat_zero
def ycA:=@UInt32.toNat_ofNat'
def ycB:=@List.replicate_succ
def ycC:=@List.map_congr_left
def ycD:=@List.getElem_of_mem
def ycE:=@Array.toList_modify
def ycF:=@Nat.eq_zero_or_pos
def ycG:=@List.map_replicate
def ycH:=@List.map_drop
def ycI:=@Bool.false_or
def ycJ:=@Array.getElem?_map
def ycK:=@Array.all_eq_true_iff_forall_mem
def ycL:=@Nat.shiftRight_le
def ycM:=@Nat.or_lt_two_pow
def ycN:=@Nat.le_succ_of_le
def ycO:=@Iff.rfl
def ycP:=@Array.toList_push
def ycQ:=@Nat.succ_mul
def ycR:=@Nat.add_comm
def ycS:=@List.map_map
def ycT:=@Bool.true_or
def ycU:=@Nat.shiftLeft_add_eq_or_of_lt
def ycV:=@Nat.lt_of_not_le
def ycW:=@List.mem_flatten
def ycX:=@List.filter_cons
def ycY:=@List.ext_getElem
def ycZ:=@List.drop_append
def yc0:=@Bool.not_eq_true
def yc1:=@List.mem_zipIdx_iff_getElem?
def yc2:=@Option.map_map
def yc3:=@List.mapM_cons
def yc4:=@List.drop_left
def yc5:=@Classical.byContradiction
def yc6:=@Bool.false_and
def yc7:=@Array.mapM_eq_mapM_toList
def yc8:=@Array.getElem?_replicate
def yc9:=@List.length_eq_zero_iff
def yda:=@Bool.true_and
def ydb:=@Nat.div_div_eq_div_mul
def ydc:=@List.range_succ_eq_map
def ydd:=@Array.getElem?_extract
def yde:=@Nat.xor_self
def ydf:=@Nat.mul_comm
def ydg:=@List.modify_succ_cons
def ydh:=@List.map_set
def ydi:=@List.length_singleton
def ydj:=@Array.getElem?_toList
/- Ax1 -/
namespace Go.Ax
inductive Cap where
 | fix (c:Nat)
 | opn (e:Nat)
 deriving Inhabited
inductive V where
 | bool (b:Bool)
 | int (k:IntKind) (n:Int)
 | str (s:ByteArray)
 | nilp
 | nils
 | lit (x:Value)
 | ptr (id off:Nat)
 | mp (id:Nat)
 | sl (id off len:Nat) (cap:Cap)
 | rs (cells:List V) (len:Nat)
 | rp (cells:List V) (off:Nat)
 | fn (f:FuncId) (caps:List V)
 | agg (cells:List V)
 | tup (vs:List V)
 | any
 deriving Inhabited
def V.undef:V:=.tup []
def V.one:V->Bool
 | .agg _ | .tup _=>false
 | .lit x=>x.oneCell'
 | _=>true
def V.cells:V->List V
 | .agg cs=>cs
 | v=>[v]
def V.okc:V->Bool
 | .tup _=>false
 | .lit x=>x.oneCell'
 | _=>true
def V.ofValue:Value->Option V
 | .bool b=>some (.bool b)
 | .int k n=>some (.int k n)
 | .string s=>some (.str s)
 | .pointer none=>some .nilp
 | .slice none 0 0=>some .nils
 | .float k b=>some (.lit (.float k b))
 | .map none=>some (.lit (.map none))
 | .nilFunc=>some (.lit .nilFunc)
 | .nilIface=>some (.lit .nilIface)
 | _=>none
def V.ofCells:List Value->Option (List V)
 | []=>some []
 | x::xs=>(V.ofValue x).bind λv=>(V.ofCells xs).map (v :: ·)
def V.ofConst:Value->Option V
 | .agg cs=>(V.ofCells cs.toList).map .agg
 | x=>V.ofValue x
structure Blk where
 ty:TypeId
 cells:List V
 opn:Option Nat
structure Heap where
 get:Nat->Option Blk
 next:Nat
def Heap.set(H:Heap)(id:Nat)(b:Option Blk):Heap:={ H with get:=λi=>if i=id then b else H.get i }
def Heap.new(H:Heap)(b:Blk):Heap:={ get:=λi=>if i=H.next then some b else H.get i,next:=H.next+1 }
abbrev M(α:Type):Type:=Heap->Option (α×Heap)
namespace M
def pure{α:Type}(a:α):M α:=λH=>some (a,H)
def fail{α:Type}:M α:=λ_=>none
def bind{α β:Type}(x:M α)(f:α->M β):M β:=λH=>(x H).bind λr=>f r.1 r.2
def lift{α:Type}(o:Option α):M α:=λH=>o.map λa=>(a,H)
def getH:M Heap:=λH=>some (H,H)
def ite{α:Type}(c:V)(x y:M α):M α:=match c with
 | .bool b=>if b then x else y
 | _=>fail
end M
def splice(xs:List V)(o:Nat)(ys:List V):List V:=xs.take o++ys++xs.drop (o+ys.length)
def ldc(n:Option Nat)(cells:List V)(off:Nat):Option V:=
 match n with
 | none=>cells[off]?
 | some n=>if off+n<=cells.length then some (.agg ((cells.drop off).take n)) else none
/-! What each operation answers. -/
def zcy(op:BinOp)(k:IntKind)(a b:Int):Option V:=
 match op with
 | .add=>some (.int k (k.wrap (a+b)))
 | .sub=>some (.int k (k.wrap (a-b)))
 | .mul=>some (.int k (k.wrap (a*b)))
 | .quo=>if b=0 then none else some (.int k (k.wrap (a.tdiv b)))
 | .rem=>if b=0 then none else some (.int k (a.tmod b))
 | .and=>some (.int k (Go.bits .and k a b))
 | .or=>some (.int k (Go.bits .or k a b))
 | .xor=>some (.int k (Go.bits .xor k a b))
 | .andNot=>some (.int k (Go.bits .andNot k a b))
 | .eql=>some (.bool (a==b))
 | .neq=>some (.bool (a != b))
 | .lss=>some (.bool (decide (a<b)))
 | .leq=>some (.bool (decide (a<=b)))
 | .gtr=>some (.bool (decide (a > b)))
 | .geq=>some (.bool (decide (a≥b)))
 | _=>none
def zrw(op:BinOp)(a b:ByteArray):Option V:=
 match op with
 | .eql=>some (.bool (a.toList==b.toList))
 | .neq=>some (.bool (!(a.toList==b.toList)))
 | .add=>if a.size+b.size<=9223372036854775807 then some (.str (a++b)) else none
 | _=>none
def zrZ(op:BinOp)(k:FloatKind)(a b:Nat):Option V:=
 match op with
 | .add=>(k.format.add a b).map λr=>.lit (.float k r)
 | .sub=>(k.format.sub a b).map λr=>.lit (.float k r)
 | .mul=>(k.format.mul a b).map λr=>.lit (.float k r)
 | .quo=>(k.format.div a b).map λr=>.lit (.float k r)
 | .eql=>some (.bool (k.format.order a b==some .eq))
 | .neq=>some (.bool (k.format.order a b != some .eq))
 | .lss=>some (.bool (k.format.order a b==some .lt))
 | .leq=>some (.bool (k.format.order a b==some .lt||k.format.order a b==some .eq))
 | .gtr=>some (.bool (k.format.order a b==some .gt))
 | .geq=>some (.bool (k.format.order a b==some .gt||k.format.order a b==some .eq))
 | _=>none
def bin(op:BinOp)(x y:V):Option V:=
 match x,y with
 | .int k a,.int k' b=>
  match op with
  | .shl=>if b<0 then none else some (.int k (k.wrap (a*2 ^ min b.toNat k.bits)))
  | .shr=>if b<0 then none else some (.int k (a.fdiv (2 ^ min b.toNat k.bits)))
  | op=>if k=k' then zcy op k a b else none
 | .str a,.str b=>zrw op a b
 | .lit (.float k a),.lit (.float k' b)=>if k=k' then zrZ op k a b else none
 | _,_=>none
def zfu:List V->List V->Option Bool
 | [],[]=>some true
 | .int k a::xs,.int k' b::ys=>if k=k' then (zfu xs ys).map λr=>a==b&&r else none
 | _,_=>none
inductive FK where
 | bool
 | int
 deriving DecidableEq
def zaG:List FK->List V->List V->Option Bool
 | [],[],[]=>some true
 | .int::ks,.int k a::xs,.int k' b::ys=>if k=k' then (zaG ks xs ys).map λr=>a==b&&r else none
 | .bool::ks,.bool a::xs,.bool b::ys=>(zaG ks xs ys).map λr=>a==b&&r
 | _,_,_=>none
inductive EK where
 | bool
 | ptr
 | sl
 | arr (n:Nat)
 | st (ks:List FK)
def eqv(k:EK)(x y:V):Option Bool:=
 match k,x,y with
 | .bool,.bool a,.bool b=>some (a==b)
 | .ptr,.nilp,.nilp=>some true
 | .ptr,.ptr _ _,.nilp=>some false
 | .ptr,.rp _ _,.nilp=>some false
 | .sl,.nils,.nils=>some true
 | .sl,.sl _ _ _ _,.nils=>some false
 | .sl,.rs _ _,.nils=>some false
 | .arr n,.agg xs,.agg ys=>if xs.length=n/\ys.length=n then zfu xs ys else none
 | .st ks,.agg xs,.agg ys=>zaG ks xs ys
 | _,_,_=>none
def eqr(k:EK)(neg:Bool)(x y:V):Option V:=(eqv k x y).map λb=>.bool (if neg then !b else b)
def un(op:UnOp)(x:V):Option V:=
 match op,x with
 | .not,.bool b=>some (.bool !b)
 | .neg,.int k n=>some (.int k (k.wrap (0-n)))
 | .xor,.int k n=>some (.int k (Go.bits .xor k (if k.signed then -1 else k.max) n))
 | _,_=>none
def cint(k:IntKind):V->Option V
 | .int _ n=>some (.int k (k.wrap n))
 | .lit (.float s b)=>match (s.decode b).toInt .zero with
  | some n=>if k.min<=n/\n<=k.max then some (.int k n) else none
  | none=>none
 | _=>none
inductive U1 where
 | itof (k:FloatKind)
 | fbits
 | ffrom
 | s2a (n:Nat)
def op1:U1->V->Option V
 | .itof k,.int _ n=>some (.lit (.float k (k.nearest n)))
 | .fbits,.lit (.float .f64 b)=>some (.int .u64 b)
 | .ffrom,.int .u64 n=>some (.lit (.float .f64 n.toNat))
 | .s2a n,.sl id off len _=>if n<=len/\0<n then some (.ptr id off) else none
 | .s2a n,.rs cells len=>if n<=len/\0<n then some (.rp cells 0) else none
 | _,_=>none
def pick(c a b:V):Option V:=
 match c with
 | .bool t=>some (if t then a else b)
 | _=>none
def nilck:V->Option V
 | .ptr id off=>some (.ptr id off)
 | .rp cells off=>some (.rp cells off)
 | .fn f caps=>some (.fn f caps)
 | .sl id off len cap=>some (.sl id off len cap)
 | _=>none
def faddr(o:Nat):V->Option V
 | .ptr id off=>some (.ptr id (off+o))
 | .rp cells off=>some (.rp cells (off+o))
 | _=>none
def iaddr(alen:Option Nat)(esz:Nat)(x i:V):Option V:=
 match i with
 | .int _ i=>
  match alen,x with
  | none,.sl id off len _=>if 0<=i/\i<len then some (.ptr id (off+i.toNat*esz)) else none
  | none,.rs cells len=>if 0<=i/\i<len then some (.rp cells (i.toNat*esz)) else none
  | some n,.ptr id off=>if 0<=i/\i<n then some (.ptr id (off+i.toNat*esz)) else none
  | some n,.rp cells off=>if 0<=i/\i<n then some (.rp cells (off+i.toNat*esz)) else none
  | _,_=>none
 | _=>none
def index(len esz:Nat)(n:Option Nat)(x i:V):Option V:=
 match i,x with
 | .int _ i,.agg cs=>if 0<=i/\i<len then ldc n cs (i.toNat*esz) else none
 | _,_=>none
def sindex(x i:V):Option V:=
 match i,x with
 | .int _ i,.str s=>if 0<=i then (s[i.toNat]?).map λb=>.int .u8 (b.toNat:Int) else none
 | _,_=>none
def field(off:Nat)(n:Option Nat):V->Option V
 | .agg cs=>ldc n cs off
 | _=>none
def ext(i:Nat):V->Option V
 | .tup vs=>vs[i]?
 | _=>none
def slen:V->Option V
 | .str s=>some (.int .i64 (s.size:Int))
 | _=>none
def vlen:V->Option V
 | .nils=>some (.int .i64 0)
 | .sl _ _ len _=>some (.int .i64 (len:Int))
 | .rs _ len=>some (.int .i64 (len:Int))
 | _=>none
def fill(cells:List V):List (Nat×Nat×V)->Option (List V)
 | []=>some cells
 | (off,size,v)::rest=>if v.cells.length=size/\off+size<=cells.length/\v.okc=true then fill (splice cells off v.cells) rest else none
def build(zero:List V) (parts:List (Nat×Nat×V)):Option V:=(fill zero parts).map .agg
def zeros(zero:List V):Nat->List V
 | 0=>[]
 | n+1=>zero++zeros zero n
def mload(n:Option Nat)(p:V):M V:=λH=>
 match p with
 | .ptr id off=>(H.get id).bind λb=>(ldc n b.cells off).map λv=>(v,H)
 | .rp cells off=>(ldc n cells off).map λv=>(v,H)
 | _=>none
def mstore(size:Nat)(p x:V):M V:=λH=>
 match p with
 | .ptr id off=>(H.get id).bind λb=>
  if x.cells.length=size/\off+size<=b.cells.length/\x.okc=true then some (.undef,H.set id (some { b with cells:=splice b.cells off x.cells })) else none
 | _=>none
def mbox(ty:TypeId)(x:V):M V:=λH=>if x.okc=true then some (.ptr H.next 0,H.new ⟨ty,x.cells,none⟩) else none
def mslit(ty:TypeId)(len:Nat)(zero:List V) (parts:List (Nat×Nat×V)):M V:=λH=>
 (fill (zeros zero len) parts).map λcs=>(.sl H.next 0 len (.fix len),H.new ⟨ty,cs,none⟩)
def rcells(esz:Nat)(H:Heap):V->Option (List V×Nat)
 | .nils=>some ([],0)
 | .sl id off len _=>(H.get id).bind λb=>if off+len*esz<=b.cells.length then some ((b.cells.drop off).take (len*esz),len) else none
 | .rs cells len=>if len*esz<=cells.length then some (cells.take (len*esz),len) else none
 | _=>none
def strCells(s:ByteArray):List V:=s.data.toList.map λb=>.int .u8 (b.toNat:Int)
def acells(esz:Nat)(H:Heap):V->Option (List V×Nat)
 | .str s=>if esz=1 then some (strCells s,s.size) else none
 | v=>rcells esz H v
def mappendq(ty esz bytes:Nat)(q:List V×Nat)(x:V):M V:=λH=>
  match x with
  | .nils=>if q.2=0 then some (.nils,H) else if q.2*bytes<=140737488355328/\q.2<=maxLen then some (.sl H.next 0 q.2 (.opn esz),H.new ⟨ty,q.1,some esz⟩) else none
  | .sl id off len cap=>(H.get id).bind λb=>
   if off+len*esz<=b.cells.length/\b.ty=ty then
    match cap with
    | .fix c=>
     if len+q.2<=c then
      if off+(len+q.2)*esz<=b.cells.length then some (.sl id off (len+q.2) (.fix c),H.set id (some { b with cells:=splice b.cells (off+len*esz) q.1 })) else none
     else if (len+q.2)*bytes<=140737488355328/\len+q.2<=maxLen then
      some (.sl H.next 0 (len+q.2) (.opn esz),H.new ⟨ty,(b.cells.drop off).take (len*esz)++q.1,some esz⟩)
     else none
    | .opn e=>
     if e=esz/\b.opn=some esz/\b.cells.length=off+len*esz then
      if q.2=0 then some (.sl id off len (.opn e),H)
      else if (len+q.2)*bytes<=140737488355328/\len+q.2<=maxLen then
       some (.sl H.next 0 (len+q.2) (.opn esz),(H.set id none).new ⟨ty,b.cells.drop off++q.1,some esz⟩)
      else none
     else if e=esz/\q.2=0 then some (.sl id off len (.opn e),H)
     else if e=esz/\b.opn=some esz/\off+(len+q.2)*esz<=b.cells.length then
      some (.sl id off (len+q.2) (.opn e),H.set id (some { b with cells:=splice b.cells (off+len*esz) q.1 }))
     else none
   else none
  | .rs cells len=>if q.2=0 then some (.rs cells len,H) else none
  | _=>none
def mappend(ty esz bytes:Nat)(x y:V):M V:=λH=>(acells esz H y).bind λq=>mappendq ty esz bytes q x H
def mappendz(ty bytes:Nat)(zero:List V)(x n:V):M V:=λH=>
 match n with
 | .int _ l=>
  if 0<=IntKind.i64.wrap l/\IntKind.i64.wrap l*bytes<=281474976710656 then mappendq ty zero.length bytes (zeros zero (IntKind.i64.wrap l).toNat,(IntKind.i64.wrap l).toNat) x H else none
 | _=>none
def mcopy(esz:Nat)(d s:V):M V:=λH=>
 (acells esz H s).bind λq=>
  match d with
  | .nils=>some (.int .i64 0,H)
  | .sl id off len _=>(H.get id).bind λb=>
   if off+len*esz<=b.cells.length then
    some (.int .i64 ((min q.2 len:Nat):Int),H.set id (some { b with cells:=splice b.cells off (q.1.take (min q.2 len*esz)) }))
   else none
  | _=>none
def zfA:List V->Option (List UInt8)
 | []=>some []
 | .int .u8 n::xs=>(zfA xs).map (UInt8.ofNat n.toNat :: ·)
 | _=>none
def mtostr(x:V):M V:=λH=>(rcells 1 H x).bind λq=>(zfA q.1).map λl=>(.str ⟨l.toArray⟩,H)
def mtobytes(ty:TypeId)(x:V):M V:=λH=>
 match x with
 | .str s=>if s.size<=maxLen then some (.sl H.next 0 s.size (.opn 1),H.new ⟨ty,strCells s,some 1⟩) else none
 | _=>none
def mremark(ty:TypeId)(x:V):M V:=λH=>
 match x with
 | .str s=>mtobytes ty (.str s) H
 | .sl id off len cap=>(H.get id).bind λ_=>if len=0 then none else some (.sl id off len cap,H)
 | _=>none
def mmkslice(ty bytes:Nat)(zero:List V)(len cap:V):M V:=λH=>
 match len,cap with
 | .int .i64 l,.int .i64 c=>
  if 0<=l/\l<=c/\c*bytes<=281474976710656/\c<=281474976710656 then
   some (.sl H.next 0 l.toNat (.fix c.toNat),H.new ⟨ty,zeros zero c.toNat,none⟩)
  else none
 | _,_=>none
def mmknz(ty:TypeId)(n:V):M V:=λH=>
 match n with
 | .int .i64 n=>if 0<=n/\n<=281474976710656 then some (.sl H.next 0 n.toNat (.opn 1),H.new ⟨ty,List.replicate n.toNat .any,some 1⟩) else none
 | _=>none
def vint:V->Option Int
 | .int _ n=>some n
 | _=>none
def zbR:Option V->Option (Option Int)
 | none=>some none
 | some v=>(vint v).map some
inductive CK where
 | arr (n:Nat)
 | sl
 | str
def zav(ck:CK)(esz:Nat)(x:V)(lo hi mx:Option V):Option V:=
 (zbR lo).bind λlo=>(zbR hi).bind λhi=>(zbR mx).bind λmx=>
 let l:=lo.getD 0
 if mx.isSome=true/\hi.isNone=true then none else
 match ck,x with
 | .str,.str s=>
  let h:=hi.getD s.size
  if mx=none/\0<=l/\l<=h/\h<=s.size then some (.str (s.extract l.toNat h.toNat)) else none
 | .sl,.nils=>
  let h:=hi.getD 0
  let m:=mx.getD 0
  if l=0/\h=0/\m=0 then some .nils else none
 | .sl,.rs cells len=>
  let h:=hi.getD len
  if mx=none/\0<=l/\l<=h/\h<=len then some (.rs (cells.drop (l.toNat*esz)) (h.toNat-l.toNat)) else none
 | .sl,.sl id off len (.fix c)=>
  let h:=hi.getD len
  let m:=mx.getD c
  if 0<=l/\l<=h/\h<=m/\m<=c then some (.sl id (off+l.toNat*esz) (h.toNat-l.toNat) (.fix (m.toNat-l.toNat))) else none
 | .sl,.sl id off len (.opn e)=>
  let h:=hi.getD len
  match mx with
  | none=>if e=esz/\0<=l/\l<=h/\h<=len then some (.sl id (off+l.toNat*esz) (h.toNat-l.toNat) (.opn e)) else none
  | some m=>if 0<=l/\l<=h/\h<=m/\m<=len then some (.sl id (off+l.toNat*esz) (h.toNat-l.toNat) (.fix (m.toNat-l.toNat))) else none
 | .arr n,.ptr id off=>
  let h:=hi.getD n
  if mx=none/\0<=l/\l<=h/\h<=n then some (.sl id (off+l.toNat*esz) (h.toNat-l.toNat) (.fix (n-l.toNat))) else none
 | _,_=>none
def mslice2(esz:Nat)(x lo hi:V):M V:=λH=>
 match x,lo,hi with
 | .sl id off len (.opn e),.int _ l,.int _ h=>(H.get id).bind λb=>
  if e=esz/\b.opn=some esz/\0<=l/\l<=h/\off+h.toNat*esz<=b.cells.length then some (.sl id (off+l.toNat*esz) (h.toNat-l.toNat) (.opn e),H) else none
 | _,_,_=>none
def mclear(zero:List V)(x:V):M V:=λH=>
 match x with
 | .sl id off len _=>if len=0 then some (.undef,H) else (H.get id).bind λb=>
  if off+len*zero.length<=b.cells.length then some (.undef,H.set id (some { b with cells:=splice b.cells off (zeros zero len) })) else none
 | _=>none
def min2(mx:Bool):V->V->Option V
 | .int k a,.int _ b=>some (.int k (if mx then (if a<b then b else a) else (if b<a then b else a)))
 | _,_=>none
def minmax(mx:Bool):V->List V->Option V
 | v,[]=>some v
 | v,x::xs=>(min2 mx v x).bind λv=>minmax mx v xs
/-! Maps: a block of their own,in which key and value stand one behind the other. -/
inductive MK where
 | int
 | st (ks:List FK)
def kok:MK->V->Bool
 | .int,.int _ _=>true
 | .st ks,.agg cs=>ks.length==cs.length
 | _,_=>false
def keq:MK->V->V->Option Bool
 | .int,.int k a,.int k' b=>if k=k' then some (a==b) else none
 | .st ks,.agg xs,.agg ys=>zaG ks xs ys
 | _,_,_=>none
def mget(mk:MK)(k:V):List V->Option (Option V)
 | []=>some none
 | k'::v'::r=>(keq mk k k').bind λb=>if b then some (some v') else mget mk k r
 | _=>none
def mset(mk:MK)(k v:V):List V->Option (List V)
 | []=>some [k,v]
 | k'::v'::r=>(keq mk k k').bind λb=>if b then some (k::v::r) else (mset mk k v r).map λr'=>k'::v'::r'
 | _=>none
def mmkmap(ty:TypeId):M V:=λH=>some (.mp H.next,H.new ⟨ty,[],none⟩)
def mlookup(mk:MK)(zero:V)(ok:Bool)(x k:V):M V:=λH=>
 match x with
 | .mp id=>(H.get id).bind λb=>if kok mk k=true then (mget mk k b.cells).map λr=>(if ok then .tup [r.getD zero,.bool r.isSome] else r.getD zero,H) else none
 | _=>none
def mmapset(mk:MK)(x k v:V):M V:=λH=>
 match x with
 | .mp id=>(H.get id).bind λb=>if kok mk k=true then (mset mk k v b.cells).map λcs=>(.undef,H.set id (some { b with cells:=cs })) else none
 | _=>none
def zlJ(k:Int):Int:=if 16777216<=k then 0 else IntKind.i64.wrap (IntKind.u64.wrap (k.tdiv 256))
def zqQ(p:Bool)(n:Int):V->Option Bool
 | .agg [.int .i64 a,.int .i64 _]=>if p then some (!decide (a<n)) else none
 | .int .u64 k=>if p then none else some (!decide (zlJ k<n))
 | _=>none
def zlc(mk:MK)(k:V):List V->Bool
 | []=>true
 | k' :: _::r=>(match keq mk k' k with|some false=>true | _=>false)&&zlc mk k r
 | _=>false
def znJ(p:Bool):MK:=if p then .st [.int,.int] else .int
def mfil(p:Bool)(n:Int):List V->Option (List V)
 | []=>some []
 | k::v::r=>if zlc (znJ p) k r then (zqQ p n k).bind λb=>(mfil p n r).map λr'=>if b then k::v::r' else r' else none
 | _=>none
def mmapdrop(p:Bool)(o:Nat)(x n:V):M V:=λH=>
 match x,n with
 | .ptr id off,.int .i64 n=>(H.get id).bind λb0=>
  match b0.cells[off+o]? with
  | some (.mp i)=>(H.get i).bind λb=>(mfil p n b.cells).map λcs=>(.undef,H.set i (some { b with cells:=cs }))
  | _=>none
 | _,_=>none
def matoload(k:IntKind)(p:V):M V:=λH=>(mload none p H).bind λr=>
 match r.1 with
 | .int k' n=>if k'=k then some (.int k n,r.2) else none
 | _=>none
def matoadd(k:IntKind)(p y:V):M V:=λH=>
 match p,y with
 | .ptr id off,.int _ j=>(H.get id).bind λb=>
  match b.cells[off]? with
  | some (.int k' n)=>if k'=k then some (.int k (k.wrap (n+j)),H.set id (some { b with cells:=splice b.cells off [.int k (k.wrap (n+j))] })) else none
  | _=>none
 | _,_=>none
def mmaplen(x:V):M V:=λH=>
 match x with
 | .mp id=>(H.get id).map λb=>(.int .i64 ((b.cells.length/2:Nat):Int),H)
 | _=>none
def V.pid:V->Option Nat
 | .ptr id _=>some id
 | .sl id _ _ _=>some id
 | _=>none
open Classical in
def M.unch(v:V)(h h':Heap):M Unit:=λH=>if ∀id,v.pid=some id->h'.get id=h.get id then some ((),H) else none
inductive Arg where
 | s (t:Nat)
 | c (v:V)
inductive I where
 | mv (x:Arg)
 | pick (c a b:Arg)
 | box (ty:TypeId) (x:Arg)
 | build (zero:List V) (parts:List (Nat×Nat×Arg))
 | slit (ty:TypeId) (len:Nat) (zero:List V) (parts:List (Nat×Nat×Arg))
 | load (n:Option Nat) (x:Arg)
 | store (size:Nat) (p x:Arg)
 | nilck (x:Arg)
 | bin (op:BinOp) (x y:Arg)
 | eq (k:EK) (neg:Bool) (x y:Arg)
 | un (op:UnOp) (x:Arg)
 | cint (k:IntKind) (x:Arg)
 | tostr (x:Arg)
 | tobytes (ty:TypeId) (x:Arg)
 | faddr (o:Nat) (x:Arg)
 | iaddr (alen:Option Nat) (esz:Nat) (x i:Arg)
 | index (len esz:Nat) (n:Option Nat) (x i:Arg)
 | sindex (x i:Arg)
 | field (off:Nat) (n:Option Nat) (x:Arg)
 | ext (i:Nat) (x:Arg)
 | len (x:Arg)
 | slen (x:Arg)
 | slice (ck:CK) (esz:Nat) (x:Arg) (lo hi mx:Option Arg)
 | append (ty esz bytes:Nat) (x y:Arg)
 | appendz (ty bytes:Nat) (zero:List V) (x y:Arg)
 | copy (esz:Nat) (x y:Arg)
 | mkslice (ty bytes:Nat) (zero:List V) (len cap:Arg)
 | slice2 (esz:Nat) (x lo hi:Arg)
 | remark (ty:TypeId) (x:Arg)
 | clear (zero:List V) (x:Arg)
 | op1 (k:U1) (x:Arg)
 | mknz (ty:TypeId) (x:Arg)
 | minmax (mx:Bool) (x:Arg) (xs:List Arg)
 | call (f:FuncId) (args:List Arg)
 | callv (x:Arg) (args:List Arg)
 | mkfn (f:FuncId) (caps:List Arg)
 | mkmap (ty:TypeId)
 | lookup (mk:MK) (zero:V) (ok:Bool) (x k:Arg)
 | mapset (mk:MK) (x k v:Arg)
 | maplen (x:Arg)
 | aload (k:IntKind) (x:Arg)
 | aadd (k:IntKind) (x y:Arg)
 | mdrop (p:Bool) (o:Nat) (x n:Arg)
abbrev Fr:Type:=List (Nat×V)
def Fr.get:Fr->Nat->Option V
 | [],_=>none
 | (k,v)::A,t=>if k=t then some v else Fr.get A t
def Fr.put(A:Fr)(d:Option Nat)(v:V):Fr:=
 match d with
 | none=>A
 | some d=>(d,v)::A
def Fr.drop(W:List Nat):Fr->Fr
 | []=>[]
 | (k,v)::A=>if W.contains k then Fr.drop W A else (k,v)::Fr.drop W A
def Arg.ev(A:Fr):Arg->Option V
 | .s t=>A.get t
 | .c v=>some v
def evs(A:Fr):List Arg->Option (List V)
 | []=>some []
 | x::xs=>(x.ev A).bind λv=>(evs A xs).map (v :: ·)
def zaF(A:Fr):List (Nat×Nat×Arg)->Option (List (Nat×Nat×V))
 | []=>some []
 | (o,s,x)::xs=>(x.ev A).bind λv=>(zaF A xs).map ((o,s,v) :: ·)
def zbA(A:Fr):Option Arg->Option (Option V)
 | none=>some none
 | some x=>(x.ev A).map some
abbrev Sem':Type:=FuncId->List V->M V
def callv(G:Sem')(x:V)(args:List V):M V:=
 match x with
 | .fn f caps=>G f (args++caps)
 | _=>M.fail
def with1(A:Fr)(x:Arg)(k:V->M V):M V:=match x.ev A with|some v=>k v|none=>M.fail
def withs(A:Fr)(xs:List Arg)(k:List V->M V):M V:=match evs A xs with|some v=>k v|none=>M.fail
def I.run(G:Sem')(A:Fr):I->M V
 | .mv x=>with1 A x M.pure
 | .pick c a b=>with1 A c λc=>with1 A a λa=>with1 A b λb=>M.lift (Ax.pick c a b)
 | .box ty x=>with1 A x λx=>mbox ty x
 | .build zero parts=>match zaF A parts with|some ps=>M.lift (Ax.build zero ps)|none=>M.fail
 | .slit ty l zero parts=>match zaF A parts with|some ps=>mslit ty l zero ps|none=>M.fail
 | .load n x=>with1 A x λx=>mload n x
 | .store size p x=>with1 A p λp=>with1 A x λx=>mstore size p x
 | .nilck x=>with1 A x λx=>M.lift (Ax.nilck x)
 | .bin op x y=>with1 A x λx=>with1 A y λy=>M.lift (Ax.bin op x y)
 | .eq k neg x y=>with1 A x λx=>with1 A y λy=>M.lift (eqr k neg x y)
 | .un op x=>with1 A x λx=>M.lift (Ax.un op x)
 | .cint k x=>with1 A x λx=>M.lift (Ax.cint k x)
 | .tostr x=>with1 A x λx=>mtostr x
 | .tobytes ty x=>with1 A x λx=>mtobytes ty x
 | .faddr o x=>with1 A x λx=>M.lift (Ax.faddr o x)
 | .iaddr alen esz x i=>with1 A x λx=>with1 A i λi=>M.lift (Ax.iaddr alen esz x i)
 | .index l esz n x i=>with1 A x λx=>with1 A i λi=>M.lift (Ax.index l esz n x i)
 | .sindex x i=>with1 A x λx=>with1 A i λi=>M.lift (Ax.sindex x i)
 | .field off n x=>with1 A x λx=>M.lift (Ax.field off n x)
 | .ext i x=>with1 A x λx=>M.lift (Ax.ext i x)
 | .len x=>with1 A x λx=>M.lift (vlen x)
 | .slen x=>with1 A x λx=>M.lift (Ax.slen x)
 | .slice ck esz x lo hi mx=>with1 A x λx=>
  match zbA A lo,zbA A hi,zbA A mx with|some lo,some hi,some mx=>M.lift (zav ck esz x lo hi mx) | _,_,_=>M.fail
 | .append ty esz bytes x y=>with1 A x λx=>with1 A y λy=>mappend ty esz bytes x y
 | .appendz ty bytes zero x y=>with1 A x λx=>with1 A y λy=>mappendz ty bytes zero x y
 | .copy esz x y=>with1 A x λx=>with1 A y λy=>mcopy esz x y
 | .mkslice ty bytes zero l c=>with1 A l λl=>with1 A c λc=>mmkslice ty bytes zero l c
 | .slice2 esz x lo hi=>with1 A x λx=>with1 A lo λlo=>with1 A hi λhi=>mslice2 esz x lo hi
 | .clear zero x=>with1 A x λx=>mclear zero x
 | .op1 k x=>with1 A x λx=>M.lift (Ax.op1 k x)
 | .mknz ty x=>with1 A x λx=>mmknz ty x
 | .remark ty x=>with1 A x λx=>mremark ty x
 | .minmax mx x xs=>with1 A x λx=>withs A xs λxs=>M.lift (Ax.minmax mx x xs)
 | .call f args=>withs A args λargs=>G f args
 | .callv x args=>with1 A x λx=>withs A args λargs=>Ax.callv G x args
 | .mkfn f caps=>withs A caps λcaps=>M.pure (.fn f caps)
 | .mkmap ty=>mmkmap ty
 | .lookup mk zero ok x k=>with1 A x λx=>with1 A k λk=>mlookup mk zero ok x k
 | .mapset mk x k v=>with1 A x λx=>with1 A k λk=>with1 A v λv=>mmapset mk x k v
 | .maplen x=>with1 A x λx=>mmaplen x
 | .aload k x=>with1 A x λx=>matoload k x
 | .aadd k x y=>with1 A x λx=>with1 A y λy=>matoadd k x y
 | .mdrop p o x n=>with1 A x λx=>with1 A n λn=>mmapdrop p o x n
structure AO where
 dst:Option Nat
 gd:Option (Nat×Bool)
 ins:I
def guarded(A:Fr) (gd:Option (Nat×Bool)) (x:M V):M V:=
 match gd with
 | none=>x
 | some (s,want)=>match A.get s with
  | some (.bool b)=>if b=want then x else M.pure .undef
  | some (.tup [])=>M.pure .undef
  | _=>M.fail
def AO.run(G:Sem')(A:Fr)(o:AO):M V:=guarded A o.gd (o.ins.run G A)
def zdR(G:Sem'):List AO->Fr->M Fr
 | [],A=>M.pure A
 | o::os,A=>(o.run G A).bind λv=>zdR G os (A.put o.dst v)
inductive Kind where
 | pure
 | read (x:Arg)
 | new
 | act
def zpo:Arg->Arg->Kind
 | _,_=>.new
def zqR(x y:Arg):(zpo x y = .pure)=False:=by
 cases x<;>cases y<;>simp[zpo]
def zg7(x y z:Arg):(zpo x y = .read z)=False:=by
 cases x<;>cases y<;>simp[zpo]
def I.kind:I->Kind
 | .mkslice _ _ _ x y=>zpo x y
 | .load _ x=>.read x
 | .tostr x=>.read x
 | .box .. | .slit .. | .tobytes .. | .mkmap ..=>.new
 | .lookup .. | .mapset .. | .maplen .. | .aload .. | .aadd .. | .mdrop .. | .store .. | .append .. | .appendz .. | .copy .. | .slice2 .. | .clear .. | .mknz .. | .remark .. | .call .. | .callv ..=>.act
 | _=>.pure
def Arg.slots:Arg->List Nat
 | .s t=>[t]
 | .c _=>[]
def zrJ:Option Arg->List Nat
 | none=>[]
 | some x=>x.slots
def I.slots:I->List Nat
 | .mkmap _=>[]
 | .maplen x | .aload _ x | .mv x | .box _ x | .load _ x | .nilck x | .un _ x | .cint _ x | .tostr x | .tobytes _ x | .faddr _ x | .field _ _ x | .ext _ x | .len x | .slen x | .clear _ x | .op1 _ x | .mknz _ x | .remark _ x=>x.slots
 | .pick c a b | .slice2 _ c a b | .mapset _ c a b=>c.slots++a.slots++b.slots
 | .build _ ps | .slit _ _ _ ps=>ps.flatMap λp=>p.2.2.slots
 | .store _ p x | .lookup _ _ _ p x | .aadd _ p x | .mdrop _ _ p x=>p.slots++x.slots
 | .bin _ x y | .eq _ _ x y | .iaddr _ _ x y | .index _ _ _ x y | .sindex x y | .append _ _ _ x y | .appendz _ _ _ x y | .copy _ x y | .mkslice _ _ _ x y=>x.slots++y.slots
 | .slice _ _ x lo hi mx=>x.slots++zrJ lo++zrJ hi++zrJ mx
 | .minmax _ x xs=>x.slots++xs.flatMap Arg.slots
 | .call _ xs | .mkfn _ xs=>xs.flatMap Arg.slots
 | .callv x xs=>x.slots++xs.flatMap Arg.slots
def AO.slots(o:AO):List Nat:=o.ins.slots++(match o.gd with|some (s,_)=>[s]|none=>[])
def za3 (un:List (Nat×Nat)) (j:Nat) (h h':Heap):List (Nat×V)->M Unit
 | []=>M.pure ()
 | (i,a)::rs=>if un.contains (i,j) then (M.unch a h h').bind λ_=>za3 un j h h' rs else za3 un j h h' rs
def za6 (un:List (Nat×Nat)) (i:Nat) (a:V):List (Nat×Heap×Heap)->M Unit
 | []=>M.pure ()
 | (j,h,h')::js=>if un.contains (i,j) then (M.unch a h h').bind λ_=>za6 un i a js else za6 un i a js
def zaC(G:Sem') (un:List (Nat×Nat)):Nat->List (Nat×V)->List (Nat×Heap×Heap)->List AO->Fr->M Fr
 | _,_,_,[],A=>M.pure A
 | p,rs,js,o::os,A=>
  match o.ins.kind with
  | .read x=>with1' A x λa=>(o.run G A).bind λv=>(za6 un p a js).bind λ_=>zaC G un (p+1) ((p,a)::rs) js os (A.put o.dst v)
  | .act=>M.getH.bind λh=>(o.run G A).bind λv=>M.getH.bind λh'=>(za3 un p h h' rs).bind λ_=>zaC G un (p+1) rs ((p,h,h')::js) os (A.put o.dst v)
  | _=>(o.run G A).bind λv=>zaC G un (p+1) rs js os (A.put o.dst v)
where
 with1' {α:Type} (A:Fr) (x:Arg) (k:V->M α):M α:=match x.ev A with|some v=>k v|none=>k .undef
inductive Res where
 | nrm (L:List V)
 | ex (id:Nat) (L:List V)
 | ret (L:List V)
inductive C where
 | done
 | bad
 | ops (l:List AO) (k:C)
 | draw (l:List AO) (un:List (Nat×Nat)) (k:C)
 | cond (x:Arg) (a b:C)
 | condJ (x:Arg) (a b:C) (J W:List Nat) (k:C)
 | blk (id:Nat) (a:C) (J W:List Nat) (k:C)
 | loop (a:C) (K W:List Nat)
 | exit (id:Nat)
 | ret
def zaV(A:Fr):List Nat->Option (List V)
 | []=>some []
 | t::ts=>(A.get t).bind λv=>(zaV A ts).map (v :: ·)
def zqd(L:List V):Nat->List Nat->Fr
 | _,[]=>[]
 | i,t::ts=>(t,L.getD i .undef)::zqd L (i+1) ts
def Fr.join(A:Fr)(J W:List Nat)(L:List V):Fr:=zqd L 0 J++A.drop W
def M.join(x:M Res)(k:List V->M Res):M Res:=x.bind λr=>
 match r with
 | .nrm L=>k L
 | .ex id L=>M.pure (.ex id L)
 | .ret L=>M.pure (.ret L)
def M.blk(id:Nat)(x:M Res)(k:List V->M Res):M Res:=x.bind λr=>
 match r with
 | .nrm L=>k L
 | .ex i L=>if i=id then k L else M.pure (.ex i L)
 | .ret L=>M.pure (.ret L)
def iterN(body:List V->M Res):Nat->List V->M Res
 | 0,_=>M.fail
 | n+1,L=>M.join (body L) (iterN body n)
open Classical in
def M.iter(body:List V->M Res)(L:List V):M Res:=λH=>
 if h:∃n,(iterN body n L H).isSome=true then iterN body (Classical.choose h) L H else none
inductive RV where
 | tmp (t:Nat)
 | cell (t:Nat) (n:Option Nat)
def results(A:Fr):List RV->M (List V)
 | []=>M.pure []
 | .tmp t::rs=>(M.lift (A.get t)).bind λv=>(results A rs).bind λvs=>M.pure (v::vs)
 | .cell t n::rs=>(M.lift (A.get t)).bind λa=>(mload n a).bind λv=>(results A rs).bind λvs=>M.pure (v::vs)
def zhA:List (Nat×List Nat)->Nat->Option (List Nat)
 | [],_=>none
 | (i,J)::cx,id=>if i=id then some J else zhA cx id
def exec(G:Sem')(rv:List RV):C->List (Nat×List Nat)->List Nat->Fr->M Res
 | .done,_,J,A=>(M.lift (zaV A J)).bind λL=>M.pure (.nrm L)
 | .bad,_,_,_=>M.fail
 | .ops l k,cx,J,A=>(zdR G l A).bind λA'=>exec G rv k cx J A'
 | .draw l un k,cx,J,A=>(zaC G un 0 [] [] l A).bind λA'=>exec G rv k cx J A'
 | .cond x a b,cx,J,A=>match x.ev A with|some c=>M.ite c (exec G rv a cx J A) (exec G rv b cx J A)|none=>M.fail
 | .condJ x a b J' W k,cx,J,A=>match x.ev A with
  | some c=>M.join (M.ite c (exec G rv a cx J' A) (exec G rv b cx J' A)) λL=>exec G rv k cx J (A.join J' W L)
  | none=>M.fail
 | .blk id a J' W k,cx,J,A=>M.blk id (exec G rv a ((id,J')::cx) J' A) λL=>exec G rv k cx J (A.join J' W L)
 | .loop a K W,cx,_,A=>(M.lift (zaV A K)).bind λL=>M.iter (λL=>exec G rv a cx K (A.join K W L)) L
 | .exit id,cx,_,A=>match zhA cx id with|some J=>(M.lift (zaV A J)).bind λL=>M.pure (.ex id L)|none=>M.fail
 | .ret,_,_,A=>(results A rv).bind λL=>M.pure (.ret L)
structure Fn' where
 ntmps:Nat
 rv:List RV
 body:C
def zjw:Fn' where
 ntmps:=2
 rv:=[]
 body:=.ops [⟨some 12,none,.mv (.s 1)⟩,⟨some 2,none,.load none (.s 0)⟩,⟨some 3,none,.bin .eql (.s 2) (.c (.int .u32 0))⟩]
  (.cond (.s 3)
   (.ops [⟨some 4,none,.faddr 1 (.s 0)⟩,⟨some 5,none,.load none (.s 4)⟩,⟨some 6,none,.bin .eql (.s 5) (.c (.int .i32 0))⟩]
    (.cond (.s 6)
     (.ops [⟨none,none,.store 1 (.s 4) (.c (.int .i32 1))⟩,⟨none,none,.callv (.s 1) []⟩,⟨some 7,none,.load none (.s 4)⟩,⟨some 8,none,.bin .eql (.s 7) (.c (.int .i32 1))⟩,
       ⟨some 9,none,.load none (.s 0)⟩,⟨some 10,none,.bin .eql (.s 9) (.c (.int .u32 0))⟩]
      (.cond (.s 8)
       (.cond (.s 10)
        (.ops [⟨none,none,.store 1 (.s 0) (.c (.int .u32 1))⟩,⟨none,none,.store 1 (.s 4) (.c (.int .i32 0))⟩] .ret)
        .bad)
       .bad))
     .bad))
   .ret)
def zjK:Fn' where
 ntmps:=2
 rv:=[]
 body:=.ops [⟨some 2,none,.mdrop true 1 (.s 0) (.s 1)⟩,⟨some 3,none,.mdrop false 2 (.s 0) (.s 1)⟩,⟨some 4,none,.mdrop false 3 (.s 0) (.s 1)⟩] .ret
def params:Nat->List V->Fr
 | _,[]=>[]
 | i,v::vs=>(i,v)::params (i+1) vs
def zdD:List V->V
 | [v]=>v
 | vs=>.tup vs
def Fn'.run(G:Sem')(f:Fn')(args:List V):M V:=
 (exec G f.rv f.body [] [] (params 0 args)).bind λr=>
  match r with
  | .ret L=>M.pure (zdD L)
  | _=>M.fail
def deep(T:FuncId->Option Fn'):Nat->Sem'
 | 0=>λ_ _=>M.fail
 | n+1=>λf args=>match T f with|some ir=>if args.length<=ir.ntmps then ir.run (deep T n) args else M.fail|none=>M.fail
open Classical in
def sem(T:FuncId->Option Fn'):Sem':=λf args H=>
 if h:∃n,(deep T n f args H).isSome=true then deep T (Classical.choose h) f args H else none
def byRoom(P:Program)(e:TypeId):Bool:=
 match P.underlying e with
 | some (.struct _)=>true
 | some (.int .u32)=>true
 | _=>false
def zan:Operand->Option Arg
 | .tmp t=>some (.s t)
 | .const v=>(V.ofConst v).map .c
 | .func f=>some (.c (.fn f []))
 | .global _=>none
def zbr:List Operand->Option (List Arg)
 | []=>some []
 | x::xs=>(zan x).bind λa=>(zbr xs).map (a :: ·)
def zfm:Option Operand->Option (Option Arg)
 | none=>some none
 | some x=>(zan x).map some
def szOf(P:Program)(t:TypeId):Option Nat:=(P.info? t).map (·.size)
def ldn(P:Program)(t:TypeId):Option (Option Nat):=
 match P.underlying t with
 | some (.struct _)=>(szOf P t).map some
 | some (.array _ _)=>(szOf P t).map some
 | some _=>some none
 | none=>none
def zeroOf(P:Program)(t:TypeId):Option (List V):=((P.info? t).bind (·.zero)).bind λz=>V.ofCells z.cells.toList
def zvOf(P:Program)(t:TypeId):Option V:=((P.info? t).bind (·.zero)).bind V.ofConst
def zgN (P:Program):Nat -> List Field -> Option (List FK)
 | _,[]=>some []
 | i,f :: fs=>
  if f.offset = i /\ f.name ≠ "_" then
   match P.underlying f.type with
   | some .bool=>(zgN P (i + 1) fs).map (.bool :: ·)
   | some (.int _)=>(zgN P (i + 1) fs).map (.int :: ·)
   | _=>none
  else none
def zm7(P:Program)(t:TypeId):Option (List FK):=
 match P.underlying t with
 | some (.struct fs)=>if P.stoodInHeld t=false/\P.eqGuardType P.depth t=false then zgN P 0 fs.toList else none
 | _=>none
def zlO (g:TypeId -> Option (List FK)):Nat -> List Field -> Option (List FK)
 | _,[]=>some []
 | j,f :: fs=>if f.offset = j /\ f.name ≠ "_" then (g f.type).bind fun ks=>(zlO g (j + ks.length) fs).map (ks ++ ·) else none
def zor(P:Program):Nat->TypeId->Option (List FK)
 | 0,_=>none
 | d+1,t=>
  match P.underlying t with
  | some .bool=>some [.bool]
  | some (.int _)=>some [.int]
  | some (.struct fs)=>if P.stoodInHeld t=false then (zlO (zor P d) 0 fs.toList).bind λks=>if szOf P t=some ks.length then some ks else none else none
  | some (.array n e)=>(zor P d e).bind λks=>if szOf P e=some ks.length/\szOf P t=some (n*ks.length) then some (List.replicate n ks).flatten else none
  | _=>none
def zvs(P:Program)(t:TypeId):Option (List FK):=if P.eqGuardType P.depth t=false then zor P 8 t else none
def mkOf(P:Program)(t:TypeId):Option MK:=
 match P.underlying t with
 | some (.int _)=>some .int
 | some (.struct _)=>(zm7 P t).map .st
 | _=>none
def mapOf(P:Program)(t:TypeId):Option (MK×TypeId):=
 match P.underlying t with
 | some (.map k e)=>(mkOf P k).map λmk=>(mk,e)
 | _=>none
def elemOf(P:Program)(t:TypeId):Option TypeId:=
 match P.underlying t with
 | some (.slice e)=>some e
 | _=>none
def zdO(P:Program)(fs:Array Field):List (Nat×Operand)->Option (List (Nat×Nat×Arg))
 | []=>some []
 | (i,x)::xs=>(fs[i]?).bind λf=>(szOf P f.type).bind λs=>(zan x).bind λa=>(zdO P fs xs).map ((f.offset,s,a) :: ·)
def zd8(s:Nat):List (Nat×Operand)->Option (List (Nat×Nat×Arg))
 | []=>some []
 | (i,x)::xs=>(zan x).bind λa=>(zd8 s xs).map ((i*s,s,a) :: ·)
def zmR(P:Program)(fs:Array Field):Bool:=fs.toList.all λf=>(szOf P f.type).isSome
def isApp(P:Program)(u:TypeId):Bool:=
 match P.underlying u with
 | some (.slice _)=>true
 | some .string=>true
 | _=>false
def zks(P:Program)(e:TypeId)(i:TypeInfo)(u:TypeId)(x y:Operand):Option I:=
 match P.underlying u with
 | some (.int _)=>(zeroOf P e).bind λzz=>if zz.length=i.size/\0<i.size then (zan x).bind λx=>(zan y).map λy=>.appendz e i.bytes zz x y else none
 | _=>none
def zfo(P:Program)(b:Builtin)(args:List Operand)(ts:List TypeId):Option I:=
 match b,args,ts with
 | .len,[x],[t]=>
  match P.underlying t with
  | some .string=>(zan x).map .slen
  | some (.slice _)=>(zan x).map .len
  | some (.array n _)=>some (.mv (.c (.int .i64 (n:Int))))
  | some (.map _ _)=>(zan x).map .maplen
  | _=>none
 | .append,[x,y],[t,u]=>(elemOf P t).bind λe=>(P.info? e).bind λi=>(i.zero).bind λz=>
  if isApp P u=true/\0<i.size/\z.cells.size=i.size then (zan x).bind λx=>(zan y).map λy=>.append e i.size i.bytes x y else zks P e i u x y
 | .copy,[x,y],[t,_]=>(elemOf P t).bind λe=>(szOf P e).bind λs=>(zan x).bind λx=>(zan y).map λy=>.copy s x y
 | .clear,[x],[t]=>(elemOf P t).bind λe=>(zeroOf P e).bind λz=>if szOf P e=some z.length/\0<z.length then (zan x).map λx=>.clear z x else none
 | .max,x::xs,_=>(zan x).bind λx=>(zbr xs).map λxs=>.minmax true x xs
 | .min,x::xs,_=>(zan x).bind λx=>(zbr xs).map λxs=>.minmax false x xs
 | _,_,_=>none
def znf(P:Program)(neg:Bool)(t:TypeId)(x y:Arg):Option I:=
 match P.underlying t with
 | some .bool=>some (.eq .bool neg x y)
 | some (.pointer _)=>some (.eq .ptr neg x y)
 | some (.slice _)=>some (.eq .sl neg x y)
 | some (.array n e)=>match P.underlying e with
  | some (.int _)=>if szOf P e=some 1/\P.cellsOf e=1/\P.eqGuardType P.depth t=false then some (.eq (.arr n) neg x y) else none
  | _=>none
 | some (.struct _)=>match zm7 P t with
  | some ks=>some (.eq (.st ks) neg x y)
  | none=>(zvs P t).map λks=>.eq (.st ks) neg x y
 | _=>none
def zlR(P:Program)(op:BinOp)(t:TypeId)(x y:Arg):Option I:=
 match P.underlying t with
 | some (.int _)=>some (.bin op x y)
 | some (.float _)=>some (.bin op x y)
 | some .string=>some (.bin op x y)
 | some _=>match op with
  | .eql=>znf P false t x y
  | .neq=>znf P true t x y
  | _=>none
 | none=>none
inductive Xk where
 | fbits
 | ffrom
 | mknz (e:TypeId)
 | aload (k:IntKind)
 | aadd (k:IntKind)
def extOf (P:Program) (fn:Func):Option Xk:=
 if fn.name = "math.Float64bits" then some .fbits
 else if fn.name = "math.Float64frombits" then some .ffrom
 else if fn.name = "internal/bytealg.MakeNoZero" then (fn.resultTypes[0]?).bind fun t=>if fn.resultTypes.size = 1 then (elemOf P t).map .mknz else none
 else if fn.name = "sync/atomic.LoadInt64" then some (.aload .i64)
 else if fn.name = "sync/atomic.AddInt64" then some (.aadd .i64)
 else none
def zf8:Xk->List Arg->Option I
 | .fbits,[x]=>some (.op1 .fbits x)
 | .ffrom,[x]=>some (.op1 .ffrom x)
 | .mknz e,[x]=>some (.mknz e x)
 | .aload k,[x]=>some (.aload k x)
 | .aadd k,[x,y]=>some (.aadd k x y)
 | _,_=>none
def zkr (P:Program) (f:FuncId) (args:List Arg):Option I:=
 match P.funcs[f]? with
 | some fn=>if fn.body.isNone = true then (if (fn.name == "runtime.NumGoroutine") = false /\ (Extern.findNext fn).isNone = true then (extOf P fn).bind fun k=>zf8 k args else none) else some (.call f args)
 | none=>none
def zne(P:Program):Op->Option I
 | .move x=>(zan x).map .mv
 | .assign x=>(zan x).map .mv
 | .pick c a b=>(zan c).bind λc=>(zan a).bind λa=>(zan b).map λb=>.pick c a b
 | .alloc t=>(zeroOf P t).map λz=>.box t (.c (.agg z))
 | .box t x=>(zan x).map (.box t)
 | .build t parts=>(zeroOf P t).bind λz=>
  match P.underlying t with
  | some (.struct fs)=>if zmR P fs then (zdO P fs parts.toList).map (.build z) else none
  | some (.array _ e)=>(szOf P e).bind λs=>(zd8 s parts.toList).map (.build z)
  | _=>none
 | .buildSlice t len parts=>(elemOf P t).bind λe=>(szOf P e).bind λs=>(zeroOf P e).bind λz=>
  if len*s<=16777216/\z.length=s then (zd8 s parts.toList).map (.slit e len z) else none
 | .load t a=>(ldn P t).bind λn=>(zan a).map (.load n)
 | .store t a x=>(szOf P t).bind λs=>(zan a).bind λa=>(zan x).map (.store s a)
 | .nilCheck x=>(zan x).map .nilck
 | .binOp op t x y _=>(zan x).bind λx=>(zan y).bind λy=>zlR P op t x y
 | .unOp op _ x=>(zan x).map (.un op)
 | .convert src dst x=>
  match P.underlying src,P.underlying dst with
  | some _,some (.int k)=>(zan x).map (.cint k)
  | some (.int _),some (.float k)=>(zan x).map (.op1 (.itof k))
  | some (.slice e),some .string=>match P.underlying e with
   | some (.int .u8)=>(zan x).map .tostr
   | _=>none
  | some .string,some (.slice e)=>match P.underlying e with
   | some (.int .u8)=>(zan x).map (.tobytes e)
   | _=>none
  | some (.slice _),some (.slice e)=>match P.underlying e with
   | some (.int .u8)=>if src==dst then (zan x).map (.remark e) else (zan x).map (.tobytes e)
   | _=>none
  | _,_=>none
 | .fieldAddr s x f=>
  match P.underlying s with
  | some (.struct fs)=>(fs[f]?).bind λfd=>(szOf P fd.type).bind λn=>if 0<n then (zan x).map (.faddr fd.offset) else none
  | _=>none
 | .indexAddr t x i=>
  match P.underlying t with
  | some (.slice e)=>(szOf P e).bind λs=>(zan x).bind λx=>(zan i).map (.iaddr none s x)
  | some (.array n e)=>(szOf P e).bind λs=>(zan x).bind λx=>(zan i).map (.iaddr (some n) s x)
  | _=>none
 | .index t x i=>
  match P.underlying t with
  | some (.array n e)=>(szOf P e).bind λs=>(ldn P e).bind λl=>(zan x).bind λx=>(zan i).map (.index n s l x)
  | some .string=>(zan x).bind λx=>(zan i).map (.sindex x)
  | _=>none
 | .field t x f=>
  match P.underlying t with
  | some (.struct fs)=>(fs[f]?).bind λfd=>(ldn P fd.type).bind λl=>(zan x).map (.field fd.offset l)
  | _=>none
 | .extract x i=>(zan x).map (.ext i)
 | .sliceToArrayPointer t x=>
  match P.underlying t with
  | some (.array n _)=>(zan x).map (.op1 (.s2a n))
  | _=>none
 | .slice t x lo hi mx=>(zan x).bind λx=>(zfm lo).bind λlo=>(zfm hi).bind λhi=>(zfm mx).bind λmx=>
  match P.underlying t with
  | some (.slice e)=>(szOf P e).bind λs=>match byRoom P e,lo,hi,mx with
   | true,some lo,some hi,none=>if 0<s then some (.slice2 s x lo hi) else none
   | _,lo,hi,mx=>some (.slice .sl s x lo hi mx)
  | some (.array n e)=>(szOf P e).map λs=>.slice (.arr n) s x lo hi mx
  | some .string=>some (.slice .str 1 x lo hi mx)
  | _=>none
 | .makeSlice t l c=>(elemOf P t).bind λe=>(P.info? e).bind λi=>(zeroOf P e).bind λz=>
  if z.length=i.size/\0<i.size then (zan l).bind λl=>(zan c).map (.mkslice e i.bytes z l) else none
 | .makeFunc (.func f) first caps=>if first.size=0 then (zbr caps.toList).map (.mkfn f) else none
 | .makeMap t none=>match P.underlying t with
  | some (.map _ _)=>some (.mkmap t)
  | _=>none
 | .lookup t x i ok=>(mapOf P t).bind λq=>(zvOf P q.2).bind λz=>(zan x).bind λx=>(zan i).map (.lookup q.1 z ok x)
 | .mapUpdate t x k v=>(mapOf P t).bind λq=>(zan x).bind λx=>(zan k).bind λk=>(zan v).map (.mapset q.1 x k)
 | .insert t x k v=>(mapOf P t).bind λq=>(zan x).bind λx=>(zan k).bind λk=>(zan v).map (.mapset q.1 x k)
 | .call { callee:=.value (.func f),args, .. }=>(zbr args.toList).bind (zkr P f)
 | .call { callee:=.value x,args, .. }=>(zan x).bind λx=>(zbr args.toList).map (.callv x)
 | .call { callee:=.builtin b,args,argTypes }=>zfo P b args.toList argTypes.toList
 | _=>none
def zgY(P:Program)(ops:Array Oper)(o:Oper):Option AO:=
 (zne P o.op).bind λi=>
  match o.guard with
  | none=>some ⟨o.dst,none,i⟩
  | some (j,want)=>((ops[j]?).bind (·.dst)).map λs=>⟨o.dst,some (s,want),i⟩
def zeH(P:Program)(ops:Array Oper):List Oper->Option (List AO)
 | []=>some []
 | o::os=>(zgY P ops o).bind λa=>(zeH P ops os).map (a :: ·)
/-! A region that draws its order: 'ord': its operations' numbers in the order in which it is gone through. -/
def ahead(B:Array Nat)(i j:Nat):Bool:=(B.getD j 0).testBit i
def zqT(ops:Array Oper)(B:Array Nat)(ord:List Nat):Bool:=
 ord.all λj=>ord.all λi=>!ahead B i j||((ops[j]?).map λo=>o.after.toList.any λe=>Region.binds .any e&&(e.on==i||ahead B i e.on)).getD false
def zuz(ops:Array Oper):List Nat->List Nat->Bool
 | _,[]=>true
 | seen,j::js=>((ops[j]?).map λo=>o.after.toList.all λe=>!Region.binds .any e||seen.contains e.on).getD false && !seen.contains j&&zuz ops (j::seen) js
def zeJ (B : Array Nat) (i j : Nat) (ai aj : AO) : Bool:=
  let bound:= ahead B i j
  (match ai.dst with
   | some d=> (bound || !aj.slots.contains d) && aj.dst != some d
   | none=> true) &&
  (match aj.dst with
   | some d=> bound || !ai.slots.contains d
   | none=> true) &&
  -- acts in one order;what makes memory comes ahead of an act or a read only if that waits for it
  (match ai.ins.kind, aj.ins.kind with
   | .act, .act=> bound
   | .new, .act=> bound
   | .new, .read _=> bound
   | _, _=> true)
def zkT(B:Array Nat):List (Nat×AO)->Bool
 | []=>true
 | (i,ai)::l=>(l.all λx=>zeJ B i x.1 ai x.2)&&zkT B l
def znn(B:Array Nat) (l:List (Nat×AO)):List (Nat×Nat):=
 l.zipIdx.flatMap λ(x,p)=>
  match x.2.ins.kind with
  | .read _=>l.zipIdx.filterMap λ(y,q)=>
   match y.2.ins.kind with
   | .act=>if (if p<q then ahead B x.1 y.1 else ahead B y.1 x.1) then none else some (p,q)
   | _=>none
  | _=>[]
def zf9(P:Program)(ops:Array Oper):List Nat->Option (List (Nat×AO))
 | []=>some []
 | j::js=>(ops[j]?).bind λo=>(zgY P ops o).bind λa=>(zf9 P ops js).map ((j,a) :: ·)
def zfn(P:Program)(ops:Array Oper)(ord:List Nat):Option (List AO×List (Nat×Nat)):=
 let B:=Region.before ops
 (zf9 P ops ord).bind λl=>
  if zuz ops [] ord=true/\zqT ops B ord=true/\zkT B l=true/\((List.range ops.size).all λi=>ord.contains i)=true then
   some (l.map (·.2),znn B l)
  else none
def writes:Code->List Nat
 | .region _ ops _=>ops.toList.filterMap (·.dst)
 | .seq a b=>writes a++writes b
 | .cond _ a b=>writes a++writes b
 | .block _ a=>writes a
 | .loop a=>writes a
 | _=>[]
def zpm:Code->Bool
 | .ret=>true
 | .exit _=>true
 | .seq a b=>zpm a||zpm b
 | .cond _ a b=>zpm a&&zpm b
 | .loop _=>true
 | _=>false
def stops(ops:Array Oper):Bool:=ops.toList.any λo=>match o.op with
 | .panic _=>true
 | .makeInterface ..=>true
 | _=>false
def comp(P:Program):Code->C->List (List Nat)->Option (C×List (List Nat))
 | .skip,k,h=>some (k,h)
 | .region _ ops d,k,h=>
  if stops ops=true then some (.bad,if d=true then h.drop 1 else h)
  else if d=false then (zeH P ops ops.toList).map λl=>(.ops l k,h)
  else match h with
   | ord::h=>if P.follows .mixedOrders then (zfn P ops ord).map λr=>(.draw r.1 r.2 k,h) else none
   | []=>none
 | .seq a b,k,h=>(comp P b k h).bind λr=>comp P a r.1 r.2
 | .cond x a b,k,h=>(zan x).bind λx=>
  if zpm a then (comp P a .bad h).bind λr=>(comp P b k r.2).map λs=>(.cond x r.1 s.1,s.2)
  else if zpm b then (comp P a k h).bind λr=>(comp P b .bad r.2).map λs=>(.cond x r.1 s.1,s.2)
  else match h with
   | J::h=>(comp P a .done h).bind λr=>(comp P b .done r.2).map λs=>(.condJ x r.1 s.1 J (writes a++writes b) k,s.2)
   | []=>none
 | .block id a,k,h=>
  match h with
  | J::h=>(comp P a .done h).map λr=>(.blk id r.1 J (writes a) k,r.2)
  | []=>none
 | .loop a,_,h=>
  match h with
  | K::h=>(comp P a .done h).map λr=>(.loop r.1 K (writes a),r.2)
  | []=>none
 | .exit id,_,h=>some (.exit id,h)
 | .ret,_,h=>some (.ret,h)
 | _,_,_=>none
def zgX(P:Program):List ResultVar->Option (List RV)
 | []=>some []
 | .tmp t::rs=>(zgX P rs).map (.tmp t :: ·)
 | .cell a t::rs=>(ldn P t).bind λn=>(zgX P rs).map (.cell a n :: ·)
def zlQ (P:Program) (fn:Func) (h:List (List Nat)):Option Fn':=
 fn.body.bind fun b=>(comp P b .ret h).bind fun r=>(zgX P fn.results.toList).bind fun rv=>
  if (writes b).all (fun d=>decide (d < fn.ntmps)) = true /\ (fn.name == "runtime.NumGoroutine") = false then some ⟨fn.ntmps,rv,r.1⟩ else none
def zov (P:Program) (fn:Func) (h:List (List Nat)):Option Fn':=if fn.name == "(*sync.Once).Do" then some zjw else if fn.name == "(*palanquin/lock.Receiver).Drop" then some zjK else zlQ P fn h
def zmQ(P:Program) (h:FuncId->List (List Nat)):FuncId->Option Fn':=λf=>(P.funcs[f]?).bind λfn=>zov P fn (h f)
def table(P:Program) (h:FuncId->List (List Nat)):FuncId->Option Fn':=λf=>(P.funcs[f]?).bind λfn=>zlQ P fn (h f)
structure Loc where
 blk:Nat
 cap:Nat
 esz:Nat
 mp:Bool
 bo:Nat
abbrev Map:=Nat->Option Loc
def AtC(m:Map)(id:Nat)(l:Loc):Prop:=m id=some l/\l.mp=false
def AtC.mp{m:Map}{id:Nat}{l:Loc}(h:AtC m id l):l.mp=false:=h.2
inductive Rep (m:Map) (Z:Nat->Prop) (w:World):V->Value->Prop
 | bool (b:Bool):Rep m Z w (.bool b) (.bool b)
 | int (k:IntKind) (n:Int):Rep m Z w (.int k n) (.int k n)
 | str (s:ByteArray):Rep m Z w (.str s) (.string s)
 | nilp:Rep m Z w .nilp (.pointer none)
 | nils:Rep m Z w .nils (.slice none 0 0)
 | lit (x:Value):Rep m Z w (.lit x) x
 | mp {id:Nat} {l:Loc} (h:m id=some l/\l.mp=true):Rep m Z w (.mp id) (.map (some l.blk))
 | ptr {id off:Nat} {l:Loc} (h:AtC m id l):Rep m Z w (.ptr id off) (.pointer (some ⟨l.blk,off+l.bo,none⟩))
 | slc {id off len c:Nat} {l:Loc} {a:Addr} (h:AtC m id l) (hl:len<=c) (ha:c=0\/a=⟨l.blk,off+l.bo,none⟩):Rep m Z w (.sl id off len (.fix c)) (.slice (some a) len c)
 | slo {id off len i c:Nat} {l:Loc} {a:Addr} (h:AtC m id l) (hi:off=i*l.esz) (hc:i+c=l.cap) (hl:len<=c) (ha:c=0\/a=⟨l.blk,off+l.bo,none⟩) :
   Rep m Z w (.sl id off len (.opn l.esz)) (.slice (some a) len c)
 | rs (b o:Nat) {cells:List V} {len c:Nat} {a:Addr} (x:Nat->Value) (hl:len<=c)
   (h0:len=0\/(a=⟨b,o,none⟩/\Z b/\∀j v,cells[j]?=some v->w.cell? ⟨b,o+j,none⟩=some (x j)))
   (h1:∀(j:Nat) (v:V),cells[j]?=some v->v.one=true) (h2:∀(j:Nat) (v:V),cells[j]?=some v->Rep m Z w v (x j)):Rep m Z w (.rs cells len) (.slice (some a) len c)
 | rp {cells:List V} {off b o:Nat} (x:Nat->Value) (hz:Z b) (h0:∀j v,cells[j]?=some v->w.cell? ⟨b,o+j,none⟩=some (x j))
   (h1:∀(j:Nat) (v:V),cells[j]?=some v->v.one=true) (h2:∀(j:Nat) (v:V),cells[j]?=some v->Rep m Z w v (x j)):Rep m Z w (.rp cells off) (.pointer (some ⟨b,o+off,none⟩))
 | fn {f:FuncId} {caps:List V} {xs:Array Value} (hl:xs.size=caps.length) (h:∀(j:Nat) (v:V) (x:Value),caps[j]?=some v->xs[j]?=some x->Rep m Z w v x) :
   Rep m Z w (.fn f caps) (.func (.func f) #[] xs)
 | agg {cs:List V} {xs:Array Value} (hl:xs.size=cs.length) (h1:∀v∈cs,v.one=true) (h:∀(j:Nat) (v:V) (x:Value),cs[j]?=some v->xs[j]?=some x->Rep m Z w v x) :
   Rep m Z w (.agg cs) (.agg xs)
 | tup {cs:List V} {xs:Array Value} (hl:xs.size=cs.length) (h:∀(j:Nat) (v:V) (x:Value),cs[j]?=some v->xs[j]?=some x->Rep m Z w v x) :
   Rep m Z w (.tup cs) (.tuple xs)
 | any (x:Value) (h:x.oneCell'=true):Rep m Z w .any x
def Reps(m:Map)(Z:Nat->Prop)(w:World)(vs:List V)(xs:List Value):Prop:=
 xs.length=vs.length/\∀(j:Nat) (v:V) (x:Value),vs[j]?=some v->xs[j]?=some x->Rep m Z w v x
structure Lies (m:Map) (Z:Nat->Prop) (w:World) (b:Blk) (l:Loc) (cur:Array Value) (fz:Nat×Nat):Prop where
 heap:w.heap[l.blk]?=some (.cells cur b.ty fz)
 free:∀j,j<cur.size->¬(fz.1<=j/\(j<fz.2\/fz.1≠fz.2))
 out:¬Z l.blk
 len:b.cells.length+l.bo<=cur.size
 opn:∀e,b.opn=some e->l.esz=e/\0<e/\cur.size=l.cap*e+l.bo/\l.cap<=9223372036854775807
 one:∀v∈b.cells,v.one=true
 reps:∀(j:Nat) (v:V) (x:Value),b.cells[j]?=some v->cur[j+l.bo]?=some x->Rep m Z w v x
def Ents(m:Map)(Z:Nat->Prop)(w:World):List V->List MapEntry->Prop
 | [],[]=>True
 | k::v::r,e::es=>Rep m Z w k e.key/\Rep m Z w v e.val/\Ents m Z w r es
 | _,_=>False
structure LiesM (m:Map) (Z:Nat->Prop) (w:World) (b:Blk) (l:Loc) (es:Array MapEntry) (clock:Nat):Prop where
 heap:w.heap[l.blk]?=some (.map es clock)
 out:¬Z l.blk
 ents:Ents m Z w b.cells es.toList
 born:∀e∈es.toList,e.born<clock
 rise:es.toList.Pairwise λa b=>a.born<b.born
inductive LiesX (m:Map) (Z:Nat->Prop) (w:World) (b:Blk) (l:Loc):Prop
 | cells (hk:l.mp=false) (cur:Array Value) (fz:Nat×Nat) (h:Lies m Z w b l cur fz)
 | map (hk:l.mp=true) (es:Array MapEntry) (clock:Nat) (h:LiesM m Z w b l es clock)
structure RelH (m:Map) (Z:Nat->Prop) (H:Heap) (w:World):Prop where
 live:∀id b,H.get id=some b->∃l,m id=some l/\LiesX m Z w b l
 inj:∀id id' b b' l l',H.get id=some b->H.get id'=some b'->m id=some l->m id'=some l'->l.blk=l'.blk->id=id'
 dead:∀id,H.next<=id->H.get id=none
 zlt:∀b,Z b->b<w.heap.size
def Free(m:Map)(H H':Heap):Prop:=∀id,H.next<=id->id<H'.next->m id=none
structure Ext (m:Map) (Z:Nat->Prop) (H:Heap) (w:World) (m':Map) (Z':Nat->Prop) (H':Heap) (w':World):Prop where
 map:∀id l,m id=some l->m' id=some l
 next:H.next<=H'.next
 keep:∀id,id<H.next\/H'.next<=id->m' id=m id
 zone:∀b,Z b->Z' b
 size:w.heap.size<=w'.heap.size
 os:w'.os=w.os
 tape:w'.tape=w.tape
 output:w'.output=w.output
 same:∀k,k<w.heap.size->(∀id b l,H.get id=some b->m id=some l->l.blk≠k)->w'.heap[k]?=w.heap[k]?
 src:∀id b l,H'.get id=some b->m' id=some l->w.heap.size<=l.blk\/∃id0 b0 l0,H.get id0=some b0/\m id0=some l0/\l0.blk=l.blk
 zsrc:∀k,Z' k->Z k\/w.heap.size<=k\/∃id0 b0 l0,H.get id0=some b0/\m id0=some l0/\l0.blk=k
section
variable {m m' m2:Map} {Z Z' Z2:Nat->Prop} {H H' H2:Heap} {w w' w2:World}
def Ext.refl(m:Map)(Z:Nat->Prop)(H:Heap)(w:World):Ext m Z H w m Z H w:=
 ⟨λ_ _ h=>h,yaj _,λ_ _=>rfl,λ_ h=>h,yaj _,rfl,rfl,rfl,λ_ _ _=>rfl,λid b l h hm=>.inr ⟨id,b,l,h,hm,rfl⟩,λ_ h=>.inl h⟩
def Ext.trans(h:Ext m Z H w m' Z' H' w')(k:Ext m' Z' H' w' m2 Z2 H2 w2):Ext m Z H w m2 Z2 H2 w2:=by
 refine⟨λid l e=>k.map id l (h.map id l e),yaA h.next k.next,λi e=>(k.keep i (e.imp (λe=>yaq e h.next) λe=>e)).trans (h.keep i (e.imp (λe=>e) λe=>yaA k.next e)),λb e=>k.zone b (h.zone b e),yaA h.size k.size,k.os.trans h.os,k.tape.trans h.tape,k.output.trans h.output,?_,?_,?_⟩
 ·intro i hi hn;refine(k.same i (yaq hi h.size) λid b l hb hm=>?_).trans (h.same i hi hn);rcases h.src id b l hb hm with hs|⟨id0,b0,l0,h0,hm0,e⟩
  ·omega
  ·exact λe'=>hn id0 b0 l0 h0 hm0 (e.trans e')
 ·intro id b l hb hm;rcases k.src id b l hb hm with hs|⟨id0,b0,l0,h0,hm0,e⟩
  ·exact .inl (yaA h.size hs)
  ·rcases h.src id0 b0 l0 h0 hm0 with hs|⟨id1,b1,l1,h1,hm1,e1⟩
   ·exact .inl (e ▸ hs)
   ·exact .inr ⟨id1,b1,l1,h1,hm1,e1.trans e⟩
 ·intro i hz;rcases k.zsrc i hz with hs|hs|⟨id0,b0,l0,h0,hm0,e⟩
  ·exact h.zsrc i hs
  ·exact .inr (.inl (yaA h.size hs))
  ·rcases h.src id0 b0 l0 h0 hm0 with hs|⟨id1,b1,l1,h1,hm1,e1⟩
   ·exact .inr (.inl (e ▸ hs))
   ·exact .inr (.inr ⟨id1,b1,l1,h1,hm1,e1.trans e⟩)
def ziI{a:Addr} (h:w'.heap[a.block]?=w.heap[a.block]?):w'.cell? a=w.cell? a:=by simp[World.cell?,h]
def Rep.mono{v:V}{x:Value}(h:Rep m Z w v x)(hm:∀id l,m id=some l->m' id=some l)(hz:∀b,Z b->Z' b) (hw:∀b,Z b->w'.heap[b]?=w.heap[b]?):Rep m' Z' w' v x:=by
 induction h with
 | bool b=>exact .bool b
 | int k n=>exact .int k n
 | str s=>exact .str s
 | nilp=>exact .nilp
 | nils=>exact .nils
 | lit x=>exact .lit x
 | mp h=>exact .mp ⟨hm _ _ h.1,h.2⟩
 | ptr h=>exact .ptr ⟨hm _ _ h.1,h.2⟩
 | slc h hl ha=>exact .slc ⟨hm _ _ h.1,h.2⟩ hl ha
 | slo h hi hc hl ha=>exact .slo ⟨hm _ _ h.1,h.2⟩ hi hc hl ha
 | rs b o x hl h0 h1 _ ih=>
  refine .rs b o x hl ?_ h1 ih;rcases h0 with h0|⟨ha,hb,hc⟩
  ·exact .inl h0
  ·exact .inr ⟨ha,hz _ hb,λj v hj=>(ziI (hw _ hb)).trans (hc j v hj)⟩
 | rp x hb h0 h1 _ ih=>exact .rp x (hz _ hb) (λj v hj=>(ziI (hw _ hb)).trans (h0 j v hj)) h1 ih
 | fn hl _ ih=>exact .fn hl ih
 | agg hl h1 _ ih=>exact .agg hl h1 ih
 | tup hl _ ih=>exact .tup hl ih
 | any x h=>exact .any x h
def Ents.mono(hm:∀id l,m id=some l->m' id=some l)(hz:∀b,Z b->Z' b) (hw:∀b,Z b->w'.heap[b]?=w.heap[b]?):∀{cs:List V} {es:List MapEntry},Ents m Z w cs es->Ents m' Z' w' cs es
 | [],[],_=>trivial
 | _ :: _ :: _,_ :: _,⟨h1,h2,h3⟩=>⟨h1.mono hm hz hw,h2.mono hm hz hw,Ents.mono hm hz hw h3⟩
 | [],_ :: _,h=>h.elim
 | [_],_,h=>by cases ‹List MapEntry›<;>exact h.elim
 | _ :: _ :: _,[],h=>h.elim
def LiesX.out{b:Blk}{l:Loc}(h:LiesX m Z w b l):¬Z l.blk:=by
 cases h with
 | cells _ _ _ h=>exact h.out
 | map _ _ _ h=>exact h.out
def LiesX.mono{b:Blk}{l:Loc}(h:LiesX m Z w b l)(hm:∀id l,m id=some l->m' id=some l)(hz:∀b,Z b->Z' b) (hw:∀b,Z b->w'.heap[b]?=w.heap[b]?) (hh:w'.heap[l.blk]?=w.heap[l.blk]?) (ho:¬Z' l.blk):LiesX m' Z' w' b l:=by
 cases h with
 | cells hk cur fz L=>exact .cells hk cur fz ⟨hh.trans L.heap,L.free,ho,L.len,L.opn,L.one,λj v x hv hx=>(L.reps j v x hv hx).mono hm hz hw⟩
 | map hk es clock L=>exact .map hk es clock ⟨hh.trans L.heap,ho,L.ents.mono hm hz hw,L.born,L.rise⟩
def LiesX.lt{b:Blk}{l:Loc}(h:LiesX m Z w b l):l.blk<w.heap.size:=by
 cases h with
 | cells _ _ _ h=>exact(yaG.1 h.heap).1
 | map _ _ _ h=>exact(yaG.1 h.heap).1
def Free.le(h:Free m H H2)(hn:H'.next<=H2.next):Free m H H':=λid h1 h2=>h id h1 (yaq h2 hn)
def Free.later(h:Free m H H2)(e:Ext m Z H w m' Z' H' w'):Free m' H' H2:=λid h1 h2=>(e.keep id (.inr h1)).trans (h id (yaA e.next h1) h2)
def Ext.quiet(h:Ext m Z H w m' Z' H' w')(r:RelH m Z H w):∀b,Z b->w'.heap[b]?=w.heap[b]?:=λb hb=>
 h.same b (r.zlt b hb) λid bl l hg hm e=>by
  obtain⟨l',hm',hl⟩:=r.live id bl hg;rw[hm]at hm';injection hm' with hm'
  subst hm';exact hl.out (e ▸ hb)
def Rep.ext{v:V}{x:Value}(h:Rep m Z w v x)(r:RelH m Z H w)(e:Ext m Z H w m' Z' H' w'):Rep m' Z' w' v x:=h.mono e.map e.zone (e.quiet r)
def Rep.oneCell{v:V}{x:Value}(h:Rep m Z w v x)(h1:v.one=true):x.oneCell'=true:=by
 cases h<;>first|rfl|exact h1|assumption|(simp[V.one]at h1)
def RelH.drew(r:RelH m Z H w):RelH m Z H w.drew:=by
 refine⟨λid b hb=>?_,r.inj,r.dead,r.zlt⟩;obtain⟨l,hm,h⟩:=r.live id b hb;exact⟨l,hm,h.mono (λ_ _ h=>h) (λ_ h=>h) (λ_ _=>rfl) rfl h.out⟩
def Ext.drew(m:Map)(Z:Nat->Prop)(H:Heap)(w:World):Ext m Z H w m Z H w.drew:=
 ⟨λ_ _ h=>h,yaj _,λ_ _=>rfl,λ_ h=>h,yaj _,rfl,rfl,rfl,λ_ _ _=>rfl,λid b l h hm=>.inr ⟨id,b,l,h,hm,rfl⟩,λ_ h=>.inl h⟩
end
def zrt(P:Program)(f:FuncId)(args:List V)(H:Heap)(v:V)(H':Heap):Prop:=
 ∀(m:Map) (Z:Nat->Prop) (w:World) (xs:List Value),RelH m Z H w->Free m H H'->Reps m Z w args xs ->
  Calls P f xs.toArray w λe w'=>∃m' Z' x,e = .returned x/\Rep m' Z' w' v x/\RelH m' Z' H' w'/\Ext m Z H w m' Z' H' w'
def Heap.wf(H:Heap):Prop:=∀id,H.next<=id->H.get id=none
def Heap.le(H H':Heap):Prop:=H.next<=H'.next/\(H.wf->H'.wf)
def zgb (P:Program) (G:Sem'):Prop:=
 ∀ f args H v H',G f args H = some (v,H') -> H.le H' /\ zrt P f args H v H' /\ ∃ fn,P.funcs[f]? = some fn /\ fn.body.isSome = true /\ (fn.name == "runtime.NumGoroutine") = false
def RelF(m:Map)(Z:Nat->Prop)(w:World)(A:Fr)(tmps:Array Value):Prop:=
 ∀t v,A.get t=some v->∃x,tmps[t]?=some x/\Rep m Z w v x
structure Rel (N:Nat) (m:Map) (Z:Nat->Prop) (A:Fr) (H:Heap) (a:Act) (w:World):Prop where
 size:a.tmps.size=N
 defers:a.defers=[]
 fr:RelF m Z w A a.tmps
 hp:RelH m Z H w
section
variable {m m':Map} {Z Z':Nat->Prop} {H H':Heap} {w w':World} {A:Fr}
def RelF.mono{tmps:Array Value}(h:RelF m Z w A tmps)(r:RelH m Z H w)(e:Ext m Z H w m' Z' H' w'):RelF m' Z' w' A tmps:=λt v hv=>
 let ⟨x,hx,hr⟩:=h t v hv
 ⟨x,hx,hr.ext r e⟩
def RelF.put{tmps:Array Value}{d:Option Nat}{v:V}{x:Value}(h:RelF m Z w A tmps)(hd:∀t,d=some t->t<tmps.size)(hv:Rep m Z w v x)(ds:List Deferred) :
  RelF m Z w (A.put d v) (Act.put ⟨tmps,ds⟩ d x).tmps:=by
 cases d with
 | none=>exact h
 | some d=>
  intro t u hu;simp only[Fr.put,Fr.get]at hu;simp only[Act.put];by_cases e:d=t
  ·subst e;rw[if_pos rfl]at hu;injection hu with hu
   subst hu;exact⟨x,by simp[hd d rfl],hv⟩
  ·rw[if_neg e]at hu;obtain⟨y,hy,hr⟩:=h t u hu;exact⟨y,by rw[yaV e];exact hy,hr⟩
end
section
variable {m:Map} {Z:Nat->Prop} {H:Heap} {w:World}
def zkR{H':Heap}{w':World}{id:Nat}{l:Loc}{b:Blk}(r:RelH m Z H w)
  (hg:∀i,H'.get i=if i=id then some b else H.get i) (hn:H.next<=H'.next) (hid:id<H'.next) (hm:m id=none\/m id=some l)
  (hw:∀k,k≠l.blk->w'.heap[k]?=w.heap[k]?) (hs:w.heap.size<=w'.heap.size) (hout:¬Z l.blk)
  (hfree:∀i b' l',H.get i=some b'->m i=some l'->l'.blk=l.blk->i=id)
  (hL:∀m':Map,(∀i l',m i=some l'->m' i=some l')->(∀k,Z k->w'.heap[k]?=w.heap[k]?)->LiesX m' Z w' b l) :
  RelH (λi=>if i=id then some l else m i) Z H' w':=by
 have hmm:∀i l',m i=some l'->(λi=>if i=id then some l else m i) i=some l':=by
  intro i l' h;show(if i=id then some l else m i)=some l';split
  ·rename_i e;subst e;rcases hm with hm|hm
   ·rw[hm]at h;cases h
   ·rw[hm]at h;exact h
  ·exact h
 have hq:∀k,Z k->w'.heap[k]?=w.heap[k]?:=λk hk=>hw k (λe=>hout (e ▸ hk));refine⟨λi bi hbi=>?_,λi i' bi bi' li li' hbi hbi' hmi hmi' e=>?_,λi hi=>?_,λk hk=>yaq (r.zlt k hk) hs⟩
 ·rw[hg]at hbi;by_cases e:i=id
  ·subst e;rw[if_pos rfl]at hbi;injection hbi with hbi
   subst hbi;exact⟨l,if_pos rfl,hL _ hmm hq⟩
  ·rw[if_neg e]at hbi;obtain⟨li,hmi,hl⟩:=r.live i bi hbi;have hne:li.blk≠l.blk:=λe'=>e (hfree i bi li hbi hmi e');exact⟨li,hmm i li hmi,hl.mono hmm (λ_ h=>h) hq (hw _ hne) hl.out⟩
 ·rw[hg]at hbi hbi';replace hmi:(if i=id then some l else m i)=some li:=hmi;replace hmi':(if i'=id then some l else m i')=some li':=hmi';by_cases h1:i=id
  ·by_cases h2:i'=id
   ·rw[h1,h2]
   ·rw[if_pos h1]at hmi;rw[if_neg h2]at hbi' hmi';injection hmi with hmi
    subst hmi;exact h1.trans (hfree i' bi' li' hbi' hmi' e.symm).symm
  ·rw[if_neg h1]at hbi hmi;by_cases h2:i'=id
   ·rw[if_pos h2]at hmi';injection hmi' with hmi'
    subst hmi';exact(hfree i bi li hbi hmi e).trans h2.symm
   ·rw[if_neg h2]at hbi' hmi';exact r.inj i i' bi bi' li li' hbi hbi' hmi hmi' e
 ·have hne:i≠id:=by omega
  rw[hg,if_neg hne];exact r.dead i (by omega)
def zhJ{H':Heap}{w':World}{id:Nat}{l:Loc}{b:Blk}{cur:Array Value}{fz:Nat×Nat}(r:RelH m Z H w)
  (hg:∀i,H'.get i=if i=id then some b else H.get i) (hn:H.next<=H'.next) (hid:id<H'.next) (hm:m id=none\/m id=some l)
  (hw:∀k,k≠l.blk->w'.heap[k]?=w.heap[k]?) (hs:w.heap.size<=w'.heap.size) (hout:¬Z l.blk)
  (hfree:∀i b' l',H.get i=some b'->m i=some l'->l'.blk=l.blk->i=id)
  (hh:w'.heap[l.blk]?=some (.cells cur b.ty fz)) (hz:∀j,j<cur.size->¬(fz.1<=j/\(j<fz.2\/fz.1≠fz.2))) (hlen:b.cells.length+l.bo<=cur.size)
  (hopn:∀e,b.opn=some e->l.esz=e/\0<e/\cur.size=l.cap*e+l.bo/\l.cap<=9223372036854775807) (hone:∀v∈b.cells,v.one=true)
  (hrep:∀(j:Nat) (v:V) (x:Value),b.cells[j]?=some v->cur[j+l.bo]?=some x->Rep m Z w v x) (hk:l.mp=false:=by first|rfl|(apply AtC.mp;assumption)) :
  RelH (λi=>if i=id then some l else m i) Z H' w':=
 zkR r hg hn hid hm hw hs hout hfree λ_ hmm hq=>.cells hk cur fz ⟨hh,hz,hout,hlen,hopn,hone,λj v x hv hx=>(hrep j v x hv hx).mono hmm (λ_ h=>h) hq⟩
def zhu{H':Heap}{w':World}{id:Nat}{l:Loc}(hm:m id=none\/m id=some l)(hnx:H.next<=H'.next) (hid:(H.next<=id/\id<H'.next)\/m id=some l)
  (hg:∀i b,H'.get i=some b->i=id\/∃b0,H.get i=some b0)
  (hw:∀k,k≠l.blk->w'.heap[k]?=w.heap[k]?) (hs:w.heap.size<=w'.heap.size) (ho:w'.os=w.os) (ht:w'.tape=w.tape) (hu:w'.output=w.output)
  (hsrc:w.heap.size<=l.blk\/∃id0 b0 l0,H.get id0=some b0/\m id0=some l0/\l0.blk=l.blk) :
  Ext m Z H w (λi=>if i=id then some l else m i) Z H' w':=by
 refine⟨λi l' h=>?_,hnx,λi hi=>?_,λ_ h=>h,hs,ho,ht,hu,λk hk hn=>hw k λe=>?_,λi b li hb hmi=>?_,λ_ h=>.inl h⟩
 ·show(if i=id then some l else m i)=some l';split
  ·rename_i e;subst e;rcases hm with hm|hm
   ·rw[hm]at h;cases h
   ·rw[hm]at h;exact h
  ·exact h
 ·show(if i=id then some l else m i)=m i;split
  ·rename_i e;subst e;rcases hid with hid|hid
   ·omega
   ·exact hid.symm
  ·rfl
 ·rcases hsrc with hsrc|⟨id0,b0,l0,h0,hm0,e0⟩
  ·omega
  ·exact hn id0 b0 l0 h0 hm0 (e0.trans e.symm)
 ·replace hmi:(if i=id then some l else m i)=some li:=hmi;by_cases e:i=id
  ·rw[if_pos e]at hmi;injection hmi with hmi
   subst hmi;exact hsrc
  ·rw[if_neg e]at hmi;rcases hg i b hb with h|⟨b0,h⟩
   ·exact absurd h e
   ·exact .inr ⟨i,b0,li,h,hmi,rfl⟩
def zeh{id:Nat}{l:Loc}(h:m id=some l):(λi=>if i=id then some l else m i)=m:=by
 funext i;by_cases e:i=id
 ·rw[if_pos e,e,h]
 ·rw[if_neg e]
def zo7(r:RelH m Z H w)(id:Nat):RelH m Z (H.set id none) w:=by
 refine⟨λi b hb=>?_,λi i' b b' l l' hb hb'=>?_,λi hi=>?_,r.zlt⟩
 ·simp only[Heap.set]at hb;split at hb
  ·cases hb
  ·exact r.live i b hb
 ·simp only[Heap.set]at hb hb';split at hb
  ·cases hb
  ·split at hb'
   ·cases hb'
   ·exact r.inj i i' b b' l l' hb hb'
 ·simp only[Heap.set];split
  ·rfl
  ·exact r.dead i hi
def RelH.at_(r:RelH m Z H w){id:Nat}{b:Blk}{l:Loc}(hb:H.get id=some b)(hm:AtC m id l):∃cur fz,Lies m Z w b l cur fz:=by
 obtain⟨l',hm',h⟩:=r.live id b hb;rw[hm.1]at hm';injection hm' with hm'
 subst hm';cases h with
 | cells _ cur fz h=>exact⟨cur,fz,h⟩
 | map hk _ _ _=>rw[hm.2]at hk;cases hk
def RelH.atM(r:RelH m Z H w){id:Nat}{b:Blk}{l:Loc}(hb:H.get id=some b)(hm:m id=some l/\l.mp=true):∃es clock,LiesM m Z w b l es clock:=by
 obtain⟨l',hm',h⟩:=r.live id b hb;rw[hm.1]at hm';injection hm' with hm'
 subst hm';cases h with
 | map _ es clock h=>exact⟨es,clock,h⟩
 | cells hk _ _ _=>rw[hm.2]at hk;cases hk
def Lies.cell{b:Blk}{l:Loc}{cur:Array Value}{fz:Nat×Nat}(h:Lies m Z w b l cur fz)(j:Nat):w.cell? ⟨l.blk,j,none⟩=cur[j]?:=by
 simp[World.cell?,h.heap]
def Lies.get{b:Blk}{l:Loc}{cur:Array Value}{fz:Nat×Nat}(h:Lies m Z w b l cur fz){j:Nat}{v:V} (hv:b.cells[j]?=some v):∃x,cur[j+l.bo]?=some x/\Rep m Z w v x:=by
 have hj:j<b.cells.length:=(yax.1 hv).1;have hc:cur[j+l.bo]?=some (cur[j+l.bo]'(by have:=h.len;omega)):=yar _;exact⟨_,hc,h.reps j v _ hv hc⟩
def zfa(o:Obj):(w.alloc o).heap[w.heap.size]?=some o:=by
 show(w.heap.push o)[w.heap.size]? = _;simp
def zhX(o:Obj){k:Nat}(h:k≠w.heap.size):(w.alloc o).heap[k]?=w.heap[k]?:=by
 show(w.heap.push o)[k]? = _;rw[Array.getElem?_push,if_neg h]
def RelH.lt(r:RelH m Z H w){id:Nat}{b:Blk}{l:Loc}(hb:H.get id=some b)(hm:m id=some l):l.blk<w.heap.size:=by
 obtain⟨l',hm',h⟩:=r.live id b hb;rw[hm]at hm';injection hm' with hm'
 subst hm';exact h.lt
def zgc{b:Blk}{cur:Array Value}{fz:Nat×Nat}{l:Loc}(r:RelH m Z H w)(hf:m H.next=none)(hl:l.blk=w.heap.size) (hz:∀j,j<cur.size->¬(fz.1<=j/\(j<fz.2\/fz.1≠fz.2))) (hlen:b.cells.length+l.bo<=cur.size)
  (hopn:∀e,b.opn=some e->l.esz=e/\0<e/\cur.size=l.cap*e+l.bo/\l.cap<=9223372036854775807) (hone:∀v∈b.cells,v.one=true)
  (hrep:∀(j:Nat) (v:V) (x:Value),b.cells[j]?=some v->cur[j+l.bo]?=some x->Rep m Z w v x) (hk:l.mp=false:=by first|rfl|(apply AtC.mp;assumption)) :
  RelH (λi=>if i=H.next then some l else m i) Z (H.new b) (w.alloc (.cells cur b.ty fz)) /\
  Ext m Z H w (λi=>if i=H.next then some l else m i) Z (H.new b) (w.alloc (.cells cur b.ty fz)):=by
 have hw:∀k,k≠l.blk->(w.alloc (.cells cur b.ty fz)).heap[k]?=w.heap[k]?:=λk hk=>zhX _ (by omega);have hs:w.heap.size<=(w.alloc (.cells cur b.ty fz)).heap.size:=by simp
 refine⟨zhJ (id:=H.next) (cur:=cur) (fz:=fz) (b:=b) r (λ_=>rfl) (ybH _) (yaR _) (.inl hf) hw hs (λh=>?_) (λi b' l' hb' hm' e=>?_) ?_ hz hlen hopn hone hrep hk,
  zhu (.inl hf) (ybH _) (.inl ⟨yaj _,yaR _⟩) (λi b' h=>?_) hw hs rfl rfl rfl (.inl (by omega))⟩
 ·have:=r.zlt _ h;omega
 ·have:=r.lt hb' hm';omega
 ·rw[hl];exact zfa _
 ·simp only[Heap.new]at h;split at h
  ·rename_i e;exact .inl e
  ·exact .inr ⟨b',h⟩
def zcS(xs:List V)(o:Nat)(ys:List V)(h:o+ys.length<=xs.length):(splice xs o ys).length=xs.length:=by
 simp[splice];omega
def zc7(xs:List V)(o:Nat)(ys:List V)(h:o+ys.length<=xs.length)(j:Nat) :
  (splice xs o ys)[j]?=if o<=j/\j<o+ys.length then ys[j-o]? else xs[j]?:=by
 have ho:(xs.take o).length=o:=by simp;omega
 unfold splice;rw[ybb,ybi,ho];by_cases h1:j<o
 ·rw[if_pos h1,if_neg (by omega),ybx,if_pos h1]
 ·rw[if_neg h1,ybi];by_cases h2:j<o+ys.length
  ·rw[if_pos (by omega),if_pos (by omega)]
  ·rw[if_neg (by omega),if_neg (by omega),yaU];congr 1;omega
def ziM{xs:List V}{o:Nat}{ys:List V}{v:V}(h:v∈splice xs o ys):v∈xs\/v∈ys:=by
 unfold splice at h;rcases yaZ.1 h with h|h
 ·rcases yaZ.1 h with h|h
  ·exact .inl (yb3 h)
  ·exact .inr h
 ·exact .inl (yb4 h)
def zer(P:Program)(g o:Nat)(t:TypeId)(fz:Nat×Nat):∀(vs:List Value) (i:Nat) (cur:Array Value) (w:World),w.heap[g]?=some (.cells cur t fz) ->
  (∀j,j<cur.size->¬(fz.1<=j/\(j<fz.2\/fz.1≠fz.2)))->o+i+vs.length<=cur.size->(∀v∈vs,v.oneCell'=true) ->
  ∃w' cur',(storeCells ⟨g,o,none⟩ vs i).run P w = .ok () w'/\w'.heap[g]?=some (.cells cur' t fz)/\cur'.size=cur.size /\
   (∀j,cur'[j]?=if o+i<=j/\j<o+i+vs.length then vs[j-(o+i)]? else cur[j]?) /\
   (∀k,k≠g->w'.heap[k]?=w.heap[k]?)/\w'.heap.size=w.heap.size/\w'.os=w.os/\w'.tape=w.tape/\w'.output=w.output:=by
 intro vs
 induction vs with
 | nil=>
  intro i cur w hg _ _ _;refine⟨w,cur,rfl,hg,rfl,λj=>?_,λ_ _=>rfl,rfl,rfl,rfl,rfl⟩;rw[if_neg (by simp)]
 | cons v vs ih=>
  intro i cur w hg hz hl h1;simp only[yaw]at hl;have ha:(⟨g,o,none⟩:Addr).add i=⟨g,o+i,none⟩:=by unfold Addr.add;split<;>simp_all
  have hc:w.cell? ⟨g,o+i,none⟩=some (cur[o+i]'(by omega)):=by
   simp only[World.cell?,hg];rw[if_neg (by simp)];exact yar _
  have hf:w.frozen? ⟨g,o+i,none⟩=false:=by
   simp only[World.frozen?,hg];have:=hz (o+i) (by omega);simp;omega
  have hg':(w.setCell ⟨g,o+i,none⟩ v).heap[g]?=some (.cells (cur.setIfInBounds (o+i) v) t fz):=by
   simp[World.setCell,ybX,hg]
  have hk':∀k,k≠g->(w.setCell ⟨g,o+i,none⟩ v).heap[k]?=w.heap[k]?:=λk hk=>by
   simp only[World.setCell,ybX];rw[if_neg (by simpa using ybV hk)]
  obtain⟨w',cur',hr,h2,h3,h4,h5,h6,h7,h8,h9⟩:=ih (i+1) (cur.setIfInBounds (o+i) v) (w.setCell ⟨g,o+i,none⟩ v) hg' (by simpa using hz) (by simp;omega) (λu hu=>h1 u (yaY _ hu));refine⟨w',cur',?_,h2,by simpa using h3,λj=>?_,λk hk=>(h5 k hk).trans (hk' k hk),by simpa using h6,h7,h8,h9⟩
  ·simp only[storeCells,ha];rw[show((store ⟨g,o+i,none⟩ v >>= λ_=>storeCells ⟨g,o,none⟩ vs (i+1)):Sem Unit)=(store ⟨g,o+i,none⟩ v).bind λ_=>storeCells ⟨g,o,none⟩ vs (i+1) from rfl];rw[Sem.run_bind'];rw[run_store P w _ v _ (h1 v (ya1 ..)),hc];simp only[hf];exact hr
  ·rw[h4,yaw];by_cases hj:j=o+i
   ·subst hj;rw[if_neg (by omega),if_pos (by simp)];simp[show o+i<cur.size by omega]
   ·rw[show(cur.setIfInBounds (o+i) v)[j]?=cur[j]? from yaV (ybV hj)];by_cases h:o+i<=j/\j<o+i+(vs.length+1)
    ·rw[if_pos (by omega),if_pos h];rw[show j-(o+i)=(j-(o+(i+1)))+1 from by omega,ybo]
    ·rw[if_neg (by omega),if_neg h]
def zsc(b o n:Nat):(⟨b,o,none⟩:Addr).add n=⟨b,o+n,none⟩:=by unfold Addr.add;split<;>simp_all
def zes(P:Program)(w:World)(b o:Nat)(xs:List Value) (h:∀(j:Nat) (x:Value),xs[j]?=some x->w.cell? ⟨b,o+j,none⟩=some x) :
  (loadCells ⟨b,o,none⟩ xs.length).run P w = .ok xs.toArray w:=by
 have:=run_loadCells_list (P:=P) w ⟨b,o,none⟩ xs (λj v hj=>by rw[zsc];exact h j v hj);exact this
end
end Go.Ax
