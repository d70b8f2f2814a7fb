/-
  Texts of mine, put together by program (wip/slim.py), for law_lockSends: part 11.
-/
import Derived.Test.YtmmgnkjdppnboaaGreatZs10
set_option linter.unusedVariables false
set_option linter.unusedSimpArgs false
set_option linter.defProp false
set_option maxRecDepth 100000
/- Su7 -/
namespace Go.Ax.SU
open Go.Ax
theorem callv_fn {G:Sem'} {f:FuncId} {caps:List V}:callv G (.fn f caps) [] = G f caps:=rfl
theorem zoB {H:Heap} {c off:Nat} {b:Blk} {g:V} (hg:H.get c = some b) (h0:b.cells[off]? = some (.int .u32 1)):Ok (sem T zcW [.ptr c off,g]) H fun r H'=>r = .tup [] ∧ H' = H:=by
 refine zhT ?_
 unfold zgw
 simp (maxSteps:=1000000) (disch:=first | omega | (simp only [RY] <;> omega) | decide) only [↓RD,RZ,eq_self,Int.reduceToNat,Int.reduceAdd,Int.reduceSub,Int.reduceMul,Nat.reduceAdd,Nat.reduceSub,Nat.reduceMul,Nat.reduceDiv,Nat.reduceMod,Nat.reduceBEq,Nat.reduceLeDiff,hg,h0]
 rfl
theorem zoA {H:Heap} {c off ty:Nat} {cells:List V} {o:Option Nat} {f:FuncId} {caps:List V} {P:Heap → Prop} (hg:H.get c = some ⟨ty,cells,o⟩) (h0:cells[off]? = some (.int .u32 0)) (h1:cells[off + 1]? = some (.int .i32 0))
  (hf:Ok (sem T f caps) (H.set c (some ⟨ty,splice cells (off + 1) [.int .i32 1],o⟩)) fun _ H2=>∃ cells2,H2.get c = some ⟨ty,cells2,o⟩ ∧ cells2[off]? = some (.int .u32 0) ∧ cells2[off + 1]? = some (.int .i32 1) ∧
   P ((H2.set c (some ⟨ty,splice cells2 off [.int .u32 1],o⟩)).set c (some ⟨ty,splice (splice cells2 off [.int .u32 1]) (off + 1) [.int .i32 0],o⟩))):Ok (sem T zcW [.ptr c off, .fn f caps]) H fun r H'=>r = .tup [] ∧ P H':=by
 have hl:off + 1 < cells.length:=(List.getElem?_eq_some_iff.1 h1).1
 refine zhT ?_
 unfold zgw
 simp (maxSteps:=1000000) (disch:=first | omega | (simp only [RY] <;> omega) | decide) only [↓RD,RZ,eq_self,Int.reduceToNat,Int.reduceAdd,Int.reduceSub,Int.reduceMul,Nat.reduceAdd,Nat.reduceSub,Nat.reduceMul,Nat.reduceDiv,Nat.reduceMod,Nat.reduceBEq,Nat.reduceLeDiff,hg,h0,h1,callv_fn]
 refine ⟨by omega,zah hf ?_⟩
 rintro _ H2 ⟨cells2,g2,k0,k1,hP⟩
 have hl2:off + 1 < cells2.length:=(List.getElem?_eq_some_iff.1 k1).1
 have hl3:(splice cells2 off [.int .u32 1]).length = cells2.length:=zee _ _ _ (by simpa using (by omega:off + 1 ≤ cells2.length))
 simp (maxSteps:=1000000) (disch:=first | omega | (simp only [RY] <;> omega) | decide) only [↓RD,RZ,eq_self,Int.reduceToNat,Int.reduceAdd,Int.reduceSub,Int.reduceMul,Nat.reduceAdd,Nat.reduceSub,Nat.reduceMul,Nat.reduceDiv,Nat.reduceMod,Nat.reduceBEq,Nat.reduceLeDiff,g2,k0,k1,hl3]
 exact ⟨by omega,by omega,rfl,hP⟩
theorem zjq {n:Nat} {f:FuncId} {args:List V} {v:V} (h:Cp.cs n f args = some v):sem T f args = M.pure v:=funext fun H=>Cp.sims_cs n f args H v h
/-! Primes and roots,computed. -/
def pchk (n:Nat):Bool:=match Cp.cs 3 zbH [.int .i64 n] with
 | some (.bool b)=>b == primes.contains n
 | _=>false
theorem zsR:(List.range 312).all pchk = true:=by kernel_rfl
theorem prime_eq {n:Nat} (h:n < 312):sem T zbH [.int .i64 n] = M.pure (.bool (primes.contains n)):=by
 have h1:=List.all_eq_true.1 zsR n (List.mem_range.2 h)
 unfold pchk at h1
 split at h1
 ·rename_i b hb
  rw [zjq hb]
  simp only [beq_iff_eq] at h1
  rw [h1]
 ·cases h1
def rchk (i:Nat):Bool:=match Cp.cs 9 zb4 [.int .u64 (prv (i + 1))] with
 | some (.int .u32 k)=>k == ((kc.getD i 0).toNat:Int)
 | _=>false
theorem root_all:(List.range 64).all rchk = true:=by kernel_rfl
theorem root_eq {i:Nat} (h:i < 64):sem T zb4 [.int .u64 (prv (i + 1))] = M.pure (w32 (kc.getD i 0)):=by
 have h1:=List.all_eq_true.1 root_all i (List.mem_range.2 h)
 unfold rchk at h1
 split at h1
 ·rename_i b hb
  rw [zjq hb]
  simp only [beq_iff_eq] at h1
  rw [h1]; rfl
 ·cases h1
end Go.Ax.SU
/- Su8 -/
namespace Go.Ax.SU
open Go.Ax
theorem wg {ws:List UInt32} {i:Nat} (h:i < ws.length):(ws.map w32)[i]? = some (w32 (ws.getD i 0)):=by
 rw [List.getElem?_map,List.getElem?_eq_getElem h,List.getD_eq_getElem?_getD,List.getElem?_eq_getElem h]; rfl
theorem wga {ws:List UInt32} {r:List V} {i:Nat} (h:i < ws.length):(ws.map w32 ++ r)[i]? = some (w32 (ws.getD i 0)):=by
 rw [List.getElem?_append_left (by rw [List.length_map]; exact h),wg h]
theorem set_next {l:List V} {n k:Nat} {z x:V} (hl:l.length = k) (h:k < n):(l ++ List.replicate (n - k) z).set k x = (l ++ [x]) ++ List.replicate (n - (k + 1)) z:=by
 rw [List.set_append_right _ _ (by omega),hl,Nat.sub_self,show n - k = (n - (k + 1)) + 1 by omega,List.replicate_succ,List.set_cons_zero,List.append_assoc]
 rfl
theorem zaW {l:List V} {n k:Nat} {z x:V} (hl:l.length = k) (h:k < n):splice (l ++ List.replicate (n - k) z) k [x] = (l ++ [x]) ++ List.replicate (n - (k + 1)) z:=by
 rw [zkG _ _ _ (by rw [List.length_append,List.length_replicate]; omega),set_next hl h]
theorem zi6 (y:V) (l:List V) (k:Nat) (xs:List V):splice (y :: l) (k + 1) xs = y :: splice l k xs:=by
 unfold splice
 rw [List.take_succ_cons,show k + 1 + xs.length = (k + xs.length) + 1 by omega,List.drop_succ_cons]; rfl
theorem At1.step {k:Nat} {H H':Heap} (h:At1 k H H') {F:List Nat} (hk:k ∈ F):Step H H' F F:=⟨h.next,fun i hi hF=>h.same i hi fun e=>hF (e ▸ hk),fun i hi=>.inl hi⟩
theorem kc_take {k:Nat} (h:k < 64):(kc.take k).map w32 ++ [w32 (kc.getD k 0)] = (kc.take (k + 1)).map w32:=by
 have hl:=zkO
 rw [List.take_add_one,List.getElem?_eq_getElem (by omega),List.getD_eq_getElem?_getD,List.getElem?_eq_getElem (by omega)]
 simp only [List.map_append,Option.toList_some,List.map_cons,List.map_nil,Option.getD_some]
theorem all_1_ok {H:Heap} {b c:Nat} {x0 x1 x2:V} (hb:H.get b = some ⟨za5,[.ptr c 0],none⟩) (hc:H.get c = some ⟨zaG,x0 :: x1 :: x2 :: List.replicate 64 (.int .u32 0),none⟩) (hbc:b ≠ c) (hbl:b < H.next) :
  Ok (sem T zco [.ptr b 0]) H fun _ H'=>H'.get c = some ⟨zaG,x0 :: x1 :: x2 :: kc.map w32,none⟩ ∧ At1 c H H':=by
 refine zhI ?_
 unfold ze6
 simp (disch:=omega) only [↓RD,RZ,eq_self,seval]
 refine zaF (fun k L H'=>L = [.int .i64 (prv k:Nat), .int .i64 (k:Nat)] ∧ H'.get c = some ⟨zaG,x0 :: x1 :: x2 :: ((kc.take k).map w32 ++ List.replicate (64 - k) (.int .u32 0)),none⟩ ∧ At1 c H H') 64 ?_ ?_ ?_
 ·exact ⟨rfl,by simpa using hc,At1.refl _ _⟩
 ·rintro k L H1 hk ⟨rfl,g1,s1⟩
  obtain ⟨p1,p2,p3,p4⟩:=zsQ hk
  have hb1:H1.get b = _:=(s1.same b hbl hbc).trans hb
  unfold zc3
  simp (disch:=omega) only [↓RD,RZ,eq_self,seval]
  refine zar (Q:=fun r H'=>r = Res.ex 2 [.int .i64 (prv (k + 1):Nat)] ∧ H' = H1) ?_ ?_
  ·refine ok_while (fun L H' m=>∃ n:Nat,L = [.int .i64 (n:Nat)] ∧ prv k < n ∧ n ≤ prv (k + 1) ∧ m = prv (k + 1) - n ∧ H' = H1) (prv (k + 1) - (prv k + 1)) ⟨prv k + 1,by simp,by omega,by omega,rfl,rfl⟩ ?_
   rintro L H2 m ⟨n,rfl,n1,n2,rfl,rfl⟩
   have e:=prime_eq (n:=n) (by omega)
   unfold zes
   cases hp:primes.contains n with
   | true =>
    have:n = prv (k + 1):=by
     rcases Nat.lt_or_ge n (prv (k + 1)) with h | h
     ·rw [p4 n n1 h] at hp; cases hp
     ·omega
    subst this
    simp (disch:=omega) only [↓RD,RZ,eq_self,seval,e,hp]
   | false =>
    have:n ≠ prv (k + 1):=by
     rintro rfl
     rw [p2] at hp; cases hp
    simp (disch:=omega) only [↓RD,RZ,eq_self,seval,e,hp]
    exact ⟨prv (k + 1) - (n + 1),by omega,n + 1,rfl,by omega,by omega,rfl⟩
  ·rintro r H2 ⟨rfl,rfl⟩
   have er:=root_eq hk
   have hl:(((kc.take k).map w32)).length = k:=by rw [List.length_map,List.length_take,zkO]; omega
   have e3:3 + k = k + 1 + 1 + 1:=by omega
   simp (disch:=omega) only [↓RD,RZ,eq_self,seval,hb1,er,g1,e3,zi6,zaW hl hk,w_ok,zg3]
   exact ⟨by rw [List.length_append,List.length_replicate,hl]; omega,rfl,by rw [kc_take hk],s1.trans (At1.set c _ _)⟩
 ·rintro L H1 ⟨rfl,g1,s1⟩
  unfold zc3
  simp (disch:=omega) only [↓RD,RZ,eq_self,seval]
  refine ⟨?_,s1⟩
  rw [g1,List.take_of_length_le (by rw [zkO]; exact Nat.le_refl _)]
  simp
def conC:Bool → List V
 | false=>.int .u32 0 :: .int .i32 0 :: .int .u32 0 :: List.replicate 64 (.int .u32 0)
 | true=>.int .u32 1 :: .int .i32 0 :: .int .u32 0 :: kc.map w32
theorem zub {H:Heap} {c:Nat} {d:Bool} (hc:H.get c = some ⟨zaG,conC d,none⟩) (hcl:c < H.next) :
  Ok (sem T zcT [.ptr c 0]) H fun r H'=>r = .ptr c 3 ∧ H'.get c = some ⟨zaG,conC true,none⟩ ∧ Step H H' [c] [c]:=by
 refine ziL ?_
 unfold zfZ
 simp (disch:=omega) only [↓RD,RZ,eq_self,seval]
 have s1:=Grow.new H ⟨za5,[.ptr c 0],none⟩
 have gb:(H.new ⟨za5,[.ptr c 0],none⟩).get H.next = _:=zad _ _
 have gc:=(s1.same c hcl).trans hc
 have nb:H.next < (H.new ⟨za5,[.ptr c 0],none⟩).next:=by rw [zaf]; omega
 have hne:H.next ≠ c:=by omega
 have n1:=s1.next
 generalize hgb:H.next = b at *
 generalize H.new _ = H1 at *
 refine zah (P:=fun r H'=>H'.get b = some ⟨za5,[.ptr c 0],none⟩ ∧ H'.get c = some ⟨zaG,conC true,none⟩ ∧ At1 c H1 H') ?_ ?_
 ·cases d with
  | true =>
   refine zar (zoB gc rfl) ?_
   rintro _ _ ⟨rfl,rfl⟩
   exact ⟨gb,gc,At1.refl _ _⟩
  | false =>
   refine zar (zoA (P:=fun H'=>H'.get b = some ⟨za5,[.ptr c 0],none⟩ ∧ H'.get c = some ⟨zaG,conC true,none⟩ ∧ At1 c H1 H') gc rfl rfl ?_) ?_
   ·refine zar (all_1_ok (c:=c) (by rw [zak _ _ hne]; exact gb) (by rw [zaj]; rfl) hne (by rw [zan]; exact nb)) ?_
    rintro _ H2 ⟨g2,s2⟩
    have hb2:H2.get b = some ⟨za5,[.ptr c 0],none⟩:=by rw [s2.same b (by rw [zan]; exact nb) hne,zak _ _ hne]; exact gb
    refine ⟨_,g2,rfl,rfl,?_,?_,?_⟩
    ·rw [zak _ _ hne,zak _ _ hne,hb2]
    ·rw [zaj]; rfl
    ·exact (At1.set c H1 _).trans (s2.trans ((At1.set c H2 _).trans (At1.set c _ _)))
   ·rintro _ H2 ⟨_,h2⟩
    exact h2
 ·rintro r H2 ⟨g1,g2,s2⟩
  simp (disch:=omega) only [↓RD,RZ,eq_self,seval,g1]
  exact ⟨g2,⟨Nat.le_trans (by omega) s2.next,fun i hi hF=>by rw [s2.same i (by omega) (by simpa using hF),s1.same i (by omega)],fun i hi=>.inl hi⟩⟩
/-! Words. -/
theorem zgp (x:UInt32) (n:Nat) (h0:0 < n) (h1:n < 32):sem T zaC [w32 x, .int .i64 (n:Nat)] = M.pure (w32 (rotr x n)):=by
 refine zdD fun H=>?_
 refine zmP ?_
 unfold zj1
 have e1:IntKind.i64.wrap (0 - (n:Int)) = -(n:Int):=by rw [wrap_i64 (by omega) (by omega)]; omega
 have e2:IntKind.u64.wrap (-(n:Int)) = ((18446744073709551616 - n:Nat):Int):=by rw [wrap_u64]; omega
 have e3:Ax.bin .and (.int .u64 ((18446744073709551616 - n:Nat):Int)) (.int .u64 31) = some (.int .u64 ((32 - n:Nat):Int)):=by
  rw [zus (by omega) (by omega) (by omega) (by omega)]
  congr 3
  rw [Int.toNat_natCast]
  show (18446744073709551616 - n) &&& (2 ^ 5 - 1) = 32 - n
  rw [Nat.and_two_pow_sub_one_eq_mod]
  omega
 have e4:Ax.bin .sub (.int .u64 32) (.int .u64 ((32 - n:Nat):Int)) = some (.int .u64 (n:Nat)):=by
  rw [zp8,wrap_u64]
  congr 2
  omega
 have e5:=w_rot x (k:=.u64) (k':=.u64) (n:=n) (a:=((32 - n:Nat):Int)) (b:=(n:Nat)) rfl rfl
 have e6:Ok (sem T zbz [w32 x, .int .i64 (-(n:Int))]) H fun r H'=>r = w32 (rotr x n) ∧ H' = H:=by
  refine zgs ?_
  unfold zec
  obtain ⟨u,hu,hu2⟩:=Option.bind_eq_some_iff.1 e5
  obtain ⟨v,hv,hv2⟩:=Option.bind_eq_some_iff.1 hu2
  simp (disch:=omega) only [↓RD,RZ,eq_self,seval,e2,e3,hu,e4,hv,hv2]
 simp (disch:=omega) only [↓RD,RZ,eq_self,seval,e1]
 exact zah e6 (by rintro _ _ ⟨rfl,rfl⟩; simp (disch:=omega) only [↓RD,RZ,eq_self,seval])
theorem ziO (a b k:Nat) (h:b < 2 ^ k):a * 2 ^ k ||| b = a * 2 ^ k + b:=by
 have:=Nat.shiftLeft_add_eq_or_of_lt (i:=k) (b:=b) h a
 rw [Nat.shiftLeft_eq] at this
 exact this.symm
theorem word_ok {lo:Nat} {H:Heap} {v:V} {l:List Nat} (h:By lo H v l) (h8:Ok8 l) (hl:4 ≤ l.length):Ok (sem T zeS [v]) H fun r H'=>r = w32 (word l 0) ∧ H' = H:=by
 refine zmO ?_
 unfold zj0
 obtain ⟨p0,i0,l0,-⟩:=zf8 h (i:=0) (by omega) (by omega)
 obtain ⟨p1,i1,l1,-⟩:=zf8 h (i:=1) (by omega) (by omega)
 obtain ⟨p2,i2,l2,-⟩:=zf8 h (i:=2) (by omega) (by omega)
 obtain ⟨p3,i3,l3,-⟩:=zf8 h (i:=3) (by omega) (by omega)
 have b0:=h8.getD 0
 have b1:=h8.getD 1
 have b2:=h8.getD 2
 have b3:=h8.getD 3
 have e0:(0:Int).toNat = 0:=rfl
 have e1:(1:Int).toNat = 1:=rfl
 have e2:(2:Int).toNat = 2:=rfl
 have e3:(3:Int).toNat = 3:=rfl
 rw [e0] at l0
 rw [e1] at l1
 rw [e2] at l2
 rw [e3] at l3
 have hw:word l 0 = UInt32.ofNat (be [l.getD 0 0,l.getD 1 0,l.getD 2 0,l.getD 3 0]):=rfl
 rw [hw,← w_nat _ (by simp only [be,List.foldl_cons,List.foldl_nil]; omega)]
 have hb:be [l.getD 0 0,l.getD 1 0,l.getD 2 0,l.getD 3 0] = l.getD 0 0 * 16777216 + l.getD 1 0 * 65536 + l.getD 2 0 * 256 + l.getD 3 0:=by simp only [be,List.foldl_cons,List.foldl_nil]; omega
 rw [hb]
 generalize l.getD 0 0 = a0 at *
 generalize l.getD 1 0 = a1 at *
 generalize l.getD 2 0 = a2 at *
 generalize l.getD 3 0 = a3 at *
 have m0:a0 * 16777216 % 4294967296 = a0 * 16777216:=Nat.mod_eq_of_lt (by omega)
 have m1:a1 * 65536 % 4294967296 = a1 * 65536:=Nat.mod_eq_of_lt (by omega)
 have m2:a2 * 256 % 4294967296 = a2 * 256:=Nat.mod_eq_of_lt (by omega)
 have o1:a0 * 16777216 ||| a1 * 65536 = a0 * 16777216 + a1 * 65536:=ziO a0 _ 24 (by omega)
 have o2:a0 * 16777216 + a1 * 65536 ||| a2 * 256 = a0 * 16777216 + a1 * 65536 + a2 * 256:=by
  have:=ziO (a0 * 256 + a1) (a2 * 256) 16 (by omega)
  rw [show (a0 * 256 + a1) * 2 ^ 16 = a0 * 16777216 + a1 * 65536 by omega] at this
  exact this
 have o3:a0 * 16777216 + a1 * 65536 + a2 * 256 ||| a3 = a0 * 16777216 + a1 * 65536 + a2 * 256 + a3:=by
  have:=ziO (a0 * 65536 + a1 * 256 + a2) a3 8 (by omega)
  rw [show (a0 * 65536 + a1 * 256 + a2) * 2 ^ 8 = a0 * 16777216 + a1 * 65536 + a2 * 256 by omega] at this
  exact this
 simp (disch:=omega) only [↓RD,RZ,eq_self,seval,i0,l0,i1,l1,i2,l2,i3,l3,m0,m1,m2,o1,o2,o3]
end Go.Ax.SU
/- Su9 -/
namespace Go.Ax.SU
open Go.Ax
theorem t7 (x:UInt32):sem T zaC [w32 x, .int .i64 7] = M.pure (w32 (rotr x 7)):=zgp x 7 (by omega) (by omega)
theorem t18 (x:UInt32):sem T zaC [w32 x, .int .i64 18] = M.pure (w32 (rotr x 18)):=zgp x 18 (by omega) (by omega)
theorem t17 (x:UInt32):sem T zaC [w32 x, .int .i64 17] = M.pure (w32 (rotr x 17)):=zgp x 17 (by omega) (by omega)
theorem t19 (x:UInt32):sem T zaC [w32 x, .int .i64 19] = M.pure (w32 (rotr x 19)):=zgp x 19 (by omega) (by omega)
theorem t6 (x:UInt32):sem T zaC [w32 x, .int .i64 6] = M.pure (w32 (rotr x 6)):=zgp x 6 (by omega) (by omega)
theorem t11 (x:UInt32):sem T zaC [w32 x, .int .i64 11] = M.pure (w32 (rotr x 11)):=zgp x 11 (by omega) (by omega)
theorem t25 (x:UInt32):sem T zaC [w32 x, .int .i64 25] = M.pure (w32 (rotr x 25)):=zgp x 25 (by omega) (by omega)
theorem t2 (x:UInt32):sem T zaC [w32 x, .int .i64 2] = M.pure (w32 (rotr x 2)):=zgp x 2 (by omega) (by omega)
theorem t13 (x:UInt32):sem T zaC [w32 x, .int .i64 13] = M.pure (w32 (rotr x 13)):=zgp x 13 (by omega) (by omega)
theorem t22 (x:UInt32):sem T zaC [w32 x, .int .i64 22] = M.pure (w32 (rotr x 22)):=zgp x 22 (by omega) (by omega)
theorem s3 (x:UInt32):Ax.bin .shr (w32 x) (.int .u64 3) = some (w32 (zi7 x 3)):=zrp x (by omega)
theorem s10 (x:UInt32):Ax.bin .shr (w32 x) (.int .u64 10) = some (w32 (zi7 x 10)):=zrp x (by omega)
theorem word_at (l:List Nat) (k:Nat) (n:Nat) (hn:4 ≤ n):word ((l.drop (4 * k)).take n) 0 = word l k:=by
 unfold word
 congr 2
 simp only [getD_take (show 4 * 0 < n by omega),getD_take (show 4 * 0 + 1 < n by omega),getD_take (show 4 * 0 + 2 < n by omega),getD_take (show 4 * 0 + 3 < n by omega),getD_drop]
 rfl
theorem znk (l:List Nat) (k:Nat):wl l (k + 1) = wl l k ++ [if k < 16 then word l k else wnext (wl l k) k]:=rfl
theorem zsV {lo wb:Nat} {H:Heap} {v:V} {l:List Nat} (hv:By lo H v l) (h8:Ok8 l) (hl:l.length = 64) (hw:H.get wb = some ⟨zat,List.replicate 64 (.int .u32 0),none⟩) (hp:v.pid ≠ some wb) (hwl:wb < H.next) :
  Ok (M.iter (zb3 (sem T) v (.ptr wb 0)) [.int .i64 0]) H fun r H'=>r = .ex 0 [] ∧ H'.get wb = some ⟨zat,(wl l 64).map w32,none⟩ ∧ At1 wb H H':=by
 refine zaF (fun k L H'=>L = [.int .i64 (k:Nat)] ∧ H'.get wb = some ⟨zat,(wl l k).map w32 ++ List.replicate (64 - k) (.int .u32 0),none⟩ ∧ At1 wb H H') 64 ?_ ?_ ?_
 ·exact ⟨rfl,hw,At1.refl _ _⟩
 ·rintro k L H1 hk ⟨rfl,g1,s1⟩
  have hv1:=hv.at1 s1 hp
  have hln:(wl l k).length = k:=zob l k
  have hlm:((wl l k).map w32).length = k:=by rw [List.length_map,hln]
  have hlr:((wl l k).map w32 ++ List.replicate (64 - k) (V.int .u32 0)).length = 64:=by rw [List.length_append,hlm,List.length_replicate]; omega
  unfold zb3
  by_cases h16:k < 16
  ·obtain ⟨v',hs,-,hs',hv',-⟩:=zbM hv1 (x:=((4 * k:Nat):Int)) (y:=(l.length:Nat)) (by omega) (by omega) (by omega)
   have hs2:∀ {k':IntKind},zaz .sl 1 v (some (.int k' ((4 * k:Nat):Int))) none none = some v':=hs' rfl
   have e4:(4:Int) * (k:Int) = ((4 * k:Nat):Int):=by omega
   have hlen:((l.drop (4 * k)).take (l.length - 4 * k)).length = l.length - 4 * k:=by rw [List.length_take,List.length_drop]; omega
   have ew:=@zca _ _ _ _ (word_ok hv' ((h8.drop _).take _) (by simp only [Int.toNat_natCast]; omega))
   simp only [Int.toNat_natCast] at ew
   rw [word_at l k _ (by omega)] at ew
   simp (disch:=omega) only [↓RD,RZ,eq_self,seval,e4,hs2,ew,g1,zaW hlm hk,w_ok,zg3,hlr]
   refine ⟨by omega,rfl,?_,s1.trans (At1.set wb _ _)⟩
   rw [znk,if_pos h16]
   simp
  ·have w15:=wga (ws:=wl l k) (r:=List.replicate (64 - k) (V.int .u32 0)) (i:=k - 15) (by omega)
   have w2:=wga (ws:=wl l k) (r:=List.replicate (64 - k) (V.int .u32 0)) (i:=k - 2) (by omega)
   have w16:=wga (ws:=wl l k) (r:=List.replicate (64 - k) (V.int .u32 0)) (i:=k - 16) (by omega)
   have w7:=wga (ws:=wl l k) (r:=List.replicate (64 - k) (V.int .u32 0)) (i:=k - 7) (by omega)
   have e15:(k:Int) - 15 = ((k - 15:Nat):Int):=by omega
   have e2:(k:Int) - 2 = ((k - 2:Nat):Int):=by omega
   have e16:(k:Int) - 16 = ((k - 16:Nat):Int):=by omega
   have e7:(k:Int) - 7 = ((k - 7:Nat):Int):=by omega
   simp (disch:=omega) only [↓RD,RZ,eq_self,seval,e15,e2,e16,e7,w15,w2,w16,w7,t7,t18,t17,t19,s3,s10,zrq,w_xor,g1,zaW hlm hk,w_ok,zg3,hlr]
   refine ⟨by omega,rfl,?_,s1.trans (At1.set wb _ _)⟩
   rw [znk,if_neg h16]
   simp [wnext,sg0,sg1]
 ·rintro L H1 ⟨rfl,g1,s1⟩
  unfold zb3
  simp (disch:=omega) only [↓RD,RZ,eq_self,seval]
  refine ⟨?_,s1⟩
  rw [g1]
  simp
theorem zsU {c wb vb:Nat} {H:Heap} {l:List Nat} {h:List UInt32} {x0 x1 x2:V} (hh:h.length = 8) (hc:H.get c = some ⟨zaG,x0 :: x1 :: x2 :: kc.map w32,none⟩) (hw:H.get wb = some ⟨zat,(wl l 64).map w32,none⟩)
  (hb:H.get vb = some ⟨zao,h.map w32,none⟩) (h1:vb ≠ c) (h2:vb ≠ wb) (hcl:c < H.next) (hwl:wb < H.next) :
  Ok (M.iter (zb2 (sem T) (.ptr c 3) (.ptr wb 0) (.ptr vb 0)) [.int .i64 0]) H fun r H'=>r = .ex 2 [] ∧ H'.get vb = some ⟨zao,(rnds kc (wl l 64) h 64).map w32,none⟩ ∧ At1 vb H H':=by
 refine zaF (fun k L H'=>L = [.int .i64 (k:Nat)] ∧ H'.get vb = some ⟨zao,(rnds kc (wl l 64) h k).map w32,none⟩ ∧ At1 vb H H') 64 ?_ ?_ ?_
 ·exact ⟨rfl,hb,At1.refl _ _⟩
 ·rintro k L H1 hk ⟨rfl,g1,s1⟩
  have gc:=(s1.same c hcl (Ne.symm h1)).trans hc
  have gw:=(s1.same wb hwl (Ne.symm h2)).trans hw
  have hl8:(rnds kc (wl l 64) h k).length = 8:=zk9 hh k
  have hlm:((rnds kc (wl l 64) h k).map w32).length = 8:=by rw [List.length_map,hl8]
  have v0:=wg (ws:=rnds kc (wl l 64) h k) (i:=0) (by omega)
  have v1:=wg (ws:=rnds kc (wl l 64) h k) (i:=1) (by omega)
  have v2:=wg (ws:=rnds kc (wl l 64) h k) (i:=2) (by omega)
  have v3:=wg (ws:=rnds kc (wl l 64) h k) (i:=3) (by omega)
  have v4:=wg (ws:=rnds kc (wl l 64) h k) (i:=4) (by omega)
  have v5:=wg (ws:=rnds kc (wl l 64) h k) (i:=5) (by omega)
  have v6:=wg (ws:=rnds kc (wl l 64) h k) (i:=6) (by omega)
  have v7:=wg (ws:=rnds kc (wl l 64) h k) (i:=7) (by omega)
  have wk:=wg (ws:=wl l 64) (i:=k) (by rw [zob]; exact hk)
  have kk:=wg (ws:=kc) (i:=k) (by rw [zkO]; exact hk)
  have e3:3 + k = k + 1 + 1 + 1:=by omega
  have hsp:∀ (L:List V),L.length = 8 → splice ((rnds kc (wl l 64) h k).map w32) 0 L = L:=fun L hL=>by
   unfold splice
   rw [List.take_zero,List.nil_append,hL,List.drop_of_length_le (by rw [hlm]; omega),List.append_nil]
  unfold zb2
  have er:rnds kc (wl l 64) h (k + 1) = rnd (rnds kc (wl l 64) h k) (kc.getD k 0) ((wl l 64).getD k 0):=rfl
  rw [er]
  generalize rnds kc (wl l 64) h k = vs at *
  simp (disch:=omega) only [↓RD,RZ,eq_self,seval,g1,v0,v1,v2,v3,v4,v5,v6,v7,gc,gw,e3,wk,kk,t6,t11,t25,t2,t13,t22,zrq,w_xor,w_and,w_not,w_ok,zg3,hlm]
  refine ⟨rfl,?_,s1.trans (At1.set vb _ _)⟩
  rw [hsp _ rfl]
  rfl
 ·rintro L H1 ⟨rfl,g1,s1⟩
  unfold zb2
  simp (disch:=omega) only [↓RD,RZ,eq_self,seval]
  exact ⟨g1,s1⟩
end Go.Ax.SU
/- Su10 -/
namespace Go.Ax.SU
open Go.Ax
theorem gD {α:Type} (l:List α) (d:α) {i:Nat} (h:i < l.length):l[i] = l.getD i d:=by rw [List.getD_eq_getElem?_getD,List.getElem?_eq_getElem h]; rfl
def part (h w:List UInt32) (k:Nat):List UInt32:=(List.range 8).map fun i=>if i < k then h.getD i 0 + w.getD i 0 else h.getD i 0
theorem zeO (h w:List UInt32) (k:Nat):(part h w k).length = 8:=by simp [part]
theorem zhS (h w:List UInt32) (k:Nat) {i:Nat} (hi:i < 8):(part h w k).getD i 0 = if i < k then h.getD i 0 + w.getD i 0 else h.getD i 0:=by
 unfold part
 rw [List.getD_eq_getElem?_getD,List.getElem?_map,List.getElem?_range hi]; rfl
theorem zov {h:List UInt32} (w:List UInt32) (hh:h.length = 8):part h w 0 = h:=by
 refine List.ext_getElem (by rw [zeO,hh]) fun i h1 h2=>?_
 have:=zhS h w 0 (i:=i) (by omega)
 rw [List.getD_eq_getElem?_getD,List.getD_eq_getElem?_getD,List.getElem?_eq_getElem h1,List.getElem?_eq_getElem h2] at this
 simpa using this
theorem zqE {h w:List UInt32} {k:Nat} (hk:k < 8):(part h w k).set k (h.getD k 0 + w.getD k 0) = part h w (k + 1):=by
 refine List.ext_getElem (by rw [List.length_set,zeO,zeO]) fun i h1 h2=>?_
 have hi:i < 8:=by rw [zeO] at h2; exact h2
 rw [List.getElem_set,gD _ 0 h2,zhS h w (k + 1) hi]
 by_cases e:k = i
 ·subst e; rw [if_pos rfl,if_pos (by omega)]
 ·rw [if_neg e,gD (part h w k) 0 (by rw [zeO]; exact hi),zhS h w k hi]
  by_cases hl:i < k
  ·rw [if_pos hl,if_pos (by omega)]
  ·rw [if_neg hl,if_neg (by omega)]
theorem zsT {s vb:Nat} {H:Heap} {h ws:List UInt32} {r:List V} (hh:h.length = 8) (hw:ws.length = 8) (hs:H.get s = some ⟨zau,h.map w32 ++ r,none⟩) (hb:H.get vb = some ⟨zao,ws.map w32,none⟩) (hne:vb ≠ s) (hvl:vb < H.next) :
  Ok (M.iter (zb1 (sem T) (.ptr s 0) (.ptr vb 0)) [.int .i64 0]) H fun x H'=>x = .ex 4 [] ∧ H'.get s = some ⟨zau,((List.range 8).map fun i=>h.getD i 0 + ws.getD i 0).map w32 ++ r,none⟩ ∧ At1 s H H':=by
 refine zaF (fun k L H'=>L = [.int .i64 (k:Nat)] ∧ H'.get s = some ⟨zau,(part h ws k).map w32 ++ r,none⟩ ∧ At1 s H H') 8 ?_ ?_ ?_
 ·exact ⟨rfl,by rw [zov ws hh]; exact hs,At1.refl _ _⟩
 ·rintro k L H1 hk ⟨rfl,g1,s1⟩
  have gb:=(s1.same vb hvl hne).trans hb
  have i1:=wga (ws:=part h ws k) (r:=r) (i:=k) (by rw [zeO]; exact hk)
  have i2:=wg (ws:=ws) (i:=k) (by omega)
  rw [zhS h ws k hk,if_neg (by omega)] at i1
  have hl:((part h ws k).map w32 ++ r).length = 8 + r.length:=by rw [List.length_append,List.length_map,zeO]
  have hsp:splice ((part h ws k).map w32 ++ r) k [w32 (h.getD k 0 + ws.getD k 0)] = (part h ws (k + 1)).map w32 ++ r:=by
   rw [zkG _ _ _ (by rw [hl]; omega),List.set_append_left _ _ (by rw [List.length_map,zeO]; exact hk),← List.map_set,zqE hk]
  unfold zb1
  simp (disch:=omega) only [↓RD,RZ,eq_self,seval,g1,gb,i1,i2,zrq,w_ok,zg3,hsp,hl]
  exact ⟨by omega,rfl,s1.trans (At1.set s _ _)⟩
 ·rintro L H1 ⟨rfl,g1,s1⟩
  unfold zb1
  simp (disch:=omega) only [↓RD,RZ,eq_self,seval]
  refine ⟨?_,s1⟩
  rw [g1]
  have:part h ws 8 = (List.range 8).map fun i=>h.getD i 0 + ws.getD i 0:=List.map_congr_left fun i hi=>by rw [if_pos (List.mem_range.1 hi)]
  rw [this]
theorem st8 {h:List UInt32} (hh:h.length = 8) (a b c:V):(h.map w32 ++ [a,b,c])[8]? = some a:=by rw [List.getElem?_append_right (by rw [List.length_map]; omega),List.length_map,hh]; rfl
theorem st9 {h:List UInt32} (hh:h.length = 8) (a b c:V):(h.map w32 ++ [a,b,c])[9]? = some b:=by rw [List.getElem?_append_right (by rw [List.length_map]; omega),List.length_map,hh]; rfl
theorem st10 {h:List UInt32} (hh:h.length = 8) (a b c:V):(h.map w32 ++ [a,b,c])[10]? = some c:=by rw [List.getElem?_append_right (by rw [List.length_map]; omega),List.length_map,hh]; rfl
theorem stl {h:List UInt32} (hh:h.length = 8) (a b c:V):(h.map w32 ++ [a,b,c]).length = 11:=by rw [List.length_append,List.length_map,hh]; rfl
theorem sp8 {h:List UInt32} (hh:h.length = 8) (a b c x:V):splice (h.map w32 ++ [a,b,c]) 8 [x] = h.map w32 ++ [x,b,c]:=by
 rw [zkG _ _ _ (by rw [stl hh]; omega),List.set_append_right _ _ (by rw [List.length_map]; omega),List.length_map,hh]; rfl
theorem sp9 {h:List UInt32} (hh:h.length = 8) (a b c x:V):splice (h.map w32 ++ [a,b,c]) 9 [x] = h.map w32 ++ [a,x,c]:=by
 rw [zkG _ _ _ (by rw [stl hh]; omega),List.set_append_right _ _ (by rw [List.length_map]; omega),List.length_map,hh]; rfl
theorem ld8 {h:List UInt32} (hh:h.length = 8) (r:List V):ldc (some 8) (h.map w32 ++ r) 0 = some (.agg (h.map w32)):=by
 rw [zc0 (by rw [List.length_append,List.length_map,hh]; omega),List.drop_zero,List.take_left' (by rw [List.length_map,hh])]
theorem piece_ok {lo s c:Nat} {H:Heap} {v bv nv:V} {l:List Nat} {h:List UInt32} {d:Bool} (hs:H.get s = some ⟨zau,h.map w32 ++ [bv,nv, .ptr c 0],none⟩) (hh:h.length = 8) (hc:H.get c = some ⟨zaG,conC d,none⟩)
  (hv:By lo H v l) (h8:Ok8 l) (hl:l.length = 64) (hne:s ≠ c) (hvs:v.pid ≠ some s) (hvc:v.pid ≠ some c) (hsl:s < H.next) (hcl:c < H.next) :
  Ok (sem T za6 [.ptr s 0,v]) H fun r H'=>r = .tup [] ∧ H'.get s = some ⟨zau,(comp kc h l).map w32 ++ [bv,nv, .ptr c 0],none⟩ ∧ H'.get c = some ⟨zaG,conC true,none⟩ ∧ Step H H' [s,c] [s,c]:=by
 refine zhJ ?_
 unfold ze7
 have i10:=st10 hh bv nv (.ptr c 0)
 simp (disch:=first | omega | (simp only [RY] <;> omega) | decide) only [↓RD,RZ,eq_self,seval,hs,i10]
 refine zah (zub hc hcl) ?_
 rintro _ H1 ⟨rfl,gc1,s1⟩
 have gs1:=(s1.same s hsl (by simpa using hne)).trans hs
 have hv1:By lo H1 v l:=hv.at1 ⟨s1.next,fun i hi hk=>s1.same i hi (by simpa using hk)⟩ hvc
 have n1:=s1.next
 simp (disch:=first | omega | (simp only [RY] <;> omega) | decide) only [↓RD,RZ,eq_self,seval]
 have e64:[V.int .u32 0, .int .u32 0, .int .u32 0, .int .u32 0, .int .u32 0, .int .u32 0, .int .u32 0, .int .u32 0, .int .u32 0, .int .u32 0, .int .u32 0, .int .u32 0, .int .u32 0, .int .u32 0, .int .u32 0, .int .u32 0, .int .u32 0, .int .u32 0, .int .u32 0, .int .u32 0, .int .u32 0, .int .u32 0, .int .u32 0, .int .u32 0, .int .u32 0, .int .u32 0, .int .u32 0, .int .u32 0, .int .u32 0, .int .u32 0, .int .u32 0, .int .u32 0, .int .u32 0, .int .u32 0, .int .u32 0, .int .u32 0, .int .u32 0, .int .u32 0, .int .u32 0, .int .u32 0, .int .u32 0, .int .u32 0, .int .u32 0, .int .u32 0, .int .u32 0, .int .u32 0, .int .u32 0, .int .u32 0, .int .u32 0, .int .u32 0, .int .u32 0, .int .u32 0, .int .u32 0, .int .u32 0, .int .u32 0, .int .u32 0, .int .u32 0, .int .u32 0, .int .u32 0, .int .u32 0, .int .u32 0, .int .u32 0, .int .u32 0, .int .u32 0] = List.replicate 64 (.int .u32 0):=rfl
 rw [e64]
 have s2:=Grow.new H1 ⟨zat,List.replicate 64 (.int .u32 0),none⟩
 have gw2:(H1.new ⟨zat,List.replicate 64 (.int .u32 0),none⟩).get H1.next = _:=zad _ _
 have nb2:H1.next < (H1.new ⟨zat,List.replicate 64 (.int .u32 0),none⟩).next:=by rw [zaf]; omega
 have gs2:=(s2.same s (by omega)).trans gs1
 have gc2:=(s2.same c (by omega)).trans gc1
 have hv2:=hv1.ext s2
 have hvw:v.pid ≠ some H1.next:=fun e=>by have:=(hv1.own _ e).2; omega
 have n2:=s2.next
 generalize hwb:H1.next = wb at *
 generalize H1.new _ = H2 at *
 refine zar (zsV hv2 h8 hl gw2 hvw nb2) ?_
 rintro _ H3 ⟨rfl,gw3,s3⟩
 have n3:=s3.next
 have gs3:=(s3.same s (by omega) (by omega)).trans gs2
 have gc3:=(s3.same c (by omega) (by omega)).trans gc2
 have e8:=ld8 hh [bv,nv, .ptr c 0]
 have hlm:(h.map w32).length = 8:=by rw [List.length_map,hh]
 have hok:V.okc (.agg (h.map w32)) = true:=by
  simp only [V.okc,List.all_map,List.all_eq_true]
  try (intro x _; rfl)
 have hsp:∀ L:List V,L.length = 8 → splice L 0 (h.map w32) = h.map w32:=fun L hL=>by
  unfold splice
  rw [List.take_zero,List.nil_append,hlm,List.drop_of_length_le (by omega),List.append_nil]
 simp (disch:=first | omega | (simp only [RY] <;> omega) | decide) only [↓RD,RZ,eq_self,seval,gs3,e8,hok,hlm,hsp]
 have g4:∀ i,i < H3.next → ((H3.new ⟨zao,[V.int .u32 0, .int .u32 0, .int .u32 0, .int .u32 0, .int .u32 0, .int .u32 0, .int .u32 0, .int .u32 0],none⟩).set H3.next (some ⟨zao,h.map w32,none⟩)).get i = H3.get i:=fun i hi=>by rw [zak _ _ (by omega),zaX _ _ (by omega)]
 have gv4:((H3.new ⟨zao,[V.int .u32 0, .int .u32 0, .int .u32 0, .int .u32 0, .int .u32 0, .int .u32 0, .int .u32 0, .int .u32 0],none⟩).set H3.next (some ⟨zao,h.map w32,none⟩)).get H3.next = _:=zaj _ _ _
 have n4:((H3.new ⟨zao,[V.int .u32 0, .int .u32 0, .int .u32 0, .int .u32 0, .int .u32 0, .int .u32 0, .int .u32 0, .int .u32 0],none⟩).set H3.next (some ⟨zao,h.map w32,none⟩)).next = H3.next + 1:=by rw [zan,zaf]
 generalize hvb:H3.next = vb at *
 generalize (H3.new _).set _ _ = H4 at *
 have gc4:=(g4 c (by omega)).trans gc3
 have gs4:=(g4 s (by omega)).trans gs3
 have gw4:=(g4 wb (by omega)).trans gw3
 refine zar (zsU hh gc4 gw4 gv4 (by omega) (by omega) (by omega) (by omega)) ?_
 rintro _ H5 ⟨rfl,gv5,s5⟩
 have n5:=s5.next
 have gs5:=(s5.same s (by omega) (by omega)).trans gs4
 have gc5:=(s5.same c (by omega) (by omega)).trans gc4
 simp (disch:=first | omega | (simp only [RY] <;> omega) | decide) only [↓RD,RZ,eq_self,seval]
 refine zar (zsT hh (zk9 hh 64) gs5 gv5 (by omega) (by omega)) ?_
 rintro _ H6 ⟨rfl,gs6,s6⟩
 have n6:=s6.next
 simp (disch:=first | omega | (simp only [RY] <;> omega) | decide) only [↓RD,RZ,eq_self,seval]
 refine ⟨rfl,gs6,(s6.same c (by omega) (Ne.symm hne)).trans gc5,⟨by omega,fun i hi hF=>?_,fun i hi=>.inl hi⟩⟩
 simp only [List.mem_cons,List.not_mem_nil,or_false,not_or] at hF
 rw [s6.same i (by omega) hF.1,s5.same i (by omega) (by omega),g4 i (by omega),s3.same i (by omega) (by omega),s2.same i (by omega),s1.same i hi (by simpa using hF.2)]
end Go.Ax.SU
/- Su11 -/
namespace Go.Ax.SU
open Go.Ax
theorem _root_.Go.Ax.Lc.stepF {e lo n:Nat} {H H':Heap} {v:V} {cells:List V} {F F':List Nat} (h:Lc e lo H v cells n) (s:Step H H' F F') (hd:∀ i,v.pid = some i → i ∉ F):Lc e lo H' v cells n :=
 ⟨by rw [zgD fun i hi=>s.same i (h.own i hi).2 (hd i hi)]; exact h.rc,fun i hi=>⟨(h.own i hi).1,Nat.lt_of_lt_of_le (h.own i hi).2 s.next⟩,h.cap⟩
structure St (H:Heap) (s c:Nat) (bv:V) (h:List UInt32) (b Fb:List Nat) (n:Nat):Prop where
 gs:H.get s = some ⟨zau,h.map w32 ++ [bv, .int .u64 (n:Nat), .ptr c 0],none⟩
 gc:∃ d,H.get c = some ⟨zaG,conC d,none⟩
 bf:Buf H bv b Fb
 hl:h.length = 8
 ne:s ≠ c
 sb:s ∉ Fb
 cb:c ∉ Fb
 sl:s < H.next
 cl:c < H.next
def Str (H:Heap) (s:Nat) (m F:List Nat):Prop:=∃ c bv Fb,F = s :: c :: Fb ∧ St H s c bv (hs kc m) (tl m) Fb m.length ∧ Ok8 m
theorem St.low {H:Heap} {s c:Nat} {bv:V} {h:List UInt32} {b Fb:List Nat} {n:Nat} (h:St H s c bv h b Fb n):∀ i ∈ s :: c :: Fb,i < H.next:=by
 intro i hi
 rcases List.mem_cons.1 hi with rfl | hi
 ·exact h.sl
 ·rcases List.mem_cons.1 hi with rfl | hi
  ·exact h.cl
  ·exact h.bf.low i hi
theorem St.to {H H':Heap} {s c:Nat} {bv:V} {h:List UInt32} {b Fb:List Nat} {n:Nat} (k:St H s c bv h b Fb n) (hn:H.next ≤ H'.next) (hs:∀ i ∈ s :: c :: Fb,H'.get i = H.get i):St H' s c bv h b Fb n :=
 ⟨by rw [hs s (by simp)]; exact k.gs,by obtain ⟨d,hd⟩:=k.gc; exact ⟨d,by rw [hs c (by simp)]; exact hd⟩,k.bf.to hn fun i hi=>hs i (by simp [hi]),k.hl,k.ne,k.sb,k.cb,Nat.lt_of_lt_of_le k.sl hn,Nat.lt_of_lt_of_le k.cl hn⟩
theorem St.piece {lo:Nat} {H:Heap} {s c:Nat} {bv v:V} {h:List UInt32} {b Fb l:List Nat} {n:Nat} (k:St H s c bv h b Fb n) (hv:By lo H v l) (h8:Ok8 l) (hl:l.length = 64) (hvs:v.pid ≠ some s) (hvc:v.pid ≠ some c) :
  Ok (sem T za6 [.ptr s 0,v]) H fun r H'=>r = .tup [] ∧ St H' s c bv (comp kc h l) b Fb n ∧ Step H H' [s,c] [s,c]:=by
 obtain ⟨d,hd⟩:=k.gc
 refine zar (piece_ok k.gs k.hl hd hv h8 hl k.ne hvs hvc k.sl k.cl) ?_
 rintro _ H' ⟨rfl,g1,g2,s1⟩
 refine ⟨rfl,⟨g1,⟨true,g2⟩,k.bf.to s1.next fun i hi=>s1.same i (k.bf.low i hi) fun e=>?_,zlk _ _ _,k.ne,k.sb,k.cb,Nat.lt_of_lt_of_le k.sl s1.next,Nat.lt_of_lt_of_le k.cl s1.next⟩,s1⟩
 simp only [List.mem_cons,List.not_mem_nil,or_false] at e
 rcases e with rfl | rfl
 ·exact k.sb hi
 ·exact k.cb hi
theorem zoj {H H':Heap} {s c:Nat} (h:Step H H' [s,c] [s,c]) (Fb:List Nat):Step H H' (s :: c :: Fb) (s :: c :: Fb) :=
 ⟨h.next,fun i hi hF=>h.same i hi fun k=>hF (by simp only [List.mem_cons,List.not_mem_nil,or_false] at k; simp only [List.mem_cons]; rcases k with rfl | rfl <;> simp),fun i hi=>.inl hi⟩
theorem zsS {lo:Nat} {H:Heap} {s c:Nat} {bv v:V} {m Fb p:List Nat} {n:Nat} (k:St H s c bv (hs kc m) [] Fb n) (hm:m.length % 64 = 0) (hv:By lo H v p) (h8:Ok8 p) (hd:∀ i,v.pid = some i → i ∉ s :: c :: Fb) :
  Ok (M.iter (zcJ (sem T) (.ptr s 0)) [v]) H fun r H'=>∃ v',r = .ex 0 [v'] ∧ v'.pid = v.pid ∧ By lo H' v' (p.drop (64 * (p.length / 64))) ∧ St H' s c bv (hs kc (m ++ p.take (64 * (p.length / 64)))) [] Fb n ∧ Step H H' (s :: c :: Fb) (s :: c :: Fb):=by
 refine zaF (fun j L H'=>∃ v',L = [v'] ∧ v'.pid = v.pid ∧ By lo H' v' (p.drop (64 * j)) ∧ St H' s c bv (hs kc (m ++ p.take (64 * j))) [] Fb n ∧ Step H H' (s :: c :: Fb) (s :: c :: Fb)) (p.length / 64) ?_ ?_ ?_
 ·exact ⟨v,rfl,rfl,by simpa using hv,by simpa using k,Step.refl _ _⟩
 ·rintro j L H1 hj ⟨v1,rfl,p1,b1,k1,s1⟩
  have hlen:(p.drop (64 * j)).length = p.length - 64 * j:=List.length_drop
  have hvs:v1.pid ≠ some s:=fun e=>hd s (p1 ▸ e) (by simp)
  have hvc:v1.pid ≠ some c:=fun e=>hd c (p1 ▸ e) (by simp)
  obtain ⟨va,-,ha,-,hva,pa⟩:=zbM b1 (x:=0) (y:=64) (by omega) (by omega) (by omega)
  have ha2:∀ {k':IntKind},zaz .sl 1 v1 none (some (.int k' 64)) none = some va:=ha rfl
  obtain ⟨vb,-,-,hb,hvb,pb⟩:=zbM b1 (x:=64) (y:=((p.drop (64 * j)).length:Nat)) (by omega) (by omega) (by omega)
  have hb2:∀ {k':IntKind},zaz .sl 1 v1 (some (.int k' 64)) none none = some vb:=hb rfl
  have hvl:=b1.vlen
  have hle:(64:Int) ≤ ((p.drop (64 * j)).length:Nat):=by omega
  have e64:(64:Int).toNat = 64:=rfl
  have e0:(0:Int).toNat = 0:=rfl
  rw [e64,e0,List.drop_zero] at hva
  rw [e64,Int.toNat_natCast,List.drop_drop] at hvb
  unfold zcJ
  simp (disch:=omega) only [↓RD,RZ,eq_self,seval,hvl,hle,ha2]
  refine zah (k1.piece hva ((h8.drop _).take _) (by rw [List.length_take,hlen]; omega) (by rw [pa]; exact hvs) (by rw [pa]; exact hvc)) ?_
  rintro _ H2 ⟨rfl,k2,s2⟩
  have hm1:(m ++ p.take (64 * j)).length % 64 = 0:=by rw [List.length_append,List.length_take]; omega
  have e2:comp kc (hs kc (m ++ p.take (64 * j))) ((p.drop (64 * j)).take (64 - 0)) = hs kc (m ++ p.take (64 * (j + 1))):=by
   rw [← hs_piece hm1 (by rw [List.length_take,hlen]; omega),List.append_assoc,← List.take_add]
   rfl
  rw [e2] at k2
  have hvb2:By lo H2 vb (p.drop (64 * (j + 1))):=by
   have e3:(p.drop (64 * j + 64)).take ((p.drop (64 * j)).length - 64) = p.drop (64 * (j + 1)):=by
    rw [List.take_of_length_le (by rw [List.length_drop,hlen]; omega)]; rfl
   rw [e3] at hvb
   exact hvb.stepF s2 fun i hi=>by rw [pb,p1] at hi; have:=hd i hi; simp only [List.mem_cons,not_or] at this; simp only [List.mem_cons,List.not_mem_nil,or_false,not_or]; exact ⟨this.1,this.2.1⟩
  simp (disch:=omega) only [↓RD,RZ,eq_self,seval,hb2]
  exact ⟨vb,rfl,by rw [pb,p1],hvb2,k2,s1.trans (zoj s2 Fb)⟩
 ·rintro L H1 ⟨v1,rfl,p1,b1,k1,s1⟩
  have hvl:=b1.vlen
  have hlen:(p.drop (64 * (p.length / 64))).length = p.length - 64 * (p.length / 64):=List.length_drop
  have hlt:((p.drop (64 * (p.length / 64))).length:Int) < 64:=by omega
  unfold zcJ
  simp (disch:=omega) only [↓RD,RZ,eq_self,seval,hvl,hlt]
  exact ⟨v1,rfl,p1,b1,k1,s1⟩
theorem St.rest {β:Type} {lo:Nat} {H:Heap} {s c:Nat} {bv v:V} {h:List UInt32} {b Fb p:List Nat} {n:Nat} {f:V → M β} {Q:β → Heap → Prop} (k:St H s c bv h b Fb n) (hv:By lo H v p) (hp:b.length + p.length ≤ 64)
  (hQ:∀ bv' H' Fb',St (H'.set s (some ⟨zau,h.map w32 ++ [bv', .int .u64 (n:Nat), .ptr c 0],none⟩)) s c bv' h (b ++ p) Fb' n → H'.get s = some ⟨zau,h.map w32 ++ [bv, .int .u64 (n:Nat), .ptr c 0],none⟩ →
   bv'.cells = [bv'] → bv'.okc = true → Step H H' Fb Fb' → (∀ i ∈ Fb',i ≠ s ∧ i ≠ c) → Ok (f bv') H' Q):Ok ((mappend zac 1 1 bv v).bind f) H Q:=by
 refine zs6 k.bf hv.ac hp fun bv' H' Fb' b1 s1=>?_
 have nss:∀ i ∈ Fb',i ≠ s ∧ i ≠ c:=fun i hi=>by
  rcases s1.own i hi with h1 | h1
  ·exact ⟨fun e=>k.sb (e ▸ h1),fun e=>k.cb (e ▸ h1)⟩
  ·have:=k.sl; have:=k.cl
   exact ⟨by omega,by omega⟩
 have gs:=(s1.same s k.sl k.sb).trans k.gs
 obtain ⟨d,hd⟩:=k.gc
 have gc:=(s1.same c k.cl k.cb).trans hd
 refine hQ bv' H' Fb' ⟨zaj _ _ _,⟨d,by rw [zak _ _ (Ne.symm k.ne)]; exact gc⟩,b1.to (by rw [zan]; exact Nat.le_refl _) fun i hi=>zak _ _ (nss i hi).1,k.hl,k.ne,fun e=>(nss s e).1 rfl,fun e=>(nss c e).2 rfl,?_,?_⟩ gs b1.cells1 b1.okc s1 nss
 ·rw [zan]; exact Nat.lt_of_lt_of_le k.sl s1.next
 ·rw [zan]; exact Nat.lt_of_lt_of_le k.cl s1.next
theorem zrk {lo:Nat} {H:Heap} {s:Nat} {v:V} {m F p:List Nat} (k:Str H s m F) (hv:By lo H v p) (h8:Ok8 p) (hd:∀ i,v.pid = some i → i ∉ F) (hlen:m.length + p.length ≤ 1125899906842624) :
  Ok (sem T za4 [.ptr s 0,v]) H fun r H'=>r = .tup [] ∧ ∃ F',Str H' s (m ++ p) F' ∧ Step H H' F F':=by
 obtain ⟨c,bv,Fb,rfl,k,hm8⟩:=k
 refine ziN ?_
 unfold zf1
 have hvl:=hv.vlen
 have i8:=st8 k.hl
 have i9:=st9 k.hl
 have q8:=sp8 k.hl
 have q9:=sp9 k.hl
 have ql:=stl k.hl
 have hm:(m.length:Int) + (p.length:Int) = ((m.length + p.length:Nat):Int):=rfl
 have hbl:=k.bf.vlen
 have gs:=k.gs
 have tll:=zqr m
 have k1:St (H.set s (some ⟨zau,(hs kc m).map w32 ++ [bv, .int .u64 ((m.length + p.length:Nat):Int), .ptr c 0],none⟩)) s c bv (hs kc m) (tl m) Fb (m.length + p.length):=by
  obtain ⟨d,hdc⟩:=k.gc
  exact ⟨zaj _ _ _,⟨d,by rw [zak _ _ (Ne.symm k.ne)]; exact hdc⟩,k.bf.to (by rw [zan]; exact Nat.le_refl _) fun i hi=>zak _ _ fun e=>k.sb (e ▸ hi),k.hl,k.ne,k.sb,k.cb,by rw [zan]; exact k.sl,by rw [zan]; exact k.cl⟩
 have s1:Step H (H.set s (some ⟨zau,(hs kc m).map w32 ++ [bv, .int .u64 ((m.length + p.length:Nat):Int), .ptr c 0],none⟩)) (s :: c :: Fb) (s :: c :: Fb):=Step.set _ (by simp)
 have hv1:=hv.stepF s1 hd
 simp (disch:=omega) only [↓RD,RZ,eq_self,seval,gs,i8,i9,hvl,hm,q9,ql,hbl]
 clear gs
 generalize H.set s _ = H1 at *
 have gs1:=k1.gs
 refine zar (Q:=fun r H'=>(r = .ret [] ∧ ∃ F',Str H' s (m ++ p) F' ∧ Step H1 H' (s :: c :: Fb) F') ∨
  (∃ v1 q bv1 Fb1,r = .nrm [v1] ∧ q ≤ p.length ∧ (m.length + q) % 64 = 0 ∧ v1.pid = v.pid ∧ By lo H' v1 (p.drop q) ∧ St H' s c bv1 (hs kc (m ++ p.take q)) [] Fb1 (m.length + p.length) ∧ Step H1 H' (s :: c :: Fb) (s :: c :: Fb1))) ?_ ?_
 ·refine zbB (fun hpos=>?_) fun hpos=>?_
  ·have hr:0 < (tl m).length:=by omega
   have hr2:(tl m).length < 64:=by omega
   rcases Nat.lt_or_ge p.length (64 - (tl m).length) with hc | hc
   ·have hmin:Ax.minmax false (.int .i64 (64 - ((tl m).length:Nat):Int)) [.int .i64 (p.length:Nat)] = some (.int .i64 (p.length:Nat)):=by
     simp only [Ax.minmax,min2]
     rw [if_neg (by decide),if_pos (by omega)]
     rfl
    obtain ⟨va,-,ha,-,hva,pa⟩:=zbM hv1 (x:=0) (y:=(p.length:Nat)) (by omega) (by omega) (by omega)
    have ha2:∀ {k':IntKind},zaz .sl 1 v none (some (.int k' ((p.length:Nat):Int))) none = some va:=ha rfl
    have e0:(0:Int).toNat = 0:=rfl
    rw [e0,List.drop_zero,Int.toNat_natCast,Nat.sub_zero,List.take_length] at hva
    simp (disch:=omega) only [↓RD,RZ,eq_self,seval,gs1,i8,hbl,hvl,hmin,ha2]
    refine k1.rest hva (by omega) fun bv2 H2 Fb2 k2 g2 c2 o2 s2 n2=>?_
    obtain ⟨vb,-,-,hb,-,-⟩:=zbM hv1 (x:=((p.length:Nat):Int)) (y:=(p.length:Nat)) (by omega) (by omega) (by omega)
    have hb2:∀ {k':IntKind},zaz .sl 1 v (some (.int k' ((p.length:Nat):Int))) none none = some vb:=hb rfl
    have hbl2:=k2.bf.vlen
    have hlt:(((tl m ++ p).length:Nat):Int) < 64:=by rw [List.length_append]; omega
    simp (disch:=omega) only [↓RD,RZ,eq_self,seval,g2,i8,q8,ql,c2,o2,hb2,hbl2,hlt]
    refine .inl ⟨s :: c :: Fb2,⟨c,bv2,Fb2,rfl,?_,hm8.app h8⟩,((s2.cons c).cons s).trans (Step.set _ (by simp))⟩
    obtain ⟨e1,e2⟩:=hs_few (ks:=kc) (m:=m) (l:=p) (by omega)
    rw [e1,e2,List.length_append]
    exact k2
   ·have hmin:Ax.minmax false (.int .i64 (64 - ((tl m).length:Nat):Int)) [.int .i64 (p.length:Nat)] = some (.int .i64 ((64 - (tl m).length:Nat):Int)):=by
     simp only [Ax.minmax,min2]
     rw [if_neg (by decide)]
     by_cases e:((p.length:Nat):Int) < 64 - ((tl m).length:Nat)
     ·omega
     ·rw [if_neg e]
      show some (V.int .i64 _) = _
      congr 2
      omega
    generalize hq:64 - (tl m).length = q at *
    obtain ⟨va,-,ha,-,hva,pa⟩:=zbM hv1 (x:=0) (y:=(q:Nat)) (by omega) (by omega) (by omega)
    have ha2:∀ {k':IntKind},zaz .sl 1 v none (some (.int k' ((q:Nat):Int))) none = some va:=ha rfl
    have e0:(0:Int).toNat = 0:=rfl
    rw [e0,List.drop_zero,Int.toNat_natCast,Nat.sub_zero] at hva
    have hlq:(p.take q).length = q:=by rw [List.length_take]; omega
    simp (disch:=omega) only [↓RD,RZ,eq_self,seval,gs1,i8,hbl,hvl,hmin,ha2]
    refine k1.rest hva (by omega) fun bv2 H2 Fb2 k2 g2 c2 o2 s2 n2=>?_
    obtain ⟨vb,-,-,hb,hvb,pb⟩:=zbM hv1 (x:=((q:Nat):Int)) (y:=(p.length:Nat)) (by omega) (by omega) (by omega)
    have hb2:∀ {k':IntKind},zaz .sl 1 v (some (.int k' ((q:Nat):Int))) none none = some vb:=hb rfl
    rw [Int.toNat_natCast,Int.toNat_natCast,List.take_of_length_le (by rw [List.length_drop]; exact Nat.le_refl _)] at hvb
    have hbl2:=k2.bf.vlen
    have hl64:(tl m ++ p.take q).length = 64:=by rw [List.length_append]; omega
    have hlt:(64:Int) ≤ (((tl m ++ p.take q).length:Nat):Int):=by omega
    have st2:Step H1 (H2.set s (some ⟨zau,(hs kc m).map w32 ++ [bv2, .int .u64 ((m.length + p.length:Nat):Int), .ptr c 0],none⟩)) (s :: c :: Fb) (s :: c :: Fb2):=((s2.cons c).cons s).trans (Step.set _ (by simp))
    simp (disch:=omega) only [↓RD,RZ,eq_self,seval,g2,i8,q8,ql,c2,o2,hb2,hbl2,hlt]
    clear g2
    generalize H2.set s _ = H3 at *
    have g3:=k2.gs
    have npid:bv2.pid ≠ some s ∧ bv2.pid ≠ some c:=⟨fun e=>(n2 s (k2.bf.pid s e)).1 rfl,fun e=>(n2 c (k2.bf.pid c e)).2 rfl⟩
    refine zah (k2.piece k2.bf.by (Ok8.app (Ok8.drop hm8 _) (h8.take q)) hl64 npid.1 npid.2) ?_
    rintro _ H4 ⟨rfl,k4,s4⟩
    rw [← hs_fill (by omega)] at k4
    obtain ⟨bv5,hcut,b5⟩:=k4.bf.cut hl64
    have hcut2:∀ {k':IntKind},zaz .sl 1 bv2 none (some (.int k' 0)) none = some bv5:=hcut
    have j8:=st8 k4.hl
    have r8:=sp8 k4.hl
    have rl:=stl k4.hl
    have g4:=k4.gs
    have c5:=b5.cells1
    have o5:=b5.okc
    simp (disch:=omega) only [↓RD,RZ,eq_self,seval,g4,j8,hcut2,r8,rl,c5,o5]
    have st5:=st2.trans ((zoj s4 Fb2).trans (Step.set (H:=H4) (some ⟨zau,(hs kc (m ++ p.take q)).map w32 ++ [bv5, .int .u64 ((m.length + p.length:Nat):Int), .ptr c 0],none⟩) (by simp:s ∈ s :: c :: Fb2)))
    refine .inr ⟨vb,q,bv5,Fb2,rfl,by omega,by omega,pb,hvb.stepF st5 fun i hi=>hd i (pb ▸ hi),?_,st5⟩
    obtain ⟨d4,hd4⟩:=k4.gc
    exact ⟨zaj _ _ _,⟨d4,by rw [zak _ _ (Ne.symm k4.ne)]; exact hd4⟩,b5.to (by rw [zan]; exact Nat.le_refl _) fun i hi=>zak _ _ (n2 i hi).1,k4.hl,k4.ne,k4.sb,k4.cb,by rw [zan]; exact k4.sl,by rw [zan]; exact k4.cl⟩
  ·simp (disch:=omega) only [↓RD,RZ,eq_self,seval]
   refine .inr ⟨v,0,bv,Fb,rfl,by omega,by omega,rfl,by simpa using hv1,?_,Step.refl _ _⟩
   have:tl m = []:=List.eq_nil_of_length_eq_zero (by omega)
   rw [this] at k1
   simpa using k1
 ·rintro r H2 (⟨rfl,F',k2,s2⟩ | ⟨v1,q,bv1,Fb1,rfl,hq,hmq,p1,b1,k2,s2⟩)
  ·simp (disch:=omega) only [↓RD,RZ,eq_self,seval]
   exact ⟨rfl,F',k2,s1.trans s2⟩
  ·have hlq:(p.take q).length = q:=by rw [List.length_take]; omega
   have hlm:(m ++ p.take q).length = m.length + q:=by rw [List.length_append,hlq]
   have hd1:∀ i,v1.pid = some i → i ∉ s :: c :: Fb1:=fun i hi hF=>by
    have:=hd i (p1 ▸ hi)
    rcases s2.own i hF with h | h
    ·exact this h
    ·have:=(hv1.own i (p1 ▸ hi)).2
     omega
   simp (disch:=omega) only [↓RD,RZ,eq_self,seval]
   refine zar (zsS k2 (by rw [hlm]; exact hmq) b1 (h8.drop q) hd1) ?_
   rintro _ H3 ⟨v3,rfl,p3,b3,k3,s3⟩
   have i8':=st8 k3.hl
   have r8:=sp8 k3.hl
   have rl:=stl k3.hl
   have g3:=k3.gs
   have hld:(p.drop q).length = p.length - q:=List.length_drop
   have hlt:((p.drop q).drop (64 * ((p.drop q).length / 64))).length < 64:=by rw [List.length_drop]; omega
   have hk3m:(m ++ p.take q ++ (p.drop q).take (64 * ((p.drop q).length / 64))).length % 64 = 0:=by rw [List.length_append,hlm,List.length_take]; omega
   simp (disch:=omega) only [↓RD,RZ,eq_self,seval,g3,i8']
   refine k3.rest b3 (by rw [List.length_nil]; omega) fun bv4 H4 Fb4 k4 g4 c4 o4 s4 n4=>?_
   simp (disch:=omega) only [↓RD,RZ,eq_self,seval,g4,r8,rl,c4,o4]
   refine ⟨rfl,s :: c :: Fb4,⟨c,bv4,Fb4,rfl,?_,hm8.app h8⟩,s1.trans (s2.trans (s3.trans (((s4.cons c).cons s).trans (Step.set _ (by simp)))))⟩
   have ep:m ++ p = (m ++ p.take q ++ (p.drop q).take (64 * ((p.drop q).length / 64))) ++ (p.drop q).drop (64 * ((p.drop q).length / 64)):=by
    rw [List.append_assoc,List.take_append_drop,List.append_assoc,List.take_append_drop]
   obtain ⟨e1,e2⟩:=hs_few (ks:=kc) (m:=m ++ p.take q ++ (p.drop q).take (64 * ((p.drop q).length / 64))) (l:=(p.drop q).drop (64 * ((p.drop q).length / 64))) (by omega)
   rw [tl_whole hk3m] at e2
   rw [List.length_append]
   rw [ep,e1,e2]
   exact k4
end Go.Ax.SU
/- Su12 -/
namespace Go.Ax.SU
open Go.Ax
theorem Str.low {H:Heap} {s:Nat} {m F:List Nat} (h:Str H s m F):∀ i ∈ F,i < H.next:=by
 obtain ⟨c,bv,Fb,rfl,k,_⟩:=h
 exact k.low
theorem Str.to {H H':Heap} {s:Nat} {m F:List Nat} (h:Str H s m F) (hn:H.next ≤ H'.next) (hs:∀ i ∈ F,H'.get i = H.get i):Str H' s m F:=by
 obtain ⟨c,bv,Fb,rfl,k,h8⟩:=h
 exact ⟨c,bv,Fb,rfl,k.to hn hs,h8⟩
theorem Str.grow {H H':Heap} {s:Nat} {m F:List Nat} (h:Str H s m F) (g:Grow H H'):Str H' s m F:=h.to g.next fun i hi=>g.same i (h.low i hi)
theorem New_ok {H:Heap}:Ok (sem T zem []) H fun r H'=>∃ s F,r = .ptr s 0 ∧ Str H' s [] F ∧ (∀ i ∈ F,H.next ≤ i) ∧ Grow H H':=by
 refine znI ?_
 unfold zkU
 simp (disch:=omega) only [↓RD,RZ,eq_self,seval]
 have gc:((H.new ⟨zaG,conC false,none⟩).new ⟨zau,h0.map w32 ++ [.nils, .int .u64 ((0:Nat):Int), .ptr H.next 0],none⟩).get H.next = some ⟨zaG,conC false,none⟩:=by
  rw [zaX _ _ (by rw [zaf]; omega),zad]
 have gs:((H.new ⟨zaG,conC false,none⟩).new ⟨zau,h0.map w32 ++ [.nils, .int .u64 ((0:Nat):Int), .ptr H.next 0],none⟩).get (H.next + 1) = some ⟨zau,h0.map w32 ++ [.nils, .int .u64 ((0:Nat):Int), .ptr H.next 0],none⟩:=by
  rw [zoU _ _ (by rw [zaf])]
 have nx:((H.new ⟨zaG,conC false,none⟩).new ⟨zau,h0.map w32 ++ [.nils, .int .u64 ((0:Nat):Int), .ptr H.next 0],none⟩).next = H.next + 2:=by rw [zaf,zaf]
 refine ⟨H.next + 1,[H.next + 1,H.next],rfl,⟨H.next, .nils,[],rfl,⟨gs,⟨false,gc⟩, .nil,rfl,by omega,by simp,by simp,?_,?_⟩,Ok8.nil⟩,fun i hi=>?_,(Grow.new _ _).trans (Grow.new _ _)⟩
 ·show H.next + 1 < _
  exact Nat.lt_of_lt_of_eq (by omega) nx.symm
 ·show H.next < _
  exact Nat.lt_of_lt_of_eq (by omega) nx.symm
 ·simp only [List.mem_cons,List.not_mem_nil,or_false] at hi
  omega
theorem Copy_ok {H:Heap} {s:Nat} {m F:List Nat} (k:Str H s m F):Ok (sem T zcD [.ptr s 0]) H fun r H'=>∃ t c Fb,r = .ptr t 0 ∧ Str H' t m (t :: c :: Fb) ∧ c ∈ F ∧ H.next ≤ t ∧ (∀ i ∈ Fb,H.next ≤ i) ∧ Grow H H':=by
 obtain ⟨c,bv,Fb,rfl,k,hm8⟩:=k
 refine zh2 ?_
 unfold zfr
 have gs:=k.gs
 have ql:=stl k.hl bv (.int .u64 (m.length:Nat)) (.ptr c 0)
 have hld:ldc (some 11) ((hs kc m).map w32 ++ [bv, .int .u64 (m.length:Nat), .ptr c 0]) 0 = some (.agg ((hs kc m).map w32 ++ [bv, .int .u64 (m.length:Nat), .ptr c 0])):=by
  rw [zc0 (by omega),List.drop_zero,List.take_of_length_le (by omega)]
 have hok:V.okc (.agg ((hs kc m).map w32 ++ [bv, .int .u64 (m.length:Nat), .ptr c 0])) = true:=by
  have o:=k.bf.okc
  simp only [V.okc,List.all_append,List.all_map,Bool.and_eq_true]
  skip
 have hsp:∀ L:List V,L.length = 11 → splice L 0 ((hs kc m).map w32 ++ [bv, .int .u64 (m.length:Nat), .ptr c 0]) = (hs kc m).map w32 ++ [bv, .int .u64 (m.length:Nat), .ptr c 0]:=fun L hL=>by
  unfold splice
  rw [List.take_zero,List.nil_append,ql,List.drop_of_length_le (by omega),List.append_nil]
 have i8:=st8 k.hl
 have hsl:=k.sl
 have hcl:=k.cl
 have hsp2:=sp8 k.hl
 have h1:∀ i,i < H.next → ((H.new ⟨zau,[.int .u32 0, .int .u32 0, .int .u32 0, .int .u32 0, .int .u32 0, .int .u32 0, .int .u32 0, .int .u32 0, .nils, .int .u64 0, .nilp],none⟩).set H.next (some ⟨zau,(hs kc m).map w32 ++ [bv, .int .u64 (m.length:Nat), .ptr c 0],none⟩)).get i = H.get i:=fun i hi=>by rw [zak _ _ (by omega),zaX _ _ (by omega)]
 have g1:((H.new ⟨zau,[.int .u32 0, .int .u32 0, .int .u32 0, .int .u32 0, .int .u32 0, .int .u32 0, .int .u32 0, .int .u32 0, .nils, .int .u64 0, .nilp],none⟩).set H.next (some ⟨zau,(hs kc m).map w32 ++ [bv, .int .u64 (m.length:Nat), .ptr c 0],none⟩)).get H.next = _:=zaj _ _ _
 have n1:((H.new ⟨zau,[.int .u32 0, .int .u32 0, .int .u32 0, .int .u32 0, .int .u32 0, .int .u32 0, .int .u32 0, .int .u32 0, .nils, .int .u64 0, .nilp],none⟩).set H.next (some ⟨zau,(hs kc m).map w32 ++ [bv, .int .u64 (m.length:Nat), .ptr c 0],none⟩)).next = H.next + 1:=by rw [zan,zaf]
 simp (disch:=first | omega | (simp only [RY] <;> omega) | decide) only [↓RD,RZ,eq_self,seval,gs,hld,hok,hsp,ql,i8]
 clear gs
 generalize hnx:H.next = t at *
 generalize (H.new _).set _ _ = H1 at *
 have b1:=k.bf.to (H':=H1) (by omega) fun i hi=>h1 i (hnx ▸ k.bf.low i hi)
 refine zs6 .nil b1.by.ac (by have:=zqr m; rw [List.length_nil]; omega) fun x' H2 F2 b2 s2=>?_
 have gt2:=(s2.same t (by omega) (by simp)).trans g1
 have c2:=b2.cells1
 have o2:=b2.okc
 have q2:=stl k.hl bv (.int .u64 (m.length:Nat)) (.ptr c 0)
 have n2:=s2.next
 have f2:∀ i ∈ F2,t < i:=fun i hi=>by
  rcases s2.own i hi with h | h
  ·cases h
  ·omega
 simp (disch:=first | omega | (simp only [RY] <;> omega) | decide) only [↓RD,RZ,eq_self,seval,gt2,hsp2,q2,c2,o2]
 obtain ⟨d,hd⟩:=k.gc
 have gc2:H2.get c = some ⟨zaG,conC d,none⟩:=by rw [s2.same c (by omega) (by simp),h1 c hcl]; exact hd
 refine ⟨t,c,F2,rfl,⟨c,x',F2,rfl,⟨zaj _ _ _,⟨d,by rw [zak _ _ (by omega)]; exact gc2⟩,?_,k.hl,by omega,fun e=>by have:=f2 t e; omega,fun e=>by have:=f2 c e; omega,by rw [zan]; omega,by rw [zan]; omega⟩,hm8⟩,by simp,Nat.le_refl _,fun i hi=>by have:=f2 i hi; omega,⟨by rw [zan]; omega,fun i hi=>?_⟩⟩
 ·rw [List.nil_append] at b2
  exact b2.to (by rw [zan]; exact Nat.le_refl _) fun i hi=>zak _ _ (by have:=f2 i hi; omega)
 ·rw [zak _ _ (by omega),s2.same i (by omega) (by simp),h1 i (by omega)]
end Go.Ax.SU
/- Su13 -/
namespace Go.Ax.SU
open Go.Ax
theorem zsu (x:UInt32):Ax.cint .u8 (w32 x) = some (by8 (x.toNat % 256)):=by
 unfold w32 by8
 rw [zq8,wrap_u8]
 rfl
theorem s24 (x:UInt32):Ax.bin .shr (w32 x) (.int .u64 24) = some (w32 (zi7 x 24)):=zrp x (by omega)
theorem s16 (x:UInt32):Ax.bin .shr (w32 x) (.int .u64 16) = some (w32 (zi7 x 16)):=zrp x (by omega)
theorem s8 (x:UInt32):Ax.bin .shr (w32 x) (.int .u64 8) = some (w32 (zi7 x 8)):=zrp x (by omega)
theorem n24 (x:UInt32):(zi7 x 24).toNat = x.toNat / 16777216:=by rw [zhP,Nat.shiftRight_eq_div_pow]
theorem n16 (x:UInt32):(zi7 x 16).toNat = x.toNat / 65536:=by rw [zhP,Nat.shiftRight_eq_div_pow]
theorem n8 (x:UInt32):(zi7 x 8).toNat = x.toNat / 256:=by rw [zhP,Nat.shiftRight_eq_div_pow]
theorem zcP (n:Nat):(by8 n).okc = true:=rfl
theorem zaM (n:Nat):(by8 n).cells = [by8 n]:=rfl
theorem zro (a b:List UInt32):zbA (a ++ b) = zbA a ++ zbA b:=by unfold zbA; rw [List.map_append,List.flatten_append]
theorem take_w {h:List UInt32} {k:Nat} (hk:k < h.length):h.take (k + 1) = h.take k ++ [h.getD k 0]:=by
 rw [List.take_add_one,List.getElem?_eq_getElem hk,List.getD_eq_getElem?_getD,List.getElem?_eq_getElem hk]; rfl
theorem out_ok {H:Heap} {o r:Nat} {h:List UInt32} (hh:h.length = 8) (ho:H.get o = some ⟨zae,List.replicate 32 (.int .u8 0),none⟩) :
  Ok (M.iter (zcI (sem T) (.agg (h.map w32)) (.ptr o 0) (.ptr r 0)) [.int .i64 0]) H fun x H'=>x = .ex 4 [] ∧ H'.get o = some ⟨zae,(zbA h).map by8,none⟩ ∧ At1 o H H':=by
 refine zaF (fun k L H'=>L = [.int .i64 (k:Nat)] ∧ H'.get o = some ⟨zae,(zbA (h.take k)).map by8 ++ List.replicate (32 - 4 * k) (.int .u8 0),none⟩ ∧ At1 o H H') 8 ?_ ?_ ?_
 ·exact ⟨rfl,by simpa [zbA] using ho,At1.refl _ _⟩
 ·rintro k L H1 hk ⟨rfl,g1,s1⟩
  have hl0:((zbA (h.take k)).map by8).length = 4 * k:=by rw [List.length_map,ziu,List.length_take]; omega
  have gk:=wg (ws:=h) (i:=k) (by omega)
  have e4:(4:Int) * (k:Int) = ((4 * k:Nat):Int):=by omega
  have e5:((4 * k:Nat):Int) + 1 = ((4 * k + 1:Nat):Int):=by omega
  have e6:((4 * k:Nat):Int) + 2 = ((4 * k + 2:Nat):Int):=by omega
  have e7:((4 * k:Nat):Int) + 3 = ((4 * k + 3:Nat):Int):=by omega
  have hlen:∀ (l:List V) (n:Nat),l.length = n → n ≤ 32 → (l ++ List.replicate (32 - n) (V.int .u8 0)).length = 32:=fun l n h1 h2=>by rw [List.length_append,h1,List.length_replicate]; omega
  have x0:=zaW (z:=.int .u8 0) (x:=by8 ((h.getD k 0).toNat / 16777216 % 256)) hl0 (show 4 * k < 32 by omega)
  have hl1:((zbA (h.take k)).map by8 ++ [by8 ((h.getD k 0).toNat / 16777216 % 256)]).length = 4 * k + 1:=by rw [List.length_append,hl0]; rfl
  have x1:=zaW (z:=.int .u8 0) (x:=by8 ((h.getD k 0).toNat / 65536 % 256)) hl1 (show 4 * k + 1 < 32 by omega)
  have hl2:((zbA (h.take k)).map by8 ++ [by8 ((h.getD k 0).toNat / 16777216 % 256)] ++ [by8 ((h.getD k 0).toNat / 65536 % 256)]).length = 4 * k + 2:=by rw [List.length_append,hl1]; rfl
  have x2:=zaW (z:=.int .u8 0) (x:=by8 ((h.getD k 0).toNat / 256 % 256)) hl2 (show 4 * k + 2 < 32 by omega)
  have hl3:((zbA (h.take k)).map by8 ++ [by8 ((h.getD k 0).toNat / 16777216 % 256)] ++ [by8 ((h.getD k 0).toNat / 65536 % 256)] ++ [by8 ((h.getD k 0).toNat / 256 % 256)]).length = 4 * k + 3:=by rw [List.length_append,hl2]; rfl
  have x3:=zaW (z:=.int .u8 0) (x:=by8 ((h.getD k 0).toNat % 256)) hl3 (show 4 * k + 3 < 32 by omega)
  have m0:=hlen _ _ hl0 (by omega)
  have m1:=hlen _ _ hl1 (by omega)
  have m2:=hlen _ _ hl2 (by omega)
  have m3:=hlen _ _ hl3 (by omega)
  unfold zcI
  simp (disch:=first | omega | (simp only [RY] <;> omega) | decide) only [↓RD,RZ,eq_self,Int.reduceToNat,Int.reduceAdd,Nat.reduceAdd,Nat.reduceSub,Nat.reduceMul,Nat.reduceLeDiff,gk,e4,e5,e6,e7,s24,s16,s8,zsu,n24,n16,n8,zcP,zaM,g1,x0,x1,x2,x3,m0,m1,m2,m3]
  refine ⟨by omega,by omega,by omega,by omega,rfl,?_,s1.trans ((At1.set o _ _).trans ((At1.set o _ _).trans ((At1.set o _ _).trans (At1.set o _ _))))⟩
  rw [take_w (by omega),zro,show 32 - 4 * (k + 1) = 32 - (4 * k + 3 + 1) by omega]
  simp [zbA]
 ·rintro L H1 ⟨rfl,g1,s1⟩
  unfold zcI
  simp (disch:=first | omega | (simp only [RY] <;> omega) | decide) only [↓RD,RZ,eq_self,Int.reduceToNat,Int.reduceAdd,Nat.reduceAdd,Nat.reduceSub,Nat.reduceMul,Nat.reduceLeDiff]
  refine ⟨?_,s1⟩
  rw [g1,List.take_of_length_le (by omega)]
  simp
theorem zsZ (n:Nat):pad n = (0x80 :: List.replicate (padz n) 0) ++ bn 8 (n * 8 % 18446744073709551616):=rfl
theorem Sum_ok {H:Heap} {s:Nat} {m F:List Nat} (k:Str H s m F) (hlen:m.length ≤ 562949953421312) :
  Ok (sem T zbQ [.ptr s 0]) H fun r H'=>r = .agg ((sha kc m).map by8) ∧ Step H H' F F:=by
 refine ziM ?_
 unfold zf0
 have s1:=Grow.new H ⟨zae,[.int .u8 0, .int .u8 0, .int .u8 0, .int .u8 0, .int .u8 0, .int .u8 0, .int .u8 0, .int .u8 0, .int .u8 0, .int .u8 0, .int .u8 0, .int .u8 0, .int .u8 0, .int .u8 0, .int .u8 0, .int .u8 0, .int .u8 0, .int .u8 0, .int .u8 0, .int .u8 0, .int .u8 0, .int .u8 0, .int .u8 0, .int .u8 0, .int .u8 0, .int .u8 0, .int .u8 0, .int .u8 0, .int .u8 0, .int .u8 0, .int .u8 0, .int .u8 0],none⟩
 have gr:(H.new ⟨zae,[.int .u8 0, .int .u8 0, .int .u8 0, .int .u8 0, .int .u8 0, .int .u8 0, .int .u8 0, .int .u8 0, .int .u8 0, .int .u8 0, .int .u8 0, .int .u8 0, .int .u8 0, .int .u8 0, .int .u8 0, .int .u8 0, .int .u8 0, .int .u8 0, .int .u8 0, .int .u8 0, .int .u8 0, .int .u8 0, .int .u8 0, .int .u8 0, .int .u8 0, .int .u8 0, .int .u8 0, .int .u8 0, .int .u8 0, .int .u8 0, .int .u8 0, .int .u8 0],none⟩).get H.next = some ⟨zae,List.replicate 32 (.int .u8 0),none⟩:=zad _ _
 have nr:(H.new ⟨zae,[.int .u8 0, .int .u8 0, .int .u8 0, .int .u8 0, .int .u8 0, .int .u8 0, .int .u8 0, .int .u8 0, .int .u8 0, .int .u8 0, .int .u8 0, .int .u8 0, .int .u8 0, .int .u8 0, .int .u8 0, .int .u8 0, .int .u8 0, .int .u8 0, .int .u8 0, .int .u8 0, .int .u8 0, .int .u8 0, .int .u8 0, .int .u8 0, .int .u8 0, .int .u8 0, .int .u8 0, .int .u8 0, .int .u8 0, .int .u8 0, .int .u8 0, .int .u8 0],none⟩).next = H.next + 1:=zaf _ _
 have kF:=k.low
 have k1:=k.grow s1
 simp (disch:=first | omega | (simp only [RY] <;> omega) | decide) only [↓RD,RZ,eq_self,seval]
 generalize hrb:H.next = rb at *
 generalize H.new _ = H1 at *
 refine zah (Copy_ok k1) ?_
 rintro _ H2 ⟨t,c,Fb,rfl,k2,hcF,htn,hFb,s2⟩
 obtain ⟨c',bv,Fb',hF',k2',hm8⟩:=k2
 simp only [List.cons.injEq,true_and] at hF'
 obtain ⟨rfl,rfl⟩:=hF'
 have n2:=s2.next
 have gt2:=k2'.gs
 have i9:=st9 k2'.hl
 have i8:=st8 k2'.hl
 have ebl:=k2'.bf.vlen
 have tll:=zqr m
 have em:((m.length:Nat):Int) * 8 = ((m.length * 8:Nat):Int):=by omega
 have hlow2:=k2'.low
 simp (disch:=first | omega | (simp only [RY] <;> omega) | decide) only [↓RD,RZ,eq_self,seval,gt2,i9,em]
 have s3:=Grow.new H2 ⟨zac,[.int .u8 128],none⟩
 have a3:Ab H2.next (H2.new ⟨zac,[.int .u8 128],none⟩) (.sl H2.next 0 1 (.fix 1)) [0x80]:=.full (zad _ _) rfl (Nat.le_refl _) (by rw [zaf]; omega)
 have b3:Bel H2.next H2 (H2.new ⟨zac,[.int .u8 128],none⟩):=s3.bel (Nat.le_refl _)
 generalize hlo:H2.next = lo at *
 generalize H2.new _ = H3 at *
 have hz:padz m.length < 64:=by unfold padz; omega
 refine zar (Q:=fun r H'=>∃ e,r = .ex 0 [e] ∧ Ab lo H' e (0x80 :: List.replicate (padz m.length) 0) ∧ Bel lo H2 H') ?_ ?_
 ·refine zaF (fun j L H'=>∃ e,L = [e] ∧ Ab lo H' e (0x80 :: List.replicate j 0) ∧ Bel lo H2 H') (padz m.length) ?_ ?_ ?_
  ·exact ⟨_,rfl,a3,b3⟩
  ·rintro j L H4 hj ⟨e,rfl,a4,b4⟩
   have hel:=a4.by.vlen
   have hl:(0x80 :: List.replicate j 0).length = j + 1:=by simp
   rw [hl] at hel
   have gt4:=(b4.same t (hlow2 t (by simp))).trans gt2
   have ej:(((tl m).length:Nat):Int) + ((j + 1:Nat):Int) = (((tl m).length + (j + 1):Nat):Int):=rfl
   have hne:¬ (((((tl m).length + (j + 1):Nat):Int)) % 64 = 56):=by unfold padz at hj; omega
   have n4:=b4.next
   unfold zdz
   simp (disch:=first | omega | (simp only [RY] <;> omega) | decide) only [↓RD,RZ,eq_self,seval,gt4,i8,ebl,hel,ej,hne]
   refine zew (m:=[0]) (a4.keep ((Grow.new _ _).keep _)) (by rw [zaf]; omega) (zb7 rfl) (by rw [hl]; simp; omega) fun e' H5 a5 b5=>?_
   simp (disch:=first | omega | (simp only [RY] <;> omega) | decide) only [↓RD,RZ,eq_self,seval]
   refine ⟨e',rfl,?_,b4.trans (((Grow.new _ _).bel (by omega)).trans b5)⟩
   rw [List.replicate_succ',← List.cons_append]
   exact a5
  ·rintro L H4 ⟨e,rfl,a4,b4⟩
   have hel:=a4.by.vlen
   have hl:(0x80 :: List.replicate (padz m.length) 0).length = padz m.length + 1:=by simp
   rw [hl] at hel
   have gt4:=(b4.same t (hlow2 t (by simp))).trans gt2
   have ej:(((tl m).length:Nat):Int) + ((padz m.length + 1:Nat):Int) = (((tl m).length + (padz m.length + 1):Nat):Int):=rfl
   have hne:((((tl m).length + (padz m.length + 1):Nat):Int)) % 64 = 56:=by unfold padz; omega
   have n4:=b4.next
   unfold zdz
   simp (disch:=first | omega | (simp only [RY] <;> omega) | decide) only [↓RD,RZ,eq_self,seval,gt4,i8,ebl,hel,ej,hne]
   exact ⟨e,rfl,a4,b4⟩
 ·rintro _ H4 ⟨e4,rfl,a4,b4⟩
  have hl4:(0x80 :: List.replicate (padz m.length) 0).length = padz m.length + 1:=by simp
  have hmod:m.length * 8 % 18446744073709551616 = m.length * 8:=Nat.mod_eq_of_lt (by omega)
  simp (disch:=first | omega | (simp only [RY] <;> omega) | decide) only [↓RD,RZ,eq_self,seval]
  refine zar (Q:=fun r H'=>∃ e,r = .ex 2 [e] ∧ Ab lo H' e (pad m.length) ∧ Bel lo H2 H') ?_ ?_
  ·refine zaF (fun j L H'=>∃ w,L = [w, .int .i64 ((7:Int) - (j:Nat))] ∧ Ab lo H' w ((0x80 :: List.replicate (padz m.length) 0) ++ (bn 8 (m.length * 8)).take j) ∧ Bel lo H2 H') 8 ?_ ?_ ?_
   ·exact ⟨e4,rfl,by rw [List.take_zero,List.append_nil]; exact a4,b4⟩
   ·rintro j L H5 hj ⟨w,rfl,a5,b5⟩
    have e1:(7:Int) - (j:Nat) = ((8 - 1 - j:Nat):Int):=by omega
    have e2:(8:Int) * ((8 - 1 - j:Nat):Int) = ((8 * (8 - 1 - j):Nat):Int):=by omega
    have e3:shr (m.length * 8) (8 * (8 - 1 - j)) = m.length * 8 / 256 ^ (8 - 1 - j):=by rw [zfH,Nat.shiftRight_eq_div_pow,Nat.pow_mul]
    have n5:=b5.next
    rw [e1]
    generalize hw:8 - 1 - j = w' at *
    unfold zdy
    have e8:IntKind.u8.wrap ((m.length * 8 / 256 ^ w':Nat):Int) = ((m.length * 8 / 256 ^ w' % 256:Nat):Int):=by rw [wrap_u8]; rfl
    have hlt:((0x80 :: List.replicate (padz m.length) 0) ++ (bn 8 (m.length * 8)).take j).length = padz m.length + 1 + j:=by rw [List.length_append,hl4,List.length_take,zis]; omega
    simp (disch:=first | omega | (simp only [RY] <;> omega) | decide) only [↓RD,RZ,eq_self,seval,e2,e3,e8]
    refine zew (m:=[m.length * 8 / 256 ^ w' % 256]) (a5.keep ((Grow.new _ _).keep _)) (by rw [zaf]; omega) (zb7 rfl) (by rw [hlt]; simp; omega) fun e' H6 a6 b6=>?_
    simp (disch:=first | omega | (simp only [RY] <;> omega) | decide) only [↓RD,RZ,eq_self,seval]
    refine ⟨e',by rw [show ((w':Nat):Int) - 1 = (7:Int) - ((j + 1:Nat):Int) by omega],?_,b5.trans (((Grow.new _ _).bel (by omega)).trans b6)⟩
    rw [zbk (by rw [zis]; exact hj),zuj 8 _ j hj,hw,← List.append_assoc]
    exact a6
   ·rintro L H5 ⟨w,rfl,a5,b5⟩
    have e1:(7:Int) - ((8:Nat):Int) = -1:=by omega
    rw [e1]
    unfold zdy
    simp (disch:=first | omega | (simp only [RY] <;> omega) | decide) only [↓RD,RZ,eq_self,seval]
    refine ⟨w,rfl,?_,b5⟩
    rw [List.take_of_length_le (by rw [zis]; exact Nat.le_refl _)] at a5
    rw [zsZ,hmod]
    exact a5
  ·rintro _ H5 ⟨e5,rfl,a5,b5⟩
   have n5:=b5.next
   have k5:Str H5 t m (t :: c :: Fb):=⟨c,bv,Fb,rfl,k2'.to n5 fun i hi=>b5.same i (hlow2 i hi),hm8⟩
   have hpl:(pad m.length).length ≤ 72:=by rw [zsZ,List.length_append,hl4,zis]; omega
   have hp8:Ok8 (pad m.length):=by
    rw [zsZ]
    refine Ok8.app (fun x hx=>?_) (bn_8 _ _)
    rcases List.mem_cons.1 hx with rfl | hx
    ·decide
    ·rw [List.eq_of_mem_replicate hx]; decide
   simp (disch:=first | omega | (simp only [RY] <;> omega) | decide) only [↓RD,RZ,eq_self,seval]
   refine zah (zrk k5 a5.by hp8 (fun i hi hF=>by have h1:=(a5.by.own i hi).1; have h2:=hlow2 i hF; omega) (by omega)) ?_
   rintro _ H6 ⟨rfl,F6,k6,s6⟩
   obtain ⟨c6,bv6,Fb6,rfl,k6,-⟩:=k6
   have n6:=s6.next
   have hrF:rb ∉ t :: c :: Fb:=by
    intro h
    simp only [List.mem_cons] at h
    rcases h with h | h | h
    ·omega
    ·have:=kF c hcF; omega
    ·have:=hFb rb h; omega
   have gr6:H6.get rb = some ⟨zae,List.replicate 32 (.int .u8 0),none⟩:=by
    rw [s6.same rb (by omega) hrF,b5.same rb (by omega),s2.same rb (by omega)]; exact gr
   have hlow6:=k6.low
   have gt6:=k6.gs
   have f8:=ld8 k6.hl [bv6, .int .u64 ((m ++ pad m.length).length:Nat), .ptr c6 0]
   have ht6:=k6.sl
   have g7:∀ i,i < H6.next → (H6.new ⟨zae,[.int .u8 0, .int .u8 0, .int .u8 0, .int .u8 0, .int .u8 0, .int .u8 0, .int .u8 0, .int .u8 0, .int .u8 0, .int .u8 0, .int .u8 0, .int .u8 0, .int .u8 0, .int .u8 0, .int .u8 0, .int .u8 0, .int .u8 0, .int .u8 0, .int .u8 0, .int .u8 0, .int .u8 0, .int .u8 0, .int .u8 0, .int .u8 0, .int .u8 0, .int .u8 0, .int .u8 0, .int .u8 0, .int .u8 0, .int .u8 0, .int .u8 0, .int .u8 0],none⟩).get i = H6.get i:=fun i hi=>zaX _ _ (by omega)
   have go7:(H6.new ⟨zae,[.int .u8 0, .int .u8 0, .int .u8 0, .int .u8 0, .int .u8 0, .int .u8 0, .int .u8 0, .int .u8 0, .int .u8 0, .int .u8 0, .int .u8 0, .int .u8 0, .int .u8 0, .int .u8 0, .int .u8 0, .int .u8 0, .int .u8 0, .int .u8 0, .int .u8 0, .int .u8 0, .int .u8 0, .int .u8 0, .int .u8 0, .int .u8 0, .int .u8 0, .int .u8 0, .int .u8 0, .int .u8 0, .int .u8 0, .int .u8 0, .int .u8 0, .int .u8 0],none⟩).get H6.next = some ⟨zae,List.replicate 32 (.int .u8 0),none⟩:=zad _ _
   have n7:(H6.new ⟨zae,[.int .u8 0, .int .u8 0, .int .u8 0, .int .u8 0, .int .u8 0, .int .u8 0, .int .u8 0, .int .u8 0, .int .u8 0, .int .u8 0, .int .u8 0, .int .u8 0, .int .u8 0, .int .u8 0, .int .u8 0, .int .u8 0, .int .u8 0, .int .u8 0, .int .u8 0, .int .u8 0, .int .u8 0, .int .u8 0, .int .u8 0, .int .u8 0, .int .u8 0, .int .u8 0, .int .u8 0, .int .u8 0, .int .u8 0, .int .u8 0, .int .u8 0, .int .u8 0],none⟩).next = H6.next + 1:=zaf _ _
   simp (disch:=first | omega | (simp only [RY] <;> omega) | decide) only [↓RD,RZ,eq_self,seval,gt6,f8]
   clear gt6
   generalize ho:H6.next = o at *
   generalize H6.new _ = H7 at *
   refine zar (out_ok k6.hl go7) ?_
   rintro _ H8 ⟨rfl,go8,s8⟩
   have gr8:H8.get rb = some ⟨zae,List.replicate 32 (.int .u8 0),none⟩:=by
    rw [s8.same rb (by omega) (by omega),g7 rb (by omega)]; exact gr6
   have hwl:((zbA (hs kc (m ++ pad m.length))).map by8).length = 32:=by rw [List.length_map,ziu,ztM]
   have l32:ldc (some 32) ((zbA (hs kc (m ++ pad m.length))).map by8) 0 = some (.agg ((zbA (hs kc (m ++ pad m.length))).map by8)):=by
    rw [zc0 (by omega),List.drop_zero,List.take_of_length_le (by omega)]
   have hok:V.okc (.agg ((zbA (hs kc (m ++ pad m.length))).map by8)) = true:=by
    simp only [V.okc,List.all_map,List.all_eq_true]
    try (intro x _; rfl)
   have hsp:∀ L:List V,L.length = 32 → splice L 0 ((zbA (hs kc (m ++ pad m.length))).map by8) = (zbA (hs kc (m ++ pad m.length))).map by8:=fun L hL=>by
    unfold splice
    rw [List.take_zero,List.nil_append,hwl,List.drop_of_length_le (by omega),List.append_nil]
   have hrl:(List.replicate 32 (V.int .u8 0)).length = 32:=rfl
   have hne8:o ≠ rb:=by omega
   simp (disch:=first | omega | (simp only [RY] <;> omega) | decide) only [↓RD,RZ,eq_self,seval,go8,l32,gr8,hok,hwl,hsp,hrl]
   refine ⟨rfl,⟨?_,fun i hi hF=>?_,fun i hi=>.inl hi⟩⟩
   ·have:=s8.next
    rw [zan]; omega
   ·have hi6:i ∉ t :: c :: Fb:=by
     intro h
     simp only [List.mem_cons] at h
     rcases h with h | h | h
     ·omega
     ·exact hF (h ▸ hcF)
     ·have:=hFb i h; omega
    rw [zak _ _ (by omega),s8.same i (by omega) (by omega),g7 i (by omega),s6.same i (by omega) hi6,b5.same i (by omega),s2.same i (by omega),s1.same i (by omega)]
end Go.Ax.SU
/- Su14 -/
namespace Go.Ax.SU
open Go.Ax
theorem zr4 {lo n:Nat} {H:Heap} {v x:V} {vs:List V} (h:Lc 1 lo H v vs n) {i:Nat} (hi:i < n) (hx:vs[i]? = some x):∃ p,(∀ {k:IntKind},Ax.iaddr none 1 v (.int k ((i:Nat):Int)) = some p) ∧ LdR none H p x:=by
 obtain ⟨p,hp,hl⟩:=h.at (i:=((i:Nat):Int)) (by omega) (by omega)
 have hlen:=h.len
 have hil:i < vs.length:=by omega
 have e:(vs.drop (((i:Nat):Int).toNat * 1)).take 1 = [x]:=by
  rw [Int.toNat_natCast,Nat.mul_one,List.drop_eq_getElem_cons hil]
  rw [List.getElem?_eq_getElem hil] at hx
  injection hx with hx
  rw [hx]; rfl
 rw [e] at hl
 refine ⟨p,hp,fun f Q=>?_⟩
 rw [hl.ld0 (by simp)]
 exact zur
def Pts (lo:Nat) (H:Heap) (vs:List V) (ps:List (List Nat)):Prop:=vs.length = ps.length ∧ ∀ (i:Nat) (v:V) (p:List Nat),vs[i]? = some v → ps[i]? = some p → By lo H v p ∧ Ok8 p
theorem Pts.grow {lo:Nat} {H H':Heap} {vs:List V} {ps:List (List Nat)} (h:Pts lo H vs ps) (g:Grow H H'):Pts lo H' vs ps:=⟨h.1,fun i v p hv hp=>⟨(h.2 i v p hv hp).1.ext g,(h.2 i v p hv hp).2⟩⟩
theorem Pts.nil {lo:Nat} {H:Heap}:Pts lo H [] []:=⟨rfl,fun i v p h=>by simp at h⟩
theorem Pts.cons {lo:Nat} {H:Heap} {v:V} {p:List Nat} {vs:List V} {ps:List (List Nat)} (h1:By lo H v p) (h2:Ok8 p) (h:Pts lo H vs ps):Pts lo H (v :: vs) (p :: ps):=by
 refine ⟨by simp [h.1],fun i v' p' hv hp=>?_⟩
 cases i with
 | zero =>
  simp only [List.getElem?_cons_zero,Option.some.injEq] at hv hp
  subst hv hp
  exact ⟨h1,h2⟩
 | succ i=>exact h.2 i v' p' hv hp
theorem zgP {ps:List (List Nat)} {k:Nat} {p:List Nat} (h:ps[k]? = some p):(ps.take (k + 1)).flatten = (ps.take k).flatten ++ p:=by
 rw [List.take_add_one,h]; simp
theorem zeb (ps:List (List Nat)) (k:Nat):(ps.take k).flatten.length ≤ ps.flatten.length:=by
 conv=>rhs; rw [← List.take_append_drop k ps,List.flatten_append,List.length_append]
 omega
theorem ze8 {lo id n:Nat} {H:Heap} {ty:TypeId} {l:List Nat} {o:Option Nat} (h:H.get id = some ⟨ty,l.map by8,o⟩) (hl:l.length = n) (h0:lo ≤ id) (h1:id < H.next):By lo H (.sl id 0 n (.fix n)) l:=by
 subst hl
 refine ⟨?_,fun i hi=>by simp only [V.pid,Option.some.injEq] at hi; subst hi; exact ⟨h0,h1⟩,Nat.le_refl _⟩
 simp only [zbb,h,Option.bind_some]
 rw [if_pos (by simp),List.drop_zero,List.take_of_length_le (by simp)]
theorem Of_ok {H:Heap} {lo:Nat} {v:V} {vs:List V} {ps:List (List Nat)} (hv:Lc 1 lo H v vs vs.length) (hp:Pts 0 H vs ps) (hvn:vs.length ≤ 1000) (hlen:ps.flatten.length ≤ 281474976710656) :
  Ok (sem T ze0 [v]) H fun r H'=>r = .agg ((sha kc ps.flatten).map by8) ∧ Grow H H':=by
 refine zoE ?_
 unfold zl8
 have s1:=Grow.new H ⟨zae,[.int .u8 0, .int .u8 0, .int .u8 0, .int .u8 0, .int .u8 0, .int .u8 0, .int .u8 0, .int .u8 0, .int .u8 0, .int .u8 0, .int .u8 0, .int .u8 0, .int .u8 0, .int .u8 0, .int .u8 0, .int .u8 0, .int .u8 0, .int .u8 0, .int .u8 0, .int .u8 0, .int .u8 0, .int .u8 0, .int .u8 0, .int .u8 0, .int .u8 0, .int .u8 0, .int .u8 0, .int .u8 0, .int .u8 0, .int .u8 0, .int .u8 0, .int .u8 0],none⟩
 have gr:(H.new ⟨zae,[.int .u8 0, .int .u8 0, .int .u8 0, .int .u8 0, .int .u8 0, .int .u8 0, .int .u8 0, .int .u8 0, .int .u8 0, .int .u8 0, .int .u8 0, .int .u8 0, .int .u8 0, .int .u8 0, .int .u8 0, .int .u8 0, .int .u8 0, .int .u8 0, .int .u8 0, .int .u8 0, .int .u8 0, .int .u8 0, .int .u8 0, .int .u8 0, .int .u8 0, .int .u8 0, .int .u8 0, .int .u8 0, .int .u8 0, .int .u8 0, .int .u8 0, .int .u8 0],none⟩).get H.next = some ⟨zae,List.replicate 32 (.int .u8 0),none⟩:=zad _ _
 have nr:(H.new ⟨zae,[.int .u8 0, .int .u8 0, .int .u8 0, .int .u8 0, .int .u8 0, .int .u8 0, .int .u8 0, .int .u8 0, .int .u8 0, .int .u8 0, .int .u8 0, .int .u8 0, .int .u8 0, .int .u8 0, .int .u8 0, .int .u8 0, .int .u8 0, .int .u8 0, .int .u8 0, .int .u8 0, .int .u8 0, .int .u8 0, .int .u8 0, .int .u8 0, .int .u8 0, .int .u8 0, .int .u8 0, .int .u8 0, .int .u8 0, .int .u8 0, .int .u8 0, .int .u8 0],none⟩).next = H.next + 1:=zaf _ _
 have hvl:=hv.vlen
 simp (disch:=first | omega | (simp only [RY] <;> omega) | decide) only [↓RD,RZ,eq_self,seval]
 generalize hrb:H.next = rb at *
 generalize H.new _ = H1 at *
 refine zah New_ok ?_
 rintro _ H2 ⟨s,F,rfl,k2,hF,s2⟩
 have n2:=s2.next
 have g2:Grow H H2:=s1.trans s2
 simp (disch:=first | omega | (simp only [RY] <;> omega) | decide) only [↓RD,RZ,eq_self,seval,hvl]
 refine zar (Q:=fun r H'=>r = .ex 0 [] ∧ ∃ F',Str H' s ps.flatten F' ∧ (∀ i ∈ F',H1.next ≤ i) ∧ Grow H1 H') ?_ ?_
 ·refine zaF (fun j L H'=>L = [.int .i64 (j:Nat)] ∧ ∃ F',Str H' s (ps.take j).flatten F' ∧ (∀ i ∈ F',H1.next ≤ i) ∧ Grow H1 H') vs.length ?_ ?_ ?_
  ·exact ⟨rfl,F,by simpa using k2,hF,s2⟩
  ·rintro j L H3 hj ⟨rfl,F',k3,hF3,s3⟩
   have g3:Grow H H3:=s1.trans s3
   have hx:vs[j]? = some vs[j]:=List.getElem?_eq_getElem hj
   have hq:ps[j]? = some (ps[j]'(by rw [← hp.1]; exact hj)):=List.getElem?_eq_getElem _
   obtain ⟨hby,h8⟩:=hp.2 j _ _ hx hq
   obtain ⟨p,ip,lp⟩:=zr4 (hv.ext g3) hj hx
   have hl1:=zeb ps (j + 1)
   have hft:=zgP hq
   rw [hft,List.length_append] at hl1
   unfold zho
   simp (disch:=first | omega | (simp only [RY] <;> omega) | decide) only [↓RD,RZ,eq_self,seval,ip,lp]
   refine zah (zrk k3 (hby.ext g3) h8 (fun i hi hc=>by have h1:=(hby.own i hi).2; have h2:=hF3 i hc; omega) (by omega)) ?_
   rintro _ H4 ⟨rfl,F4,k4,s4⟩
   rw [← hft] at k4
   simp (disch:=first | omega | (simp only [RY] <;> omega) | decide) only [↓RD,RZ,eq_self,seval]
   refine ⟨rfl,F4,k4,fun i hi=>?_,⟨Nat.le_trans s3.next s4.next,fun i hi=>by rw [s4.same i (by have:=s3.next; omega) (fun hc=>by have:=hF3 i hc; omega),s3.same i hi]⟩⟩
   rcases s4.own i hi with h | h
   ·exact hF3 i h
   ·have:=s3.next; omega
  ·rintro L H3 ⟨rfl,F',k3,hF3,s3⟩
   unfold zho
   simp (disch:=first | omega | (simp only [RY] <;> omega) | decide) only [↓RD,RZ,eq_self,seval]
   refine ⟨F',?_,hF3,s3⟩
   rw [hp.1,List.take_length] at k3
   exact k3
 ·rintro _ H3 ⟨rfl,F',k3,hF3,s3⟩
  have n3:=s3.next
  simp (disch:=first | omega | (simp only [RY] <;> omega) | decide) only [↓RD,RZ,eq_self,seval]
  refine zah (Sum_ok k3 (by omega)) ?_
  rintro _ H4 ⟨rfl,s4⟩
  have n4:=s4.next
  have g4:∀ i,i < H1.next → H4.get i = H1.get i:=fun i hi=>by rw [s4.same i (by omega) (fun hc=>by have:=hF3 i hc; omega),s3.same i hi]
  have gr4:=(g4 rb (by omega)).trans gr
  have hwl:((sha kc ps.flatten).map by8).length = 32:=by rw [List.length_map,zg5]
  have l32:ldc (some 32) ((sha kc ps.flatten).map by8) 0 = some (.agg ((sha kc ps.flatten).map by8)):=by
   rw [zc0 (by omega),List.drop_zero,List.take_of_length_le (by omega)]
  have hok:V.okc (.agg ((sha kc ps.flatten).map by8)) = true:=by
   simp only [V.okc,List.all_map,List.all_eq_true]
   try (intro x _; rfl)
  have hsp:∀ L:List V,L.length = 32 → splice L 0 ((sha kc ps.flatten).map by8) = (sha kc ps.flatten).map by8:=fun L hL=>by
   unfold splice
   rw [List.take_zero,List.nil_append,hwl,List.drop_of_length_le (by omega),List.append_nil]
  have hrl:(List.replicate 32 (V.int .u8 0)).length = 32:=rfl
  simp (disch:=first | omega | (simp only [RY] <;> omega) | decide) only [↓RD,RZ,eq_self,seval,gr4,l32,hok,hwl,hsp,hrl]
  exact ⟨by rw [zan]; omega,fun i hi=>by rw [zak _ _ (by omega),g4 i (by omega),s1.same i (by omega)]⟩
theorem ziA (ks:List UInt32) {key:List Nat} (x:Nat):(kpad ks key x).length = 64:=by
 unfold kpad zc5
 split
 ·rw [List.length_map,List.length_append,List.length_replicate,zg5]
 ·rw [List.length_map,List.length_append,List.length_replicate]; omega
theorem zh5 {A C:List V} {b:V} {k:Nat} (h:A.length = k):(A ++ b :: C)[k]? = some b:=by
 rw [List.getElem?_append_right (by omega),h,Nat.sub_self]; rfl
theorem zh4 {A C:List V} {b y:V} {k:Nat} (h:A.length = k):splice (A ++ b :: C) k [y] = A ++ y :: C:=by
 rw [zkG _ _ _ (by rw [List.length_append,List.length_cons]; omega),List.set_append_right _ _ (by omega),h,Nat.sub_self]; rfl
theorem xor_now {l:List Nat} {k:Nat} (f:Nat → Nat) (hk:k < l.length):((l.take k).map f ++ l.drop k).map by8 = ((l.take k).map f).map by8 ++ by8 (l.getD k 0) :: (l.drop (k + 1)).map by8:=by
 rw [List.drop_eq_getElem_cons hk,List.getD_eq_getElem?_getD,List.getElem?_eq_getElem hk,List.map_append,List.map_cons]; rfl
theorem xor_then {l:List Nat} {k:Nat} (f:Nat → Nat) (hk:k < l.length):((l.take k).map f).map by8 ++ by8 (f (l.getD k 0)) :: (l.drop (k + 1)).map by8 = ((l.take (k + 1)).map f ++ l.drop (k + 1)).map by8:=by
 rw [zbk hk,List.map_append,List.map_append,List.map_append]
 simp
theorem pad_ok {lo:Nat} {H:Heap} {v:V} {l:List Nat} {x:Nat} (hv:By lo H v l) (h8:Ok8 l) (hl:l.length ≤ 64) (hx:x < 256) :
  Ok (sem T zgN [v, .int .u8 (x:Nat)]) H fun r H'=>By H.next H' r ((l ++ List.replicate (64 - l.length) 0).map (· ^^^ x)) ∧ Grow H H':=by
 refine zrI ?_
 unfold zoZ
 refine zap (zkn (l:=64) (c:=64) ⟨by decide,by decide,by decide,by decide⟩ ?_)
 have e64:(64:Int).toNat = 64:=rfl
 rw [e64,zqo]
 have s1:=Grow.new H ⟨zac,List.replicate 64 (.int .u8 0),none⟩
 have g1:(H.new ⟨zac,List.replicate 64 (.int .u8 0),none⟩).get H.next = some ⟨zac,List.replicate 64 (.int .u8 0),none⟩:=zad _ _
 have n1:(H.new ⟨zac,List.replicate 64 (.int .u8 0),none⟩).next = H.next + 1:=zaf _ _
 have hv1:=hv.ext s1
 generalize hid:H.next = id at *
 generalize H.new _ = H1 at *
 have hz8:Ok8 (l ++ List.replicate (64 - l.length) 0):=h8.app (Ok8.rep _)
 have hzl:(l ++ List.replicate (64 - l.length) 0).length = 64:=by rw [List.length_append,List.length_replicate]; omega
 have hcp:mcopy 1 (.sl id 0 64 (.fix 64)) v H1 = some (.int .i64 (l.length:Nat),H1.set id (some ⟨zac,(l ++ List.replicate (64 - l.length) 0).map by8,none⟩)):=by
  unfold mcopy
  rw [hv1.ac]
  simp only [Option.bind_some,g1]
  rw [if_pos (by simp)]
  have e1:min l.length 64 = l.length:=by omega
  have e2:splice (List.replicate 64 (V.int .u8 0)) 0 ((l.map by8).take (l.length * 1)) = (l ++ List.replicate (64 - l.length) 0).map by8:=by
   unfold splice
   rw [List.take_zero,List.nil_append,List.take_of_length_le (by simp),List.length_map,Nat.zero_add,List.drop_replicate,List.map_append,List.map_replicate]
   rfl
  rw [e1,e2]
 generalize hL:l ++ List.replicate (64 - l.length) 0 = L at *
 refine zap ⟨_,_,hcp,?_⟩
 have g2:(H1.set id (some ⟨zac,L.map by8,none⟩)).get id = _:=zaj _ _ _
 have n2:(H1.set id (some ⟨zac,L.map by8,none⟩)).next = H1.next:=zan _ _ _
 have s2:∀ i,i ≠ id → (H1.set id (some ⟨zac,L.map by8,none⟩)).get i = H1.get i:=fun i hi=>zak _ _ hi
 generalize H1.set id _ = H2 at *
 simp (disch:=omega) only [↓RD,RZ,eq_self,seval]
 refine zar (Q:=fun r H'=>r = .ex 0 [] ∧ H'.get id = some ⟨zac,(L.map (· ^^^ x)).map by8,none⟩ ∧ At1 id H2 H') ?_ ?_
 ·refine zaF (fun k L' H'=>L' = [.int .i64 (k:Nat)] ∧ H'.get id = some ⟨zac,((L.take k).map (· ^^^ x) ++ L.drop k).map by8,none⟩ ∧ At1 id H2 H') 64 ?_ ?_ ?_
  ·exact ⟨rfl,by simpa using g2,At1.refl _ _⟩
  ·rintro k _ H3 hk ⟨rfl,g3,s3⟩
   have hA:(((L.take k).map (· ^^^ x)).map by8).length = k:=by rw [List.length_map,List.length_map,List.length_take]; omega
   rw [xor_now _ (by omega)] at g3
   have m1:=zh5 (b:=by8 (L.getD k 0)) (C:=(L.drop (k + 1)).map by8) hA
   have m2:=zh4 (b:=by8 (L.getD k 0)) (y:=by8 (L.getD k 0 ^^^ x)) (C:=(L.drop (k + 1)).map by8) hA
   have ml:(((L.take k).map (· ^^^ x)).map by8 ++ by8 (L.getD k 0) :: (L.drop (k + 1)).map by8).length = 64:=by rw [List.length_append,hA,List.length_cons,List.length_map,List.length_drop]; omega
   have hg:=hz8.getD k
   have ex:Ax.bin .xor (by8 (L.getD k 0)) (.int .u8 (x:Nat)) = some (by8 (L.getD k 0 ^^^ x)):=by
    unfold by8
    rw [zsp (by omega) (by omega) (by omega) (by omega)]
    rfl
   unfold zjj
   simp (disch:=omega) only [↓RD,RZ,eq_self,seval,g3,m1,ex,m2,ml,zcP,zaM]
   refine ⟨by omega,rfl,?_,s3.trans (At1.set id _ _)⟩
   have:=xor_then (l:=L) (k:=k) (· ^^^ x) (by omega)
   rw [← this]
  ·rintro _ H3 ⟨rfl,g3,s3⟩
   unfold zjj
   simp (disch:=omega) only [↓RD,RZ,eq_self,seval]
   refine ⟨?_,s3⟩
   rw [g3,List.take_of_length_le (by omega),List.drop_of_length_le (by omega),List.append_nil]
 ·rintro _ H3 ⟨rfl,g3,s3⟩
  have n3:=s3.next
  simp (disch:=omega) only [↓RD,RZ,eq_self,seval]
  exact ⟨ze8 g3 (by rw [List.length_map]; exact hzl) (Nat.le_refl _) (by omega),⟨by omega,fun i hi=>by rw [s3.same i (by omega) (by omega),s2 i (by omega),s1.same i (by omega)]⟩⟩
end Go.Ax.SU
/- Su15 -/
namespace Go.Ax.SU
open Go.Ax
theorem zaV (l:List Nat):V.okc (.agg (l.map by8)) = true:=by
 simp only [V.okc,List.all_map,List.all_eq_true]
 try (intro x _; rfl)
theorem zai (cs:List V):V.cells (.agg cs) = cs:=rfl
theorem sp32 {l:List Nat} (hl:l.length = 32):splice [.int .u8 0, .int .u8 0, .int .u8 0, .int .u8 0, .int .u8 0, .int .u8 0, .int .u8 0, .int .u8 0, .int .u8 0, .int .u8 0, .int .u8 0, .int .u8 0, .int .u8 0, .int .u8 0, .int .u8 0, .int .u8 0, .int .u8 0, .int .u8 0, .int .u8 0, .int .u8 0, .int .u8 0, .int .u8 0, .int .u8 0, .int .u8 0, .int .u8 0, .int .u8 0, .int .u8 0, .int .u8 0, .int .u8 0, .int .u8 0, .int .u8 0, .int .u8 0] 0 (l.map by8) = l.map by8:=by
 unfold splice
 rw [List.take_zero,List.nil_append,List.length_map,hl]; simp
theorem spr32 {l:List Nat} (hl:l.length = 32):splice (List.replicate 32 (V.int .u8 0)) 0 (l.map by8) = l.map by8:=sp32 hl
theorem ld32 {l:List Nat} (hl:l.length = 32):ldc (some 32) (l.map by8) 0 = some (.agg (l.map by8)):=by
 rw [zc0 (by rw [List.length_map]; omega),List.drop_zero,List.take_of_length_le (by rw [List.length_map]; omega)]
theorem zhw {n id:Nat}:zaz (.arr n) 1 (.ptr id 0) none none none = some (.sl id 0 n (.fix n)):=by
 simp only [zaz,zdp,Option.bind_some,Option.getD_none]
 rw [if_neg (by simp),if_pos (by simp)]
 simp
theorem zh9 {id n:Nat} {H:Heap} {ty:TypeId} {cs:List V} {o:Option Nat} (h:H.get id = some ⟨ty,cs,o⟩) (hl:cs.length = n) (h1:id < H.next):Lc 1 0 H (.sl id 0 n (.fix n)) cs n:=by
 subst hl
 refine ⟨?_,fun i hi=>by simp only [V.pid,Option.some.injEq] at hi; subst hi; exact ⟨Nat.zero_le _,h1⟩,Nat.le_refl _⟩
 simp only [zbb,h,Option.bind_some]
 rw [if_pos (by simp),List.drop_zero,List.take_of_length_le (by simp)]
theorem ziz (ks:List UInt32) (key:List Nat):(zc5 ks key).length ≤ 64:=by
 unfold zc5
 split
 ·rw [zg5]; omega
 ·omega
theorem zlf (ks:List UInt32) {key:List Nat} (h:Ok8 key):Ok8 (zc5 ks key):=by
 unfold zc5
 split
 ·exact zqy _ _
 ·exact h
theorem zqR (ks:List UInt32) {key:List Nat} {x:Nat} (h:Ok8 key) (hx:x < 256):Ok8 (kpad ks key x):=by
 unfold kpad
 intro y hy
 obtain ⟨z,hz,rfl⟩:=List.mem_map.1 hy
 exact za3 ((zlf ks h).app (Ok8.rep _) z hz) hx
theorem zlu {H:Heap} {lo lo':Nat} {kv v:V} {key:List Nat} {vs:List V} {ps:List (List Nat)} (hk:By lo H kv key) (hk8:Ok8 key) (hkl:key.length ≤ 1099511627776) (hv:Lc 1 lo' H v vs vs.length) (hp:Pts 0 H vs ps) (hvn:vs.length ≤ 1000) (hlen:ps.flatten.length ≤ 1099511627776) :
  Ok (sem T zgO [kv,v]) H fun r H'=>r = .agg ((hmac kc key ps.flatten).map by8) ∧ Grow H H':=by
 refine zs9 ?_
 unfold zqY
 have s1:=Grow.new H ⟨zae,[.int .u8 0, .int .u8 0, .int .u8 0, .int .u8 0, .int .u8 0, .int .u8 0, .int .u8 0, .int .u8 0, .int .u8 0, .int .u8 0, .int .u8 0, .int .u8 0, .int .u8 0, .int .u8 0, .int .u8 0, .int .u8 0, .int .u8 0, .int .u8 0, .int .u8 0, .int .u8 0, .int .u8 0, .int .u8 0, .int .u8 0, .int .u8 0, .int .u8 0, .int .u8 0, .int .u8 0, .int .u8 0, .int .u8 0, .int .u8 0, .int .u8 0, .int .u8 0],none⟩
 have gr:(H.new ⟨zae,[.int .u8 0, .int .u8 0, .int .u8 0, .int .u8 0, .int .u8 0, .int .u8 0, .int .u8 0, .int .u8 0, .int .u8 0, .int .u8 0, .int .u8 0, .int .u8 0, .int .u8 0, .int .u8 0, .int .u8 0, .int .u8 0, .int .u8 0, .int .u8 0, .int .u8 0, .int .u8 0, .int .u8 0, .int .u8 0, .int .u8 0, .int .u8 0, .int .u8 0, .int .u8 0, .int .u8 0, .int .u8 0, .int .u8 0, .int .u8 0, .int .u8 0, .int .u8 0],none⟩).get H.next = some ⟨zae,List.replicate 32 (.int .u8 0),none⟩:=zad _ _
 have nr:(H.new ⟨zae,[.int .u8 0, .int .u8 0, .int .u8 0, .int .u8 0, .int .u8 0, .int .u8 0, .int .u8 0, .int .u8 0, .int .u8 0, .int .u8 0, .int .u8 0, .int .u8 0, .int .u8 0, .int .u8 0, .int .u8 0, .int .u8 0, .int .u8 0, .int .u8 0, .int .u8 0, .int .u8 0, .int .u8 0, .int .u8 0, .int .u8 0, .int .u8 0, .int .u8 0, .int .u8 0, .int .u8 0, .int .u8 0, .int .u8 0, .int .u8 0, .int .u8 0, .int .u8 0],none⟩).next = H.next + 1:=zaf _ _
 have hkvl:=hk.vlen
 have hvl:=hv.vlen
 simp (disch:=first | omega | (simp only [RY] <;> omega) | decide) only [↓RD,RZ,eq_self,Int.reduceToNat,Int.reduceAdd,Nat.reduceAdd,Nat.reduceSub,Nat.reduceMul,Nat.reduceLeDiff,hkvl]
 generalize hrb:H.next = rb at *
 generalize H.new _ = H1 at *
 have hk1:=hk.ext s1
 refine zar (Q:=fun r H'=>∃ kv',r = .nrm [kv'] ∧ By 0 H' kv' (zc5 kc key) ∧ Grow H1 H') ?_ ?_
 ·refine zbB (fun h=>?_) fun h=>?_
  ·have hc:=hk1.cells1
   have ho:=hk1.okc
   have s2:=Grow.new H1 ⟨zax,[kv],none⟩
   have l2:Lc 1 0 (H1.new ⟨zax,[kv],none⟩) (.sl H1.next 0 1 (.fix 1)) [kv] 1:=zh9 (zad _ _) rfl (by rw [zaf]; omega)
   have p2:Pts 0 (H1.new ⟨zax,[kv],none⟩) [kv] [key]:=Pts.cons ((hk1.ext s2).low (Nat.zero_le _)) hk8 Pts.nil
   simp (disch:=first | omega | (simp only [RY] <;> omega) | decide) only [↓RD,RZ,eq_self,Int.reduceToNat,Int.reduceAdd,Nat.reduceAdd,Nat.reduceSub,Nat.reduceMul,Nat.reduceLeDiff,hc,ho]
   generalize H1.new _ = H2 at *
   refine zah (Of_ok l2 p2 (by simp) (by simp; omega)) ?_
   rintro _ H3 ⟨rfl,s3⟩
   have ef:[key].flatten = key:=by simp
   rw [ef]
   have hsl:=zg5 kc key
   have hml:((sha kc key).map by8).length = 32:=by rw [List.length_map,hsl]
   have hsp:=sp32 hsl
   simp (disch:=first | omega | (simp only [RY] <;> omega) | decide) only [↓RD,RZ,eq_self,Int.reduceToNat,Int.reduceAdd,Nat.reduceAdd,Nat.reduceSub,Nat.reduceMul,Nat.reduceLeDiff,zaV,zai,hml,hsp,zhw]
   refine ⟨_,rfl,?_,s2.trans (s3.trans ((Grow.new _ _).set (Nat.le_refl _) _))⟩
   have ek:zc5 kc key = sha kc key:=if_pos (by omega)
   rw [ek]
   exact ze8 (zaj _ _ _) hsl (Nat.zero_le _) (by rw [zan,zaf]; omega)
  ·simp (disch:=first | omega | (simp only [RY] <;> omega) | decide) only [↓RD,RZ,eq_self,Int.reduceToNat,Int.reduceAdd,Nat.reduceAdd,Nat.reduceSub,Nat.reduceMul,Nat.reduceLeDiff]
   have ek:zc5 kc key = key:=if_neg (by omega)
   rw [ek]
   exact ⟨kv,rfl,hk1.low (Nat.zero_le _),Grow.refl _⟩
 ·rintro _ H2 ⟨kv',rfl,hk2,s2⟩
  have g2:=s1.trans s2
  simp (disch:=first | omega | (simp only [RY] <;> omega) | decide) only [↓RD,RZ,eq_self,Int.reduceToNat,Int.reduceAdd,Nat.reduceAdd,Nat.reduceSub,Nat.reduceMul,Nat.reduceLeDiff]
  refine zah New_ok ?_
  rintro _ H3 ⟨s,F,rfl,k3,hF,s3⟩
  simp (disch:=first | omega | (simp only [RY] <;> omega) | decide) only [↓RD,RZ,eq_self,Int.reduceToNat,Int.reduceAdd,Nat.reduceAdd,Nat.reduceSub,Nat.reduceMul,Nat.reduceLeDiff]
  refine zah (pad_ok (x:=54) (hk2.ext s3) (zlf kc hk8) (ziz _ _) (by omega)) ?_
  rintro pv H4 ⟨hpv,s4⟩
  have k4:=k3.grow s4
  have hF3:∀ i ∈ F,i < H3.next:=k3.low
  simp (disch:=first | omega | (simp only [RY] <;> omega) | decide) only [↓RD,RZ,eq_self,Int.reduceToNat,Int.reduceAdd,Nat.reduceAdd,Nat.reduceSub,Nat.reduceMul,Nat.reduceLeDiff]
  have hin:(zc5 kc key ++ List.replicate (64 - (zc5 kc key).length) 0).map (· ^^^ 54) = kpad kc key 0x36:=rfl
  rw [hin] at hpv
  have hinl:=ziA kc (key:=key) 0x36
  refine zah (zrk k4 hpv (zqR kc hk8 (by omega)) (fun i hi hc=>by have h1:=(hpv.own i hi).1; have h2:=hF3 i hc; omega) (by rw [hinl]; simp)) ?_
  rintro _ H5 ⟨rfl,F5,k5,s5⟩
  rw [List.nil_append] at k5
  have n3:=s3.next
  have n4:=s4.next
  have n5:=s5.next
  have hF5:∀ i ∈ F5,H2.next ≤ i:=fun i hi=>by
   rcases s5.own i hi with h | h
   ·exact hF i h
   ·omega
  have g5:Grow H2 H5:=⟨by omega,fun i hi=>by rw [s5.same i (by omega) (fun hc=>by have:=hF i hc; omega),s4.same i (by omega),s3.same i hi]⟩
  simp (disch:=first | omega | (simp only [RY] <;> omega) | decide) only [↓RD,RZ,eq_self,Int.reduceToNat,Int.reduceAdd,Nat.reduceAdd,Nat.reduceSub,Nat.reduceMul,Nat.reduceLeDiff,hvl]
  refine zar (Q:=fun r H'=>r = .ex 0 [] ∧ ∃ F',Str H' s (kpad kc key 0x36 ++ ps.flatten) F' ∧ (∀ i ∈ F',H2.next ≤ i) ∧ Grow H2 H') ?_ ?_
  ·refine zaF (fun j L H'=>L = [.int .i64 (j:Nat)] ∧ ∃ F',Str H' s (kpad kc key 0x36 ++ (ps.take j).flatten) F' ∧ (∀ i ∈ F',H2.next ≤ i) ∧ Grow H2 H') vs.length ?_ ?_ ?_
   ·exact ⟨rfl,F5,by simpa using k5,hF5,g5⟩
   ·rintro j L H6 hj ⟨rfl,F',k6,hF6,s6⟩
    have g6:Grow H H6:=g2.trans s6
    have hx:vs[j]? = some vs[j]:=List.getElem?_eq_getElem hj
    have hq:ps[j]? = some (ps[j]'(by rw [← hp.1]; exact hj)):=List.getElem?_eq_getElem _
    obtain ⟨hby,h8⟩:=hp.2 j _ _ hx hq
    obtain ⟨p,ip,lp⟩:=zr4 (hv.ext g6) hj hx
    have hl1:=zeb ps (j + 1)
    have hft:=zgP hq
    rw [hft,List.length_append] at hl1
    have n2:=g2.next
    unfold zkv
    simp (disch:=first | omega | (simp only [RY] <;> omega) | decide) only [↓RD,RZ,eq_self,Int.reduceToNat,Int.reduceAdd,Nat.reduceAdd,Nat.reduceSub,Nat.reduceMul,Nat.reduceLeDiff,ip,lp]
    refine zah (zrk k6 (hby.ext g6) h8 (fun i hi hc=>by have h1:=(hby.own i hi).2; have h2:=hF6 i hc; omega) (by rw [List.length_append,hinl]; omega)) ?_
    rintro _ H7 ⟨rfl,F7,k7,s7⟩
    rw [List.append_assoc,← hft] at k7
    have n6:=s6.next
    simp (disch:=first | omega | (simp only [RY] <;> omega) | decide) only [↓RD,RZ,eq_self,Int.reduceToNat,Int.reduceAdd,Nat.reduceAdd,Nat.reduceSub,Nat.reduceMul,Nat.reduceLeDiff]
    refine ⟨rfl,F7,k7,fun i hi=>?_,⟨Nat.le_trans s6.next s7.next,fun i hi=>by rw [s7.same i (by omega) (fun hc=>by have:=hF6 i hc; omega),s6.same i hi]⟩⟩
    rcases s7.own i hi with h | h
    ·exact hF6 i h
    ·omega
   ·rintro L H6 ⟨rfl,F',k6,hF6,s6⟩
    unfold zkv
    simp (disch:=first | omega | (simp only [RY] <;> omega) | decide) only [↓RD,RZ,eq_self,Int.reduceToNat,Int.reduceAdd,Nat.reduceAdd,Nat.reduceSub,Nat.reduceMul,Nat.reduceLeDiff]
    refine ⟨F',?_,hF6,s6⟩
    rw [hp.1,List.take_length] at k6
    exact k6
  ·rintro _ H6 ⟨rfl,F6,k6,hF6,s6⟩
   have n6:=s6.next
   simp (disch:=first | omega | (simp only [RY] <;> omega) | decide) only [↓RD,RZ,eq_self,Int.reduceToNat,Int.reduceAdd,Nat.reduceAdd,Nat.reduceSub,Nat.reduceMul,Nat.reduceLeDiff]
   refine zah (Sum_ok k6 (by rw [List.length_append,hinl]; omega)) ?_
   rintro _ H7 ⟨rfl,s7⟩
   have n7:=s7.next
   have g7:Grow H2 H7:=⟨by omega,fun i hi=>by rw [s7.same i (by omega) (fun hc=>by have:=hF6 i hc; omega),s6.same i hi]⟩
   have hsl:=zg5 kc (kpad kc key 0x36 ++ ps.flatten)
   have hs8:=zqy kc (kpad kc key 0x36 ++ ps.flatten)
   have hml:((sha kc (kpad kc key 0x36 ++ ps.flatten)).map by8).length = 32:=by rw [List.length_map,hsl]
   have hsp:=sp32 hsl
   have hb8:By 0 ((H7.new ⟨zae,[.int .u8 0, .int .u8 0, .int .u8 0, .int .u8 0, .int .u8 0, .int .u8 0, .int .u8 0, .int .u8 0, .int .u8 0, .int .u8 0, .int .u8 0, .int .u8 0, .int .u8 0, .int .u8 0, .int .u8 0, .int .u8 0, .int .u8 0, .int .u8 0, .int .u8 0, .int .u8 0, .int .u8 0, .int .u8 0, .int .u8 0, .int .u8 0, .int .u8 0, .int .u8 0, .int .u8 0, .int .u8 0, .int .u8 0, .int .u8 0, .int .u8 0, .int .u8 0],none⟩).set H7.next (some ⟨zae,(sha kc (kpad kc key 0x36 ++ ps.flatten)).map by8,none⟩)) (.sl H7.next 0 32 (.fix 32)) (sha kc (kpad kc key 0x36 ++ ps.flatten)):=ze8 (zaj _ _ _) hsl (Nat.zero_le _) (by rw [zan,zaf]; omega)
   have s8:Grow H7 ((H7.new ⟨zae,[.int .u8 0, .int .u8 0, .int .u8 0, .int .u8 0, .int .u8 0, .int .u8 0, .int .u8 0, .int .u8 0, .int .u8 0, .int .u8 0, .int .u8 0, .int .u8 0, .int .u8 0, .int .u8 0, .int .u8 0, .int .u8 0, .int .u8 0, .int .u8 0, .int .u8 0, .int .u8 0, .int .u8 0, .int .u8 0, .int .u8 0, .int .u8 0, .int .u8 0, .int .u8 0, .int .u8 0, .int .u8 0, .int .u8 0, .int .u8 0, .int .u8 0, .int .u8 0],none⟩).set H7.next (some ⟨zae,(sha kc (kpad kc key 0x36 ++ ps.flatten)).map by8,none⟩)):=(Grow.new _ _).set (Nat.le_refl _) _
   simp (disch:=first | omega | (simp only [RY] <;> omega) | decide) only [↓RD,RZ,eq_self,Int.reduceToNat,Int.reduceAdd,Nat.reduceAdd,Nat.reduceSub,Nat.reduceMul,Nat.reduceLeDiff,zaV,zai,hml,hsp,zhw]
   generalize (H7.new _).set _ _ = H8 at *
   refine zah (pad_ok (x:=92) ((hk2.ext g7).ext s8) (zlf kc hk8) (ziz _ _) (by omega)) ?_
   rintro ov H9 ⟨hov,s9⟩
   have hout:(zc5 kc key ++ List.replicate (64 - (zc5 kc key).length) 0).map (· ^^^ 92) = kpad kc key 0x5c:=rfl
   rw [hout] at hov
   have houtl:=ziA kc (key:=key) 0x5c
   have hc9:=hov.cells1
   have ho9:=hov.okc
   have s10:=Grow.new H9 ⟨zax,[ov, .sl H7.next 0 32 (.fix 32)],none⟩
   have l10:Lc 1 0 (H9.new ⟨zax,[ov, .sl H7.next 0 32 (.fix 32)],none⟩) (.sl H9.next 0 2 (.fix 2)) [ov, .sl H7.next 0 32 (.fix 32)] 2:=zh9 (zad _ _) rfl (by rw [zaf]; omega)
   have p10:Pts 0 (H9.new ⟨zax,[ov, .sl H7.next 0 32 (.fix 32)],none⟩) [ov, .sl H7.next 0 32 (.fix 32)] [kpad kc key 0x5c,sha kc (kpad kc key 0x36 ++ ps.flatten)] :=
    Pts.cons ((hov.ext s10).low (Nat.zero_le _)) (zqR kc hk8 (by omega)) (Pts.cons ((hb8.ext s9).ext s10) hs8 Pts.nil)
   simp (disch:=first | omega | (simp only [RY] <;> omega) | decide) only [↓RD,RZ,eq_self,Int.reduceToNat,Int.reduceAdd,Nat.reduceAdd,Nat.reduceSub,Nat.reduceMul,Nat.reduceLeDiff,hc9,ho9]
   generalize H9.new _ = H10 at *
   refine zah (Of_ok l10 p10 (by simp) (by simp [houtl,hsl])) ?_
   rintro _ H11 ⟨rfl,s11⟩
   have ef:[kpad kc key 0x5c,sha kc (kpad kc key 0x36 ++ ps.flatten)].flatten = kpad kc key 0x5c ++ sha kc (kpad kc key 0x36 ++ ps.flatten):=by simp
   rw [ef]
   have eh:sha kc (kpad kc key 0x5c ++ sha kc (kpad kc key 0x36 ++ ps.flatten)) = hmac kc key ps.flatten:=rfl
   rw [eh]
   have hhl:=zc1 kc key ps.flatten
   have g11:Grow H1 H11:=s2.trans (g7.trans (s8.trans (s9.trans (s10.trans s11))))
   have gr11:=(g11.same rb (by omega)).trans gr
   have hml2:((hmac kc key ps.flatten).map by8).length = 32:=by rw [List.length_map,hhl]
   have hsp2:=spr32 hhl
   have l32:=ld32 hhl
   have hrl:(List.replicate 32 (V.int .u8 0)).length = 32:=rfl
   simp (disch:=first | omega | (simp only [RY] <;> omega) | decide) only [↓RD,RZ,eq_self,Int.reduceToNat,Int.reduceAdd,Nat.reduceAdd,Nat.reduceSub,Nat.reduceMul,Nat.reduceLeDiff,gr11,zaV,zai,hml2,hsp2,l32,hrl]
   have n11:=g11.next
   exact ⟨by rw [zan]; omega,fun i hi=>by rw [zak _ _ (by omega),g11.same i (by omega),s1.same i (by omega)]⟩
end Go.Ax.SU
/- Su16 -/
namespace Go.Ax.SU
open Go.Ax
theorem Ab.nil {lo:Nat} {H:Heap}:Ab lo H .nils []:=.app .nil
theorem zni {H:Heap} {lo lo':Nat} {sv kv:V} {salt key:List Nat} (hs:By lo H sv salt) (hs8:Ok8 salt) (hsl:salt.length ≤ 1099511627776) (hk:By lo' H kv key) (hk8:Ok8 key) (hkl:key.length ≤ 1099511627776) :
  Ok (sem T zdU [sv,kv]) H fun r H'=>r = .agg ((hmac kc salt key).map by8) ∧ Grow H H':=by
 refine zmM ?_
 unfold zjY
 have hc:=hk.cells1
 have ho:=hk.okc
 have s1:=Grow.new H ⟨zae,[.int .u8 0, .int .u8 0, .int .u8 0, .int .u8 0, .int .u8 0, .int .u8 0, .int .u8 0, .int .u8 0, .int .u8 0, .int .u8 0, .int .u8 0, .int .u8 0, .int .u8 0, .int .u8 0, .int .u8 0, .int .u8 0, .int .u8 0, .int .u8 0, .int .u8 0, .int .u8 0, .int .u8 0, .int .u8 0, .int .u8 0, .int .u8 0, .int .u8 0, .int .u8 0, .int .u8 0, .int .u8 0, .int .u8 0, .int .u8 0, .int .u8 0, .int .u8 0],none⟩
 have gr:(H.new ⟨zae,[.int .u8 0, .int .u8 0, .int .u8 0, .int .u8 0, .int .u8 0, .int .u8 0, .int .u8 0, .int .u8 0, .int .u8 0, .int .u8 0, .int .u8 0, .int .u8 0, .int .u8 0, .int .u8 0, .int .u8 0, .int .u8 0, .int .u8 0, .int .u8 0, .int .u8 0, .int .u8 0, .int .u8 0, .int .u8 0, .int .u8 0, .int .u8 0, .int .u8 0, .int .u8 0, .int .u8 0, .int .u8 0, .int .u8 0, .int .u8 0, .int .u8 0, .int .u8 0],none⟩).get H.next = some ⟨zae,List.replicate 32 (.int .u8 0),none⟩:=zad _ _
 have nr:(H.new ⟨zae,[.int .u8 0, .int .u8 0, .int .u8 0, .int .u8 0, .int .u8 0, .int .u8 0, .int .u8 0, .int .u8 0, .int .u8 0, .int .u8 0, .int .u8 0, .int .u8 0, .int .u8 0, .int .u8 0, .int .u8 0, .int .u8 0, .int .u8 0, .int .u8 0, .int .u8 0, .int .u8 0, .int .u8 0, .int .u8 0, .int .u8 0, .int .u8 0, .int .u8 0, .int .u8 0, .int .u8 0, .int .u8 0, .int .u8 0, .int .u8 0, .int .u8 0, .int .u8 0],none⟩).next = H.next + 1:=zaf _ _
 simp (disch:=first | omega | (simp only [RY] <;> omega) | decide) only [↓RD,RZ,eq_self,Int.reduceToNat,Int.reduceAdd,Nat.reduceAdd,Nat.reduceSub,Nat.reduceMul,Nat.reduceLeDiff,hc,ho]
 generalize hrb:H.next = rb at *
 generalize H.new _ = H1 at *
 have s2:=Grow.new H1 ⟨zax,[kv],none⟩
 have l2:Lc 1 0 (H1.new ⟨zax,[kv],none⟩) (.sl H1.next 0 1 (.fix 1)) [kv] 1:=zh9 (zad _ _) rfl (by rw [zaf]; omega)
 have p2:Pts 0 (H1.new ⟨zax,[kv],none⟩) [kv] [key]:=Pts.cons (((hk.ext s1).ext s2).low (Nat.zero_le _)) hk8 Pts.nil
 rw [nr] at l2
 generalize H1.new _ = H2 at *
 have ef:[key].flatten = key:=by simp
 refine zah (zlu ((hs.ext s1).ext s2) hs8 hsl l2 p2 (by simp) (by rw [ef]; exact hkl)) ?_
 rintro _ H3 ⟨rfl,s3⟩
 rw [ef]
 have hhl:=zc1 kc salt key
 have g3:Grow H1 H3:=s2.trans s3
 have gr3:=(g3.same rb (by omega)).trans gr
 have hml2:((hmac kc salt key).map by8).length = 32:=by rw [List.length_map,hhl]
 have hsp2:=spr32 hhl
 have l32:=ld32 hhl
 have hrl:(List.replicate 32 (V.int .u8 0)).length = 32:=rfl
 have n3:=g3.next
 simp (disch:=first | omega | (simp only [RY] <;> omega) | decide) only [↓RD,RZ,eq_self,Int.reduceToNat,Int.reduceAdd,Nat.reduceAdd,Nat.reduceSub,Nat.reduceMul,Nat.reduceLeDiff,gr3,zaV,zai,hml2,hsp2,l32,hrl]
 exact ⟨by rw [zan]; omega,fun i hi=>by rw [zak _ _ (by omega),g3.same i (by omega),s1.same i (by omega)]⟩
theorem zgK {H:Heap} (n k:Nat) (hn:n < 18446744073709551616) (hk:k ≤ 16):Ok (sem T zbn [.int .u64 (n:Nat), .int .i64 (k:Nat)]) H fun r H'=>Ab H.next H' r (num n k) ∧ Grow H H':=by
 refine zlJ ?_
 unfold ziT
 simp (disch:=omega) only [↓RD,RZ,eq_self,seval]
 refine zaF (fun m L H'=>∃ w,L = [w, .int .i64 ((k:Int) - 1 - (m:Nat))] ∧ Ab H.next H' w ((bn k n).take m) ∧ Bel H.next H H') k ?_ ?_ ?_
 ·exact ⟨.nils,by simp,Ab.nil,Bel.refl _ _⟩
 ·rintro m L H1 hm ⟨w,rfl,ha,hb⟩
  have e1:(k:Int) - 1 - (m:Nat) = ((k - 1 - m:Nat):Int):=by omega
  have e2:(8:Int) * ((k - 1 - m:Nat):Int) = ((8 * (k - 1 - m):Nat):Int):=by omega
  have e3:shr n (8 * (k - 1 - m)) = n / 256 ^ (k - 1 - m):=by rw [zfH,Nat.shiftRight_eq_div_pow,Nat.pow_mul]
  have hlo1:=hb.next
  have hbg:=zuj k n m hm
  rw [e1]
  generalize hw:k - 1 - m = w' at *
  have e8:IntKind.u8.wrap ((n / 256 ^ w':Nat):Int) = ((n / 256 ^ w' % 256:Nat):Int):=by rw [wrap_u8]; rfl
  unfold zfe
  simp (disch:=omega) only [↓RD,RZ,eq_self,seval,e2,e3,e8]
  refine zew (m:=[n / 256 ^ w' % 256]) (ha.keep ((Grow.new _ _).keep _)) (by rw [zaf]; omega) (zb7 rfl) (by rw [List.length_take,zis]; simp; omega) fun w2 H2 h2 hb2=>?_
  simp (disch:=omega) only [↓RD,RZ,eq_self,seval]
  refine ⟨w2,by rw [show ((w':Nat):Int) - 1 = (k:Int) - 1 - ((m + 1:Nat):Int) by omega],?_,hb.trans (((Grow.new _ _).bel (by omega)).trans hb2)⟩
  rw [zbk (by rw [zis]; exact hm),hbg]
  exact h2
 ·rintro L H1 ⟨w,rfl,ha,hb⟩
  have e1:(k:Int) - 1 - (k:Nat) = -1:=by omega
  rw [e1]
  unfold zfe
  simp (disch:=omega) only [↓RD,RZ,eq_self,seval]
  rw [List.take_of_length_le (by rw [zis]; exact Nat.le_refl _)] at ha
  exact ⟨ha,hb.grow⟩
theorem zmz {H:Heap} {lo lo':Nat} {sv iv:V} {zaH info:List Nat} {n:Nat} (hs:By lo H sv zaH) (hs8:Ok8 zaH) (hsl:zaH.length ≤ 1099511627776) (hi:By lo' H iv info) (hi8:Ok8 info) (hil:info.length ≤ 1099511000000) (hn:n ≤ 8160) :
  Ok (sem T zdG [sv,iv, .int .i64 (n:Nat)]) H fun r H'=>∃ v,r = .tup [v, .int .i64 0] ∧ By H.next H' v ((hkdf kc zaH info ((n + 31) / 32)).1.take n) ∧ Grow H H':=by
 refine znH ?_
 unfold zkT
 simp (disch:=omega) only [↓RD,RZ,eq_self,seval]
 refine zar (Q:=fun r H'=>∃ w,r = .ex 1 [w] ∧ Ab H.next H' w (hkdf kc zaH info ((n + 31) / 32)).1 ∧ Grow H H') ?_ ?_
 ·refine zaF (fun j L H'=>∃ w l,L = [w,l, .int .u8 ((j + 1) % 256:Nat)] ∧ Ab H.next H' w (hkdf kc zaH info j).1 ∧ By 0 H' l (hkdf kc zaH info j).2 ∧ Grow H H') ((n + 31) / 32) ?_ ?_ ?_
  ·exact ⟨.nils, .nils,rfl,Ab.nil,Lc.nil,Grow.refl _⟩
  ·rintro j L H1 hj ⟨w,l,rfl,aw,al,s1⟩
   have hwl:=aw.by.vlen
   have h1:=zfA kc zaH info j
   have h2:=zkt kc zaH info j
   rw [h1] at hwl
   have hjn:((32 * j:Nat):Int) < ((n:Nat):Int):=by omega
   have hj1:(j + 1) % 256 = j + 1:=Nat.mod_eq_of_lt (by omega)
   have hlc:=al.cells1
   have hlo:=al.okc
   have hic:=hi.cells1
   have hio:=hi.okc
   have s2:=Grow.new H1 ⟨zac,[.int .u8 (j + 1:Nat)],none⟩
   have b2:By 0 (H1.new ⟨zac,[.int .u8 (j + 1:Nat)],none⟩) (.sl H1.next 0 1 (.fix 1)) [j + 1]:=ze8 (l:=[j + 1]) (zad _ _) rfl (Nat.zero_le _) (by rw [zaf]; omega)
   have n1:=s1.next
   rw [hj1]
   unfold zgx
   simp (disch:=omega) only [↓RD,RZ,eq_self,seval,hwl,hjn,hlc,hlo,hic,hio]
   have n2e:(H1.new ⟨zac,[.int .u8 (j + 1:Nat)],none⟩).next = H1.next + 1:=zaf _ _
   generalize hb:V.sl H1.next 0 1 (.fix 1) = bv at *
   generalize H1.new _ = H2 at *
   have s3:=Grow.new H2 ⟨zax,[l,iv,bv],none⟩
   have l3:Lc 1 0 (H2.new ⟨zax,[l,iv,bv],none⟩) (.sl H2.next 0 3 (.fix 3)) [l,iv,bv] 3:=zh9 (zad _ _) rfl (by rw [zaf]; omega)
   have p3:Pts 0 (H2.new ⟨zax,[l,iv,bv],none⟩) [l,iv,bv] [(hkdf kc zaH info j).2,info,[j + 1]] :=
    Pts.cons ((al.ext s2).ext s3) h2.2 (Pts.cons ((((hi.ext s1).ext s2).ext s3).low (Nat.zero_le _)) hi8 (Pts.cons (b2.ext s3) (fun x hx=>by simp only [List.mem_cons,List.not_mem_nil,or_false] at hx; omega) Pts.nil))
   have n2:=s2.next
   rw [n2e] at l3
   generalize hv3:V.sl (H1.next + 1) 0 3 (.fix 3) = v3 at *
   generalize H2.new _ = H3 at *
   have ef:[(hkdf kc zaH info j).2,info,[j + 1]].flatten = (hkdf kc zaH info j).2 ++ info ++ [j + 1]:=by simp
   have hl2:(hkdf kc zaH info j).2.length ≤ 32:=by
    cases j with
    | zero=>simp [hkdf]
    | succ j=>exact Nat.le_of_eq (zc1 _ _ _)
   have n3:=s3.next
   have s13:Grow H H3:=s1.trans (s2.trans s3)
   refine zah (zlu (hs.ext s13) hs8 hsl l3 p3 (by simp) (by rw [ef]; simp only [List.length_append,List.length_cons,List.length_nil]; omega)) ?_
   rintro _ H4 ⟨rfl,s4⟩
   rw [ef]
   have eh:(hkdf kc zaH info (j + 1)).2 = hmac kc zaH ((hkdf kc zaH info j).2 ++ info ++ [j + 1]):=rfl
   have eh1:(hkdf kc zaH info (j + 1)).1 = (hkdf kc zaH info j).1 ++ hmac kc zaH ((hkdf kc zaH info j).2 ++ info ++ [j + 1]):=rfl
   rw [← eh]
   rw [← eh] at eh1
   have hhl:(hkdf kc zaH info (j + 1)).2.length = 32:=zc1 _ _ _
   have h28:=(zkt kc zaH info (j + 1)).2
   generalize (hkdf kc zaH info (j + 1)).2 = tg at *
   have hml2:(tg.map by8).length = 32:=by rw [List.length_map,hhl]
   have hsp2:=sp32 hhl
   have b5:By 0 ((H4.new ⟨zae,[.int .u8 0, .int .u8 0, .int .u8 0, .int .u8 0, .int .u8 0, .int .u8 0, .int .u8 0, .int .u8 0, .int .u8 0, .int .u8 0, .int .u8 0, .int .u8 0, .int .u8 0, .int .u8 0, .int .u8 0, .int .u8 0, .int .u8 0, .int .u8 0, .int .u8 0, .int .u8 0, .int .u8 0, .int .u8 0, .int .u8 0, .int .u8 0, .int .u8 0, .int .u8 0, .int .u8 0, .int .u8 0, .int .u8 0, .int .u8 0, .int .u8 0, .int .u8 0],none⟩).set H4.next (some ⟨zae,tg.map by8,none⟩)) (.sl H4.next 0 32 (.fix 32)) tg:=ze8 (zaj _ _ _) hhl (Nat.zero_le _) (by rw [zan,zaf]; omega)
   have s5:Grow H4 ((H4.new ⟨zae,[.int .u8 0, .int .u8 0, .int .u8 0, .int .u8 0, .int .u8 0, .int .u8 0, .int .u8 0, .int .u8 0, .int .u8 0, .int .u8 0, .int .u8 0, .int .u8 0, .int .u8 0, .int .u8 0, .int .u8 0, .int .u8 0, .int .u8 0, .int .u8 0, .int .u8 0, .int .u8 0, .int .u8 0, .int .u8 0, .int .u8 0, .int .u8 0, .int .u8 0, .int .u8 0, .int .u8 0, .int .u8 0, .int .u8 0, .int .u8 0, .int .u8 0, .int .u8 0],none⟩).set H4.next (some ⟨zae,tg.map by8,none⟩)):=(Grow.new _ _).set (Nat.le_refl _) _
   have n4:=s4.next
   simp (disch:=omega) only [↓RD,RZ,eq_self,seval,zaV,zai,hml2,hsp2,zhw]
   generalize hv5:V.sl H4.next 0 32 (.fix 32) = v5 at *
   have hd5:∀ i,w.pid = some i → v5.pid ≠ some i:=fun i h=>by
    rw [← hv5]
    have:=(aw.by.own i h).2
    simp only [V.pid,ne_eq,Option.some.injEq]
    omega
   generalize (H4.new _).set _ _ = H5 at *
   have s15:Grow H1 H5:=s2.trans (s3.trans (s4.trans s5))
   have n5:=s5.next
   refine zkl (aw.keep (s15.keep _)) (by omega) b5.ac (by rw [h1,hhl]; omega) fun w' H6 aw6 b6 s6=>?_
   have ew:IntKind.u8.wrap (((j + 1:Nat):Int) + 1) = (((j + 1 + 1) % 256:Nat):Int):=by rw [wrap_u8]; rfl
   simp (disch:=omega) only [↓RD,RZ,eq_self,seval,ew]
   refine ⟨w',v5,rfl,?_,?_,⟨by have:=b6.next; omega,fun i hi=>by rw [b6.same i hi,s15.same i (by omega),s1.same i hi]⟩⟩
   ·rw [eh1]; exact aw6
   ·exact b5.stepF s6 fun i hi hF=>hd5 i (zhe.1 hF) hi
  ·rintro L H1 ⟨w,l,rfl,aw,al,s1⟩
   have hwl:=aw.by.vlen
   rw [zfA] at hwl
   have hjn:((n:Nat):Int) ≤ ((32 * ((n + 31) / 32):Nat):Int):=by omega
   unfold zgx
   simp (disch:=omega) only [↓RD,RZ,eq_self,seval,hwl,hjn]
   exact ⟨w,rfl,aw,s1⟩
 ·rintro _ H1 ⟨w,rfl,aw,s1⟩
  have hwl:=zfA kc zaH info ((n + 31) / 32)
  obtain ⟨va,-,ha,-,hva,pa⟩:=zbM aw.by (x:=0) (y:=((n:Nat):Int)) (by omega) (by omega) (by rw [hwl]; omega)
  have ha2:∀ {k':IntKind},zaz .sl 1 w none (some (.int k' ((n:Nat):Int))) none = some va:=ha rfl
  have e0:(0:Int).toNat = 0:=rfl
  rw [e0,List.drop_zero,Int.toNat_natCast,Nat.sub_zero] at hva
  have n1:=s1.next
  simp (disch:=omega) only [↓RD,RZ,eq_self,seval,ha2]
  refine zew (lo:=H1.next) Ab.nil (Nat.le_refl _) hva.ac (by rw [List.length_take]; simp; omega) fun v' H2 a2 b2=>?_
  simp (disch:=omega) only [↓RD,RZ,eq_self,seval]
  rw [List.nil_append] at a2
  exact ⟨v',rfl,a2.by.low (by omega),s1.trans b2.grow⟩
end Go.Ax.SU
/- Su17 -/
namespace Go.Ax.SU
open Go.Ax
/-! Products with three,boxes,computed. -/
def tchk (n:Nat):Bool:=match Cp.cs 3 zb6 [by8 n, .int .u8 3] with
 | some (.int .u8 k)=>k == ((t3 n:Nat):Int)
 | _=>false
theorem zsy:(List.range 256).all tchk = true:=by kernel_rfl
theorem times_eq {n:Nat} (h:n < 256):sem T zb6 [by8 n, .int .u8 3] = M.pure (by8 (t3 n)):=by
 have h1:=List.all_eq_true.1 zsy n (List.mem_range.2 h)
 unfold tchk at h1
 split at h1
 ·rename_i b hb
  rw [zjq hb]
  simp only [beq_iff_eq] at h1
  rw [h1]; rfl
 ·cases h1
def bchk (n:Nat):Bool:=match Cp.cs 3 zb5 [by8 n] with
 | some (.int .u8 k)=>k == ((bx n:Nat):Int)
 | _=>false
theorem box_all:(List.range 256).all bchk = true:=by kernel_rfl
theorem box_eq {n:Nat} (h:n < 256):sem T zb5 [by8 n] = M.pure (by8 (bx n)):=by
 have h1:=List.all_eq_true.1 box_all n (List.mem_range.2 h)
 unfold bchk at h1
 split at h1
 ·rename_i b hb
  rw [zjq hb]
  simp only [beq_iff_eq] at h1
  rw [h1]; rfl
 ·cases h1
theorem bg {l:List Nat} {i:Nat} (h:i < l.length):(l.map by8)[i]? = some (by8 (l.getD i 0)):=by
 rw [List.getElem?_map,List.getElem?_eq_getElem h,List.getD_eq_getElem?_getD,List.getElem?_eq_getElem h]; rfl
theorem bga {l:List Nat} {r:List V} {i:Nat} (h:i < l.length):(l.map by8 ++ r)[i]? = some (by8 (l.getD i 0)):=by
 rw [List.getElem?_append_left (by rw [List.length_map]; exact h),bg h]
theorem bset {l:List Nat} {r:List V} {i x:Nat} (h:i < l.length):splice (l.map by8 ++ r) i [by8 x] = (l.set i x).map by8 ++ r:=by
 rw [zkG _ _ _ (by rw [List.length_append,List.length_map]; omega),List.set_append_left _ _ (by rw [List.length_map]; exact h),← List.map_set]
theorem zfi {a b:Nat} (ha:a < 256) (hb:b < 256):Ax.bin .xor (by8 a) (by8 b) = some (by8 (a ^^^ b)):=by
 unfold by8
 rw [zsp (by omega) (by omega) (by omega) (by omega)]; rfl
theorem zkB {n id off m:Nat} (h:m < n):Ax.iaddr (some n) 1 (.ptr id off) (by8 m) = some (.ptr id (off + m)):=by
 unfold by8
 rw [zqV (by omega) (by omega)]; simp
def tabC:Bool → List V
 | false=>.int .u32 0 :: .int .i32 0 :: .int .u32 0 :: List.replicate 256 (.int .u8 0)
 | true=>.int .u32 1 :: .int .i32 0 :: .int .u32 0 :: sbox.map by8
theorem ztA {H:Heap} {b k ty:Nat} {x0 x1 x2:V} {r:List V} (hb:H.get b = some ⟨zbv,[.ptr k 0],none⟩) (hk:H.get k = some ⟨ty,x0 :: x1 :: x2 :: ((zjQ 0).map by8 ++ r),none⟩) (hbk:b ≠ k) (hbl:b < H.next) (hkl:k < H.next) :
  Ok (sem T zcE [.ptr b 0]) H fun _ H'=>H'.get k = some ⟨ty,x0 :: x1 :: x2 :: (sbox.map by8 ++ r),none⟩ ∧ Step H H' [k] [k]:=by
 refine zh3 ?_
 unfold zfs
 refine zap (zaU (by kernel_rfl) ?_)
 have ez:(V.agg (List.replicate 255 (V.int .u8 0))).cells = List.replicate 255 (V.int .u8 0):=rfl
 have s1:=Grow.new H ⟨zcZ,List.replicate 255 (.int .u8 0),none⟩
 have gp:(H.new ⟨zcZ,List.replicate 255 (.int .u8 0),none⟩).get H.next = some ⟨zcZ,List.replicate 255 (.int .u8 0),none⟩:=zad _ _
 have n1:(H.new ⟨zcZ,List.replicate 255 (.int .u8 0),none⟩).next = H.next + 1:=zaf _ _
 have gb1:=(s1.same b hbl).trans hb
 have gk1:=(s1.same k hkl).trans hk
 show Ok _ (H.new ⟨zcZ,List.replicate 255 (.int .u8 0),none⟩) _
 generalize hp:H.next = p at *
 generalize H.new _ = H1 at *
 have hpl:=pwl_len
 have hp8:=zou
 simp (disch:=omega) only [↓RD,RZ,eq_self,seval]
 refine zar (Q:=fun x H'=>x = .ex 0 [] ∧ H'.get p = some ⟨zcZ,pwl.map by8,none⟩ ∧ At1 p H1 H') ?_ ?_
 ·refine zaF (fun j L H'=>∃ x,L = [x, .int .i64 (j:Nat)] ∧ (j < 255 → x = by8 (pwl.getD j 0)) ∧ H'.get p = some ⟨zcZ,(pwl.take j).map by8 ++ List.replicate (255 - j) (.int .u8 0),none⟩ ∧ At1 p H1 H') 255 ?_ ?_ ?_
  ·exact ⟨_,rfl,fun _=>rfl,gp,At1.refl _ _⟩
  ·rintro j L H2 hj ⟨x,rfl,hx,g2,s2⟩
   have hx:=hx hj
   subst hx
   have hlt:((pwl.take j).map by8).length = j:=by rw [List.length_map,List.length_take]; omega
   have h8:=hp8.getD j
   have et:=times_eq h8
   have e:=zaW (z:=.int .u8 0) (x:=by8 (pwl.getD j 0)) hlt hj
   have hll:((pwl.take j).map by8 ++ List.replicate (255 - j) (V.int .u8 0)).length = 255:=by rw [List.length_append,hlt,List.length_replicate]; omega
   unfold zdg
   simp (disch:=omega) only [↓RD,RZ,eq_self,seval,g2,e,et,zcP,zaM,hll]
   refine ⟨by omega,_,rfl,fun h=>?_,?_,s2.trans (At1.set p _ _)⟩
   ·rw [pwl_step (by omega)]
   ·rw [zbk (by omega)]; simp
  ·rintro L H2 ⟨x,rfl,hx,g2,s2⟩
   unfold zdg
   simp (disch:=omega) only [↓RD,RZ,eq_self,seval]
   refine ⟨?_,s2⟩
   rw [g2,List.take_of_length_le (by omega)]; simp
 ·rintro _ H2 ⟨rfl,gp2,s2⟩
  have n2:=s2.next
  have gb2:=(s2.same b (by omega) (by omega)).trans gb1
  have gk2:=(s2.same k (by omega) (by omega)).trans gk1
  have hpm:(pwl.map by8).length = 255:=by rw [List.length_map,hpl]
  have l255:ldc (some 255) (pwl.map by8) 0 = some (.agg (pwl.map by8)):=by rw [zc0 (by omega),List.drop_zero,List.take_of_length_le (by omega)]
  simp (disch:=omega) only [↓RD,RZ,eq_self,seval,gp2,l255]
  refine zar (Q:=fun x H'=>x = .ex 2 [] ∧ H'.get k = some ⟨ty,x0 :: x1 :: x2 :: ((zjQ 255).map by8 ++ r),none⟩ ∧ At1 k H2 H') ?_ ?_
  ·refine zaF (fun j L H'=>L = [.int .i64 (j:Nat)] ∧ H'.get k = some ⟨ty,x0 :: x1 :: x2 :: ((zjQ j).map by8 ++ r),none⟩ ∧ At1 k H2 H') 255 ?_ ?_ ?_
   ·exact ⟨rfl,gk2,At1.refl _ _⟩
   ·rintro j L H3 hj ⟨rfl,g3,s3⟩
    have gb3:=(s3.same b (by omega) hbk).trans gb2
    have gp3:=(s3.same p (by omega) (by omega)).trans gp2
    have e1:=bg (l:=pwl) (i:=j) (by omega)
    have e2:=bg (l:=pwl) (i:=(255 - j) % 255) (by rw [hpl]; exact Nat.mod_lt _ (by decide))
    have e3:(255:Int) - (j:Nat) = ((255 - j:Nat):Int):=by omega
    have e4:((255 - j:Nat):Int) % 255 = (((255 - j) % 255:Nat):Int):=by omega
    have eb:=box_eq (hp8.getD ((255 - j) % 255))
    have h8:=hp8.getD j
    have e5:3 + pwl.getD j 0 = pwl.getD j 0 + 1 + 1 + 1:=by omega
    have e6:=bset (l:=zjQ j) (r:=r) (i:=pwl.getD j 0) (x:=bx (pwl.getD ((255 - j) % 255) 0)) (by rw [zjP]; exact h8)
    have hlm:((zjQ j).map by8 ++ r).length = 256 + r.length:=by rw [List.length_append,List.length_map,zjP]
    have hmod:=Nat.mod_lt (255 - j) (show 0 < 255 by decide)
    have ia:=zkB (id:=k) (off:=3) (n:=256) h8
    unfold zdf
    simp (disch:=omega) only [↓RD,RZ,eq_self,seval,e1,gb3,e3,e4,gp3,e2,eb,ia,e5,g3,zi6,e6,zcP,zaM,hlm]
    exact ⟨by omega,rfl,rfl,s3.trans (At1.set k _ _)⟩
   ·rintro L H3 ⟨rfl,g3,s3⟩
    unfold zdf
    simp (disch:=omega) only [↓RD,RZ,eq_self,seval]
    exact ⟨g3,s3⟩
  ·rintro _ H3 ⟨rfl,g3,s3⟩
   have gb3:=(s3.same b (by omega) hbk).trans gb2
   have eb:=box_eq (n:=0) (by omega)
   have n3:=s3.next
   have e6:=bset (l:=zjQ 255) (r:=r) (i:=0) (x:=bx 0) (by rw [zjP]; omega)
   rw [zt1] at e6
   have hlm:((zjQ 255).map by8 ++ r).length = 256 + r.length:=by rw [List.length_append,List.length_map,zjP]
   have eb0:sem T zb5 [.int .u8 0] = M.pure (by8 (bx 0)):=eb
   simp (disch:=omega) only [↓RD,RZ,eq_self,seval,gb3,eb0,g3,zi6,e6,zcP,zaM,hlm]
   refine ⟨by omega,⟨by rw [zan]; omega,fun i hi hF=>?_,fun i hi=>.inl hi⟩⟩
   simp only [List.mem_singleton] at hF
   rw [zak _ _ hF,s3.same i (by omega) hF,s2.same i (by omega) (by omega),s1.same i (by omega)]
theorem ztz {H:Heap} {k ty:Nat} {d:Bool} {r:List V} (hk:H.get k = some ⟨ty,tabC d ++ r,none⟩) (hkl:k < H.next) :
  Ok (sem T zba [.ptr k 0]) H fun x H'=>x = .ptr k 3 ∧ H'.get k = some ⟨ty,tabC true ++ r,none⟩ ∧ Step H H' [k] [k]:=by
 refine zjd ?_
 unfold zgm
 simp (disch:=omega) only [↓RD,RZ,eq_self,seval]
 have s1:=Grow.new H ⟨zbv,[.ptr k 0],none⟩
 have gb:(H.new ⟨zbv,[.ptr k 0],none⟩).get H.next = _:=zad _ _
 have gk:=(s1.same k hkl).trans hk
 have nb:H.next < (H.new ⟨zbv,[.ptr k 0],none⟩).next:=by rw [zaf]; omega
 have hne:H.next ≠ k:=by omega
 have n1:=s1.next
 generalize hgb:H.next = b at *
 generalize H.new _ = H1 at *
 refine zah (P:=fun x H'=>H'.get b = some ⟨zbv,[.ptr k 0],none⟩ ∧ H'.get k = some ⟨ty,tabC true ++ r,none⟩ ∧ Step H1 H' [k] [k]) ?_ ?_
 ·cases d with
  | true =>
   refine zar (zoB gk rfl) ?_
   rintro _ _ ⟨rfl,rfl⟩
   exact ⟨gb,gk,Step.refl _ _⟩
  | false =>
   refine zar (zoA (P:=fun H'=>H'.get b = some ⟨zbv,[.ptr k 0],none⟩ ∧ H'.get k = some ⟨ty,tabC true ++ r,none⟩ ∧ Step H1 H' [k] [k]) gk rfl rfl ?_) ?_
   ·have e0:List.replicate 256 (V.int .u8 0) = (zjQ 0).map by8:=by unfold zjQ; rw [List.map_replicate]; rfl
    have e1:splice (tabC false ++ r) (0 + 1) [.int .i32 1] = .int .u32 0 :: .int .i32 1 :: .int .u32 0 :: ((zjQ 0).map by8 ++ r):=by
     rw [← e0]; rfl
    refine zar (ztA (k:=k) (ty:=ty) (x0:=.int .u32 0) (x1:=.int .i32 1) (x2:=.int .u32 0) (r:=r) (by rw [zak _ _ hne]; exact gb) (by rw [zaj,e1]) hne (by rw [zan]; exact nb) (by rw [zan]; omega)) ?_
    rintro _ H2 ⟨g2,s2⟩
    have n2:=s2.next
    rw [zan] at n2
    have hb2:H2.get b = some ⟨zbv,[.ptr k 0],none⟩:=by rw [s2.same b (by rw [zan]; exact nb) (by simpa using hne),zak _ _ hne]; exact gb
    refine ⟨_,g2,rfl,rfl,?_,?_,?_⟩
    ·rw [zak _ _ hne,zak _ _ hne,hb2]
    ·rw [zaj]; rfl
    ·exact ((Step.set (H:=H1) _ (by simp:k ∈ [k])).trans s2).trans ((Step.set (H:=H2) _ (by simp:k ∈ [k])).trans (Step.set _ (by simp)))
   ·rintro _ H2 ⟨_,h2⟩
    exact h2
 ·rintro x H2 ⟨g1,g2,s2⟩
  simp (disch:=omega) only [↓RD,RZ,eq_self,seval,g1]
  exact ⟨g2,⟨Nat.le_trans (by omega) s2.next,fun i hi hF=>by rw [s2.same i (by omega) hF,s1.same i (by omega)],fun i hi=>.inl hi⟩⟩
theorem zrR {H:Heap} {k ty:Nat} {r:List V} (hk:H.get k = some ⟨ty,tabC true ++ r,none⟩) (hkl:k < H.next) :
  Ok (sem T zba [.ptr k 0]) H fun x H'=>x = .ptr k 3 ∧ Grow H H':=by
 refine zar (ztz hk hkl) ?_
 rintro _ H' ⟨rfl,g,s⟩
 refine ⟨rfl,⟨s.next,fun i hi=>?_⟩⟩
 by_cases e:i = k
 ·subst e; rw [g,hk]
 ·exact s.same i hi (by simpa using e)
theorem znm {n:Nat} (h:n < 256):sem T za7 [by8 n] = M.pure (by8 (xt n)):=by
 refine zdD fun H=>?_
 refine zmQ ?_
 unfold f_block_twice by8 xt
 by_cases e:128 ≤ n
 ·have e1:n * 2 % 256 < 256:=Nat.mod_lt _ (by decide)
  rw [if_pos e]
  simp (disch:=omega) only [↓RD,RZ,eq_self,seval]
 ·rw [if_neg e,← Nat.mod_eq_of_lt (show n * 2 < 256 by omega)]
  simp (disch:=omega) only [↓RD,RZ,eq_self,seval]
end Go.Ax.SU
/- Su18 -/
namespace Go.Ax.SU
open Go.Ax
def Aes (H:Heap) (k:Nat) (ws:List (List Nat)):Prop:=∃ id,H.get k = some ⟨zaN,tabC true ++ [.sl id 0 ws.length (.opn 4)],none⟩ ∧ H.get id = some ⟨zas,ws.flatten.map by8,some 4⟩ ∧ k < H.next ∧ id < H.next ∧ ∀ w ∈ ws,Word w
theorem Aes.grow {H H':Heap} {k:Nat} {ws:List (List Nat)} (h:Aes H k ws) (g:Grow H H'):Aes H' k ws:=by
 obtain ⟨id,h1,h2,h3,h4,h5⟩:=h
 exact ⟨id,by rw [g.same k h3]; exact h1,by rw [g.same id h4]; exact h2,Nat.lt_of_lt_of_le h3 g.next,Nat.lt_of_lt_of_le h4 g.next,h5⟩
theorem zoQ (wv:V):(tabC true ++ [wv])[259]? = some wv:=by
 rw [List.getElem?_append_right (by show (tabC true).length ≤ 259; unfold tabC; simp only [List.length_cons,List.length_map,zef]; omega)]
 have:(tabC true).length = 259:=by unfold tabC; simp only [List.length_cons,List.length_map,zef]
 rw [this]; rfl
theorem flat4:∀ (ws:List (List Nat)),(∀ w ∈ ws,Word w) → ws.flatten.length = 4 * ws.length:=by
 intro ws
 induction ws with
 | nil=>intro _; rfl
 | cons w ws ih =>
  intro h
  rw [List.flatten_cons,List.length_append,ih (fun w' h'=>h w' (List.mem_cons_of_mem _ h')),(h w (List.mem_cons_self ..)).1,List.length_cons]
  omega
theorem znZ:∀ (ws:List (List Nat)),(∀ w ∈ ws,Word w) → ∀ j m:Nat,m < 4 → ws.flatten.getD (j * 4 + m) 0 = (ws.getD j []).getD m 0:=by
 intro ws
 induction ws with
 | nil=>intro _ j m _; simp
 | cons w ws ih =>
  intro h j m hm
  have hw:=(h w (List.mem_cons_self ..)).1
  cases j with
  | zero =>
   rw [List.flatten_cons,Nat.zero_mul,Nat.zero_add,List.getD_eq_getElem?_getD,List.getElem?_append_left (by omega)]
   simp
  | succ j =>
   rw [List.flatten_cons,List.getD_eq_getElem?_getD,List.getElem?_append_right (by omega),hw,show (j + 1) * 4 + m - 4 = j * 4 + m by omega,← List.getD_eq_getElem?_getD,ih (fun w' h'=>h w' (List.mem_cons_of_mem _ h')) j m hm]
   rfl
theorem zoa {ws:List (List Nat)} (hw:∀ w ∈ ws,Word w) {j m:Nat} (hj:j < ws.length) (hm:m < 4):(ws.flatten.map by8)[j * 4 + m]? = some (by8 ((ws.getD j []).getD m 0)):=by
 rw [bg (by rw [flat4 ws hw]; omega),znZ ws hw j m hm]
theorem zqq {ws:List (List Nat)} (hw:∀ w ∈ ws,Word w) (j m:Nat):(ws.getD j []).getD m 0 < 256:=by
 refine Ok8.getD ?_ _
 rw [List.getD_eq_getElem?_getD]
 cases e:ws[j]? with
 | none=>exact Ok8.nil
 | some w=>exact (hw w (List.mem_of_getElem? e)).2
theorem zeN {x:List Nat} (h:x.length = 16):(x.map by8).length = 16:=by rw [List.length_map,h]
theorem ld16 {l:List Nat} (hl:l.length = 16):ldc (some 16) (l.map by8) 0 = some (.agg (l.map by8)):=by
 rw [zc0 (by rw [List.length_map]; omega),List.drop_zero,List.take_of_length_le (by rw [List.length_map]; omega)]
theorem sp16 {l:List Nat} (hl:l.length = 16) {L:List V} (hL:L.length = 16):splice L 0 (l.map by8) = l.map by8:=by
 unfold splice
 rw [List.take_zero,List.nil_append,List.length_map,hl,List.drop_of_length_le (by omega),List.append_nil]
theorem zmY {x y:List Nat} {i:Nat} (hx:i < x.length):(y.take i ++ x.drop i).map by8 = (y.take i).map by8 ++ by8 (x.getD i 0) :: (x.drop (i + 1)).map by8:=by
 rw [List.drop_eq_getElem_cons hx,List.getD_eq_getElem?_getD,List.getElem?_eq_getElem hx,List.map_append,List.map_cons]; rfl
theorem zke {x y:List Nat} {i:Nat} (hy:i < y.length):(y.take i).map by8 ++ by8 (y.getD i 0) :: (x.drop (i + 1)).map by8 = (y.take (i + 1) ++ x.drop (i + 1)).map by8:=by
 rw [zbk hy,List.map_append,List.map_append]
 simp
theorem zcL (ws:List (List Nat)) (r:Nat) (x:List Nat):(addk ws r x).length = 16:=by simp [addk]
theorem zeg (x:List Nat):(movd x).length = 16:=by simp [movd]
theorem zgd (x:List Nat):(mixd x).length = 16:=by simp [mixd]
theorem zpf {ws:List (List Nat)} (hw:∀ w ∈ ws,Word w) {r:Nat} {x:List Nat} (h:Ok8 x):Ok8 (addk ws r x):=Ok8.rmap fun i _=>za3 (h.getD i) (zqq hw _ _)
theorem ziQ (x:List Nat):Ok8 (movd x):=Ok8.rmap fun i _=>zpp _
theorem ztw {x:List Nat} (h:Ok8 x):Ok8 (mixd x):=Ok8.rmap fun i _=>za3 (za3 (za3 (za3 (zi2 (h.getD _)) (zi2 (h.getD _))) (h.getD _)) (h.getD _)) (h.getD _)
theorem add_ok {H:Heap} {k r:Nat} {ws:List (List Nat)} {x:List Nat} (hA:Aes H k ws) (hx:x.length = 16) (h8:Ok8 x) (hr:4 * r + 3 < ws.length) (hwl:ws.length ≤ 1000) :
  Ok (sem T zc8 [.ptr k 0, .agg (x.map by8), .int .i64 (r:Nat)]) H fun res H'=>res = .agg ((addk ws r x).map by8) ∧ Grow H H':=by
 refine zk4 ?_
 unfold zin
 refine zap (zaU (zaV _) ?_)
 rw [zai]
 have s1:=Grow.new H ⟨zaa,x.map by8,none⟩
 have g1:(H.new ⟨zaa,x.map by8,none⟩).get H.next = some ⟨zaa,x.map by8,none⟩:=zad _ _
 have n1:(H.new ⟨zaa,x.map by8,none⟩).next = H.next + 1:=zaf _ _
 generalize ha:H.next = a at *
 generalize H.new _ = H1 at *
 have s2:=Grow.new H1 ⟨zaa,[.int .u8 0, .int .u8 0, .int .u8 0, .int .u8 0, .int .u8 0, .int .u8 0, .int .u8 0, .int .u8 0, .int .u8 0, .int .u8 0, .int .u8 0, .int .u8 0, .int .u8 0, .int .u8 0, .int .u8 0, .int .u8 0],none⟩
 have g2:(H1.new ⟨zaa,[.int .u8 0, .int .u8 0, .int .u8 0, .int .u8 0, .int .u8 0, .int .u8 0, .int .u8 0, .int .u8 0, .int .u8 0, .int .u8 0, .int .u8 0, .int .u8 0, .int .u8 0, .int .u8 0, .int .u8 0, .int .u8 0],none⟩).get H1.next = some ⟨zaa,[.int .u8 0, .int .u8 0, .int .u8 0, .int .u8 0, .int .u8 0, .int .u8 0, .int .u8 0, .int .u8 0, .int .u8 0, .int .u8 0, .int .u8 0, .int .u8 0, .int .u8 0, .int .u8 0, .int .u8 0, .int .u8 0],none⟩:=zad _ _
 have n2:(H1.new ⟨zaa,[.int .u8 0, .int .u8 0, .int .u8 0, .int .u8 0, .int .u8 0, .int .u8 0, .int .u8 0, .int .u8 0, .int .u8 0, .int .u8 0, .int .u8 0, .int .u8 0, .int .u8 0, .int .u8 0, .int .u8 0, .int .u8 0],none⟩).next = H1.next + 1:=zaf _ _
 have ga2:=(s2.same a (by omega)).trans g1
 have hA2:=(hA.grow s1).grow s2
 simp (disch:=omega) only [↓RD,RZ,eq_self,seval]
 generalize hb:H1.next = b at *
 generalize H1.new _ = H2 at *
 obtain ⟨id,k1,k2,k3,k4,hw⟩:=hA2
 have hkk:k < a ∧ id < a:=by
  obtain ⟨id',k1',k2',k3',k4',hw'⟩:=hA
  have e1:=(s2.same k (by omega)).trans ((s1.same k (by omega)).trans k1')
  rw [k1] at e1
  injection e1 with e1
  injection e1 with _ e1 _
  have e2:=List.append_cancel_left e1
  injection e2 with e2
  injection e2 with e2
  omega
 refine zar (Q:=fun z H'=>z = .ex 0 [] ∧ H'.get a = some ⟨zaa,(addk ws r x).map by8,none⟩ ∧ At1 a H2 H') ?_ ?_
 ·refine zaF (fun i L H'=>L = [.int .i64 (i:Nat)] ∧ H'.get a = some ⟨zaa,((addk ws r x).take i ++ x.drop i).map by8,none⟩ ∧ At1 a H2 H') 16 ?_ ?_ ?_
  ·exact ⟨rfl,by simpa using ga2,At1.refl _ _⟩
  ·rintro i L H3 hi ⟨rfl,g3,s3⟩
   have gk3:=(s3.same k (by omega) (by omega)).trans k1
   have gi3:=(s3.same id (by omega) (by omega)).trans k2
   have hal:=zcL ws r x
   have hA':(((addk ws r x).take i).map by8).length = i:=by rw [List.length_map,List.length_take]; omega
   rw [zmY (by omega)] at g3
   have m1:=zh5 (b:=by8 (x.getD i 0)) (C:=(x.drop (i + 1)).map by8) hA'
   have m2:=zh4 (b:=by8 (x.getD i 0)) (y:=by8 ((addk ws r x).getD i 0)) (C:=(x.drop (i + 1)).map by8) hA'
   have ml:(((addk ws r x).take i).map by8 ++ by8 (x.getD i 0) :: (x.drop (i + 1)).map by8).length = 16:=by rw [List.length_append,hA',List.length_cons,List.length_map,List.length_drop]; omega
   have ek:=zoQ (.sl id 0 ws.length (.opn 4))
   have e1:(4:Int) * (r:Nat) = ((4 * r:Nat):Int):=by omega
   have e2:((i:Nat):Int) / 4 = ((i / 4:Nat):Int):=by omega
   have e3:((4 * r:Nat):Int) + ((i / 4:Nat):Int) = ((4 * r + i / 4:Nat):Int):=by omega
   have e4:((i:Nat):Int) % 4 = ((i % 4:Nat):Int):=by omega
   have hm4:=Nat.mod_lt i (show 0 < 4 by decide)
   have wb:=zoa hw (j:=4 * r + i / 4) (m:=i % 4) (by omega) hm4
   have ex:=zfi (h8.getD i) (zqq hw (4 * r + i / 4) (i % 4))
   have ea:x.getD i 0 ^^^ (ws.getD (4 * r + i / 4) []).getD (i % 4) 0 = (addk ws r x).getD i 0:=by unfold addk; rw [zcc hi]
   rw [ea] at ex
   unfold zeK
   simp (disch:=omega) only [↓RD,RZ,eq_self,seval,g3,m1,gk3,ek,e1,e2,e3,e4,gi3,wb,ex,m2,ml,zcP,zaM]
   refine ⟨by omega,rfl,?_,s3.trans (At1.set a _ _)⟩
   rw [zke (by omega)]
  ·rintro L H3 ⟨rfl,g3,s3⟩
   unfold zeK
   simp (disch:=omega) only [↓RD,RZ,eq_self,seval]
   refine ⟨?_,s3⟩
   rw [g3,List.take_of_length_le (by rw [zcL]; omega),List.drop_of_length_le (by omega),List.append_nil]
 ·rintro _ H3 ⟨rfl,g3,s3⟩
  have n3:=s3.next
  have gb3:=(s3.same b (by omega) (by omega)).trans g2
  have hal:=zcL ws r x
  have l1:=ld16 hal
  have l2:=sp16 hal (L:=[.int .u8 0, .int .u8 0, .int .u8 0, .int .u8 0, .int .u8 0, .int .u8 0, .int .u8 0, .int .u8 0, .int .u8 0, .int .u8 0, .int .u8 0, .int .u8 0, .int .u8 0, .int .u8 0, .int .u8 0, .int .u8 0]) rfl
  have l3:=zeN hal
  simp (disch:=omega) only [↓RD,RZ,eq_self,seval,g3,l1,gb3,zaV,zai,l2,l3]
  exact ⟨by rw [zan]; omega,fun i hi=>by rw [zak _ _ (by omega),s3.same i (by omega) (by omega),s2.same i (by omega),s1.same i (by omega)]⟩
end Go.Ax.SU
/- Su19 -/
namespace Go.Ax.SU
open Go.Ax
theorem tab_at {wv:V} {n:Nat} (h:n < 256):(tabC true ++ [wv])[3 + n]? = some (by8 (sb n)):=by
 have e:tabC true ++ [wv] = .int .u32 1 :: .int .i32 0 :: .int .u32 0 :: (sbox.map by8 ++ [wv]):=rfl
 rw [e,show 3 + n = n + 1 + 1 + 1 by omega]
 rw [List.getElem?_cons_succ,List.getElem?_cons_succ,List.getElem?_cons_succ,bga (by rw [zef]; exact h)]
 rfl
theorem moved_ok {H:Heap} {k:Nat} {ws:List (List Nat)} {x:List Nat} (hA:Aes H k ws) (hx:x.length = 16) (h8:Ok8 x) :
  Ok (sem T zdl [.ptr k 0, .agg (x.map by8)]) H fun res H'=>res = .agg ((movd x).map by8) ∧ Grow H H':=by
 refine zjF ?_
 unfold zgX
 refine zap (zaU (zaV _) ?_)
 rw [zai]
 have s1:=Grow.new H ⟨zaa,x.map by8,none⟩
 have g1:(H.new ⟨zaa,x.map by8,none⟩).get H.next = some ⟨zaa,x.map by8,none⟩:=zad _ _
 have n1:(H.new ⟨zaa,x.map by8,none⟩).next = H.next + 1:=zaf _ _
 generalize ha:H.next = a at *
 generalize H.new _ = H1 at *
 have s2:=Grow.new H1 ⟨zaa,[.int .u8 0, .int .u8 0, .int .u8 0, .int .u8 0, .int .u8 0, .int .u8 0, .int .u8 0, .int .u8 0, .int .u8 0, .int .u8 0, .int .u8 0, .int .u8 0, .int .u8 0, .int .u8 0, .int .u8 0, .int .u8 0],none⟩
 have g2:(H1.new ⟨zaa,[.int .u8 0, .int .u8 0, .int .u8 0, .int .u8 0, .int .u8 0, .int .u8 0, .int .u8 0, .int .u8 0, .int .u8 0, .int .u8 0, .int .u8 0, .int .u8 0, .int .u8 0, .int .u8 0, .int .u8 0, .int .u8 0],none⟩).get H1.next = some ⟨zaa,[.int .u8 0, .int .u8 0, .int .u8 0, .int .u8 0, .int .u8 0, .int .u8 0, .int .u8 0, .int .u8 0, .int .u8 0, .int .u8 0, .int .u8 0, .int .u8 0, .int .u8 0, .int .u8 0, .int .u8 0, .int .u8 0],none⟩:=zad _ _
 have n2:(H1.new ⟨zaa,[.int .u8 0, .int .u8 0, .int .u8 0, .int .u8 0, .int .u8 0, .int .u8 0, .int .u8 0, .int .u8 0, .int .u8 0, .int .u8 0, .int .u8 0, .int .u8 0, .int .u8 0, .int .u8 0, .int .u8 0, .int .u8 0],none⟩).next = H1.next + 1:=zaf _ _
 have ga2:=(s2.same a (by omega)).trans g1
 have hA2:=(hA.grow s1).grow s2
 simp (disch:=omega) only [↓RD,RZ,eq_self,seval]
 generalize hb:H1.next = b at *
 generalize H1.new _ = H2 at *
 obtain ⟨id,k1,k2,k3,k4,hw⟩:=hA2
 refine zah (zrR k1 k3) ?_
 rintro _ H3 ⟨rfl,s3⟩
 have n3:=s3.next
 have gk3:=(s3.same k k3).trans k1
 have ga3:=(s3.same a (by omega)).trans ga2
 have gb3:=(s3.same b (by omega)).trans g2
 have s4:=Grow.new H3 ⟨zaa,[.int .u8 0, .int .u8 0, .int .u8 0, .int .u8 0, .int .u8 0, .int .u8 0, .int .u8 0, .int .u8 0, .int .u8 0, .int .u8 0, .int .u8 0, .int .u8 0, .int .u8 0, .int .u8 0, .int .u8 0, .int .u8 0],none⟩
 have g4:(H3.new ⟨zaa,[.int .u8 0, .int .u8 0, .int .u8 0, .int .u8 0, .int .u8 0, .int .u8 0, .int .u8 0, .int .u8 0, .int .u8 0, .int .u8 0, .int .u8 0, .int .u8 0, .int .u8 0, .int .u8 0, .int .u8 0, .int .u8 0],none⟩).get H3.next = some ⟨zaa,List.replicate 16 (.int .u8 0),none⟩:=zad _ _
 have n4:(H3.new ⟨zaa,[.int .u8 0, .int .u8 0, .int .u8 0, .int .u8 0, .int .u8 0, .int .u8 0, .int .u8 0, .int .u8 0, .int .u8 0, .int .u8 0, .int .u8 0, .int .u8 0, .int .u8 0, .int .u8 0, .int .u8 0, .int .u8 0],none⟩).next = H3.next + 1:=zaf _ _
 have gk4:=(s4.same k (by omega)).trans gk3
 have ga4:=(s4.same a (by omega)).trans ga3
 have gb4:=(s4.same b (by omega)).trans gb3
 simp (disch:=omega) only [↓RD,RZ,eq_self,seval]
 generalize hc:H3.next = c at *
 generalize H3.new _ = H4 at *
 have hml:=zeg x
 refine zar (Q:=fun z H'=>z = .ex 0 [] ∧ H'.get c = some ⟨zaa,(movd x).map by8,none⟩ ∧ At1 c H4 H') ?_ ?_
 ·refine zaF (fun i L H'=>L = [.int .i64 (i:Nat)] ∧ H'.get c = some ⟨zaa,((movd x).take i).map by8 ++ List.replicate (16 - i) (.int .u8 0),none⟩ ∧ At1 c H4 H') 16 ?_ ?_ ?_
  ·exact ⟨rfl,by simpa using g4,At1.refl _ _⟩
  ·rintro i L H5 hi ⟨rfl,g5,s5⟩
   have gk5:=(s5.same k (by omega) (by omega)).trans gk4
   have ga5:=(s5.same a (by omega) (by omega)).trans ga4
   have hl0:(((movd x).take i).map by8).length = i:=by rw [List.length_map,List.length_take]; omega
   have x0:=zaW (z:=.int .u8 0) (x:=by8 ((movd x).getD i 0)) hl0 hi
   have ml:(((movd x).take i).map by8 ++ List.replicate (16 - i) (V.int .u8 0)).length = 16:=by rw [List.length_append,hl0,List.length_replicate]; omega
   have e1:((i:Nat):Int) % 4 = ((i % 4:Nat):Int):=by omega
   have e2:(4:Int) * ((i % 4:Nat):Int) = ((4 * (i % 4):Nat):Int):=by omega
   have e3:((i:Nat):Int) + ((4 * (i % 4):Nat):Int) = ((i + 4 * (i % 4):Nat):Int):=by omega
   have e4:((i + 4 * (i % 4):Nat):Int) % 16 = (((i + 4 * (i % 4)) % 16:Nat):Int):=by omega
   have hm:=Nat.mod_lt (i + 4 * (i % 4)) (show 0 < 16 by decide)
   have hm4:=Nat.mod_lt i (show 0 < 4 by decide)
   have eg:=bg (l:=x) (i:=(i + 4 * (i % 4)) % 16) (by omega)
   have hb8:=h8.getD ((i + 4 * (i % 4)) % 16)
   have ia:=zkB (id:=k) (off:=3) (n:=256) hb8
   have et:=tab_at (wv:=.sl id 0 ws.length (.opn 4)) hb8
   have em:sb (x.getD ((i + 4 * (i % 4)) % 16) 0) = (movd x).getD i 0:=by unfold movd; rw [zcc hi]
   rw [em] at et
   unfold zd4
   simp (disch:=omega) only [↓RD,RZ,eq_self,seval,e1,e2,e3,e4,ga5,eg,ia,gk5,et,g5,x0,ml,zcP,zaM]
   refine ⟨by omega,rfl,?_,s5.trans (At1.set c _ _)⟩
   rw [zbk (by omega)]; simp
  ·rintro L H5 ⟨rfl,g5,s5⟩
   unfold zd4
   simp (disch:=omega) only [↓RD,RZ,eq_self,seval]
   refine ⟨?_,s5⟩
   rw [g5,List.take_of_length_le (by omega)]; simp
 ·rintro _ H5 ⟨rfl,g5,s5⟩
  have n5:=s5.next
  have gb5:=(s5.same b (by omega) (by omega)).trans gb4
  have l1:=ld16 hml
  have l2:=sp16 hml (L:=[.int .u8 0, .int .u8 0, .int .u8 0, .int .u8 0, .int .u8 0, .int .u8 0, .int .u8 0, .int .u8 0, .int .u8 0, .int .u8 0, .int .u8 0, .int .u8 0, .int .u8 0, .int .u8 0, .int .u8 0, .int .u8 0]) rfl
  have l3:=zeN hml
  simp (disch:=omega) only [↓RD,RZ,eq_self,seval,g5,l1,gb5,zaV,zai,l2,l3]
  exact ⟨by rw [zan]; omega,fun i hi=>by rw [zak _ _ (by omega),s5.same i (by omega) (by omega),s4.same i (by omega),s3.same i (by omega),s2.same i (by omega),s1.same i (by omega)]⟩
theorem mixed_ok {H:Heap} {x:List Nat} (hx:x.length = 16) (h8:Ok8 x) :
  Ok (sem T zeT [.agg (x.map by8)]) H fun res H'=>res = .agg ((mixd x).map by8) ∧ Grow H H':=by
 refine zmR ?_
 unfold zj3
 refine zap (zaU (zaV _) ?_)
 rw [zai]
 have s1:=Grow.new H ⟨zaa,x.map by8,none⟩
 have g1:(H.new ⟨zaa,x.map by8,none⟩).get H.next = some ⟨zaa,x.map by8,none⟩:=zad _ _
 have n1:(H.new ⟨zaa,x.map by8,none⟩).next = H.next + 1:=zaf _ _
 generalize ha:H.next = a at *
 generalize H.new _ = H1 at *
 refine zap (zaU (by rfl) ?_)
 have s2:=Grow.new H1 ⟨zaa,[.int .u8 0, .int .u8 0, .int .u8 0, .int .u8 0, .int .u8 0, .int .u8 0, .int .u8 0, .int .u8 0, .int .u8 0, .int .u8 0, .int .u8 0, .int .u8 0, .int .u8 0, .int .u8 0, .int .u8 0, .int .u8 0],none⟩
 have g2:(H1.new ⟨zaa,[.int .u8 0, .int .u8 0, .int .u8 0, .int .u8 0, .int .u8 0, .int .u8 0, .int .u8 0, .int .u8 0, .int .u8 0, .int .u8 0, .int .u8 0, .int .u8 0, .int .u8 0, .int .u8 0, .int .u8 0, .int .u8 0],none⟩).get H1.next = some ⟨zaa,[.int .u8 0, .int .u8 0, .int .u8 0, .int .u8 0, .int .u8 0, .int .u8 0, .int .u8 0, .int .u8 0, .int .u8 0, .int .u8 0, .int .u8 0, .int .u8 0, .int .u8 0, .int .u8 0, .int .u8 0, .int .u8 0],none⟩:=zad _ _
 have n2:(H1.new ⟨zaa,[.int .u8 0, .int .u8 0, .int .u8 0, .int .u8 0, .int .u8 0, .int .u8 0, .int .u8 0, .int .u8 0, .int .u8 0, .int .u8 0, .int .u8 0, .int .u8 0, .int .u8 0, .int .u8 0, .int .u8 0, .int .u8 0],none⟩).next = H1.next + 1:=zaf _ _
 have ga2:=(s2.same a (by omega)).trans g1
 rw [zai]
 generalize hb:H1.next = b at *
 generalize H1.new _ = H2 at *
 refine zap (zaU (by rfl) ?_)
 have s4:=Grow.new H2 ⟨zaa,[.int .u8 0, .int .u8 0, .int .u8 0, .int .u8 0, .int .u8 0, .int .u8 0, .int .u8 0, .int .u8 0, .int .u8 0, .int .u8 0, .int .u8 0, .int .u8 0, .int .u8 0, .int .u8 0, .int .u8 0, .int .u8 0],none⟩
 have g4:(H2.new ⟨zaa,[.int .u8 0, .int .u8 0, .int .u8 0, .int .u8 0, .int .u8 0, .int .u8 0, .int .u8 0, .int .u8 0, .int .u8 0, .int .u8 0, .int .u8 0, .int .u8 0, .int .u8 0, .int .u8 0, .int .u8 0, .int .u8 0],none⟩).get H2.next = some ⟨zaa,List.replicate 16 (.int .u8 0),none⟩:=zad _ _
 have n4:(H2.new ⟨zaa,[.int .u8 0, .int .u8 0, .int .u8 0, .int .u8 0, .int .u8 0, .int .u8 0, .int .u8 0, .int .u8 0, .int .u8 0, .int .u8 0, .int .u8 0, .int .u8 0, .int .u8 0, .int .u8 0, .int .u8 0, .int .u8 0],none⟩).next = H2.next + 1:=zaf _ _
 have ga4:=(s4.same a (by omega)).trans ga2
 have gb4:=(s4.same b (by omega)).trans g2
 rw [zai]
 generalize hc:H2.next = c at *
 generalize H2.new _ = H4 at *
 have hml:=zgd x
 simp (disch:=omega) only [↓RD,RZ,eq_self,seval]
 refine zar (Q:=fun z H'=>z = .ex 0 [] ∧ H'.get c = some ⟨zaa,(mixd x).map by8,none⟩ ∧ At1 c H4 H') ?_ ?_
 ·refine zaF (fun i L H'=>L = [.int .i64 (i:Nat)] ∧ H'.get c = some ⟨zaa,((mixd x).take i).map by8 ++ List.replicate (16 - i) (.int .u8 0),none⟩ ∧ At1 c H4 H') 16 ?_ ?_ ?_
  ·exact ⟨rfl,by simpa using g4,At1.refl _ _⟩
  ·rintro i L H5 hi ⟨rfl,g5,s5⟩
   have ga5:=(s5.same a (by omega) (by omega)).trans ga4
   have hl0:(((mixd x).take i).map by8).length = i:=by rw [List.length_map,List.length_take]; omega
   have x0:=zaW (z:=.int .u8 0) (x:=by8 ((mixd x).getD i 0)) hl0 hi
   have ml:(((mixd x).take i).map by8 ++ List.replicate (16 - i) (V.int .u8 0)).length = 16:=by rw [List.length_append,hl0,List.length_replicate]; omega
   have e1:((i:Nat):Int) % 4 = ((i % 4:Nat):Int):=by omega
   have e2:((i:Nat):Int) - ((i % 4:Nat):Int) = ((i - i % 4:Nat):Int):=by omega
   have f1:(((i:Nat):Int) + 1) % 4 = (((i + 1) % 4:Nat):Int):=by omega
   have f2:(((i:Nat):Int) + 2) % 4 = (((i + 2) % 4:Nat):Int):=by omega
   have f3:(((i:Nat):Int) + 3) % 4 = (((i + 3) % 4:Nat):Int):=by omega
   have k1:((i - i % 4:Nat):Int) + (((i + 1) % 4:Nat):Int) = ((i - i % 4 + (i + 1) % 4:Nat):Int):=rfl
   have k2:((i - i % 4:Nat):Int) + (((i + 2) % 4:Nat):Int) = ((i - i % 4 + (i + 2) % 4:Nat):Int):=rfl
   have k3:((i - i % 4:Nat):Int) + (((i + 3) % 4:Nat):Int) = ((i - i % 4 + (i + 3) % 4:Nat):Int):=rfl
   have m0:i - i % 4 ≤ 12:=by omega
   have m1:=Nat.mod_lt (i + 1) (show 0 < 4 by decide)
   have m2:=Nat.mod_lt (i + 2) (show 0 < 4 by decide)
   have m3:=Nat.mod_lt (i + 3) (show 0 < 4 by decide)
   have b0:=bg (l:=x) (i:=i) (by omega)
   have b1:=bg (l:=x) (i:=i - i % 4 + (i + 1) % 4) (by omega)
   have b2:=bg (l:=x) (i:=i - i % 4 + (i + 2) % 4) (by omega)
   have b3:=bg (l:=x) (i:=i - i % 4 + (i + 3) % 4) (by omega)
   have q0:=h8.getD i
   have q1:=h8.getD (i - i % 4 + (i + 1) % 4)
   have q2:=h8.getD (i - i % 4 + (i + 2) % 4)
   have q3:=h8.getD (i - i % 4 + (i + 3) % 4)
   have w0:=znm q0
   have w1:=znm q1
   have x1:=zfi (zi2 q0) (zi2 q1)
   have x2:=zfi (za3 (zi2 q0) (zi2 q1)) q1
   have x3:=zfi (za3 (za3 (zi2 q0) (zi2 q1)) q1) q2
   have x4:=zfi (za3 (za3 (za3 (zi2 q0) (zi2 q1)) q1) q2) q3
   have em:xt (x.getD i 0) ^^^ xt (x.getD (i - i % 4 + (i + 1) % 4) 0) ^^^ x.getD (i - i % 4 + (i + 1) % 4) 0 ^^^ x.getD (i - i % 4 + (i + 2) % 4) 0 ^^^ x.getD (i - i % 4 + (i + 3) % 4) 0 = (mixd x).getD i 0:=by unfold mixd; rw [zcc hi]
   rw [em] at x4
   unfold zf2
   simp (disch:=omega) only [↓RD,RZ,eq_self,seval,e1,e2,f1,f2,f3,k1,k2,k3,ga5,b0,b1,b2,b3,w0,w1,x1,x2,x3,x4,g5,x0,ml,zcP,zaM]
   refine ⟨by omega,rfl,?_,s5.trans (At1.set c _ _)⟩
   rw [zbk (by omega)]; simp
  ·rintro L H5 ⟨rfl,g5,s5⟩
   unfold zf2
   simp (disch:=omega) only [↓RD,RZ,eq_self,seval]
   refine ⟨?_,s5⟩
   rw [g5,List.take_of_length_le (by omega)]; simp
 ·rintro _ H5 ⟨rfl,g5,s5⟩
  have n5:=s5.next
  have gb5:=(s5.same b (by omega) (by omega)).trans gb4
  have l1:=ld16 hml
  have l2:=sp16 hml (L:=[.int .u8 0, .int .u8 0, .int .u8 0, .int .u8 0, .int .u8 0, .int .u8 0, .int .u8 0, .int .u8 0, .int .u8 0, .int .u8 0, .int .u8 0, .int .u8 0, .int .u8 0, .int .u8 0, .int .u8 0, .int .u8 0]) rfl
  have l3:=zeN hml
  simp (disch:=omega) only [↓RD,RZ,eq_self,seval,g5,l1,gb5,zaV,zai,l2,l3]
  exact ⟨by rw [zan]; omega,fun i hi=>by rw [zak _ _ (by omega),s5.same i (by omega) (by omega),s4.same i (by omega),s2.same i (by omega),s1.same i (by omega)]⟩
theorem zre {ws:List (List Nat)} {x:List Nat} (n:Nat):(arnd ws x n).length = 16:=by
 cases n with
 | zero=>exact zcL _ _ _
 | succ n=>exact zcL _ _ _
theorem arnd_8 {ws:List (List Nat)} (hw:∀ w ∈ ws,Word w) {x:List Nat} (h:Ok8 x) (n:Nat):Ok8 (arnd ws x n):=by
 cases n with
 | zero=>exact zpf hw h
 | succ n=>exact zpf hw (ztw (ziQ _))
def bst (ws:List (List Nat)) (x:List Nat) (i:Nat):List Nat:=if i < ws.length / 4 - 1 then arnd ws x i else aes ws x
theorem Block_ok {H:Heap} {k:Nat} {ws:List (List Nat)} {x:List Nat} (hA:Aes H k ws) (hx:x.length = 16) (h8:Ok8 x) (hwl:ws.length ≤ 1000) (hw4:ws.length % 4 = 0) (hw8:8 ≤ ws.length) :
  Ok (sem T zcF [.ptr k 0, .agg (x.map by8)]) H fun res H'=>res = .agg ((aes ws x).map by8) ∧ Grow H H':=by
 have hw:∀ w ∈ ws,Word w:=by obtain ⟨_,_,_,_,_,hw⟩:=hA; exact hw
 refine zjG ?_
 unfold zgY
 refine zap (zaU (zaV _) ?_)
 rw [zai]
 have s1:=Grow.new H ⟨zaa,x.map by8,none⟩
 have g1:(H.new ⟨zaa,x.map by8,none⟩).get H.next = some ⟨zaa,x.map by8,none⟩:=zad _ _
 have n1:(H.new ⟨zaa,x.map by8,none⟩).next = H.next + 1:=zaf _ _
 generalize ha:H.next = a at *
 generalize H.new _ = H1 at *
 refine zap (zaU (by rfl) ?_)
 have s2:=Grow.new H1 ⟨zaa,[.int .u8 0, .int .u8 0, .int .u8 0, .int .u8 0, .int .u8 0, .int .u8 0, .int .u8 0, .int .u8 0, .int .u8 0, .int .u8 0, .int .u8 0, .int .u8 0, .int .u8 0, .int .u8 0, .int .u8 0, .int .u8 0],none⟩
 have g2:(H1.new ⟨zaa,[.int .u8 0, .int .u8 0, .int .u8 0, .int .u8 0, .int .u8 0, .int .u8 0, .int .u8 0, .int .u8 0, .int .u8 0, .int .u8 0, .int .u8 0, .int .u8 0, .int .u8 0, .int .u8 0, .int .u8 0, .int .u8 0],none⟩).get H1.next = some ⟨zaa,[.int .u8 0, .int .u8 0, .int .u8 0, .int .u8 0, .int .u8 0, .int .u8 0, .int .u8 0, .int .u8 0, .int .u8 0, .int .u8 0, .int .u8 0, .int .u8 0, .int .u8 0, .int .u8 0, .int .u8 0, .int .u8 0],none⟩:=zad _ _
 have n2:(H1.new ⟨zaa,[.int .u8 0, .int .u8 0, .int .u8 0, .int .u8 0, .int .u8 0, .int .u8 0, .int .u8 0, .int .u8 0, .int .u8 0, .int .u8 0, .int .u8 0, .int .u8 0, .int .u8 0, .int .u8 0, .int .u8 0, .int .u8 0],none⟩).next = H1.next + 1:=zaf _ _
 have ga2:=(s2.same a (by omega)).trans g1
 have hA2:=(hA.grow s1).grow s2
 rw [zai]
 generalize hb:H1.next = b at *
 generalize H1.new _ = H2 at *
 obtain ⟨id,k1,k2,k3,k4,-⟩:=id hA2
 have ek:=zoQ (.sl id 0 ws.length (.opn 4))
 have e1:((ws.length:Nat):Int) / 4 = ((ws.length / 4:Nat):Int):=by omega
 have e2:((ws.length / 4:Nat):Int) - 1 = ((ws.length / 4 - 1:Nat):Int):=by omega
 have l1:=ld16 hx
 simp (disch:=omega) only [↓RD,RZ,eq_self,seval,k1,ek,e1,e2,ga2,l1]
 have hlast:ws.length / 4 - 1 + 1 = ws.length / 4:=by omega
 have hAg:∀ H',Grow H H' → Aes H' k ws:=fun H' g=>hA.grow g
 have ad:=add_ok (r:=0) hA2 hx h8 (by omega) hwl
 refine zah ad ?_
 rintro _ H3 ⟨rfl,s3⟩
 have n3:=s3.next
 have ga3:=(s3.same a (by omega)).trans ga2
 have gb3:=(s3.same b (by omega)).trans g2
 have l2:=sp16 (zcL ws 0 x) (L:=x.map by8) (zeN hx)
 have l3:=zeN (zcL ws 0 x)
 simp (disch:=omega) only [↓RD,RZ,eq_self,seval,ga3,zaV,zai,l2,l3,zeN hx]
 have gH3:Grow H (H3.set a (some ⟨zaa,(addk ws 0 x).map by8,none⟩)):=(((s1.trans s2).trans s3)).set (by omega) _
 have gb4:(H3.set a (some ⟨zaa,(addk ws 0 x).map by8,none⟩)).get b = _:=(zak _ _ (by omega)).trans gb3
 have ga4:(H3.set a (some ⟨zaa,(addk ws 0 x).map by8,none⟩)).get a = _:=zaj _ _ _
 have n4:H3.next = (H3.set a (some ⟨zaa,(addk ws 0 x).map by8,none⟩)).next:=rfl
 generalize H3.set a _ = H4 at *
 have gA:∀ H',At1 a H4 H' → Grow H H':=fun H' g=>⟨Nat.le_trans gH3.next g.next,fun i hi=>by rw [g.same i (by omega) (by omega),gH3.same i hi]⟩
 have bl:∀ i,(bst ws x i).length = 16:=fun i=>by unfold bst; split; exact zre _; exact zcL _ _ _
 have b8:∀ i,Ok8 (bst ws x i):=fun i=>by unfold bst; split; exact arnd_8 hw h8 _; exact zpf hw (ziQ _)
 refine zar (Q:=fun z H'=>z = .ex 0 [] ∧ H'.get a = some ⟨zaa,(aes ws x).map by8,none⟩ ∧ At1 a H4 H') ?_ ?_
 ·refine zaF (fun i L H'=>L = [.int .i64 ((i + 1:Nat):Int)] ∧ H'.get a = some ⟨zaa,(bst ws x i).map by8,none⟩ ∧ At1 a H4 H') (ws.length / 4 - 1) ?_ ?_ ?_
  ·refine ⟨rfl,?_,At1.refl _ _⟩
   unfold bst
   rw [if_pos (by omega)]
   exact ga4
  ·rintro i L H5 hi ⟨rfl,ga5,s5⟩
   have n5:=s5.next
   have e5:((i + 1:Nat):Int) + 1 = ((i + 1 + 1:Nat):Int):=rfl
   have l1:=ld16 (bl i)
   unfold zd5
   simp (disch:=omega) only [↓RD,RZ,eq_self,seval,ga5,l1]
   refine zah (moved_ok (hAg _ (gA _ s5)) (bl i) (b8 i)) ?_
   rintro _ H6 ⟨rfl,s6⟩
   have n6:=s6.next
   have ga6:=(s6.same a (by omega)).trans ga5
   have l2:=sp16 (zeg (bst ws x i)) (L:=(bst ws x i).map by8) (zeN (bl i))
   have l3:=zeN (zeg (bst ws x i))
   have l4:=zeN (bl i)
   have l5:=ld16 (zeg (bst ws x i))
   simp (disch:=omega) only [↓RD,RZ,eq_self,seval,ga6,zaV,zai,l2,l3,l4]
   have s7:At1 a H4 (H6.set a (some ⟨zaa,(movd (bst ws x i)).map by8,none⟩)):=(s5.trans (s6.at1 a)).trans (At1.set a _ _)
   have ga7:(H6.set a (some ⟨zaa,(movd (bst ws x i)).map by8,none⟩)).get a = _:=zaj _ _ _
   generalize H6.set a _ = H7 at *
   have n7:=s7.next
   refine zar (Q:=fun z H'=>z = .nrm [] ∧ H'.get a = some ⟨zaa,(if i + 1 < ws.length / 4 - 1 then mixd (movd (bst ws x i)) else movd (bst ws x i)).map by8,none⟩ ∧ At1 a H4 H') ?_ ?_
   ·refine zbB (fun h=>?_) (fun h=>?_)
    ·simp (disch:=omega) only [↓RD,RZ,eq_self,seval,ga7,l5]
     refine zah (mixed_ok (zeg _) (ziQ _)) ?_
     rintro _ H8 ⟨rfl,s8⟩
     have n8:=s8.next
     have ga8:=(s8.same a (by omega)).trans ga7
     have m2:=sp16 (zgd (movd (bst ws x i))) (L:=(movd (bst ws x i)).map by8) l3
     have m3:=zeN (zgd (movd (bst ws x i)))
     simp (disch:=omega) only [↓RD,RZ,eq_self,seval,ga8,zaV,zai,m2,m3,l3]
     exact ⟨by rw [if_pos (by omega)],(s7.trans (s8.at1 a)).trans (At1.set a _ _)⟩
    ·simp (disch:=omega) only [↓RD,RZ,eq_self,seval]
     rw [if_neg (by omega)]
     exact ⟨ga7,s7⟩
   ·rintro _ H8 ⟨rfl,ga8,s8⟩
    have n8:=s8.next
    generalize hy:(if i + 1 < ws.length / 4 - 1 then mixd (movd (bst ws x i)) else movd (bst ws x i)) = y at *
    have yl:y.length = 16:=by rw [← hy]; split; exact zgd _; exact zeg _
    have y8:Ok8 y:=by rw [← hy]; split; exact ztw (ziQ _); exact ziQ _
    have m1:=ld16 yl
    simp (disch:=omega) only [↓RD,RZ,eq_self,seval,ga8,m1]
    refine zah (add_ok (r:=i + 1) (hAg _ (gA _ s8)) yl y8 (by omega) hwl) ?_
    rintro _ H9 ⟨rfl,s9⟩
    have n9:=s9.next
    have ga9:=(s9.same a (by omega)).trans ga8
    have m2:=sp16 (zcL ws (i + 1) y) (L:=y.map by8) (zeN yl)
    have m3:=zeN (zcL ws (i + 1) y)
    have m4:=zeN yl
    simp (disch:=omega) only [↓RD,RZ,eq_self,seval,ga9,zaV,zai,m2,m3,m4,e5]
    refine ⟨?_,(s8.trans (s9.at1 a)).trans (At1.set a _ _)⟩
    ·congr 3
     rw [← hy]
     unfold bst
     rw [if_pos hi]
     by_cases h:i + 1 < ws.length / 4 - 1
     ·rw [if_pos h,if_pos h]; rfl
     ·rw [if_neg h,if_neg h]
      unfold aes
      rw [show ws.length / 4 - 2 = i by omega,show ws.length / 4 - 1 = i + 1 by omega]
  ·rintro L H5 ⟨rfl,ga5,s5⟩
   unfold zd5
   simp (disch:=omega) only [↓RD,RZ,eq_self,seval]
   refine ⟨?_,s5⟩
   rw [ga5]
   unfold bst
   rw [if_neg (by omega)]
 ·rintro _ H5 ⟨rfl,ga5,s5⟩
  have n5:=s5.next
  have al:=zcL ws (ws.length / 4 - 1) (movd (arnd ws x (ws.length / 4 - 2)))
  have l1:=ld16 (l:=aes ws x) al
  have l2:=sp16 (l:=aes ws x) al (L:=[.int .u8 0, .int .u8 0, .int .u8 0, .int .u8 0, .int .u8 0, .int .u8 0, .int .u8 0, .int .u8 0, .int .u8 0, .int .u8 0, .int .u8 0, .int .u8 0, .int .u8 0, .int .u8 0, .int .u8 0, .int .u8 0]) rfl
  have l3:=zeN (x:=aes ws x) al
  have gb6:=(s5.same b (by omega) (by omega)).trans gb4
  simp (disch:=omega) only [↓RD,RZ,eq_self,seval,ga5,l1,gb6,zaV,zai,l2,l3]
  exact (gA _ s5).set (by omega) _
end Go.Ax.SU
/- Su5 -/
namespace Go.Ax.SU
open Go.Ax
theorem zeE (x:Nat):1 ≤ zbm x ∧ zbm x ≤ 8:=by
 unfold zbm
 repeat' split
 all_goals omega
theorem zjH {x:Nat} (h:x < 18446744073709551616):x < 256 ^ zbm x:=by
 unfold zbm
 repeat' split
 all_goals omega
theorem zkp {x:Nat} (h:0 < x):256 ^ (zbm x - 1) ≤ x:=by
 unfold zbm
 repeat' split
 all_goals omega
theorem znL (x n:Nat):num x (n + 1) = num (x / 256) n ++ [x % 256]:=by
 unfold num
 rw [List.range_succ,List.map_append]
 congr 1
 ·refine List.map_congr_left fun i hi=>?_
  rw [List.mem_range] at hi
  rw [Nat.div_div_eq_div_mul,← Nat.pow_succ']
  congr 3
  omega
 ·simp
theorem be_num (n:Nat):∀ x:Nat,x < 256 ^ n → be (num x n) = x:=by
 induction n with
 | zero=>intro x h; simp at h; subst h; rfl
 | succ n ih =>
  intro x h
  rw [znL,zp9,ih]
  ·omega
  ·rw [Nat.pow_succ] at h
   omega
theorem num_top {x n:Nat} (h:256 ^ n ≤ x) (hx:x < 256 ^ (n + 1)):(num x (n + 1)).getD 0 0 ≠ 0:=by
 unfold num
 rw [zcc (by omega)]
 have h1:x / 256 ^ n < 256:=by
  rw [Nat.div_lt_iff_lt_mul (Nat.pow_pos (by decide))]
  rw [Nat.pow_succ] at hx
  omega
 have h2:1 ≤ x / 256 ^ n:=by
  rw [Nat.le_div_iff_mul_le (Nat.pow_pos (by decide))]
  omega
 show x / 256 ^ (n + 1 - 1 - 0) % 256 ≠ 0
 rw [show n + 1 - 1 - 0 = n by omega]
 omega
def psz (x:Nat):Nat:=if x < 8 then 0 else x - 7
def pnum (x:Nat) (b:List Nat):Nat:=if x < 8 then x else be b
def zlD (x:Nat) (b:List Nat):Bool:=if x < 8 then true else (b.getD 0 0 != 0) && decide (8 ≤ be b)
inductive PH
 | err (e:Nat)
 | ok (kid ctr n:Nat)
def parse (b:List Nat):PH :=
 if b.length = 0 then .err 3
 else
  let k:=b.getD 0 0 / 16
  let c:=b.getD 0 0 % 16
  let at':=1 + psz k
  let en:=at' + psz c
  if b.length < en then .err 3
  else
   let x:=(b.take at').drop 1
   let y:=(b.take en).drop at'
   if zlD k x && zlD c y then .ok (pnum k x) (pnum c y) en else .err 2
theorem zii (x:Nat):(fld x).1 < 16 ∧ psz (fld x).1 = (fld x).2.length:=by
 unfold fld psz
 split
 ·refine ⟨by dsimp only; omega,?_⟩
  dsimp only
  first | rfl | (rw [if_pos (by omega)]; rfl)
 ·have:=zeE x
  refine ⟨by dsimp only; omega,?_⟩
  dsimp only
  rw [if_neg (by omega),zcb]
  omega
theorem zlh {x:Nat} (h:x < 18446744073709551616):pnum (fld x).1 (fld x).2 = x ∧ zlD (fld x).1 (fld x).2 = true:=by
 unfold fld
 split
 ·rename_i hx
  dsimp only
  unfold pnum zlD
  rw [if_pos hx,if_pos hx]
  exact ⟨rfl,rfl⟩
 ·have h1:=zeE x
  have h2:=be_num (zbm x) x (zjH h)
  have h3:(num x (zbm x)).getD 0 0 ≠ 0:=by
   have a:=zkp (x:=x) (by omega)
   have b:=zjH h
   obtain ⟨n,hn⟩:∃ n,zbm x = n + 1:=⟨zbm x - 1,by omega⟩
   rw [hn] at a b ⊢
   exact num_top (by simpa using a) b
  dsimp only
  unfold pnum zlD
  rw [if_neg (by omega),if_neg (by omega),h2]
  refine ⟨rfl,?_⟩
  simp only [Bool.and_eq_true,bne_iff_ne,ne_eq,decide_eq_true_eq]
  exact ⟨h3,by omega⟩
theorem ztN (kid ctr:Nat):(hdr kid ctr).length = 1 + (fld kid).2.length + (fld ctr).2.length:=by
 unfold hdr; simp only [List.length_cons,List.length_append]; omega
theorem ztO (kid ctr:Nat):Ok8 (hdr kid ctr):=by
 unfold hdr
 intro x hx
 have h1:=(zii kid).1
 have h2:=(zii ctr).1
 have h3:∀ x:Nat,Ok8 (fld x).2:=fun x=>by
  unfold fld
  split
  ·exact Ok8.nil
  ·exact zeU _ _
 rcases List.mem_cons.1 hx with rfl | hx
 ·omega
 ·exact (h3 kid).app (h3 ctr) x hx
theorem zpT (kid ctr:Nat):(hdr kid ctr).length ≤ 17:=by
 have h:∀ x:Nat,(fld x).2.length ≤ 8:=fun x=>by
  unfold fld
  split
  ·simp
  ·dsimp only
   rw [zcb]; exact (zeE x).2
 rw [ztN]
 have:=h kid; have:=h ctr
 omega
theorem zow {kid ctr:Nat} (h1:kid < 18446744073709551616) (h2:ctr < 18446744073709551616) (r:List Nat):parse (hdr kid ctr ++ r) = .ok kid ctr (hdr kid ctr).length:=by
 have k1:=zii kid
 have k2:=zii ctr
 have b0:(hdr kid ctr ++ r).getD 0 0 = (fld kid).1 * 16 + (fld ctr).1:=rfl
 have hl:=ztN kid ctr
 have e1:(hdr kid ctr ++ r).getD 0 0 / 16 = (fld kid).1:=by rw [b0]; omega
 have e2:(hdr kid ctr ++ r).getD 0 0 % 16 = (fld ctr).1:=by rw [b0]; omega
 unfold parse
 rw [if_neg (by rw [List.length_append,hl]; omega)]
 dsimp only
 rw [e1,e2,k1.2,k2.2,if_neg (by rw [List.length_append,hl]; omega)]
 have hh:hdr kid ctr ++ r = ((fld kid).1 * 16 + (fld ctr).1) :: ((fld kid).2 ++ ((fld ctr).2 ++ r)):=by unfold hdr; simp
 have t1:((hdr kid ctr ++ r).take (1 + (fld kid).2.length)).drop 1 = (fld kid).2:=by
  rw [show 1 + (fld kid).2.length = (fld kid).2.length + 1 by omega,hh]
  rw [List.take_succ_cons,List.drop_one,List.tail_cons,List.take_left]
 have t2:((hdr kid ctr ++ r).take (1 + (fld kid).2.length + (fld ctr).2.length)).drop (1 + (fld kid).2.length) = (fld ctr).2:=by
  rw [show 1 + (fld kid).2.length + (fld ctr).2.length = ((fld kid).2.length + (fld ctr).2.length) + 1 by omega,show 1 + (fld kid).2.length = (fld kid).2.length + 1 by omega,hh]
  rw [List.take_succ_cons,List.drop_succ_cons,← List.append_assoc,List.take_left' (by rw [List.length_append]),List.drop_left]
 rw [t1,t2,(zlh h1).1,(zlh h1).2,(zlh h2).1,(zlh h2).2,hl]
 rfl
end Go.Ax.SU
/- Su6 -/
namespace Go.Ax.SU
open Go.Ax
structure Ky where
 kid:Nat
 t:Nat
 ws:List (List Nat)
 auth:List Nat
 salt:List Nat
def sKey:List Nat:=[83,70,114,97,109,101,32,49,46,48,32,83,101,99,114,101,116,32,107,101,121,32]
def zpt:List Nat:=[83,70,114,97,109,101,32,49,46,48,32,83,101,99,114,101,116,32,115,97,108,116,32]
def szs:Nat → Option (Nat × Nat)
 | 1=>some (16,10)
 | 2=>some (16,8)
 | 3=>some (16,4)
 | 16=>some (32,10)
 | _=>none
def zaH (base:List Nat):List Nat:=hmac kc [] base
def keyb (id kid n:Nat) (base:List Nat):List Nat:=((hkdf kc (zaH base) (sKey ++ (num kid 8 ++ num id 2)) 2).1).take (n + 32)
def saltb (id kid:Nat) (base:List Nat):List Nat:=((hkdf kc (zaH base) (zpt ++ (num kid 8 ++ num id 2)) 1).1).take 12
def drv (id kid n t:Nat) (base:List Nat):Ky :=
 ⟨kid,t,kw ((keyb id kid n base).take n) (n / 4) (4 * (n / 4 + 7)),(keyb id kid n base).drop n,saltb id kid base⟩
def za9 (salt:List Nat) (c:Nat):List Nat:=(List.range 12).map fun i=>(num c 12).getD i 0 ^^^ salt.getD i 0
def first (n:List Nat):List Nat:=n ++ List.replicate 4 0
def tagm (k:Ky) (n head m b:List Nat):List Nat:=num (head.length + m.length) 8 ++ num b.length 8 ++ num k.t 8 ++ n ++ head ++ m ++ b
def zhO (k:Ky) (n head m b:List Nat):List Nat:=(hmac kc k.auth (tagm k n head m b)).take k.t
def zdN (k:Ky) (c:Nat) (m p:List Nat):List Nat :=
 hdr k.kid c ++ ctr k.ws (first (za9 k.salt c)) p ++ zhO k (za9 k.salt c) (hdr k.kid c) m (ctr k.ws (first (za9 k.salt c)) p)
inductive PO
 | err (e:Nat)
 | ok (p:List Nat) (c:Nat)
def znD (k:Ky) (b m:List Nat):PO :=
 match parse b with
 | .err e=>.err e
 | .ok kid c n =>
  if kid ≠ k.kid then .err 10
  else if b.length < n + k.t then .err 3
  else if 1000 < b.length - n - k.t then .err 4
  else
   if zhO k (za9 k.salt c) (b.take n) m ((b.drop n).take (b.length - n - k.t)) = b.drop (b.length - k.t) then .ok (ctr k.ws (first (za9 k.salt c)) ((b.drop n).take (b.length - n - k.t))) c
   else .err 8
theorem zlg {ws:List (List Nat)} {f b:List Nat} {i:Nat} (h:i < b.length):(ctr ws f b).getD i 0 = b.getD i 0 ^^^ znQ ws f i:=by
 unfold ctr
 rw [zcc h]
theorem zli {a b:List Nat} (h:a.length = b.length) (g:∀ i,i < a.length → a.getD i 0 = b.getD i 0):a = b:=by
 refine List.ext_getElem h fun i h1 h2=>?_
 have:=g i h1
 rw [List.getD_eq_getElem?_getD,List.getD_eq_getElem?_getD,List.getElem?_eq_getElem h1,List.getElem?_eq_getElem h2] at this
 exact this
theorem zt9 (ws:List (List Nat)) (f b:List Nat):ctr ws f (ctr ws f b) = b:=by
 refine zli (by rw [zfh,zfh]) fun i hi=>?_
 rw [zfh,zfh] at hi
 rw [zlg (by rw [zfh]; exact hi),zlg hi,Nat.xor_assoc,Nat.xor_self,Nat.xor_zero]
theorem zrT (ws:List (List Nat)) (f:List Nat) (hw:∀ w ∈ ws,Word w) (i:Nat):znQ ws f i < 256:=by
 unfold znQ
 refine Ok8.getD ?_ _
 unfold aes addk
 refine Ok8.rmap fun j hj=>za3 (Ok8.getD (by unfold movd; exact Ok8.rmap fun _ _=>zpp _) j) (Ok8.getD ?_ _)
 rw [List.getD_eq_getElem?_getD]
 cases e:ws[4 * (ws.length / 4 - 1) + j / 4]? with
 | none=>exact Ok8.nil
 | some w=>exact (hw w (List.mem_of_getElem? e)).2
theorem zua {ws:List (List Nat)} {f b:List Nat} (hw:∀ w ∈ ws,Word w) (h:Ok8 b):Ok8 (ctr ws f b):=Ok8.rmap fun i _=>za3 (h.getD i) (zrT _ _ hw i)
theorem zoh {k:Ky} (ht:k.t ≤ 32) (n head m b:List Nat):(zhO k n head m b).length = k.t:=by
 unfold zhO
 rw [List.length_take,zc1]
 omega
theorem znq (k:Ky) (n head m b:List Nat):Ok8 (zhO k n head m b):=Ok8.take (zks _ _ _) _
theorem zk8 {k:Ky} (ht:k.t ≤ 32) (c:Nat) (m p:List Nat):(zdN k c m p).length = (hdr k.kid c).length + p.length + k.t:=by
 unfold zdN
 rw [List.length_append,List.length_append,zfh,zoh ht]
theorem seal_8 {k:Ky} (hw:∀ w ∈ k.ws,Word w) {c:Nat} {m p:List Nat} (h:Ok8 p):Ok8 (zdN k c m p):=((ztO _ _).app (zua hw h)).app (znq _ _ _ _ _)
theorem zs2 {k:Ky} (ht:k.t ≤ 32) (h1:k.kid < 18446744073709551616) {c:Nat} (h2:c < 18446744073709551616) {m p:List Nat} (hp:p.length ≤ 1000):znD k (zdN k c m p) m = .ok p c:=by
 have hl:=zk8 ht c m p
 have h0:parse (zdN k c m p) = .ok k.kid c (hdr k.kid c).length:=by
  unfold zdN
  rw [List.append_assoc]
  exact zow h1 h2 _
 unfold znD
 rw [h0]
 dsimp only
 rw [if_neg (fun h=>h rfl),if_neg (by omega),if_neg (by omega)]
 have e1:(zdN k c m p).take (hdr k.kid c).length = hdr k.kid c:=by
  unfold zdN
  rw [List.append_assoc,List.take_left]
 have e2:((zdN k c m p).drop (hdr k.kid c).length).take ((zdN k c m p).length - (hdr k.kid c).length - k.t) = ctr k.ws (first (za9 k.salt c)) p:=by
  rw [hl]
  unfold zdN
  rw [List.append_assoc,List.drop_left,List.take_left' (by rw [zfh]; omega)]
 have e3:(zdN k c m p).drop ((zdN k c m p).length - k.t) = zhO k (za9 k.salt c) (hdr k.kid c) m (ctr k.ws (first (za9 k.salt c)) p):=by
  rw [hl]
  unfold zdN
  rw [List.drop_left' (by rw [List.length_append,zfh]; omega)]
 rw [e1,e2,e3,if_pos rfl,zt9]
end Go.Ax.SU
/- Su20 -/
namespace Go.Ax.SU
open Go.Ax
theorem zun {l:List Nat} (h8:Ok8 l) {i:Nat} (hi:i < l.length) (h:i < 8):(be (l.take i) * 256 % 18446744073709551616) ||| l.getD i 0 = be (l.take (i + 1)):=by
 have h1:=ziD h8 (show i ≤ 7 by omega)
 rw [zbk hi,zp9,Nat.mod_eq_of_lt (by omega),or256 _ _ (getD_lt h8 i)]
theorem ztP {lo:Nat} {H:Heap} {v:V} {l:List Nat} (hv:By lo H v l) (h8:Ok8 l) (hl:l.length ≤ 8):Ok (sem T zdS [v]) H fun r H'=>r = .int .u64 (be l:Nat) ∧ H' = H:=by
 refine zmJ ?_
 unfold zjV
 simp (disch:=omega) only [↓RD,RZ,eq_self,seval,hv.vlen]
 refine zaF (fun i L H'=>L = [.int .u64 (be (l.take i):Nat), .int .i64 (i:Nat)] ∧ H' = H) l.length ?_ ?_ ?_
 ·exact ⟨rfl,rfl⟩
 ·rintro i _ H' hi ⟨rfl,rfl⟩
  obtain ⟨p,hp,hld,-⟩:=zf8 hv (i:=(i:Nat)) (by omega) (by omega)
  have e1:=zun h8 hi (by omega)
  have b1:=ziD h8 (show i ≤ 8 by omega)
  have b2:=getD_lt h8 i
  simp only [Int.toNat_natCast] at hld
  have e2:be (l.take i) * 256 % 18446744073709551616 < 18446744073709551616:=Nat.mod_lt _ (by decide)
  unfold zfS
  simp (disch:=omega) only [↓RD,RZ,eq_self,seval,hp,hld,Int.toNat_natCast,e1]
  rfl
 ·rintro _ H' ⟨rfl,rfl⟩
  unfold zfS
  simp (disch:=omega) only [↓RD,RZ,eq_self,seval,List.take_length]
def nxt8 (v:Nat) (i:Nat):Nat:=v / 256 ^ (7 - i) % 256
def nxtS (x:List Nat) (v w i:Nat):List Nat:=(List.range 16).map fun j=>if j < 8 then (if j < i then nxt8 v j else x.getD j 0) else (if j - 8 < i then nxt8 w (j - 8) else x.getD j 0)
theorem zgc (x:List Nat) (v w i:Nat):(nxtS x v w i).length = 16:=by simp [nxtS]
theorem ztg {x:List Nat} (h:x.length = 16) (v w:Nat):nxtS x v w 0 = x:=by
 refine zli (by rw [zgc,h]) fun i hi=>?_
 rw [zgc] at hi
 unfold nxtS
 rw [zcc hi]
 split <;> rfl
theorem nxtS_all (x:List Nat) (v w:Nat):nxtS x v w 8 = (List.range 8).map (nxt8 v) ++ (List.range 8).map (nxt8 w):=rfl
theorem zth (x:List Nat) (v w:Nat) {i:Nat} (h:i < 8):((nxtS x v w i).set i (nxt8 v i)).set (8 + i) (nxt8 w i) = nxtS x v w (i + 1):=by
 refine zli (by simp [zgc]) fun j hj=>?_
 simp only [List.length_set,zgc] at hj
 rw [List.getD_eq_getElem?_getD,List.getElem?_set,List.getElem?_set]
 unfold nxtS
 rw [zcc hj]
 simp only [List.length_set,List.length_map,List.length_range]
 by_cases e:8 + i = j
 ·subst e
  rw [if_pos rfl,if_pos hj,if_neg (by omega),if_pos (by omega),show 8 + i - 8 = i by omega]
  rfl
 ·rw [if_neg e]
  by_cases e2:i = j
  ·subst e2
   rw [if_pos rfl,if_pos hj,if_pos h,if_pos (by omega)]
   rfl
  ·rw [if_neg e2,List.getElem?_map,List.getElem?_range hj]
   show (if j < 8 then _ else _) = _
   by_cases k:j < 8
   ·rw [if_pos k,if_pos k]
    by_cases k2:j < i
    ·rw [if_pos k2,if_pos (by omega)]
    ·rw [if_neg k2,if_neg (by omega)]
   ·rw [if_neg k,if_neg k]
    by_cases k2:j - 8 < i
    ·rw [if_pos k2,if_pos (by omega)]
    ·rw [if_neg k2,if_neg (by omega)]
theorem zle {l:List Nat} {i y:Nat} (h:i < l.length):splice (l.map by8) i [by8 y] = (l.set i y).map by8:=by
 rw [zkG _ _ _ (by rw [List.length_map]; exact h),List.map_set]
theorem cint8 (n:Nat):IntKind.u8.wrap (n:Int) = ((n % 256:Nat):Int):=by rw [wrap_u8]; rfl
theorem Next_ok {H:Heap} {x:List Nat} {n:Nat} (hx:x.length = 16) (h8:Ok8 x) (hn:n < 18446744073709551616) :
  Ok (sem T zdT [.agg (x.map by8), .int .u64 (n:Nat)]) H fun res H'=>res = .agg ((zdn x n).map by8) ∧ Grow H H':=by
 refine zmK ?_
 unfold zjW
 refine zap (zaU (zaV _) ?_)
 rw [zai]
 have s1:=Grow.new H ⟨zaa,x.map by8,none⟩
 have g1:(H.new ⟨zaa,x.map by8,none⟩).get H.next = some ⟨zaa,x.map by8,none⟩:=zad _ _
 have n1:(H.new ⟨zaa,x.map by8,none⟩).next = H.next + 1:=zaf _ _
 generalize ha:H.next = a at *
 generalize H.new _ = H1 at *
 refine zap (zaU (by rfl) ?_)
 have s2:=Grow.new H1 ⟨zaa,[.int .u8 0, .int .u8 0, .int .u8 0, .int .u8 0, .int .u8 0, .int .u8 0, .int .u8 0, .int .u8 0, .int .u8 0, .int .u8 0, .int .u8 0, .int .u8 0, .int .u8 0, .int .u8 0, .int .u8 0, .int .u8 0],none⟩
 have g2:(H1.new ⟨zaa,[.int .u8 0, .int .u8 0, .int .u8 0, .int .u8 0, .int .u8 0, .int .u8 0, .int .u8 0, .int .u8 0, .int .u8 0, .int .u8 0, .int .u8 0, .int .u8 0, .int .u8 0, .int .u8 0, .int .u8 0, .int .u8 0],none⟩).get H1.next = some ⟨zaa,[.int .u8 0, .int .u8 0, .int .u8 0, .int .u8 0, .int .u8 0, .int .u8 0, .int .u8 0, .int .u8 0, .int .u8 0, .int .u8 0, .int .u8 0, .int .u8 0, .int .u8 0, .int .u8 0, .int .u8 0, .int .u8 0],none⟩:=zad _ _
 have n2:(H1.new ⟨zaa,[.int .u8 0, .int .u8 0, .int .u8 0, .int .u8 0, .int .u8 0, .int .u8 0, .int .u8 0, .int .u8 0, .int .u8 0, .int .u8 0, .int .u8 0, .int .u8 0, .int .u8 0, .int .u8 0, .int .u8 0, .int .u8 0],none⟩).next = H1.next + 1:=zaf _ _
 have ga2:=(s2.same a (by omega)).trans g1
 rw [zai]
 generalize hb:H1.next = b at *
 generalize H1.new _ = H2 at *
 have c1:By 0 H2 (.sl a 0 8 (.fix 16)) (x.take 8):=by
  refine ⟨?_,fun i hi=>?_,show (8:Nat) ≤ _ by decide⟩
  ·simp only [zbb,ga2,Option.bind_some]
   rw [if_pos (by rw [List.length_map]; omega),List.drop_zero,List.map_take,List.length_take,Nat.min_eq_left (by omega)]
  ·simp only [V.pid,Option.some.injEq] at hi; omega
 have c2:By 0 H2 (.sl a 8 8 (.fix 8)) (x.drop 8):=by
  refine ⟨?_,fun i hi=>?_,show (8:Nat) ≤ _ by decide⟩
  ·simp only [zbb,ga2,Option.bind_some]
   rw [if_pos (by rw [List.length_map]; omega),List.map_drop,List.length_drop,List.take_of_length_le (by rw [List.length_drop,List.length_map]; omega),show x.length - 8 = 8 by omega]
  ·simp only [V.pid,Option.some.injEq] at hi; omega
 have d1:=@zca _ _ _ _ (ztP c1 (h8.take 8) (by rw [List.length_take]; omega))
 have d2:=@zca _ _ _ _ (ztP c2 (h8.drop 8) (by rw [List.length_drop]; omega))
 have v1:zaz (.arr 16) 1 (.ptr a 0) none (some (.int .i64 8)) none = some (.sl a 0 8 (.fix 16)):=rfl
 have v2:zaz (.arr 16) 1 (.ptr a 0) (some (.int .i64 8)) none none = some (.sl a 8 8 (.fix 8)):=rfl
 have l1:be (x.take 8) < 18446744073709551616:=ziD h8 (n:=8) (by omega)
 have l2:be (x.drop 8) < 18446744073709551616:=by
  have:=zuo _ (h8.drop 8)
  rw [List.length_drop,hx] at this
  exact this
 simp (disch:=omega) only [↓RD,RZ,eq_self,seval,v1,v2,d1,d2]
 have eW:IntKind.u64.wrap ((be (x.drop 8):Nat) + (n:Nat):Int) = (((be (x.drop 8) + n) % 18446744073709551616:Nat):Int):=by rw [wrap_u64]; rfl
 rw [eW]
 refine zar (Q:=fun r H'=>r = .nrm [.int .u64 ((be (x.take 8) + (if 18446744073709551616 ≤ be (x.drop 8) + n then 1 else 0)) % 18446744073709551616:Nat)] ∧ H' = H2) ?_ ?_
 ·refine zbB (fun h=>?_) (fun h=>?_)
  ·have hh:18446744073709551616 ≤ be (x.drop 8) + n:=by omega
   have ew:IntKind.u64.wrap ((be (x.take 8):Nat) + 1:Int) = (((be (x.take 8) + 1) % 18446744073709551616:Nat):Int):=by rw [wrap_u64]; rfl
   rw [if_pos hh]
   simp (disch:=omega) only [↓RD,RZ,eq_self,seval,ew]
  ·have hh:¬ 18446744073709551616 ≤ be (x.drop 8) + n:=by omega
   rw [if_neg hh,Nat.add_zero,Nat.mod_eq_of_lt l1]
   simp (disch:=omega) only [↓RD,RZ,eq_self,seval]
 rintro _ H2 ⟨rfl,rfl⟩
 generalize hV:(be (x.take 8) + (if 18446744073709551616 ≤ be (x.drop 8) + n then 1 else 0)) % 18446744073709551616 = v
 have v8:v < 18446744073709551616:=by rw [← hV]; exact Nat.mod_lt _ (by decide)
 generalize hW:(be (x.drop 8) + n) % 18446744073709551616 = w at *
 have w8:w < 18446744073709551616:=by rw [← hW]; exact Nat.mod_lt _ (by decide)
 simp (disch:=omega) only [↓RD,RZ,eq_self,seval,eW]
 refine zar (Q:=fun z H'=>z = .ex 0 [] ∧ H'.get a = some ⟨zaa,(zdn x n).map by8,none⟩ ∧ At1 a H2 H') ?_ ?_
 ·refine zaF (fun i L H'=>L = [.int .i64 (i:Nat)] ∧ H'.get a = some ⟨zaa,(nxtS x v w i).map by8,none⟩ ∧ At1 a H2 H') 8 ?_ ?_ ?_
  ·exact ⟨rfl,by rw [ztg hx]; exact ga2,At1.refl _ _⟩
  ·rintro i _ H3 hi ⟨rfl,g3,s3⟩
   have e1:(8:Int) * ((i:Nat):Int) = ((8 * i:Nat):Int):=rfl
   have e2:(56:Int) - ((8 * i:Nat):Int) = ((8 * (7 - i):Nat):Int):=by omega
   have e3:∀ u,shr u (8 * (7 - i)) = u / 256 ^ (7 - i):=fun u=>by rw [zfH,Nat.shiftRight_eq_div_pow,Nat.pow_mul]
   have e4:∀ u:Nat,IntKind.u8.wrap ((u / 256 ^ (7 - i):Nat):Int) = ((nxt8 u i:Nat):Int):=fun u=>cint8 _
   have e5:(8:Int) + ((i:Nat):Int) = ((8 + i:Nat):Int):=rfl
   have m1:=zle (l:=nxtS x v w i) (i:=i) (y:=nxt8 v i) (by rw [zgc]; omega)
   have m2:=zle (l:=(nxtS x v w i).set i (nxt8 v i)) (i:=8 + i) (y:=nxt8 w i) (by rw [List.length_set,zgc]; omega)
   have k1:((nxtS x v w i).map by8).length = 16:=by rw [List.length_map,zgc]
   have k2:(((nxtS x v w i).set i (nxt8 v i)).map by8).length = 16:=by rw [List.length_map,List.length_set,zgc]
   rw [zth _ _ _ hi] at m2
   unfold zfT
   replace m1:splice ((nxtS x v w i).map by8) i [.int .u8 (nxt8 v i:Nat)] = _:=m1
   replace m2:splice (((nxtS x v w i).set i (nxt8 v i)).map by8) (8 + i) [.int .u8 (nxt8 w i:Nat)] = _:=m2
   simp (disch:=omega) only [↓RD,RZ,eq_self,seval,e1,e2,e3,e4,e5,g3,m1,m2,k1,k2]
   exact ⟨by omega,by omega,rfl,s3.trans ((At1.set a _ _).trans (At1.set a _ _))⟩
  ·rintro _ H3 ⟨rfl,g3,s3⟩
   unfold zfT
   simp (disch:=omega) only [↓RD,RZ,eq_self,seval]
   refine ⟨?_,s3⟩
   rw [g3,nxtS_all]
   unfold zdn
   rw [hV,hW]
   rfl
 ·rintro _ H3 ⟨rfl,g3,s3⟩
  have n3:=s3.next
  have gb3:=(s3.same b (by omega) (by omega)).trans g2
  have hl:(zdn x n).length = 16:=by simp [zdn]
  have l1:=ld16 hl
  have l2:=sp16 hl (L:=[.int .u8 0, .int .u8 0, .int .u8 0, .int .u8 0, .int .u8 0, .int .u8 0, .int .u8 0, .int .u8 0, .int .u8 0, .int .u8 0, .int .u8 0, .int .u8 0, .int .u8 0, .int .u8 0, .int .u8 0, .int .u8 0]) rfl
  have l3:=zeN hl
  simp (disch:=omega) only [↓RD,RZ,eq_self,seval,g3,l1,gb3,zaV,zai,l2,l3]
  exact ⟨by rw [zan]; omega,fun i hi=>by rw [zak _ _ (by omega),s3.same i (by omega) (by omega),s2.same i (by omega),s1.same i (by omega)]⟩
theorem zlV (x:List Nat) (n:Nat):(zdn x n).length = 16:=by simp [zdn]
theorem ztm (x:List Nat) (n:Nat):Ok8 (zdn x n):=(Ok8.rmap fun i _=>Nat.mod_lt _ (by decide)).app (Ok8.rmap fun i _=>Nat.mod_lt _ (by decide))
theorem zkD (ws:List (List Nat)) (x:List Nat):(aes ws x).length = 16:=zcL _ _ _
theorem aes_8 {ws:List (List Nat)} (hw:∀ w ∈ ws,Word w) (x:List Nat):Ok8 (aes ws x):=zpf hw (ziQ _)
theorem zfa {α:Type} {c:V} {x y:M α} {H:Heap} {Q:α → Heap → Prop}:@OkI α c H ⟨x⟩ ⟨y⟩ ⟨Q⟩ = Ok (M.ite c x y) H Q:=rfl
theorem zo6 {H:Heap} {k n:Nat} {ws:List (List Nat)} {f:List Nat} {F:V → M Res} {Q:Res → Heap → Prop} (hA:Aes H k ws) (hf:f.length = 16) (f8:Ok8 f) (hwl:ws.length ≤ 1000) (hw4:ws.length % 4 = 0) (hw8:8 ≤ ws.length) (hn:n < 18446744073709551616)
  (h:∀ H',Grow H H' → Ok (F (.agg ((aes ws (zdn f n)).map by8))) H' Q):Ok ((sem T zdT [.agg (f.map by8), .int .u64 (n:Nat)]).bind fun t43=>(sem T zcF [.ptr k 0,t43]).bind F) H Q:=by
 refine zah (Next_ok hf f8 hn) ?_
 rintro _ H1 ⟨rfl,s1⟩
 refine zah (Block_ok (hA.grow s1) (zlV _ _) (ztm _ _) hwl hw4 hw8) ?_
 rintro _ H2 ⟨rfl,s2⟩
 exact h _ (s1.trans s2)
theorem Crypt_ok {lo:Nat} {H:Heap} {k:Nat} {ws:List (List Nat)} {bv:V} {f l:List Nat} (hA:Aes H k ws) (hf:f.length = 16) (f8:Ok8 f) (hv:By lo H bv l) (h8:Ok8 l) (hwl:ws.length ≤ 1000) (hw4:ws.length % 4 = 0) (hw8:8 ≤ ws.length) (hl:l.length ≤ 1099511627776) :
  Ok (sem T zej [.ptr k 0, .agg (f.map by8), .int .i64 0,bv]) H fun res H'=>∃ r,res = .tup [r, .int .i64 0] ∧ By H.next H' r (ctr ws f l) ∧ Grow H H':=by
 have hw:∀ w ∈ ws,Word w:=by obtain ⟨_,_,_,_,_,hw⟩:=hA; exact hw
 have cl:=zfh ws f l
 refine zlL ?_
 unfold ziV
 refine zap (zaU (zaV _) ?_)
 rw [zai]
 have s1:=Grow.new H ⟨zaa,f.map by8,none⟩
 have g1:(H.new ⟨zaa,f.map by8,none⟩).get H.next = some ⟨zaa,f.map by8,none⟩:=zad _ _
 have n1:(H.new ⟨zaa,f.map by8,none⟩).next = H.next + 1:=zaf _ _
 generalize ha:H.next = a at *
 generalize H.new _ = H1 at *
 simp (disch:=first | omega | (simp only [RY] <;> omega) | decide) only [↓RD,RZ,eq_self,Int.reduceToNat,Int.reduceAdd,Nat.reduceAdd,Nat.reduceSub,Nat.reduceMul,Nat.reduceLeDiff,hv.vlen]
 refine ⟨⟨by omega,by omega,by omega,by omega⟩,?_⟩
 rw [zqo,Int.toNat_natCast]
 have s2:=Grow.new H1 ⟨zac,List.replicate l.length (.int .u8 0),none⟩
 have g2:(H1.new ⟨zac,List.replicate l.length (.int .u8 0),none⟩).get H1.next = some ⟨zac,List.replicate l.length (.int .u8 0),none⟩:=zad _ _
 have n2:(H1.new ⟨zac,List.replicate l.length (.int .u8 0),none⟩).next = H1.next + 1:=zaf _ _
 have ga2:=(s2.same a (by omega)).trans g1
 generalize hb:H1.next = b at *
 generalize H1.new _ = H2 at *
 generalize hc:b + 1 = c at *
 have s3:=Grow.new H2 ⟨zaa,[.int .u8 0, .int .u8 0, .int .u8 0, .int .u8 0, .int .u8 0, .int .u8 0, .int .u8 0, .int .u8 0, .int .u8 0, .int .u8 0, .int .u8 0, .int .u8 0, .int .u8 0, .int .u8 0, .int .u8 0, .int .u8 0],none⟩
 have g3:(H2.new ⟨zaa,[.int .u8 0, .int .u8 0, .int .u8 0, .int .u8 0, .int .u8 0, .int .u8 0, .int .u8 0, .int .u8 0, .int .u8 0, .int .u8 0, .int .u8 0, .int .u8 0, .int .u8 0, .int .u8 0, .int .u8 0, .int .u8 0],none⟩).get H2.next = some ⟨zaa,(List.replicate 16 0).map by8,none⟩:=zad _ _
 have n3:(H2.new ⟨zaa,[.int .u8 0, .int .u8 0, .int .u8 0, .int .u8 0, .int .u8 0, .int .u8 0, .int .u8 0, .int .u8 0, .int .u8 0, .int .u8 0, .int .u8 0, .int .u8 0, .int .u8 0, .int .u8 0, .int .u8 0, .int .u8 0],none⟩).next = H2.next + 1:=zaf _ _
 have ga3:=(s3.same a (by omega)).trans ga2
 have gb3:=(s3.same b (by omega)).trans g2
 rw [n2] at g3 n3
 generalize H2.new _ = H3 at *
 have s03:Grow H H3:=(s1.trans s2).trans s3
 have hv3:=hv.ext s03
 refine zar (Q:=fun z H'=>z = .ex 0 [] ∧ H'.get b = some ⟨zac,(ctr ws f l).map by8,none⟩ ∧ Grow H H' ∧ c < H'.next) ?_ ?_
 ·refine zaF (fun i L H'=>L = [.int .i64 (i:Nat)] ∧ H'.get a = some ⟨zaa,f.map by8,none⟩ ∧ H'.get b = some ⟨zac,((ctr ws f l).take i).map by8 ++ List.replicate (l.length - i) (.int .u8 0),none⟩ ∧ H'.get c = some ⟨zaa,(if i = 0 then List.replicate 16 0 else aes ws (zdn f ((i - 1) / 16))).map by8,none⟩ ∧ Grow H H' ∧ c < H'.next) l.length ?_ ?_ ?_
  ·exact ⟨rfl,ga3,by simpa using gb3,g3,s03,by omega⟩
  ·rintro i _ H4 hi ⟨rfl,ga4,gb4,gc4,s4,n4⟩
   have hv4:=hv.ext s4
   generalize hy:(if i = 0 then List.replicate 16 0 else aes ws (zdn f ((i - 1) / 16))) = y at *
   have yl:y.length = 16:=by rw [← hy]; split; exact List.length_replicate ..; exact zkD _ _
   have e1:(((i:Nat):Int) % 16 == 0) = decide (i % 16 = 0):=by
    by_cases h:i % 16 = 0
    ·rw [decide_eq_true h,show ((i:Nat):Int) % 16 = 0 by omega]; rfl
    ·rw [decide_eq_false h]
     have:¬ ((i:Nat):Int) % 16 = 0:=by omega
     simpa using this
   have e2:(((i:Nat):Int) == 0) = decide (i = 0):=by
    by_cases h:i = 0
    ·rw [decide_eq_true h,h]; rfl
    ·rw [decide_eq_false h]
     have:¬ ((i:Nat):Int) = 0:=by omega
     simpa using this
   have l1:=ld16 hf
   unfold zff
   simp (disch:=first | omega | (simp only [RY] <;> omega) | decide) only [↓RD,RZ,eq_self,Int.reduceToNat,Int.reduceAdd,Nat.reduceAdd,Nat.reduceSub,Nat.reduceMul,Nat.reduceLeDiff,e1,e2,Int.zero_add]
   rw [zaK]
   refine zar (α:=Res) (Q:=fun r H'=>r = .nrm [] ∧ ∃ H5,Grow H H5 ∧ c < H5.next ∧ H5.get a = H4.get a ∧ H5.get b = H4.get b ∧ H5.get c = some ⟨zaa,(aes ws (zdn f (i / 16))).map by8,none⟩ ∧ H' = H5.set b (some ⟨zac,((ctr ws f l).take (i + 1)).map by8 ++ List.replicate (l.length - (i + 1)) (.int .u8 0),none⟩)) ?_ ?_
   ·have rest:∀ H5,Grow H H5 → c < H5.next → H5.get a = H4.get a → H5.get b = H4.get b → H5.get c = some ⟨zaa,(aes ws (zdn f (i / 16))).map by8,none⟩ →
      Ok ((M.lift (Ax.iaddr none 1 bv (.int .i64 (i:Nat)))).bind fun t49 =>
       (mload none t49).bind fun t50 =>
       (M.lift (Ax.bin .add (.int .i64 0) (.int .i64 (i:Nat)))).bind fun t53 =>
       (M.lift (Ax.bin .rem t53 (V.int .i64 16))).bind fun t54 =>
       (M.lift (Ax.iaddr (some 16) 1 (.ptr c 0) t54)).bind fun t55 =>
       (mload none t55).bind fun t56 =>
       (M.lift (Ax.bin .xor t50 t56)).bind fun t57 =>
       (M.lift (Ax.iaddr none 1 (.sl b 0 l.length (.fix l.length)) (.int .i64 (i:Nat)))).bind fun t58 =>
       (mstore 1 t58 t57).bind fun _ =>
       M.pure (Res.nrm [])) H5 fun r H'=>r = Res.nrm [] ∧ H' = H5.set b (some ⟨zac,((ctr ws f l).take (i + 1)).map by8 ++ List.replicate (l.length - (i + 1)) (.int .u8 0),none⟩):=by
     intro H5 g5 m5 a5 b5 c5
     have hv5:=hv.ext g5
     obtain ⟨p,hp,hld,-⟩:=zf8 hv5 (i:=(i:Nat)) (by omega) (by omega)
     simp only [Int.toNat_natCast] at hld
     rw [gb4] at b5
     have q1:=getD_lt h8 i
     have hk:=aes_8 hw (zdn f (i / 16))
     have hkl:=zkD ws (zdn f (i / 16))
     have q2:=bg (l:=aes ws (zdn f (i / 16))) (i:=i % 16) (by omega)
     have q3:=zfi q1 (hk.getD (i % 16))
     have q4:l.getD i 0 ^^^ (aes ws (zdn f (i / 16))).getD (i % 16) 0 = (ctr ws f l).getD i 0:=(zlg hi).symm
     rw [q4] at q3
     have hl0:(((ctr ws f l).take i).map by8).length = i:=by rw [List.length_map,List.length_take]; omega
     have x0:=zaW (z:=.int .u8 0) (x:=by8 ((ctr ws f l).getD i 0)) hl0 hi
     have ml:(((ctr ws f l).take i).map by8 ++ List.replicate (l.length - i) (V.int .u8 0)).length = l.length:=by rw [List.length_append,hl0,List.length_replicate]; omega
     have ei:((i:Nat):Int) % 16 = ((i % 16:Nat):Int):=by omega
     have em:=Nat.mod_lt i (show 0 < 16 by decide)
     have et:((ctr ws f l).take i).map by8 ++ [by8 ((ctr ws f l).getD i 0)] = ((ctr ws f l).take (i + 1)).map by8:=by rw [zbk (by omega)]; simp
     rw [et] at x0
     replace q3:Ax.bin .xor (.int .u8 (l.getD i 0:Nat)) (by8 ((aes ws (zdn f (i / 16))).getD (i % 16) 0)) = _:=q3
     simp (disch:=first | omega | (simp only [RY] <;> omega) | decide) only [↓RD,RZ,eq_self,Int.reduceToNat,Int.reduceAdd,Nat.reduceAdd,Nat.reduceSub,Nat.reduceMul,Nat.reduceLeDiff,hp,hld,Int.zero_add,ei,c5,q2,q3,b5,x0,ml,zcP,zaM]
     omega
    have ln:=zkD ws (zdn f (i / 16))
    have l2:=ld16 ln
    have l3:=sp16 ln (L:=y.map by8) (by rw [List.length_map,yl])
    have l4:=zeN ln
    have e4:((i:Nat):Int) / 16 = ((i / 16:Nat):Int):=by omega
    have l5:(y.map by8).length = 16:=by rw [List.length_map,yl]
    by_cases h0:i = 0
    ·have e3:decide (i = 0) = true:=decide_eq_true h0
     simp (disch:=first | omega | (simp only [RY] <;> omega) | decide) only [↓RD,RZ,eq_self,Int.reduceToNat,Int.reduceAdd,Nat.reduceAdd,Nat.reduceSub,Nat.reduceMul,Nat.reduceLeDiff,e1,e2,e3,Int.zero_add,ga4,l1,e4]
     rw [zaK]
     refine zo6 (hA.grow s4) hf f8 hwl hw4 hw8 (by omega) fun H5 s5=>?_
     have n5:=s5.next
     have ga5:=s5.same a (by omega)
     have gb5:=s5.same b (by omega)
     have gc5:=(s5.same c (by omega)).trans gc4
     simp (disch:=first | omega | (simp only [RY] <;> omega) | decide) only [↓RD,RZ,eq_self,Int.reduceToNat,Int.reduceAdd,Nat.reduceAdd,Nat.reduceSub,Nat.reduceMul,Nat.reduceLeDiff,gc5,zaV,zai,l3,l4,l5]
     rw [zaK]
     refine zar (rest (H5.set c (some ⟨zaa,(aes ws (zdn f (i / 16))).map by8,none⟩)) ((s4.trans s5).set (by omega) _) (by rw [zan]; omega) (by rw [zak _ _ (by omega)]; exact ga5) (by rw [zak _ _ (by omega)]; exact gb5) (zaj _ _ _)) ?_
     rintro _ _ ⟨rfl,rfl⟩
     exact ⟨rfl,_,(s4.trans s5).set (by omega) _,by rw [zan]; omega,by rw [zak _ _ (by omega)]; exact ga5,by rw [zak _ _ (by omega)]; exact gb5,zaj _ _ _,rfl⟩
    ·have e3:decide (i = 0) = false:=decide_eq_false h0
     simp (disch:=first | omega | (simp only [RY] <;> omega) | decide) only [↓RD,RZ,eq_self,Int.reduceToNat,Int.reduceAdd,Nat.reduceAdd,Nat.reduceSub,Nat.reduceMul,Nat.reduceLeDiff,e1,e2,e3,Int.zero_add]
     rw [zfa]
     refine zbB (fun h=>?_) (fun h=>?_)
     ·simp (disch:=first | omega | (simp only [RY] <;> omega) | decide) only [↓RD,RZ,eq_self,Int.reduceToNat,Int.reduceAdd,Nat.reduceAdd,Nat.reduceSub,Nat.reduceMul,Nat.reduceLeDiff,ga4,l1,e4,Int.zero_add]
      rw [zaK]
      refine zo6 (hA.grow s4) hf f8 hwl hw4 hw8 (by omega) fun H5 s5=>?_
      have n5:=s5.next
      have ga5:=s5.same a (by omega)
      have gb5:=s5.same b (by omega)
      have gc5:=(s5.same c (by omega)).trans gc4
      simp (disch:=first | omega | (simp only [RY] <;> omega) | decide) only [↓RD,RZ,eq_self,Int.reduceToNat,Int.reduceAdd,Nat.reduceAdd,Nat.reduceSub,Nat.reduceMul,Nat.reduceLeDiff,gc5,zaV,zai,l3,l4,l5]
      rw [zaK]
      refine zar (rest (H5.set c (some ⟨zaa,(aes ws (zdn f (i / 16))).map by8,none⟩)) ((s4.trans s5).set (by omega) _) (by rw [zan]; omega) (by rw [zak _ _ (by omega)]; exact ga5) (by rw [zak _ _ (by omega)]; exact gb5) (zaj _ _ _)) ?_
      rintro _ _ ⟨rfl,rfl⟩
      exact ⟨rfl,_,(s4.trans s5).set (by omega) _,by rw [zan]; omega,by rw [zak _ _ (by omega)]; exact ga5,by rw [zak _ _ (by omega)]; exact gb5,zaj _ _ _,rfl⟩
     ·have ey:y = aes ws (zdn f (i / 16)):=by rw [← hy,if_neg h0,show (i - 1) / 16 = i / 16 by omega]
      rw [ey] at gc4
      simp (disch:=first | omega | (simp only [RY] <;> omega) | decide) only [↓RD,RZ,eq_self,Int.reduceToNat,Int.reduceAdd,Nat.reduceAdd,Nat.reduceSub,Nat.reduceMul,Nat.reduceLeDiff]
      rw [zaK]
      refine zar (rest H4 s4 n4 rfl rfl gc4) ?_
      rintro _ _ ⟨rfl,rfl⟩
      exact ⟨rfl,_,s4,n4,rfl,rfl,gc4,rfl⟩
   ·rintro _ _ ⟨rfl,H5,s5,n5,ga5,gb5,gc5,rfl⟩
    simp (disch:=first | omega | (simp only [RY] <;> omega) | decide) only [↓RD,RZ,eq_self,Int.reduceToNat,Int.reduceAdd,Nat.reduceAdd,Nat.reduceSub,Nat.reduceMul,Nat.reduceLeDiff]
    refine ⟨rfl,ga5.trans ga4,?_,s5.set (by omega) _,n5⟩
    rw [gc5,if_neg (by omega),show i + 1 - 1 = i by omega]
  ·rintro _ H4 ⟨rfl,ga4,gb4,gc4,s4,n4⟩
   unfold zff
   simp (disch:=first | omega | (simp only [RY] <;> omega) | decide) only [↓RD,RZ,eq_self,Int.reduceToNat,Int.reduceAdd,Nat.reduceAdd,Nat.reduceSub,Nat.reduceMul,Nat.reduceLeDiff]
   refine ⟨?_,s4,n4⟩
   rw [gb4,List.take_of_length_le (by omega)]; simp
 ·rintro _ H4 ⟨rfl,gb4,s4,n4⟩
  simp (disch:=first | omega | (simp only [RY] <;> omega) | decide) only [↓RD,RZ,eq_self,Int.reduceToNat,Int.reduceAdd,Nat.reduceAdd,Nat.reduceSub,Nat.reduceMul,Nat.reduceLeDiff]
  refine ⟨_,rfl,?_,s4⟩
  exact ze8 gb4 cl (by omega) (by omega)
end Go.Ax.SU
/- Su21 -/
namespace Go.Ax.SU
open Go.Ax
theorem App.same {ty e lo n:Nat} {H H':Heap} {v:V} {cells:List V} (h:App ty e lo H v cells n) (hn:H.next ≤ H'.next) (hs:∀ i,v.pid = some i → H'.get i = H.get i):App ty e lo H' v cells n:=by
 cases h with
 | opn h ho=>exact .opn (h.to hs) fun i hi=>⟨(ho i hi).1,Nat.lt_of_lt_of_le (ho i hi).2 hn⟩
 | lit h h0 h1=>exact .lit (by rw [hs _ rfl,h]) h0 (Nat.lt_of_lt_of_le h1 hn)
def Kst (H:Heap) (k:Nat) (w:V) (ws:List (List Nat)):Prop:=H.get k = some ⟨zaN,tabC true ++ [w],none⟩ ∧ App zas 4 (k + 1) H w (ws.flatten.map by8) ws.length ∧ k < H.next
theorem zsB (wv x:V):splice (tabC true ++ [wv]) 259 [x] = tabC true ++ [x]:=by
 have e:(tabC true).length = 259:=by unfold tabC; simp only [List.length_cons,List.length_map,zef]
 unfold splice
 rw [List.take_append_of_le_length (by omega),List.take_of_length_le (by omega),List.drop_of_length_le (by rw [List.length_append,e]; exact Nat.le_refl _),List.append_nil]
theorem len260 (wv:V):(tabC true ++ [wv]).length = 260:=by
 have e:(tabC true).length = 259:=by unfold tabC; simp only [List.length_cons,List.length_map,zef]
 rw [List.length_append,e]; rfl
theorem _root_.Go.Ax.Lc.same {e lo n:Nat} {H H':Heap} {v:V} {cells:List V} (h:Lc e lo H v cells n) (hn:H.next ≤ H'.next) (hs:∀ i,v.pid = some i → H'.get i = H.get i):Lc e lo H' v cells n :=
 ⟨by rw [zgD hs]; exact h.rc,fun i hi=>⟨(h.own i hi).1,Nat.lt_of_lt_of_le (h.own i hi).2 hn⟩,h.cap⟩
theorem Kst.expl {H:Heap} {k:Nat} {w:V} {ws:List (List Nat)} (h:Kst H k w ws) (h0:0 < ws.length):∃ id,w = .sl id 0 ws.length (.opn 4) ∧ H.get id = some ⟨zas,ws.flatten.map by8,some 4⟩ ∧ k < id ∧ id < H.next:=by
 obtain ⟨h1,h2,h3⟩:=h
 cases hn:ws.length with
 | zero=>omega
 | succ n =>
  rw [hn] at h2
  generalize ws.flatten.map by8 = cs at *
  cases h2 with
  | opn h ho =>
   rcases h with ⟨_,_,h⟩ | ⟨id,rfl,hg,hl⟩
   ·omega
   ·exact ⟨id,rfl,hg,(ho id rfl).1,(ho id rfl).2⟩
theorem kpush {H:Heap} {k:Nat} {w:V} {ws:List (List Nat)} {a b c d:Nat} {F:V → M Res} {Q:Res → Heap → Prop} (hk:Kst H k w ws) (hl:ws.length ≤ 1000)
  (h:∀ w' H',Kst H' k w' (ws ++ [[a,b,c,d]]) → Bel k H H' → Ok (F .undef) H' Q) :
  Ok ((mappend zas 4 4 w (.sl H.next 0 1 (.fix 1))).bind fun t45 =>
   (M.lift (Ax.nilck (.ptr k 0))).bind fun t46 =>
   (M.lift (Ax.faddr 259 t46)).bind fun t47 =>
   (mstore 1 t47 t45).bind F) (H.new ⟨zas,[by8 a,by8 b,by8 c,by8 d],none⟩) Q:=by
 obtain ⟨h1,h2,h3⟩:=hk
 have s1:=Grow.new H ⟨zas,[by8 a,by8 b,by8 c,by8 d],none⟩
 have n1:(H.new ⟨zas,[by8 a,by8 b,by8 c,by8 d],none⟩).next = H.next + 1:=zaf _ _
 have g1:=(s1.same k h3).trans h1
 have ac:zdZ 4 (H.new ⟨zas,[by8 a,by8 b,by8 c,by8 d],none⟩) (.sl H.next 0 1 (.fix 1)) = some ([by8 a,by8 b,by8 c,by8 d],1):=zb7 rfl
 have h2':App zas 4 (k + 1) (H.new ⟨zas,[by8 a,by8 b,by8 c,by8 d],none⟩) w (ws.flatten.map by8) ws.length:=App.keep h2 (s1.keep _)
 generalize hid:H.next = id at *
 generalize H.new _ = H1 at *
 refine znF h2' (by omega) ac rfl (by omega) (by omega) fun w' H2 a2 st=>?_
 have n2:=st.next
 have hpw:∀ i,i ∈ w.pid.toList → k + 1 ≤ i:=fun i hi=>(h2'.lc.own i (by simpa [zhe] using hi)).1
 have b2:Bel (k + 1) H1 H2:=⟨st.next,fun i hi=>by
  by_cases hin:i < H1.next
  ·exact st.same i hin fun e=>by have:=hpw i e; omega
  ·omega⟩
 have g2:H2.get k = _:=(b2.same k (by omega)).trans g1
 have sp:=zsB w w'
 have ln:=len260 w
 simp (disch:=omega) only [↓RD,RZ,eq_self,seval,g2,sp,ln,a2.lc.cells1,a2.lc.okc]
 refine h w' _ ⟨zaj _ _ _,?_,by rw [zan]; omega⟩ ⟨by rw [zan]; omega,fun i hi=>?_⟩
 ·have:(ws ++ [[a,b,c,d]]).flatten.map by8 = ws.flatten.map by8 ++ [by8 a,by8 b,by8 c,by8 d]:=by simp
  rw [this,List.length_append]
  refine App.same a2 (by rw [zan]; exact Nat.le_refl _) fun i hi=>zak _ _ ?_
  have:=(a2.lc.own i hi).1
  omega
 ·rw [zak _ _ (by omega),b2.same i (by omega),s1.same i (by omega)]
theorem s2a_ok {lo:Nat} {H:Heap} {v:V} {l:List Nat} (hv:By lo H v l) (hl:4 ≤ l.length):∃ p,op1 (.s2a 4) v = some p ∧ LdR (some 4) H p (.agg ((l.take 4).map by8)):=by
 have hlen:=hv.len
 rw [List.length_map,Nat.mul_one] at hlen
 rcases hv.cases with ⟨_,_,hn⟩ | ⟨id,off,cap,b,rfl,hb,hle,hc⟩ | ⟨cs,rfl,hle,hc⟩
 ·omega
 ·refine ⟨.ptr id off,by simp only [op1]; rw [if_pos ⟨hl,by decide⟩],?_⟩
  have h1:=(pl_ptr (H:=H) (off:=off) (m:=4) hb (by omega)).all
  have e:(b.cells.drop off).take 4 = (l.take 4).map by8:=by
   rw [List.map_take,hc,List.take_take,Nat.mul_one,Nat.min_eq_left hl]
  rw [e,List.length_map,List.length_take,Nat.min_eq_left hl] at h1
  exact h1
 ·refine ⟨.rp cs 0,by simp only [op1]; rw [if_pos ⟨hl,by decide⟩],?_⟩
  have h1:=(pl_rp (H:=H) (cs:=cs) (off:=0) (m:=4) (by omega)).all
  have e:(cs.drop 0).take 4 = (l.take 4).map by8:=by
   rw [List.map_take,hc,List.take_take,List.drop_zero,Nat.mul_one,Nat.min_eq_left hl]
  rw [e,List.length_map,List.length_take,Nat.min_eq_left hl] at h1
  exact h1
theorem four {l:List Nat} (h:l.length = 4):∃ a b c d,l = [a,b,c,d]:=by
 match l,h with
 | [a,b,c,d],_=>exact ⟨a,b,c,d,rfl⟩
def xw (s p:List Nat):List Nat:=(List.range 4).map fun j=>s.getD j 0 ^^^ p.getD j 0
theorem zmX (s p:List Nat):(xw s p).length = 4:=by simp [xw]
theorem znP (b:List Nat) (n i:Nat):kw b n (i + 1) = kw b n i ++ [if i < n then (b.drop (4 * i)).take 4 else xw (zjg n i ((kw b n i).getD (i - 1) [])) ((kw b n i).getD (i - n) [])]:=rfl
theorem New_1_ok {H:Heap} {k q id i j:Nat} {ws:List (List Nat)} {s:List Nat} {u2 u3 u8:V} (hw:∀ w ∈ ws,Word w) (hs:Word s) (hgk:H.get k = some ⟨zaN,tabC true ++ [.sl id 0 ws.length (.opn 4)],none⟩) (hgi:H.get id = some ⟨zas,ws.flatten.map by8,some 4⟩)
  (hq:H.get q = some ⟨zas,s.map by8,none⟩) (hqk:q ≠ k) (hqi:q ≠ id) (hkl:k < H.next) (hil:id < H.next) (hj:j ≤ i) (hi:i ≤ ws.length) (hj0:0 < j) (hwl:ws.length ≤ 1000) :
  Ok (M.iter (zfD (sem T) (.ptr k 0) (.int .i64 (i:Nat)) (.int .i64 (j:Nat)) (.ptr q 0) u2 u3 u8) [.int .i64 0]) H fun z H'=>z = .ex 5 [] ∧ H'.get q = some ⟨zas,(xw s (ws.getD (i - j) [])).map by8,none⟩ ∧ At1 q H H':=by
 refine zaF (fun m L H'=>L = [.int .i64 (m:Nat)] ∧ H'.get q = some ⟨zas,((xw s (ws.getD (i - j) [])).take m ++ s.drop m).map by8,none⟩ ∧ At1 q H H') 4 ?_ ?_ ?_
 ·exact ⟨rfl,by simpa using hq,At1.refl _ _⟩
 ·rintro m _ H3 hm ⟨rfl,g3,s3⟩
  have sl:=hs.1
  have gk3:=(s3.same k hkl (by omega)).trans hgk
  have gi3:=(s3.same id hil (by omega)).trans hgi
  have hA':(((xw s (ws.getD (i - j) [])).take m).map by8).length = m:=by rw [List.length_map,List.length_take,zmX]; omega
  rw [zmY (by omega)] at g3
  have m1:=zh5 (b:=by8 (s.getD m 0)) (C:=(s.drop (m + 1)).map by8) hA'
  have m2:=zh4 (b:=by8 (s.getD m 0)) (y:=by8 ((xw s (ws.getD (i - j) [])).getD m 0)) (C:=(s.drop (m + 1)).map by8) hA'
  have ml:(((xw s (ws.getD (i - j) [])).take m).map by8 ++ by8 (s.getD m 0) :: (s.drop (m + 1)).map by8).length = 4:=by rw [List.length_append,hA',List.length_cons,List.length_map,List.length_drop]; omega
  have ek:=zoQ (.sl id 0 ws.length (.opn 4))
  have e1:((i:Nat):Int) - ((j:Nat):Int) = ((i - j:Nat):Int):=by omega
  have wb:=zoa hw (j:=i - j) (m:=m) (by omega) hm
  have ex:=zfi (hs.2.getD m) (zqq hw (i - j) m)
  have ea:s.getD m 0 ^^^ (ws.getD (i - j) []).getD m 0 = (xw s (ws.getD (i - j) [])).getD m 0:=by unfold xw; rw [zcc hm]
  rw [ea] at ex
  unfold zfD
  simp (disch:=omega) only [↓RD,RZ,eq_self,seval,g3,m1,gk3,ek,e1,gi3,wb,ex,m2,ml,zcP,zaM]
  refine ⟨by omega,rfl,?_,s3.trans (At1.set q _ _)⟩
  rw [zke (by rw [zmX]; omega)]
 ·rintro _ H3 ⟨rfl,g3,s3⟩
  have sl:=hs.1
  unfold zfD
  simp (disch:=omega) only [↓RD,RZ,eq_self,seval]
  refine ⟨?_,s3⟩
  rw [g3,List.take_of_length_le (by rw [zmX]; omega),List.drop_of_length_le (by omega),List.append_nil]
theorem New_rest {lo:Nat} {H:Heap} {k n:Nat} {v:V} {l:List Nat} (hv:By lo H v l) (h8:Ok8 l) (hn:n = 4 ∨ n = 8) (hl:l.length = 4 * n) (hvk:∀ i,v.pid = some i → i < k) (hk:H.get k = some ⟨zaN,tabC true ++ [.nils],none⟩) (hkl:k < H.next) :
  Ok (M.blk 0 (M.iter (zeu (sem T) (.int .i64 (n:Nat)) (.ptr k 0) v .nilp (.int .i64 0)) [.int .i64 0]) fun _ =>
   M.blk 2 (M.iter (zet (sem T) (.ptr k 3) (.int .i64 (n:Nat)) (.ptr k 0) .nilp (.int .i64 0)) [.int .u8 1, .int .i64 (n:Nat)]) fun _ =>
   M.pure (.ret [.ptr k 0, .int .i64 0])) H fun r H'=>r = .ret [.ptr k 0, .int .i64 0] ∧ Aes H' k (kw l n (4 * (n + 7))) ∧ Bel k H H':=by
 have hn0:0 < n:=by omega
 have hwd:∀ i,∀ w ∈ kw l n i,Word w:=fun i=>zjf hn0 h8 hl i
 simp (disch:=first | omega | (simp only [RY] <;> omega) | decide) only [↓RD,RZ,eq_self,Int.reduceToNat,Int.reduceAdd,Nat.reduceAdd,Nat.reduceSub,Nat.reduceMul,Nat.reduceLeDiff]
 refine zar (Q:=fun z H'=>z = .ex 0 [] ∧ ∃ w,Kst H' k w (kw l n n) ∧ Bel k H H') ?_ ?_
 ·refine zaF (fun i L H'=>L = [.int .i64 (i:Nat)] ∧ ∃ w,Kst H' k w (kw l n i) ∧ Bel k H H') n ?_ ?_ ?_
  ·exact ⟨rfl, .nils,⟨hk,App.nil,hkl⟩,Bel.refl _ _⟩
  ·rintro i _ H1 hi ⟨rfl,w,hw,b1⟩
   have hv1:By lo H1 v l:=hv.same b1.next fun j hj=>b1.same j (hvk j hj)
   obtain ⟨v',-,-,hs,hv',-⟩:=zbM hv1 (x:=((4 * i:Nat):Int)) (y:=(l.length:Nat)) (by omega) (by omega) (by omega)
   have hs:=hs rfl (k:=.i64)
   rw [Int.toNat_natCast,Int.toNat_natCast,List.take_of_length_le (by rw [List.length_drop]; omega)] at hv'
   obtain ⟨p,hp,hld⟩:=s2a_ok hv' (by rw [List.length_drop]; omega)
   obtain ⟨a,b,c,d,e4⟩:=four (l:=(l.drop (4 * i)).take 4) (by rw [List.length_take,List.length_drop]; omega)
   rw [e4] at hld
   replace hld:LdR (some 4) H1 p (.agg [by8 a,by8 b,by8 c,by8 d]):=hld
   have e1:(4:Int) * ((i:Nat):Int) = ((4 * i:Nat):Int):=rfl
   have ek:=zoQ w
   have g1:=hw.1
   unfold zeu
   simp (disch:=first | omega | (simp only [RY] <;> omega) | decide) only [↓RD,RZ,eq_self,Int.reduceToNat,Int.reduceAdd,Nat.reduceAdd,Nat.reduceSub,Nat.reduceMul,Nat.reduceLeDiff,g1,ek,e1,hs,hp,hld]
   rw [zaK]
   refine kpush hw (by rw [zgM]; omega) fun w' H2 hw' b2=>?_
   simp (disch:=first | omega | (simp only [RY] <;> omega) | decide) only [↓RD,RZ,eq_self,Int.reduceToNat,Int.reduceAdd,Nat.reduceAdd,Nat.reduceSub,Nat.reduceMul,Nat.reduceLeDiff]
   refine ⟨rfl,w',?_,b1.trans b2⟩
   rw [znP,if_pos hi,e4]
   exact hw'
  ·rintro _ H1 ⟨rfl,w,hw,b1⟩
   unfold zeu
   simp (disch:=first | omega | (simp only [RY] <;> omega) | decide) only [↓RD,RZ,eq_self,Int.reduceToNat,Int.reduceAdd,Nat.reduceAdd,Nat.reduceSub,Nat.reduceMul,Nat.reduceLeDiff]
   exact ⟨w,hw,b1⟩
 ·rintro _ H1 ⟨rfl,w,hw,b1⟩
  simp (disch:=first | omega | (simp only [RY] <;> omega) | decide) only [↓RD,RZ,eq_self,Int.reduceToNat,Int.reduceAdd,Nat.reduceAdd,Nat.reduceSub,Nat.reduceMul,Nat.reduceLeDiff]
  refine zar (Q:=fun z H'=>z = .ex 2 [] ∧ ∃ w,Kst H' k w (kw l n (4 * (n + 7))) ∧ Bel k H H') ?_ ?_
  ·refine zaF (fun j L H'=>L = [by8 (rcon ((n + j - 1) / n)), .int .i64 ((n + j:Nat):Int)] ∧ ∃ w,Kst H' k w (kw l n (n + j)) ∧ Bel k H H') (4 * (n + 7) - n) ?_ ?_ ?_
   ·refine ⟨?_,w,hw,b1⟩
    rw [Nat.add_zero,Nat.div_eq_of_lt (by omega)]; rfl
   ·rintro j _ H2 hj ⟨rfl,w2,hw2,b2⟩
    obtain ⟨i,hi⟩:∃ i,n + j = i:=⟨_,rfl⟩
    rw [show n + (j + 1) = i + 1 by omega]
    rw [hi] at hw2 ⊢
    have e1:(((n:Nat):Int) + 6 + 1) * 4 = ((4 * (n + 7):Nat):Int):=by omega
    have e1':(4:Int) * (((n:Nat):Int) + 6 + 1) = ((4 * (n + 7):Nat):Int):=by omega
    have e2:((i:Nat):Int) - 1 = ((i - 1:Nat):Int):=by omega
    have hwl:=zgM l n i
    obtain ⟨id,hwe,gi2,hid,hid2⟩:=hw2.expl (by omega)
    rw [hwl] at hwe
    subst hwe
    have ek:=zoQ (.sl id 0 i (.opn 4))
    have g2:=hw2.1
    have hil:i < 4 * (n + 7):=by omega
    obtain ⟨sw,hsw⟩:∃ sw,(kw l n i).getD (i - 1) [] = sw:=⟨_,rfl⟩
    have hsm:(kw l n i)[i - 1]? = some sw:=by rw [← hsw,List.getD_eq_getElem?_getD,List.getElem?_eq_getElem (by omega)]; rfl
    have hsW:Word sw:=hwd i sw (List.mem_of_getElem? hsm)
    obtain ⟨a,b,c,d,e4⟩:=four hsW.1
    have hld:ldc (some 4) ((kw l n i).flatten.map by8) (4 * (i - 1)) = some (.agg [by8 a,by8 b,by8 c,by8 d]):=by
     rw [List.map_flatten]
     have:=ldc_flat (es:=(kw l n i).map (List.map by8)) (k:=4) (i:=i - 1) (x:=sw.map by8) (fun x hx=>by
      obtain ⟨y,hy,rfl⟩:=List.mem_map.1 hx
      rw [List.length_map]; exact (hwd i y hy).1) (by rw [List.getElem?_map,hsm]; rfl)
     rw [Nat.mul_comm,this,e4]; rfl
    have hld':=hld
    rw [Nat.mul_comm] at hld'
    unfold zet
    simp (disch:=first | omega | (simp only [RY] <;> omega) | decide) only [↓RD,RZ,eq_self,Int.reduceToNat,Int.reduceAdd,Nat.reduceAdd,Nat.reduceSub,Nat.reduceMul,Nat.reduceLeDiff,e1,e1',e2,g2,ek,gi2,hld,hld']
    have s3:At1 H2.next H2 ((H2.new ⟨zas,[.int .u8 0, .int .u8 0, .int .u8 0, .int .u8 0],none⟩).set H2.next (some ⟨zas,[by8 a,by8 b,by8 c,by8 d],none⟩)):=((Grow.new _ _).at1 _).trans (At1.set _ _ _)
    have gq3:((H2.new ⟨zas,[.int .u8 0, .int .u8 0, .int .u8 0, .int .u8 0],none⟩).set H2.next (some ⟨zas,[by8 a,by8 b,by8 c,by8 d],none⟩)).get H2.next = _:=zaj _ _ _
    have n3:((H2.new ⟨zas,[.int .u8 0, .int .u8 0, .int .u8 0, .int .u8 0],none⟩).set H2.next (some ⟨zas,[by8 a,by8 b,by8 c,by8 d],none⟩)).next = H2.next + 1:=rfl
    generalize hq:H2.next = q at *
    generalize Heap.set _ q _ = H3 at *
    have gk3:=(s3.same k (by omega) (by omega)).trans g2
    have gi3:=(s3.same id (by omega) (by omega)).trans gi2
    have eb:(((i:Nat):Int) % ((n:Nat):Int) == 0) = decide (i % n = 0):=by
     by_cases h:i % n = 0
     ·rw [decide_eq_true h,show ((i:Nat):Int) % ((n:Nat):Int) = ((i % n:Nat):Int) from rfl,h]; rfl
     ·rw [decide_eq_false h,show ((i:Nat):Int) % ((n:Nat):Int) = ((i % n:Nat):Int) from rfl]
      have:¬ ((i % n:Nat):Int) = 0:=by omega
      simpa using this
    have eb4:(((i:Nat):Int) % ((n:Nat):Int) == 4) = decide (i % n = 4):=by
     by_cases h:i % n = 4
     ·rw [decide_eq_true h,show ((i:Nat):Int) % ((n:Nat):Int) = ((i % n:Nat):Int) from rfl,h]; rfl
     ·rw [decide_eq_false h,show ((i:Nat):Int) % ((n:Nat):Int) = ((i % n:Nat):Int) from rfl]
      have:¬ ((i % n:Nat):Int) = 4:=by omega
      simpa using this
    have tb:∀ m,m < 256 → (tabC true ++ [V.sl id 0 i (.opn 4)])[3 + m]? = some (by8 (sb m)):=fun m h=>tab_at h
    have ia:∀ m,m < 256 → Ax.iaddr (some 256) 1 (.ptr k 3) (by8 m) = some (.ptr k (3 + m)):=fun m h=>zkB h
    have s8:Ok8 [a,b,c,d]:=e4 ▸ hsW.2
    have a8:a < 256:=s8 a (by simp)
    have b8:b < 256:=s8 b (by simp)
    have c8:c < 256:=s8 c (by simp)
    have d8:d < 256:=s8 d (by simp)
    have tw:=znm (zlC ((i - 1) / n))
    have xr:=zfi (zpp b) (zlC ((i - 1) / n))
    rw [eb,zfa]
    refine zar (Q:=fun r H'=>r = .nrm [by8 (rcon (i / n))] ∧ H'.get q = some ⟨zas,(zjg n i sw).map by8,none⟩ ∧ At1 q H3 H') ?_ ?_
    ·refine zbB (fun h=>?_) (fun h=>?_)
     ·simp (disch:=first | omega | (simp only [RY] <;> omega) | decide) only [↓RD,RZ,eq_self,Int.reduceToNat,Int.reduceAdd,Nat.reduceAdd,Nat.reduceSub,Nat.reduceMul,Nat.reduceLeDiff,gq3,gk3,tb _ a8,tb _ b8,tb _ c8,tb _ d8,ia _ a8,ia _ b8,ia _ c8,ia _ d8,xr,tw,zcP,zaM,zai]
      have er:(i - 1) / n + 1 = i / n:=by rcases hn with rfl | rfl <;> omega
      have er':i / n - 1 = (i - 1) / n:=by rcases hn with rfl | rfl <;> omega
      refine ⟨by rw [← er]; rfl,?_,At1.set q _ _⟩
      unfold zjg
      rw [if_pos h,e4,er']
      rfl
     ·have er:(i - 1) / n = i / n:=by rcases hn with rfl | rfl <;> omega
      have e8:[a,b,c,d].map by8 = [by8 a,by8 b,by8 c,by8 d]:=rfl
      rcases hn with hn4 | hn8
      ·have e6:decide ((6:Int) < ((n:Nat):Int)) = false:=by rw [hn4]; rfl
       simp (disch:=first | omega | (simp only [RY] <;> omega) | decide) only [↓RD,RZ,eq_self,Int.reduceToNat,Int.reduceAdd,Nat.reduceAdd,Nat.reduceSub,Nat.reduceMul,Nat.reduceLeDiff,e6]
       refine ⟨by rw [er],?_,At1.refl _ _⟩
       unfold zjg
       rw [if_neg h,if_neg (fun hh=>by have:=hh.1; omega),e4,e8]
       exact gq3
      ·have e6:decide ((6:Int) < ((n:Nat):Int)) = true:=by rw [hn8]; rfl
       simp (disch:=first | omega | (simp only [RY] <;> omega) | decide) only [↓RD,RZ,eq_self,Int.reduceToNat,Int.reduceAdd,Nat.reduceAdd,Nat.reduceSub,Nat.reduceMul,Nat.reduceLeDiff,e6,eb4]
       rw [zfa]
       refine zbB (fun h4=>?_) (fun h4=>?_)
       ·simp (disch:=first | omega | (simp only [RY] <;> omega) | decide) only [↓RD,RZ,eq_self,Int.reduceToNat,Int.reduceAdd,Nat.reduceAdd,Nat.reduceSub,Nat.reduceMul,Nat.reduceLeDiff,gq3,gk3,tb _ a8,tb _ b8,tb _ c8,tb _ d8,ia _ a8,ia _ b8,ia _ c8,ia _ d8,zcP,zaM,zai]
        refine ⟨by rw [er],?_,At1.set q _ _⟩
        unfold zjg
        rw [if_neg h,if_pos ⟨by omega,h4⟩,e4]
        rfl
       ·simp (disch:=first | omega | (simp only [RY] <;> omega) | decide) only [↓RD,RZ,eq_self,Int.reduceToNat,Int.reduceAdd,Nat.reduceAdd,Nat.reduceSub,Nat.reduceMul,Nat.reduceLeDiff]
        refine ⟨by rw [er],?_,At1.refl _ _⟩
        unfold zjg
        rw [if_neg h,if_neg (fun hh=>h4 hh.2),e4,e8]
        exact gq3
    ·rintro _ H4 ⟨rfl,gq4,s4⟩
     have n4:=s4.next
     simp (disch:=first | omega | (simp only [RY] <;> omega) | decide) only [↓RD,RZ,eq_self,Int.reduceToNat,Int.reduceAdd,Nat.reduceAdd,Nat.reduceSub,Nat.reduceMul,Nat.reduceLeDiff]
     have s24:=s3.trans s4
     have gk4:=(s24.same k (by omega) (by omega)).trans g2
     have gi4:=(s24.same id (by omega) (by omega)).trans gi2
     have hkw:(kw l n i).length = i:=zgM _ _ _
     refine zar (New_1_ok (k:=k) (q:=q) (id:=id) (i:=i) (j:=n) (hwd i) (zkq hsW) (by rw [hkw]; exact gk4) gi4 gq4 (by omega) (by omega) (by omega) (by omega) (by omega) (by omega) (by omega) (by omega)) ?_
     rintro _ H5 ⟨rfl,gq5,s5⟩
     have n5:=s5.next
     have s25:=s24.trans s5
     have gk5:=(s25.same k (by omega) (by omega)).trans g2
     obtain ⟨x0,x1,x2,x3,ex⟩:=four (zmX (zjg n i sw) ((kw l n i).getD (i - n) []))
     rw [ex] at gq5
     have lq:ldc (some 4) ([x0,x1,x2,x3].map by8) 0 = some (.agg [by8 x0,by8 x1,by8 x2,by8 x3]):=rfl
     have hK5:Kst H5 k (.sl id 0 i (.opn 4)) (kw l n i):=⟨gk5,App.same hw2.2.1 (by omega) fun m hm=>by
      simp only [V.pid,Option.some.injEq] at hm
      exact s25.same m (by omega) (by omega),by omega⟩
     simp (disch:=first | omega | (simp only [RY] <;> omega) | decide) only [↓RD,RZ,eq_self,Int.reduceToNat,Int.reduceAdd,Nat.reduceAdd,Nat.reduceSub,Nat.reduceMul,Nat.reduceLeDiff,gk5,ek,gq5,lq]
     rw [zaK]
     refine kpush hK5 (by rw [zgM]; omega) fun w' H6 hw6 b6=>?_
     simp (disch:=first | omega | (simp only [RY] <;> omega) | decide) only [↓RD,RZ,eq_self,Int.reduceToNat,Int.reduceAdd,Nat.reduceAdd,Nat.reduceSub,Nat.reduceMul,Nat.reduceLeDiff]
     refine ⟨?_,w',?_,b2.trans (Bel.trans ⟨by omega,fun m hm=>s25.same m (by omega) (by omega)⟩ b6)⟩
     ·rw [show i + 1 - 1 = i by omega]; rfl
     ·rw [znP,if_neg (by omega),hsw,ex]
      exact hw6
   ·rintro _ H2 ⟨rfl,w2,hw2,b2⟩
    have e1:(4:Int) * (((n:Nat):Int) + 6 + 1) = ((4 * (n + 7):Nat):Int):=by omega
    unfold zet
    simp (disch:=first | omega | (simp only [RY] <;> omega) | decide) only [↓RD,RZ,eq_self,Int.reduceToNat,Int.reduceAdd,Nat.reduceAdd,Nat.reduceSub,Nat.reduceMul,Nat.reduceLeDiff,e1]
    exact ⟨w2,by rw [show 4 * (n + 7) = n + (4 * (n + 7) - n) by omega]; exact hw2,b2⟩
  ·rintro _ H2 ⟨rfl,w2,hw2,b2⟩
   obtain ⟨id,rfl,g1,h1,h2⟩:=hw2.expl (by rw [zgM]; omega)
   simp (disch:=first | omega | (simp only [RY] <;> omega) | decide) only [↓RD,RZ,eq_self,Int.reduceToNat,Int.reduceAdd,Nat.reduceAdd,Nat.reduceSub,Nat.reduceMul,Nat.reduceLeDiff]
   exact ⟨⟨id,hw2.1,g1,hw2.2.2,h2,hwd _⟩,b2⟩
theorem KNew_ok {lo:Nat} {H:Heap} {v:V} {l:List Nat} {n:Nat} (hv:By lo H v l) (h8:Ok8 l) (hn:n = 4 ∨ n = 8) (hl:l.length = 4 * n) :
  Ok (sem T zgg [v]) H fun r H'=>∃ k,r = .tup [.ptr k 0, .int .i64 0] ∧ Aes H' k (kw l n (4 * (n + 7))) ∧ Grow H H' ∧ H.next ≤ k:=by
 refine zoF ?_
 unfold zmb
 have hpl:∀ i,v.pid = some i → i < H.next:=fun i hi=>(hv.own i hi).2
 have fin:∀ H1,H1.get H.next = some ⟨zaN,tabC false ++ [.nils],none⟩ → H1.next = H.next + 1 → Grow H H1 → Ok ((sem T zba [.ptr H.next 0]).bind fun t25 =>
   (M.lift (Ax.vlen v)).bind fun t27 =>
   (M.lift (Ax.bin .quo t27 (V.int .i64 4))).bind fun t28 =>
   M.blk 0 (
    M.iter (zeu (sem T) t28 (.ptr H.next 0) v V.nilp (V.int .i64 0)) [(V.int .i64 0)]) fun _ =>
   M.blk 2 (
    M.iter (zet (sem T) t25 t28 (.ptr H.next 0) V.nilp (V.int .i64 0)) [(V.int .u8 1),t28]) fun _ =>
   M.pure (.ret [.ptr H.next 0,(V.int .i64 0)])) H1 fun r H'=>∃ L,r = .ret L ∧ ∃ k,zf9 L = .tup [.ptr k 0, .int .i64 0] ∧ Aes H' k (kw l n (4 * (n + 7))) ∧ Grow H H' ∧ H.next ≤ k:=by
  intro H1 g1 n1 s1
  refine zah (ztz g1 (by omega)) ?_
  rintro _ H2 ⟨rfl,g2,s2⟩
  have n2:=s2.next
  have b2:Bel H.next H1 H2:=⟨s2.next,fun i hi=>s2.same i (by omega) (by simp; omega)⟩
  have hv2:By lo H2 v l:=(hv.ext s1).same n2 fun j hj=>b2.same j (hpl j hj)
  have e1:((l.length:Nat):Int) / 4 = ((n:Nat):Int):=by omega
  refine zaP hv2.vlen ?_
  refine zaP (v:=.int .i64 (n:Nat)) (by rw [zsO (by omega) (by omega) (by omega),e1]) ?_
  refine zar (New_rest hv2 h8 hn hl hpl g2 (by omega)) ?_
  rintro _ H3 ⟨rfl,hA,b3⟩
  exact ⟨_,rfl,_,rfl,hA,(s1.bel' (Nat.le_refl _) (b2.trans b3)),Nat.le_refl _⟩
 rcases hn with hn4 | hn8
 ·have hvl:Ax.vlen v = some (.int .i64 16):=by rw [hv.vlen,hl,hn4]; rfl
  simp (disch:=omega) only [↓RD,RZ,eq_self,seval,hvl]
  rw [zaK]
  exact fin _ (by rw [zad]; rfl) (zaf _ _) (Grow.new _ _)
 ·have hvl:Ax.vlen v = some (.int .i64 32):=by rw [hv.vlen,hl,hn8]; rfl
  simp (disch:=omega) only [↓RD,RZ,eq_self,seval,hvl]
  rw [zaK]
  exact fin _ (by rw [zad]; rfl) (zaf _ _) (Grow.new _ _)
end Go.Ax.SU
/- Su22 -/
namespace Go.Ax.SU
open Go.Ax
theorem zld (x n:Nat):num x (n + 1) = (x / 256 ^ n % 256) :: num x n:=by
 unfold num
 rw [List.range_succ_eq_map,List.map_cons,List.map_map]
 congr 1
 refine List.map_congr_left fun i hi=>?_
 rw [List.mem_range] at hi
 show x / 256 ^ (n + 1 - 1 - (i + 1)) % 256 = _
 rw [show n + 1 - 1 - (i + 1) = n - 1 - i by omega]
theorem zqX {H:Heap} {x:Nat} (hx:x < 18446744073709551616):Ok (sem T zdr [.int .u64 (x:Nat)]) H fun r H'=>∃ v,r = .tup [.int .u8 ((fld x).1:Nat),v] ∧ By H.next H' v (fld x).2 ∧ Grow H H':=by
 refine zlN ?_
 unfold ziX
 have np:=zeE x
 by_cases h8:x < 8
 ·have e:fld x = (x,[]):=by unfold fld; rw [if_pos h8]
  have c8:IntKind.u8.wrap ((x:Nat):Int) = ((x:Nat):Int):=by rw [wrap_u8]; omega
  simp (disch:=omega) only [↓RD,RZ,eq_self,seval,c8,e]
  exact ⟨_,rfl,Lc.nil,Grow.refl _⟩
 ·have e:fld x = (8 + zbm x - 1,num x (zbm x)):=by unfold fld; rw [if_neg h8]
  simp (disch:=omega) only [↓RD,RZ,eq_self,seval]
  refine zaF (fun k L H'=>∃ b,L = [.int .u64 (x / 256 ^ k:Nat),b] ∧ By H.next H' b (num x k) ∧ Grow H H') (zbm x) ?_ ?_ ?_
  ·exact ⟨.nils,by simp,Lc.nil,Grow.refl _⟩
  ·rintro k _ H1 hk ⟨b,rfl,hb,s1⟩
   have n1:=s1.next
   have hpos:0 < x / 256 ^ k:=by
    refine Nat.div_pos (Nat.le_trans (Nat.pow_le_pow_right (by decide) (show k ≤ zbm x - 1 by omega)) (zkp (by omega))) (Nat.pow_pos (by decide))
   have hlt:x / 256 ^ k < 18446744073709551616:=Nat.lt_of_le_of_lt (Nat.div_le_self _ _) hx
   have e1':x / 256 ^ k / 256 = x / 256 ^ (k + 1):=by rw [Nat.div_div_eq_div_mul,Nat.pow_succ]
   have e1:shr (x / 256 ^ k) 8 = x / 256 ^ (k + 1):=by rw [zfH,Nat.shiftRight_eq_div_pow]; exact e1'
   have e8:=cint8 (x / 256 ^ k)
   unfold zfg
   simp (disch:=omega) only [↓RD,RZ,eq_self,seval,e8]
   have s2:=Grow.new H1 ⟨zac,[.int .u8 (x / 256 ^ k % 256:Nat)],none⟩
   have g2:(H1.new ⟨zac,[.int .u8 (x / 256 ^ k % 256:Nat)],none⟩).get H1.next = _:=zad _ _
   have n2:(H1.new ⟨zac,[.int .u8 (x / 256 ^ k % 256:Nat)],none⟩).next = H1.next + 1:=zaf _ _
   have hb2:=hb.ext s2
   refine zew (lo:=H1.next) (l:=[x / 256 ^ k % 256]) (m:=num x k) (.full g2 rfl (Nat.le_refl _) (by omega)) (by omega) hb2.ac (by rw [zcb]; simp; omega) fun w H3 hw b3=>?_
   simp (disch:=omega) only [↓RD,RZ,eq_self,seval,e1,e1']
   exact ⟨w,rfl,by rw [zld]; exact hw.by.low (by omega),s1.trans (s2.bel' (Nat.le_refl _) b3)⟩
  ·rintro _ H1 ⟨b,rfl,hb,s1⟩
   have hz:x / 256 ^ zbm x = 0:=Nat.div_eq_of_lt (zjH hx)
   have c8:IntKind.u8.wrap (((zbm x:Nat):Int) - 1) = ((zbm x - 1:Nat):Int):=by rw [wrap_u8]; omega
   have o8:8 ||| (zbm x - 1) = 8 + zbm x - 1:=by
    have:∀ n,n < 8 → 8 ||| n = 8 + n:=by decide
    rw [this _ (by omega)]; omega
   have hvl:=hb.vlen
   rw [zcb] at hvl
   rw [hz]
   unfold zfg
   simp (disch:=omega) only [↓RD,RZ,eq_self,seval,hvl,c8,o8,e]
   exact ⟨_,rfl,hb,s1⟩
theorem Bytes_ok {H:Heap} {kid ctr:Nat} (h1:kid < 18446744073709551616) (h2:ctr < 18446744073709551616):Ok (sem T zel [.int .u64 (kid:Nat), .int .u64 (ctr:Nat)]) H fun r H'=>By H.next H' r (hdr kid ctr) ∧ Grow H H':=by
 refine zlP ?_
 unfold ziZ
 refine zah (zqX h1) ?_
 rintro _ H1 ⟨a,rfl,ha,s1⟩
 simp (disch:=omega) only [↓RD,RZ,eq_self,seval]
 refine zah (zqX h2) ?_
 rintro _ H2 ⟨b,rfl,hb,s2⟩
 have n1:=s1.next
 have n2:=s2.next
 have k1:=(zii kid).1
 have k2:=(zii ctr).1
 have m1:∀ x:Nat,(fld x).2.length ≤ 8:=fun x=>by
  unfold fld
  split
  ·simp
  ·dsimp only; rw [zcb]; exact (zeE x).2
 have e1:(fld kid).1 * 16 % 256 ||| (fld ctr).1 = (fld kid).1 * 16 + (fld ctr).1:=by
  rw [Nat.mod_eq_of_lt (by omega),show (16:Nat) = 2 ^ 4 from rfl,ziO _ _ 4 k2]
 have e2:shl (fld kid).1 4 % 256 ||| (fld ctr).1 = (fld kid).1 * 16 + (fld ctr).1:=by rw [znv,Nat.shiftLeft_eq]; exact e1
 simp (disch:=omega) only [↓RD,RZ,eq_self,seval,e1,e2]
 have s3:=Grow.new H2 ⟨zac,[.int .u8 ((fld kid).1 * 16 + (fld ctr).1:Nat)],none⟩
 have g3:(H2.new ⟨zac,[.int .u8 ((fld kid).1 * 16 + (fld ctr).1:Nat)],none⟩).get H2.next = _:=zad _ _
 have n3:(H2.new ⟨zac,[.int .u8 ((fld kid).1 * 16 + (fld ctr).1:Nat)],none⟩).next = H2.next + 1:=zaf _ _
 have ha3:=((ha.ext s2).ext s3)
 have hb3:=hb.ext s3
 have l1:=m1 kid
 have l2:=m1 ctr
 refine zew (lo:=H2.next) (l:=[(fld kid).1 * 16 + (fld ctr).1]) (m:=(fld kid).2) (.full g3 rfl (Nat.le_refl _) (by omega)) (by omega) ha3.ac (by simp; omega) fun w H4 hw b4=>?_
 have hb4:By H1.next H4 b (fld ctr).2:=hb3.same b4.next fun i hi=>b4.same i (hb.own i hi).2
 have n4:=b4.next
 refine zew (m:=(fld ctr).2) hw (by omega) hb4.ac (by simp; omega) fun w' H5 hw' b5=>?_
 simp (disch:=omega) only [↓RD,RZ,eq_self,seval]
 refine ⟨?_,(s1.trans s2).trans (s3.bel' (Nat.le_refl _) (b4.trans b5))⟩
 have:=hw'.by.low (show H.next ≤ H2.next by omega)
 have e:hdr kid ctr = [(fld kid).1 * 16 + (fld ctr).1] ++ (fld kid).2 ++ (fld ctr).2:=by unfold hdr; simp
 rw [e]
 exact this
theorem and8:∀ x,x < 16 → x &&& 8 = if x < 8 then 0 else 8:=by decide
theorem and7:∀ x,x < 16 → x &&& 7 = if x < 8 then x else x - 8:=by decide
theorem size_eq {x:Nat} (hx:x < 16):sem T zdV [.int .u8 (x:Nat)] = M.pure (.int .i64 (psz x:Nat)):=by
 refine zdD fun H=>?_
 refine zmN ?_
 unfold zjZ psz
 have a8:=and8 x hx
 have a7:=and7 x hx
 by_cases h:x < 8
 ·rw [if_pos h] at a8 a7 ⊢
  simp (disch:=first | omega | (simp only [RY] <;> omega) | decide) only [↓RD,RZ,eq_self,Int.reduceToNat,Int.reduceAdd,Nat.reduceAdd,Nat.reduceSub,Nat.reduceMul,Nat.reduceLeDiff,a8,a7]
  rfl
 ·rw [if_neg h] at a8 a7 ⊢
  have e:(((x - 8:Nat):Int)) + 1 = ((x - 7:Nat):Int):=by omega
  simp (disch:=first | omega | (simp only [RY] <;> omega) | decide) only [↓RD,RZ,eq_self,Int.reduceToNat,Int.reduceAdd,Nat.reduceAdd,Nat.reduceSub,Nat.reduceMul,Nat.reduceLeDiff,a8,a7,e]
theorem zlT {lo:Nat} {H:Heap} {v:V} {l:List Nat} {x:Nat} (hx:x < 16) (hv:By lo H v l) (h8:Ok8 l) (hl:l.length = psz x):Ok (sem T zc7 [.int .u8 (x:Nat),v]) H fun r H'=>r = .tup [.int .u64 (pnum x l:Nat), .bool (zlD x l)] ∧ H' = H:=by
 refine zk3 ?_
 unfold zim
 have a8:=and8 x hx
 by_cases h:x < 8
 ·rw [if_pos h] at a8
  have c:IntKind.u64.wrap ((x:Nat):Int) = ((x:Nat):Int):=by rw [wrap_u64]; omega
  simp (disch:=omega) only [↓RD,RZ,eq_self,seval,a8,c]
  unfold pnum zlD
  rw [if_pos h,if_pos h]
 ·rw [if_neg h] at a8
  unfold psz at hl
  rw [if_neg h] at hl
  simp (disch:=omega) only [↓RD,RZ,eq_self,seval,a8,hv.vlen]
  refine zaF (fun i L H'=>L = [.int .u64 (be (l.take i):Nat), .int .i64 (i:Nat)] ∧ H' = H) l.length ?_ ?_ ?_
  ·exact ⟨rfl,rfl⟩
  ·rintro i _ H' hi ⟨rfl,rfl⟩
   obtain ⟨p,hp,hld,-⟩:=zf8 hv (i:=(i:Nat)) (by omega) (by omega)
   have e1:=zun h8 hi (by omega)
   have b1:=ziD h8 (show i ≤ 8 by omega)
   have b2:=getD_lt h8 i
   simp only [Int.toNat_natCast] at hld
   have e2:be (l.take i) * 256 % 18446744073709551616 < 18446744073709551616:=Nat.mod_lt _ (by decide)
   unfold zeJ
   simp (disch:=omega) only [↓RD,RZ,eq_self,seval,hp,hld,Int.toNat_natCast,e1]
   rfl
  ·rintro _ H' ⟨rfl,rfl⟩
   obtain ⟨p,hp,hld,-⟩:=zf8 hv (i:=0) (by omega) (by omega)
   simp only [Int.toNat_zero] at hld
   unfold zeJ
   simp (disch:=omega) only [↓RD,RZ,eq_self,seval,List.take_length,hp,hld]
   have eb:(((l.getD 0 0:Nat):Int) == 0) = decide (l.getD 0 0 = 0):=by
    by_cases h:l.getD 0 0 = 0
    ·rw [h]; rfl
    ·rw [decide_eq_false h]
     have:¬ ((l.getD 0 0:Nat):Int) = 0:=by omega
     simpa using this
   have ef:zlD x l = ((l.getD 0 0 != 0) && decide (8 ≤ be l)):=by unfold zlD; rw [if_neg h]
   have ep:pnum x l = be l:=by unfold pnum; rw [if_neg h]
   rw [ef,ep,eb]
   by_cases h0:l.getD 0 0 = 0
   ·rw [decide_eq_true h0,h0]
    simp (disch:=omega) only [↓RD,RZ,eq_self,seval]
    rw [List.take_length]
    rfl
   ·rw [decide_eq_false h0]
    have e0:(l.getD 0 0 != 0) = true:=by simpa using h0
    rw [e0]
    have eg:decide ((8:Int) ≤ ((be l:Nat):Int)) = decide (8 ≤ be l):=by
     by_cases h:8 ≤ be l
     ·rw [decide_eq_true h,decide_eq_true (by omega)]
     ·rw [decide_eq_false h,decide_eq_false (by omega)]
    simp (disch:=omega) only [↓RD,RZ,eq_self,seval,eg]
    rw [List.take_length]
    rfl
def phv:PH → V
 | .err e=>.tup [.int .u64 0, .int .u64 0, .int .i64 0, .int .i64 (e:Nat)]
 | .ok kid ctr n=>.tup [.int .u64 (kid:Nat), .int .u64 (ctr:Nat), .int .i64 (n:Nat), .int .i64 0]
theorem znh {lo:Nat} {H:Heap} {v:V} {l:List Nat} (hv:By lo H v l) (h8:Ok8 l) (hl:l.length ≤ 1125899906842624):Ok (sem T zds [v]) H fun r H'=>r = phv (parse l) ∧ H' = H:=by
 refine zlO ?_
 unfold ziY
 have ez:(((l.length:Nat):Int) == 0) = decide (l.length = 0):=by
  by_cases h:l.length = 0
  ·rw [h]; rfl
  ·rw [decide_eq_false h]
   have:¬ ((l.length:Nat):Int) = 0:=by omega
   simpa using this
 simp (disch:=omega) only [↓RD,RZ,eq_self,seval,hv.vlen,ez]
 rw [zfa]
 refine zbB (fun h=>?_) (fun h=>?_)
 ·simp (disch:=omega) only [↓RD,RZ,eq_self,seval]
  unfold parse
  rw [if_pos h]; rfl
 ·obtain ⟨p,hp,hld,-⟩:=zf8 hv (i:=0) (by omega) (by omega)
  simp only [Int.toNat_zero] at hld
  have g8:=getD_lt h8 0
  unfold parse
  rw [if_neg h]
  generalize l.getD 0 0 = x at *
  have a15:x &&& 15 = x % 16:=Nat.and_two_pow_sub_one_eq_mod x 4
  have e4:shr x 4 = x / 16:=by rw [zfH,Nat.shiftRight_eq_div_pow]
  have x1:=size_eq (x:=x / 16) (by omega)
  have x2:=size_eq (x:=x % 16) (by omega)
  have p1:psz (x / 16) ≤ 8:=by unfold psz; split <;> omega
  have p2:psz (x % 16) ≤ 8:=by unfold psz; split <;> omega
  have e1:(1:Int) + ((psz (x / 16):Nat):Int) = ((1 + psz (x / 16):Nat):Int):=by omega
  have e2:((1 + psz (x / 16):Nat):Int) + ((psz (x % 16):Nat):Int) = ((1 + psz (x / 16) + psz (x % 16):Nat):Int):=by omega
  simp (disch:=omega) only [↓RD,RZ,eq_self,seval,hp,hld,e4,a15,x1,x2,e1,e2,hv.vlen]
  rw [zfa]
  refine zbB (fun h1=>?_) (fun h1=>?_)
  ·simp (disch:=omega) only [↓RD,RZ,eq_self,seval]
   rw [if_pos (by omega)]; rfl
  ·rw [if_neg (by omega)]
   obtain ⟨va,ha,-,-,hva,-⟩:=zbM hv (x:=1) (y:=((1 + psz (x / 16):Nat):Int)) (by omega) (by omega) (by omega)
   obtain ⟨vb,hb,-,-,hvb,-⟩:=zbM hv (x:=((1 + psz (x / 16):Nat):Int)) (y:=((1 + psz (x / 16) + psz (x % 16):Nat):Int)) (by omega) (by omega) (by omega)
   simp only [Int.toNat_natCast,Int.toNat_one] at hva hvb
   rw [← List.drop_take] at hva hvb
   have la:((l.take (1 + psz (x / 16))).drop 1).length = psz (x / 16):=by rw [List.length_drop,List.length_take]; omega
   have lb:((l.take (1 + psz (x / 16) + psz (x % 16))).drop (1 + psz (x / 16))).length = psz (x % 16):=by rw [List.length_drop,List.length_take]; omega
   have k1:=@zca _ _ _ _ (zlT (by omega) hva ((h8.take _).drop _) la)
   have k2:=@zca _ _ _ _ (zlT (by omega) hvb ((h8.take _).drop _) lb)
   simp (disch:=omega) only [↓RD,RZ,eq_self,seval,ha,hb,k1,k2]
   generalize (l.take (1 + psz (x / 16))).drop 1 = ya at *
   generalize (l.take (1 + psz (x / 16) + psz (x % 16))).drop (1 + psz (x / 16)) = yb at *
   cases q1:zlD (x / 16) ya with
   | false =>
    simp (disch:=omega) only [↓RD,RZ,eq_self,seval,Bool.not_false]
    rw [q1]; rfl
   | true =>
    cases q2:zlD (x % 16) yb with
    | false =>
     simp (disch:=omega) only [↓RD,RZ,eq_self,seval,Bool.not_true,Bool.not_false]
     rw [q1,q2]; rfl
    | true =>
     simp (disch:=omega) only [↓RD,RZ,eq_self,seval,Bool.not_true,Bool.not_false]
     rw [q1,q2]; rfl
end Go.Ax.SU
/- Su23 -/
namespace Go.Ax.SU
open Go.Ax
theorem beqn (n m:Nat):(((n:Nat):Int) == ((m:Nat):Int)) = decide (n = m):=by
 by_cases h:n = m
 ·rw [h,decide_eq_true rfl]; simp
 ·rw [decide_eq_false h]
  have:¬ ((n:Nat):Int) = ((m:Nat):Int):=by omega
  simpa using this
theorem beqz (n:Nat):(((n:Nat):Int) == 0) = decide (n = 0):=beqn n 0
theorem zso {a b:Nat} (h:a ^^^ b = 0):a = b:=by
 have h1:(a ^^^ b) ^^^ b = b:=by rw [h,Nat.zero_xor]
 rw [Nat.xor_assoc,Nat.xor_self,Nat.xor_zero] at h1
 exact h1
theorem or_zero8 {a b:Nat} (h:a ||| b = 0):a = 0 ∧ b = 0:=by
 have:=Nat.left_le_or (n:=a) (m:=b)
 have:=Nat.right_le_or (n:=a) (m:=b)
 omega
theorem or_lt8 {a b:Nat} (ha:a < 256) (hb:b < 256):a ||| b < 256:=Nat.or_lt_two_pow (n:=8) ha hb
theorem Same_ok {lo lo':Nat} {H:Heap} {u v:V} {a b:List Nat} (hu:By lo H u a) (hv:By lo' H v b) (ha:Ok8 a) (hb:Ok8 b) (hal:a.length ≤ 1125899906842624):Ok (sem T zhj [u,v]) H fun r H'=>r = .bool (decide (a = b)) ∧ H' = H:=by
 refine zpB ?_
 unfold zna
 simp (disch:=omega) only [↓RD,RZ,hu.vlen,hv.vlen,beqn]
 by_cases hl:a.length = b.length
 ·have e:decide (a.length = b.length) = true:=decide_eq_true hl
  simp (disch:=omega) only [↓RD,RZ,e,hu.vlen]
  refine zaF (fun i L H'=>∃ x,L = [.int .u8 (x:Nat), .int .i64 (i:Nat)] ∧ H' = H ∧ x < 256 ∧ (x = 0 ↔ a.take i = b.take i)) a.length ?_ ?_ ?_
  ·exact ⟨0,rfl,rfl,by decide,by simp⟩
  ·rintro i _ H' hi ⟨x,rfl,rfl,hx,hxe⟩
   obtain ⟨p,hp,hld,-⟩:=zf8 hu (i:=(i:Nat)) (by omega) (by omega)
   obtain ⟨q,hq,hlq,-⟩:=zf8 hv (i:=(i:Nat)) (by omega) (by omega)
   simp only [Int.toNat_natCast] at hld hlq
   have h1:=ha.getD i
   have h2:=hb.getD i
   have ex:=zfi h1 h2
   replace ex:Ax.bin .xor (.int .u8 (a.getD i 0:Nat)) (.int .u8 (b.getD i 0:Nat)) = some (.int .u8 (a.getD i 0 ^^^ b.getD i 0:Nat)):=ex
   have hxl:=za3 h1 h2
   unfold zij
   simp (disch:=omega) only [↓RD,RZ,hp,hq,hld,hlq,ex]
   refine ⟨_,rfl,or_lt8 hx hxl,?_⟩
   rw [zbk hi,zbk (by omega)]
   constructor
   ·intro h
    obtain ⟨h3,h4⟩:=or_zero8 h
    rw [hxe.1 h3,zso h4]
   ·intro h
    have:=List.append_inj h (by rw [List.length_take,List.length_take]; omega)
    rw [hxe.2 this.1,Nat.zero_or]
    have h5:a.getD i 0 = b.getD i 0:=by simpa using this.2
    rw [h5,Nat.xor_self]
  ·rintro _ H' ⟨x,rfl,rfl,hx,hxe⟩
   unfold zij
   simp (disch:=omega) only [↓RD,RZ,beqz]
   rw [List.take_length,hl,List.take_length] at hxe
   simp only [hxe]
 ·have e:decide (a.length = b.length) = false:=decide_eq_false hl
  have e2:decide (a = b) = false:=decide_eq_false fun h=>hl (by rw [h])
  simp (disch:=omega) only [↓RD,RZ,e]
  rw [e2]
theorem by_sl {lo id n:Nat} {H:Heap} {cap:Cap} {ty:TypeId} {l:List Nat} {o:Option Nat} (h:H.get id = some ⟨ty,l.map by8,o⟩) (hl:l.length = n) (h0:lo ≤ id) (h1:id < H.next) (hc:V.capOk 1 (.sl id 0 n cap)):By lo H (.sl id 0 n cap) l:=by
 refine ⟨?_,fun i hi=>by simp only [V.pid,Option.some.injEq] at hi; omega,hc⟩
 simp only [zbb,h,Option.bind_some]
 rw [if_pos (by rw [List.length_map]; omega),List.drop_zero,List.take_of_length_le (by rw [List.length_map]; omega),hl]
theorem Ab.blk {lo:Nat} {H:Heap} {v:V} {l:List Nat} (h:Ab lo H v l) (h0:0 < l.length):∃ id cap o,v = .sl id 0 l.length cap ∧ H.get id = some ⟨zac,l.map by8,o⟩ ∧ lo ≤ id ∧ id < H.next ∧ V.capOk 1 (.sl id 0 l.length cap):=by
 have hc:=Ab.by h |>.cap
 have h':Apf zac 1 lo H v (l.map by8) l.length:=h
 generalize hn:l.length = n at *
 generalize hcs:l.map by8 = cs at *
 have hcl:cs.length = n:=by rw [← hcs,List.length_map,hn]
 clear h
 cases h' with
 | app h =>
  cases h with
  | opn h ho =>
   rcases h with ⟨_,_,h⟩ | ⟨id,rfl,hg,hl⟩
   ·omega
   ·exact ⟨id,_,_,rfl,hg,(ho id rfl).1,(ho id rfl).2,hc⟩
  | lit h g0 g1=>omega
 | full h hl g0 g1=>exact ⟨_,_,_,rfl,h,g0,g1,hc⟩
theorem zky {lo id off len:Nat} {H:Heap} {cap:Cap} {ty:TypeId} {v:V} {cs:List V} {o:Option Nat} {p:List Nat} (hg:H.get id = some ⟨ty,cs,o⟩) (hv:By lo H v p) (h1:off + len ≤ cs.length) (h2:p.length ≤ len) :
  mcopy 1 (.sl id off len cap) v H = some (.int .i64 (p.length:Nat),H.set id (some ⟨ty,splice cs off (p.map by8),o⟩)):=by
 unfold mcopy
 rw [hv.ac]
 simp only [Option.bind_some,hg]
 rw [if_pos (by omega),Nat.min_eq_left h2,Nat.mul_one,List.take_of_length_le (by rw [List.length_map]; exact Nat.le_refl _)]
theorem Join_ok {lo:Nat} {H:Heap} {v:V} {vs:List V} {ps:List (List Nat)} (hv:Lc 1 lo H v vs vs.length) (hp:Pts 0 H vs ps) (hn:2 ≤ vs.length) (hvn:vs.length ≤ 1000) (hlen:ps.flatten.length ≤ 1099511627776) :
  Ok (sem T zfC [v, .nils]) H fun r H'=>By H.next H' r ps.flatten ∧ Grow H H':=by
 refine znJ ?_
 unfold zkV
 have hpl:=hp.1
 have c0:(((vs.length:Nat):Int) == 0) = false:=by rw [beqz]; exact decide_eq_false (by omega)
 have c1:(((vs.length:Nat):Int) == 1) = false:=by rw [show (1:Int) = ((1:Nat):Int) from rfl,beqn]; exact decide_eq_false (by omega)
 have vn:Ax.vlen .nils = some (.int .i64 0):=rfl
 simp (disch:=omega) only [↓RD,RZ,hv.vlen,c0,c1,vn]
 refine zar (α:=Res) (Q:=fun z H'=>z = .ex 0 [.int .i64 (ps.flatten.length:Nat)] ∧ H' = H) ?_ ?_
 ·refine zaF (fun i L H'=>L = [.int .i64 ((ps.take i).flatten.length:Nat), .int .i64 (i:Nat)] ∧ H' = H) vs.length ?_ ?_ ?_
  ·exact ⟨rfl,rfl⟩
  ·rintro i _ H' hi ⟨rfl,rfl⟩
   have hx:vs[i]? = some vs[i]:=List.getElem?_eq_getElem hi
   have hy:ps[i]? = some ps[i]:=List.getElem?_eq_getElem (by omega)
   obtain ⟨hb,hb8⟩:=hp.2 i _ _ hx hy
   obtain ⟨q,hq,hld⟩:=zr4 hv hi hx
   have hf:=zgP hy
   have hl1:=zeb ps (i + 1)
   rw [hf,List.length_append] at hl1
   unfold zgz
   have ea:(((ps.take i).flatten.length:Nat):Int) + ((ps[i].length:Nat):Int) = (((ps.take (i + 1)).flatten.length:Nat):Int):=by rw [hf,List.length_append]; omega
   simp (disch:=omega) only [↓RD,RZ,hq,hld,hb.vlen,ea]
   rfl
  ·rintro _ H' ⟨rfl,rfl⟩
   unfold zgz
   simp (disch:=omega) only [↓RD,RZ]
   rw [List.take_of_length_le (by omega)]
 ·rintro _ H' ⟨rfl,rfl⟩
  have hx0:vs[0]? = some vs[0]:=List.getElem?_eq_getElem (by omega)
  have hy0:ps[0]? = some ps[0]:=List.getElem?_eq_getElem (by omega)
  obtain ⟨hb0,-⟩:=hp.2 0 _ _ hx0 hy0
  have hf0:=zgP hy0
  rw [List.take_zero,List.flatten_nil,List.nil_append] at hf0
  have hl0:=zeb ps 1
  rw [hf0] at hl0
  generalize hn':ps.flatten.length = n at *
  simp (disch:=omega) only [↓RD,RZ]
  have hmk:mmknz zac (.int .i64 (n:Nat)) H' = some (.sl H'.next 0 n (.opn 1),H'.new ⟨zac,List.replicate n .any,some 1⟩):=by
   simp only [mmknz]
   rw [if_pos (by omega),Int.toNat_natCast]
  rw [zaK]
  refine zap ⟨_,_,hmk,?_⟩
  have s1:=Grow.new H' ⟨zac,List.replicate n .any,some 1⟩
  have g1:(H'.new ⟨zac,List.replicate n .any,some 1⟩).get H'.next = _:=zad _ _
  have n1:(H'.new ⟨zac,List.replicate n .any,some 1⟩).next = H'.next + 1:=zaf _ _
  have hv1:=hv.ext s1
  have hp1:=hp.grow s1
  have hb1:=hb0.ext s1
  generalize hb:H'.next = b at *
  generalize H'.new _ = H1 at *
  have hvb:∀ i,v.pid = some i → i < b:=fun i hi=>by have:=(hv.own i hi).2; omega
  have vsl:zaz .sl 1 (.sl b 0 n (.opn 1)) none (some (.int .i64 (n:Nat))) (some (.int .i64 (n:Nat))) = some (.sl b 0 n (.fix n)):=by
   simp only [zaz,zdp,vint,Option.map_some,Option.bind_some,Option.getD_some,Option.getD_none]
   rw [if_neg (by simp),if_pos (by omega)]
   simp
  obtain ⟨q,hq,hld⟩:=zr4 hv1 (i:=0) (by omega) hx0
  replace hq:∀ {k:IntKind},Ax.iaddr none 1 v (.int k 0) = some q:=hq
  simp (disch:=omega) only [↓RD,RZ,vsl,hq,hld]
  have cp:=zky (off:=0) (len:=n) (cap:=.fix n) g1 hb1 (by simp) (by omega)
  rw [zaK]
  refine zap ⟨_,_,cp,?_⟩
  obtain ⟨w,-,-,hw,hwc,hwp⟩:=hv1.slice (x:=1) (y:=(vs.length:Nat)) (by omega) (by omega) (by omega)
  have hw:=hw rfl (k:=.i64)
  have e1:(1:Int).toNat = 1:=rfl
  rw [e1,Int.toNat_natCast,Nat.mul_one,Nat.mul_one,List.take_of_length_le (by rw [List.length_drop]; omega)] at hwc
  have hwb:w.pid ≠ some b:=by rw [hwp]; exact fun e=>by have:=hvb _ e; omega
  simp (disch:=omega) only [↓RD,RZ,hw,hwc.vlen]
  have sp0:∀ (p:List Nat),p.length ≤ n → splice (List.replicate n V.any) 0 (p.map by8) = p.map by8 ++ List.replicate (n - p.length) .any:=fun p hp=>by
   unfold splice
   rw [List.take_zero,List.nil_append,List.length_map,Nat.zero_add,List.drop_replicate]
  have spj:∀ (p q:List Nat),p.length + q.length ≤ n → splice (p.map by8 ++ List.replicate (n - p.length) V.any) p.length (q.map by8) = (p ++ q).map by8 ++ List.replicate (n - (p ++ q).length) .any:=fun p q h=>by
   unfold splice
   rw [List.take_left' (by rw [List.length_map]),List.length_map,List.drop_append,List.length_map,List.drop_of_length_le (by rw [List.length_map]; omega),List.nil_append,List.drop_replicate,List.map_append,List.length_append,show n - p.length - (p.length + q.length - p.length) = n - (p.length + q.length) by omega]
  refine zar (α:=Res) (Q:=fun z H'=>z = .ex 2 [] ∧ H'.get b = some ⟨zac,ps.flatten.map by8,some 1⟩ ∧ At1 b H1 H') ?_ ?_
  ·refine zaF (fun j L H'=>L = [.int .i64 ((ps.take (j + 1)).flatten.length:Nat), .int .i64 (j:Nat)] ∧ H'.get b = some ⟨zac,(ps.take (j + 1)).flatten.map by8 ++ List.replicate (n - (ps.take (j + 1)).flatten.length) .any,some 1⟩ ∧ At1 b H1 H') (vs.length - 1) ?_ ?_ ?_
   ·refine ⟨by rw [Nat.zero_add,hf0]; rfl,?_,At1.set b _ _⟩
    rw [zaj,Nat.zero_add,hf0,sp0 _ hl0]
   ·rintro j _ H2 hj ⟨rfl,g2,s2⟩
    have hx:vs[j + 1]? = some vs[j + 1]:=List.getElem?_eq_getElem (by omega)
    have hy:ps[j + 1]? = some ps[j + 1]:=List.getElem?_eq_getElem (by omega)
    obtain ⟨hbj,-⟩:=hp1.2 (j + 1) _ _ hx hy
    obtain ⟨hbj0,-⟩:=hp.2 (j + 1) _ _ hx hy
    have hbj2:=hbj.at1 s2 (fun e=>by have:=(hbj0.own _ e).2; omega)
    have hwc2:=hwc.at1 s2 hwb
    have hwl:(vs.drop 1).length = vs.length - 1:=List.length_drop ..
    rw [← hwl] at hwc2
    have hwx:(vs.drop 1)[j]? = some vs[j + 1]:=by rw [List.getElem?_drop,Nat.add_comm]; exact hx
    obtain ⟨q2,hq2,hld2⟩:=zr4 hwc2 (i:=j) (by omega) hwx
    have hf:=zgP hy
    have hl1:=zeb ps (j + 1 + 1)
    rw [hf,List.length_append] at hl1
    rw [hf]
    generalize (ps.take (j + 1)).flatten = P at *
    have vs1:zaz .sl 1 (.sl b 0 n (.fix n)) (some (.int .i64 (P.length:Nat))) none none = some (.sl b P.length (n - P.length) (.fix (n - P.length))):=by
     simp only [zaz,zdp,vint,Option.map_some,Option.bind_some,Option.getD_some,Option.getD_none]
     rw [if_neg (by simp),if_pos (by omega)]
     simp
    have cl:(P.map by8 ++ List.replicate (n - P.length) V.any).length = n:=by rw [List.length_append,List.length_map,List.length_replicate]; omega
    have nl:By 0 H2 .nils []:=Lc.nil
    have cp1:=zky (off:=P.length) (len:=n - P.length) (cap:=.fix (n - P.length)) g2 nl (by omega) (Nat.zero_le _)
    have sp1:splice (P.map by8 ++ List.replicate (n - P.length) V.any) P.length (([]:List Nat).map by8) = P.map by8 ++ List.replicate (n - P.length) V.any:=by
     rw [spj P [] (by simp; omega),List.append_nil]
    rw [sp1] at cp1
    have s3:=At1.set b H2 (some ⟨zac,P.map by8 ++ List.replicate (n - P.length) V.any,some 1⟩)
    have g3:(H2.set b (some ⟨zac,P.map by8 ++ List.replicate (n - P.length) V.any,some 1⟩)).get b = _:=zaj _ _ _
    have hbj3:=hbj2.at1 s3 (fun e=>by have:=(hbj0.own _ e).2; omega)
    have cp2:=zky (off:=P.length) (len:=n - P.length) (cap:=.fix (n - P.length)) g3 hbj3 (by omega) (by omega)
    rw [spj _ _ (by omega)] at cp2
    have ea:((P.length:Nat):Int) + ((0:Nat):Int) = ((P.length:Nat):Int):=by omega
    unfold zgy
    simp (disch:=omega) only [↓RD,RZ,hq2,hld2,vs1]
    rw [zaK]
    refine zap ⟨_,_,cp1,?_⟩
    have ez:(([]:List Nat).length:Nat) = 0:=rfl
    simp (disch:=omega) only [↓RD,RZ,ez,ea,vs1,Int.natCast_zero,Int.add_zero]
    rw [zaK]
    refine zap ⟨_,_,cp2,?_⟩
    simp (disch:=omega) only [↓RD,RZ]
    exact ⟨by rw [List.length_append]; rfl,(s2.trans s3).trans (At1.set b _ _)⟩
   ·rintro _ H2 ⟨rfl,g2,s2⟩
    unfold zgy
    simp (disch:=omega) only [↓RD,RZ]
    refine ⟨?_,s2⟩
    rw [g2,show vs.length - 1 + 1 = vs.length by omega,List.take_of_length_le (by omega),hn',Nat.sub_self]
    simp
  ·rintro _ H2 ⟨rfl,g2,s2⟩
   have n2:=s2.next
   simp (disch:=omega) only [↓RD,RZ]
   exact ⟨ze8 g2 hn' (by omega) (by omega),⟨by omega,fun i hi=>by rw [s2.same i (by omega) (by omega),s1.same i (by omega)]⟩⟩
end Go.Ax.SU
/- Su24 -/
namespace Go.Ax.SU
open Go.Ax
structure KyG (K:Ky):Prop where
 kid:K.kid < 18446744073709551616
 t:K.t ≤ 32
 ws:∀ w ∈ K.ws,Word w
 wl:K.ws.length ≤ 1000
 w4:K.ws.length % 4 = 0
 w8:8 ≤ K.ws.length
 auth:K.auth.length = 32
 auth8:Ok8 K.auth
 salt:K.salt.length = 12
 salt8:Ok8 K.salt
structure KeyM (H:Heap) (k:Nat) (K:Ky):Prop where
 good:KyG K
 mem:∃ a av sv,H.get k = some ⟨zaL,[.int .u64 (K.kid:Nat), .int .i64 (K.t:Nat), .ptr a 0,av,sv],none⟩ ∧ Aes H a K.ws ∧ By 0 H av K.auth ∧ By 0 H sv K.salt
 low:k < H.next
theorem KeyM.grow {H H':Heap} {k:Nat} {K:Ky} (h:KeyM H k K) (g:Grow H H'):KeyM H' k K:=by
 obtain ⟨a,av,sv,h1,h2,h3,h4⟩:=h.mem
 exact ⟨h.good,⟨a,av,sv,by rw [g.same k h.low]; exact h1,h2.grow g,h3.ext g,h4.ext g⟩,Nat.lt_of_lt_of_le h.low g.next⟩
theorem zeV (s:List Nat) (c:Nat):(za9 s c).length = 12:=by simp [za9]
theorem znM {s:List Nat} (h:Ok8 s) (c:Nat):Ok8 (za9 s c):=Ok8.rmap fun i _=>za3 ((zeU c 12).getD i) (h.getD i)
theorem zoX (s:List Nat) (c:Nat):(first (za9 s c)).length = 16:=by unfold first; rw [List.length_append,zeV]; rfl
theorem ztX {s:List Nat} (h:Ok8 s) (c:Nat):Ok8 (first (za9 s c)):=(znM h c).app (Ok8.rep 4)
theorem zqK {H:Heap} {k c:Nat} {K:Ky} (hk:KeyM H k K) (hc:c < 18446744073709551616):Ok (sem T zcd [.ptr k 0, .int .u64 (c:Nat)]) H fun r H'=>By H.next H' r (za9 K.salt c) ∧ Grow H H':=by
 refine zi8 ?_
 unfold zgh
 refine zah (zgK c 12 hc (by decide)) ?_
 rintro r H1 ⟨hr,s1⟩
 have nl:=zeV K.salt c
 have hk1:=hk.grow s1
 have kl:=hk.low
 have m12:=zcb c 12
 obtain ⟨id,cap,o,hrv,g1,i0,i1,hcap⟩:=hr.blk (by rw [m12]; decide)
 rw [m12] at hrv hcap
 subst hrv
 have vn:Ax.vlen (.sl id 0 12 cap) = some (.int .i64 12):=rfl
 obtain ⟨a,av,sv,k1,-,-,ks⟩:=hk1.mem
 obtain ⟨a',av',sv',k1',-,-,ks'⟩:=hk.mem
 have hpid:∀ i,sv.pid = some i → i < H.next:=by
  have e:=(s1.same k kl).symm.trans k1
  rw [k1'] at e
  simp only [Option.some.injEq,Blk.mk.injEq,List.cons.injEq,true_and,and_true] at e
  obtain ⟨-,rfl,-⟩:_ ∧ sv' = sv ∧ True:=⟨trivial,by simp_all,trivial⟩
  exact fun i hi=>(ks'.own i hi).2
 have n1:=s1.next
 simp (disch:=omega) only [↓RD,RZ,eq_self,seval,vn]
 refine zar (α:=Res) (Q:=fun z H'=>z = .ex 0 [] ∧ H'.get id = some ⟨zac,(za9 K.salt c).map by8,o⟩ ∧ At1 id H1 H') ?_ ?_
 ·refine zaF (fun i L H'=>L = [.int .i64 (i:Nat)] ∧ H'.get id = some ⟨zac,((za9 K.salt c).take i ++ (num c 12).drop i).map by8,o⟩ ∧ At1 id H1 H') 12 ?_ ?_ ?_
  ·exact ⟨rfl,by simpa using g1,At1.refl _ _⟩
  ·rintro i _ H2 hi ⟨rfl,g2,s2⟩
   have gk2:=(s2.same k (by omega) (by omega)).trans k1
   have ks2:=ks.at1 s2 (fun e=>by have:=hpid _ e; omega)
   obtain ⟨p,hp,hld,-⟩:=zf8 ks2 (i:=(i:Nat)) (by omega) (by have:=hk.good.salt; omega)
   simp only [Int.toNat_natCast] at hld
   have hA:(((za9 K.salt c).take i).map by8).length = i:=by rw [List.length_map,List.length_take]; omega
   rw [zmY (by omega)] at g2
   have m1:=zh5 (b:=by8 ((num c 12).getD i 0)) (C:=((num c 12).drop (i + 1)).map by8) hA
   have m2:=zh4 (b:=by8 ((num c 12).getD i 0)) (y:=by8 ((za9 K.salt c).getD i 0)) (C:=((num c 12).drop (i + 1)).map by8) hA
   have ml:(((za9 K.salt c).take i).map by8 ++ by8 ((num c 12).getD i 0) :: ((num c 12).drop (i + 1)).map by8).length = 12:=by rw [List.length_append,hA,List.length_cons,List.length_map,List.length_drop]; omega
   have ex:=zfi ((zeU c 12).getD i) (hk.good.salt8.getD i)
   have ea:(num c 12).getD i 0 ^^^ K.salt.getD i 0 = (za9 K.salt c).getD i 0:=by unfold za9; rw [zcc hi]
   rw [ea] at ex
   replace ex:Ax.bin .xor (by8 ((num c 12).getD i 0)) (.int .u8 (K.salt.getD i 0:Nat)) = _:=ex
   unfold zdL
   simp (disch:=omega) only [↓RD,RZ,eq_self,seval,g2,m1,gk2,hp,hld,ex,m2,ml,zcP,zaM]
   refine ⟨by omega,rfl,?_,s2.trans (At1.set id _ _)⟩
   rw [zke (by omega)]
  ·rintro _ H2 ⟨rfl,g2,s2⟩
   unfold zdL
   simp (disch:=omega) only [↓RD,RZ,eq_self,seval]
   refine ⟨?_,s2⟩
   rw [g2,List.take_of_length_le (by omega),List.drop_of_length_le (by omega),List.append_nil]
 ·rintro _ H2 ⟨rfl,g2,s2⟩
  have n2:=s2.next
  simp (disch:=omega) only [↓RD,RZ,eq_self,seval]
  exact ⟨by_sl g2 nl i0 (by omega) hcap,⟨by omega,fun i hi=>by rw [s2.same i (by omega) (by omega),s1.same i hi]⟩⟩
theorem zq3 {lo lo':Nat} {H:Heap} {k c:Nat} {K:Ky} {nv bv:V} {l:List Nat} (hk:KeyM H k K) (hn:By lo H nv (za9 K.salt c)) (hb:By lo' H bv l) (h8:Ok8 l) (hl:l.length ≤ 1099511627776) :
  Ok (sem T zce [.ptr k 0,nv,bv]) H fun r H'=>By H.next H' r (ctr K.ws (first (za9 K.salt c)) l) ∧ Grow H H':=by
 refine zi9 ?_
 unfold zgi
 refine zap (zaU (by rfl) ?_)
 rw [zai]
 have s1:=Grow.new H ⟨zaa,[.int .u8 0, .int .u8 0, .int .u8 0, .int .u8 0, .int .u8 0, .int .u8 0, .int .u8 0, .int .u8 0, .int .u8 0, .int .u8 0, .int .u8 0, .int .u8 0, .int .u8 0, .int .u8 0, .int .u8 0, .int .u8 0],none⟩
 have g1:(H.new ⟨zaa,[.int .u8 0, .int .u8 0, .int .u8 0, .int .u8 0, .int .u8 0, .int .u8 0, .int .u8 0, .int .u8 0, .int .u8 0, .int .u8 0, .int .u8 0, .int .u8 0, .int .u8 0, .int .u8 0, .int .u8 0, .int .u8 0],none⟩).get H.next = some ⟨zaa,List.replicate 16 (.int .u8 0),none⟩:=zad _ _
 have n1:(H.new ⟨zaa,[.int .u8 0, .int .u8 0, .int .u8 0, .int .u8 0, .int .u8 0, .int .u8 0, .int .u8 0, .int .u8 0, .int .u8 0, .int .u8 0, .int .u8 0, .int .u8 0, .int .u8 0, .int .u8 0, .int .u8 0, .int .u8 0],none⟩).next = H.next + 1:=zaf _ _
 have hk1:=hk.grow s1
 have hn1:=hn.ext s1
 have hb1:=hb.ext s1
 have kl:=hk.low
 generalize ha:H.next = a at *
 generalize H.new _ = H1 at *
 have nl:=zeV K.salt c
 have cp:=zky (off:=0) (len:=16) (cap:=.fix 16) g1 hn1 (by rw [List.length_replicate]; decide) (by omega)
 have sp:splice (List.replicate 16 (V.int .u8 0)) 0 ((za9 K.salt c).map by8) = (first (za9 K.salt c)).map by8:=by
  unfold splice first
  rw [List.take_zero,List.nil_append,List.length_map,nl,List.map_append,List.drop_replicate]
  rfl
 rw [sp] at cp
 have vs:=zhw (n:=16) (id:=a)
 simp (disch:=omega) only [↓RD,RZ,eq_self,seval,vs]
 rw [zaK]
 refine zap ⟨_,_,cp,?_⟩
 have fl:=zoX K.salt c
 have f8:=ztX hk.good.salt8 c
 have s2:=At1.set a H1 (some ⟨zaa,(first (za9 K.salt c)).map by8,none⟩)
 have g2:(H1.set a (some ⟨zaa,(first (za9 K.salt c)).map by8,none⟩)).get a = _:=zaj _ _ _
 have s02:Grow H (H1.set a (some ⟨zaa,(first (za9 K.salt c)).map by8,none⟩)):=s1.set (by omega) _
 have hk2:=hk.grow s02
 have hb2:=hb.ext s02
 generalize Heap.set _ a _ = H2 at *
 obtain ⟨aa,av,sv,k1,kA,-,-⟩:=hk2.mem
 have l1:=ld16 fl
 simp (disch:=omega) only [↓RD,RZ,eq_self,seval,k1,g2,l1]
 have hg:=hk.good
 refine zah (Crypt_ok kA fl f8 hb2 h8 hg.wl hg.w4 hg.w8 hl) ?_
 rintro _ H3 ⟨r,rfl,hr,s3⟩
 have n2:=s02.next
 simp (disch:=omega) only [↓RD,RZ,eq_self,seval]
 exact ⟨hr.low (by omega),s02.trans s3⟩
end Go.Ax.SU
/- Su25 -/
namespace Go.Ax.SU
open Go.Ax
theorem zog {lo1 lo2 lo3 lo4:Nat} {H:Heap} {k:Nat} {K:Ky} {nv hv mv bv:V} {n h m b:List Nat} (hk:KeyM H k K) (hn:By lo1 H nv n) (n8:Ok8 n) (hh:By lo2 H hv h) (h8:Ok8 h) (hm:By lo3 H mv m) (m8:Ok8 m) (hb:By lo4 H bv b) (b8:Ok8 b)
  (hl:n.length + h.length + m.length + b.length ≤ 549755813888) :
  Ok (sem T zbO [.ptr k 0,nv,hv,mv,bv]) H fun r H'=>By H.next H' r (zhO K n h m b) ∧ Grow H H':=by
 refine ziF ?_
 unfold zfR
 have e1:((h.length:Nat):Int) + ((m.length:Nat):Int) = ((h.length + m.length:Nat):Int):=by omega
 have w1:IntKind.u64.wrap ((h.length + m.length:Nat):Int) = ((h.length + m.length:Nat):Int):=by rw [wrap_u64]; omega
 have w2:IntKind.u64.wrap ((b.length:Nat):Int) = ((b.length:Nat):Int):=by rw [wrap_u64]; omega
 have w3:IntKind.u64.wrap ((K.t:Nat):Int) = ((K.t:Nat):Int):=by rw [wrap_u64]; have:=hk.good.t; omega
 have kl:=hk.low
 simp (disch:=omega) only [↓RD,RZ,eq_self,seval,hh.vlen,hm.vlen,hb.vlen,e1,w1,w2]
 refine zah (zgK (h.length + m.length) 8 (by omega) (by decide)) ?_
 rintro x1 H1 ⟨hx1,s1⟩
 have n1:=s1.next
 simp (disch:=omega) only [↓RD,RZ,eq_self,seval,hh.vlen,hm.vlen,hb.vlen,w2]
 refine zah (zgK b.length 8 (by omega) (by decide)) ?_
 rintro x2 H2 ⟨hx2,s2⟩
 have n2:=s2.next
 have hx1':Ab H.next H2 x1 (num (h.length + m.length) 8):=hx1.keep (s2.keep _)
 refine zew hx1' (by omega) hx2.by.ac (by rw [zcb,zcb]; decide) fun x3 H3 hx3 b3=>?_
 have n3:=b3.next
 have s3:Grow H H3:=(s1.trans s2).bel' (by omega) b3
 have hk3:=hk.grow s3
 have hk3l:=hk3.low
 obtain ⟨aa,av,sv,k1,kA,kv,ks⟩:=hk3.mem
 simp (disch:=omega) only [↓RD,RZ,eq_self,seval,k1,w3]
 refine zah (zgK K.t 8 (by have:=hk.good.t; omega) (by decide)) ?_
 rintro x4 H4 ⟨hx4,s4⟩
 have n4:=s4.next
 have gk4:=s4.same k hk3l
 have hx3':=hx3.by.ext s4
 have s04:=s3.trans s4
 have hn4:=hn.ext s04
 have hh4:=hh.ext s04
 have hm4:=hm.ext s04
 have hb4:=hb.ext s04
 have hv4:=kv.ext s4
 simp (disch:=omega) only [↓RD,RZ,eq_self,seval,gk4,hx3'.cells1,hx3'.okc,hx4.by.cells1,hx4.by.okc,hn4.cells1,hn4.okc,hh4.cells1,hh4.okc,hm4.cells1,hm4.okc,hb4.cells1,hb4.okc]
 have s5:=Grow.new H4 ⟨zax,[x3,x4,nv,hv,mv,bv],none⟩
 have g5:(H4.new ⟨zax,[x3,x4,nv,hv,mv,bv],none⟩).get H4.next = _:=zad _ _
 have n5:(H4.new ⟨zax,[x3,x4,nv,hv,mv,bv],none⟩).next = H4.next + 1:=zaf _ _
 have hlv:Lc 1 0 (H4.new ⟨zax,[x3,x4,nv,hv,mv,bv],none⟩) (.sl H4.next 0 6 (.fix 6)) [x3,x4,nv,hv,mv,bv] 6:=zh9 g5 rfl (by omega)
 have hps:Pts 0 H4 [x3,x4,nv,hv,mv,bv] [num (h.length + m.length) 8 ++ num b.length 8,num K.t 8,n,h,m,b] :=
  .cons (hx3'.low (Nat.zero_le _)) ((zeU _ _).app (zeU _ _)) (.cons (hx4.by.low (Nat.zero_le _)) (zeU _ _) (.cons (hn4.low (Nat.zero_le _)) n8 (.cons (hh4.low (Nat.zero_le _)) h8 (.cons (hm4.low (Nat.zero_le _)) m8 (.cons (hb4.low (Nat.zero_le _)) b8 .nil)))))
 have efl:[num (h.length + m.length) 8 ++ num b.length 8,num K.t 8,n,h,m,b].flatten = tagm K n h m b:=by
  unfold tagm; simp
 have lfl:(tagm K n h m b).length ≤ 1099511627776:=by
  unfold tagm
  simp only [List.length_append,zcb]
  omega
 refine zah (zlu (hv4.ext s5) hk.good.auth8 (by rw [hk.good.auth]; decide) hlv (hps.grow s5) (show 6 ≤ 1000 by decide) (by rw [efl]; exact lfl)) ?_
 rintro _ H6 ⟨rfl,s6⟩
 rw [efl]
 have n6:=s6.next
 have hl32:=zc1 kc K.auth (tagm K n h m b)
 have sp:=sp32 hl32
 have l32:(((hmac kc K.auth (tagm K n h m b))).map by8).length = 32:=by rw [List.length_map,hl32]
 have s06:=(s04.trans s5).trans s6
 have hk6:=hk.grow s06
 have kl6:=hk6.low
 obtain ⟨aa,av,sv,k6,-,-,-⟩:=hk6.mem
 have ht:=hk.good.t
 have vsl:∀ id,zaz (.arr 32) 1 (.ptr id 0) none (some (.int .i64 (K.t:Nat))) none = some (.sl id 0 K.t (.fix 32)):=fun id=>by
  simp only [zaz,zdp,vint,Option.map_some,Option.bind_some,Option.getD_some,Option.getD_none]
  rw [if_neg (by simp),if_pos ⟨by simp,by omega,by omega,by omega⟩]
  simp
 simp (disch:=omega) only [↓RD,RZ,eq_self,seval,zaV,zai,sp,l32,k6,vsl]
 refine ⟨⟨?_,fun i hi=>?_,?_⟩,⟨by rw [zan,zaf]; omega,fun i hi=>by rw [zak _ _ (by omega),zaX _ _ (by omega),s06.same i hi]⟩⟩
 ·simp only [zbb,zaj,Option.bind_some]
  rw [if_pos (by rw [l32]; omega),List.drop_zero,Nat.mul_one]
  unfold zhO
  rw [List.map_take,List.length_take,hl32,Nat.min_eq_left ht]
 ·simp only [V.pid,Option.some.injEq] at hi
  rw [zan,zaf]
  omega
 ·show K.t ≤ 32
  exact ht
theorem zqs {H:Heap} (id:Int) (h0:-9223372036854775808 ≤ id):Ok (sem T zcM [.int .i64 id]) H fun r H'=>r = (match szs id.toNat with | some (n,t)=>if 0 ≤ id then V.tup [.int .i64 (n:Nat), .int .i64 (t:Nat), .bool true] else .tup [.int .i64 0, .int .i64 0, .bool false] | none=>.tup [.int .i64 0, .int .i64 0, .bool false]) ∧ H' = H:=by
 refine zmI ?_
 unfold zjU
 by_cases h1:id = 1
 ·subst h1; simp (disch:=omega) only [↓RD,RZ]; rfl
 by_cases h2:id = 2
 ·subst h2; simp (disch:=omega) only [↓RD,RZ]; rfl
 by_cases h3:id = 3
 ·subst h3; simp (disch:=omega) only [↓RD,RZ]; rfl
 by_cases h4:id = 16
 ·subst h4; simp (disch:=omega) only [↓RD,RZ]; rfl
 have e1:(id == 1) = false:=by simpa using h1
 have e2:(id == 2) = false:=by simpa using h2
 have e3:(id == 3) = false:=by simpa using h3
 have e4:(id == 16) = false:=by simpa using h4
 simp (disch:=omega) only [↓RD,RZ,e1,e2,e3,e4]
 unfold szs
 split
 ·rename_i n t heq
  split at heq
  ·rw [if_neg (by omega)]
  ·rw [if_neg (by omega)]
  ·rw [if_neg (by omega)]
  ·rw [if_neg (by omega)]
  ·cases heq
 ·rfl
theorem Seal_ok {lo1 lo2:Nat} {H:Heap} {k c:Nat} {K:Ky} {mv pv:V} {m p:List Nat} (hk:KeyM H k K) (hc:c < 18446744073709551616) (hm:By lo1 H mv m) (m8:Ok8 m) (hp:By lo2 H pv p) (p8:Ok8 p) (hml:m.length ≤ 274877906944) (hpl:p.length ≤ 1099511627776) :
  Ok (sem T zdh [.ptr k 0, .int .u64 (c:Nat),mv,pv]) H fun r H'=>Grow H H' ∧ if 1000 < p.length then r = .tup [.nils, .int .i64 4] else ∃ v,r = .tup [v, .int .i64 0] ∧ By H.next H' v (zdN K c m p):=by
 refine zjz ?_
 unfold zgQ
 have hg:=hk.good
 have kl:=hk.low
 simp (disch:=omega) only [↓RD,RZ,hp.vlen]
 rw [zfa]
 refine zbB (fun h=>?_) (fun h=>?_)
 ·simp (disch:=omega) only [↓RD,RZ]
  rw [if_pos (by omega)]
  exact ⟨Grow.refl _,trivial⟩
 ·obtain ⟨aa,av,sv,k1,kA,kv,ks⟩:=id hk.mem
  simp (disch:=omega) only [↓RD,RZ,k1]
  refine zah (Bytes_ok hg.kid hc) ?_
  rintro hv H1 ⟨hh,s1⟩
  refine zah (zqK (hk.grow s1) hc) ?_
  rintro nv H2 ⟨hn,s2⟩
  have s02:=s1.trans s2
  refine zah (zq3 (hk.grow s02) hn (hp.ext s02) p8 hpl) ?_
  rintro bv H3 ⟨hb,s3⟩
  have s03:=s02.trans s3
  have cl:=zfh K.ws (first (za9 K.salt c)) p
  have hx:=zpT K.kid c
  have nl:=zeV K.salt c
  refine zah (zog (hk.grow s03) (hn.ext s3) (znM hg.salt8 c) ((hh.ext s2).ext s3) (ztO _ _) (hm.ext s03) m8 hb (zua hg.ws p8) (by rw [cl]; omega)) ?_
  rintro tv H4 ⟨ht,s4⟩
  have s04:=s03.trans s4
  have hh4:=((hh.ext s2).ext s3).ext s4
  have hb4:=hb.ext s4
  have n1:=s1.next
  have n2:=s2.next
  have n3:=s3.next
  have n4:=s4.next
  simp (disch:=omega) only [↓RD,RZ,hh4.cells1,hh4.okc,hb4.cells1,hb4.okc,ht.cells1,ht.okc]
  have s5:=Grow.new H4 ⟨zax,[hv,bv,tv],none⟩
  have g5:(H4.new ⟨zax,[hv,bv,tv],none⟩).get H4.next = _:=zad _ _
  have n5:(H4.new ⟨zax,[hv,bv,tv],none⟩).next = H4.next + 1:=zaf _ _
  have hlv:Lc 1 0 (H4.new ⟨zax,[hv,bv,tv],none⟩) (.sl H4.next 0 3 (.fix 3)) [hv,bv,tv] [hv,bv,tv].length:=zh9 g5 rfl (by omega)
  have hps:Pts 0 H4 [hv,bv,tv] [hdr K.kid c,ctr K.ws (first (za9 K.salt c)) p,zhO K (za9 K.salt c) (hdr K.kid c) m (ctr K.ws (first (za9 K.salt c)) p)] :=
   .cons (hh4.low (Nat.zero_le _)) (ztO _ _) (.cons (hb4.low (Nat.zero_le _)) (zua hg.ws p8) (.cons (ht.low (Nat.zero_le _)) (znq _ _ _ _ _) .nil))
  have efl:[hdr K.kid c,ctr K.ws (first (za9 K.salt c)) p,zhO K (za9 K.salt c) (hdr K.kid c) m (ctr K.ws (first (za9 K.salt c)) p)].flatten = zdN K c m p:=by
   unfold zdN; simp
  refine zah (Join_ok hlv (hps.grow s5) (show 2 ≤ 3 by decide) (show 3 ≤ 1000 by decide) (by rw [efl,zk8 hg.t]; have:=hg.t; omega)) ?_
  rintro v H6 ⟨hv6,s6⟩
  rw [efl] at hv6
  simp (disch:=omega) only [↓RD,RZ]
  rw [if_neg (by omega)]
  exact ⟨(s04.trans s5).trans s6,_,rfl,hv6.low (by omega)⟩
end Go.Ax.SU
/- Su26 -/
namespace Go.Ax.SU
open Go.Ax
theorem zsY {b:List Nat} {kid c n:Nat} (h:parse b = .ok kid c n) (h8:Ok8 b):n ≤ b.length ∧ n ≤ 17 ∧ kid < 18446744073709551616 ∧ c < 18446744073709551616:=by
 unfold parse at h
 split at h
 ·cases h
 ·dsimp only at h
  split at h
  ·cases h
  ·split at h
   ·rename_i h2 h3
    injection h with e1 e2 e3
    have g:=getD_lt h8 0
    have q:∀ x,psz x ≤ x - 7 ∧ (x < 16 → psz x ≤ 8):=fun x=>by unfold psz; split <;> omega
    have r:∀ (x:Nat) (l:List Nat),x < 16 → Ok8 l → l.length ≤ 8 → pnum x l < 18446744073709551616:=fun x l hx hl h8=>by
     unfold pnum
     split
     ·omega
     ·have:=zuo l hl
      have h3:256 ^ l.length ≤ 256 ^ 8:=Nat.pow_le_pow_right (by decide) h8
      omega
    have q1:=(q (b.getD 0 0 / 16)).2 (by omega)
    have q2:=(q (b.getD 0 0 % 16)).2 (by omega)
    refine ⟨by omega,by omega,?_,?_⟩
    ·rw [← e1]
     refine r _ _ (by omega) ((h8.take _).drop _) ?_
     rw [List.length_drop,List.length_take]; omega
    ·rw [← e2]
     refine r _ _ (by omega) ((h8.take _).drop _) ?_
     rw [List.length_drop,List.length_take]; omega
   ·cases h
def pov (H0 H:Heap) (r:V):PO → Prop
 | .err e=>r = .tup [.nils, .int .u64 0, .int .i64 (e:Nat)]
 | .ok p c=>∃ v,r = .tup [v, .int .u64 (c:Nat), .int .i64 0] ∧ By H0.next H v p
theorem Open_ok {lo1 lo2:Nat} {H:Heap} {k:Nat} {K:Ky} {bv mv:V} {b m:List Nat} (hk:KeyM H k K) (hb:By lo1 H bv b) (b8:Ok8 b) (hm:By lo2 H mv m) (m8:Ok8 m) (hml:m.length ≤ 274877906944) (hbl:b.length ≤ 1099511627776) :
  Ok (sem T zdi [.ptr k 0,bv,mv]) H fun r H'=>Grow H H' ∧ pov H H' r (znD K b m):=by
 refine zjA ?_
 unfold zgR
 have hg:=hk.good
 have kl:=hk.low
 have ht:=hg.t
 obtain ⟨aa,av,sv,k1,kA,kv,ks⟩:=id hk.mem
 refine zah (znh hb b8 (by omega)) ?_
 rintro _ H ⟨rfl,rfl⟩
 unfold znD
 cases hp:parse b with
 | err e =>
  have e0:(((e:Nat):Int) == 0) = false:=by
   have:e ≠ 0:=by
    unfold parse at hp
    split at hp
    ·injection hp with hp; omega
    ·dsimp only at hp
     split at hp
     ·injection hp with hp; omega
     ·split at hp
      ·cases hp
      ·injection hp with hp; omega
   rw [beqz]; exact decide_eq_false this
  simp (disch:=omega) only [↓RD,RZ,phv,k1,hb.vlen,e0,Bool.not_false]
  exact ⟨Grow.refl _,rfl⟩
 | ok kid c n =>
  obtain ⟨n1,n2,n3,n4⟩:=zsY hp b8
  dsimp only
  simp (disch:=omega) only [↓RD,RZ,phv,k1,hb.vlen,beqn]
  by_cases hkid:kid = K.kid
  ·have ed:decide (kid = K.kid) = true:=decide_eq_true hkid
   rw [if_neg (fun h=>h hkid)]
   simp (disch:=omega) only [↓RD,RZ,ed,Bool.not_true]
   rw [zfa]
   refine zbB (fun h1=>?_) (fun h1=>?_)
   ·simp (disch:=omega) only [↓RD,RZ]
    rw [if_pos (by omega)]
    exact ⟨Grow.refl _,rfl⟩
   ·rw [if_neg (by omega)]
    obtain ⟨z,hz⟩:∃ z,b.length - n - K.t = z:=⟨_,rfl⟩
    have ez:((b.length:Nat):Int) - ((n:Nat):Int) - ((K.t:Nat):Int) = ((z:Nat):Int):=by omega
    have eb:b.length - K.t = n + z:=by omega
    rw [hz,eb]
    simp (disch:=omega) only [↓RD,RZ,ez]
    rw [zfa]
    refine zbB (fun h2=>?_) (fun h2=>?_)
    ·simp (disch:=omega) only [↓RD,RZ]
     rw [if_pos (by omega)]
     exact ⟨Grow.refl _,rfl⟩
    ·rw [if_neg (by omega)]
     obtain ⟨va,-,ha,-,hva,hpa⟩:=zbM hb (x:=0) (y:=(n:Nat)) (by omega) (by omega) (by omega)
     obtain ⟨vc,hc,-,-,hvc,hpc⟩:=zbM hb (x:=(n:Nat)) (y:=((n + z:Nat):Int)) (by omega) (by omega) (by omega)
     obtain ⟨vt,-,-,hx,hvt,hpt⟩:=zbM hb (x:=((n + z:Nat):Int)) (y:=(b.length:Nat)) (by omega) (by omega) (by omega)
     have ha:=ha rfl (k':=.i64)
     have hx:=hx rfl (k:=.i64)
     simp only [Int.toNat_natCast,Int.toNat_zero,List.drop_zero,Nat.sub_zero] at hva hvc hvt
     rw [show n + z - n = z by omega] at hvc
     rw [List.take_of_length_le (by rw [List.length_drop]; omega)] at hvt
     have eq:((n:Nat):Int) + ((z:Nat):Int) = ((n + z:Nat):Int):=rfl
     have eq':((n:Nat):Int) + (((b.length:Nat):Int) - ((n:Nat):Int) - ((K.t:Nat):Int)) = ((n + z:Nat):Int):=by omega
     simp (disch:=omega) only [↓RD,RZ,ha,hc,eq,eq']
     refine zah (zqK hk n4) ?_
     rintro nv H1 ⟨hn,s1⟩
     have nl:=zeV K.salt c
     have lc:((b.drop n).take z).length = z:=by rw [List.length_take,List.length_drop]; omega
     have la:(b.take n).length = n:=by rw [List.length_take]; omega
     have c8:Ok8 ((b.drop n).take z):=(b8.drop n).take z
     simp (disch:=omega) only [↓RD,RZ,hx,eq,eq']
     refine zah (zog (hk.grow s1) hn (znM hg.salt8 c) (hva.ext s1) (b8.take n) (hm.ext s1) m8 (hvc.ext s1) c8 (by omega)) ?_
     rintro tv H2 ⟨htv,s2⟩
     have s02:=s1.trans s2
     have kS:=@zca _ _ _ _ (Same_ok htv (hvt.ext s02) (znq _ _ _ _ _) (b8.drop _) (by rw [zoh ht]; omega))
     simp (disch:=omega) only [↓RD,RZ,kS]
     by_cases htg:zhO K (za9 K.salt c) (b.take n) m ((b.drop n).take z) = b.drop (n + z)
     ·rw [if_pos htg]
      have e:decide (zhO K (za9 K.salt c) (b.take n) m ((b.drop n).take z) = b.drop (n + z)) = true:=decide_eq_true htg
      simp (disch:=omega) only [↓RD,RZ,e,Bool.not_true]
      refine zah (zq3 (hk.grow s02) (hn.ext s2) (hvc.ext s02) c8 (by omega)) ?_
      rintro pv H3 ⟨hpv,s3⟩
      have q1:=s1.next
      have q2:=s2.next
      simp (disch:=omega) only [↓RD,RZ]
      exact ⟨s02.trans s3,_,rfl,hpv.low (by omega)⟩
     ·rw [if_neg htg]
      have e:decide (zhO K (za9 K.salt c) (b.take n) m ((b.drop n).take z) = b.drop (n + z)) = false:=decide_eq_false htg
      simp (disch:=omega) only [↓RD,RZ,e,Bool.not_false]
      exact ⟨s02,rfl⟩
  ·have ed:decide (kid = K.kid) = false:=decide_eq_false hkid
   rw [if_pos hkid]
   simp (disch:=omega) only [↓RD,RZ,ed,Bool.not_false]
   exact ⟨Grow.refl _,rfl⟩
theorem szs_n {id n t:Nat} (h:szs id = some (n,t)):(n = 16 ∨ n = 32) ∧ t ≤ 10 ∧ id ≤ 16:=by
 unfold szs at h
 split at h <;> simp at h <;> omega
theorem znS (id kid n:Nat) (base:List Nat) (hn:n ≤ 32):(keyb id kid n base).length = n + 32:=by
 unfold keyb
 rw [List.length_take,zfA]
 omega
theorem zsJ (id kid:Nat) (base:List Nat):(saltb id kid base).length = 12:=by
 unfold saltb
 rw [List.length_take,zfA]
 rfl
theorem ztF (id kid n:Nat) (base:List Nat):Ok8 (keyb id kid n base):=Ok8.take (zkt _ _ _ _).1 _
theorem saltb_8 (id kid:Nat) (base:List Nat):Ok8 (saltb id kid base):=Ok8.take (zkt _ _ _ _).1 _
theorem zlj {id kid n t:Nat} {base:List Nat} (h:szs id = some (n,t)) (hk:kid < 18446744073709551616):KyG (drv id kid n t base):=by
 obtain ⟨h1,h2,h3⟩:=szs_n h
 have kl:=znS id kid n base (by omega)
 have k8:=ztF id kid n base
 unfold drv
 refine ⟨hk,by dsimp only; omega,?_,?_,?_,?_,?_,k8.drop _,zsJ _ _ _,saltb_8 _ _ _⟩
 ·exact zjf (by omega) (k8.take _) (by rw [List.length_take]; omega) _
 ·dsimp only; rw [zgM]; omega
 ·dsimp only; rw [zgM]; omega
 ·dsimp only; rw [zgM]; omega
 ·dsimp only; rw [List.length_drop,kl]; omega
theorem ziv {lo n:Nat} {H:Heap} {y:V} {l m:List Nat} {F:V → M Res} {Q:Res → Heap → Prop} (hl:l.length = n) (h0:0 < n) (hy:By lo H y m) (hm:n + m.length ≤ 1099511627776) (k:∀ x' H',Ab H.next H' x' (l ++ m) → Grow H H' → Ok (F x') H' Q) :
  Ok ((mremark zac (.sl H.next 0 n (.fix n))).bind fun t=>(mappend zac 1 1 t y).bind F) (H.new ⟨zac,l.map by8,none⟩) Q:=by
 have s1:=Grow.new H ⟨zac,l.map by8,none⟩
 have g1:(H.new ⟨zac,l.map by8,none⟩).get H.next = _:=zad _ _
 have n1:(H.new ⟨zac,l.map by8,none⟩).next = H.next + 1:=zaf _ _
 have hy1:=hy.ext s1
 generalize H.new _ = H1 at *
 refine zap ⟨.sl H.next 0 n (.fix n),H1,?_,?_⟩
 ·simp only [mremark,g1,Option.bind_some]
  rw [if_neg (by omega)]
 ·subst hl
  refine zew (lo:=H.next) (l:=l) (m:=m) (.full g1 (by simp) (Nat.le_refl _) (by omega)) (by omega) hy1.ac (by omega) fun x' H2 h2 b2=>?_
  exact k x' H2 h2 (s1.bel' (Nat.le_refl _) b2)
def zmx (lo:Nat) (H:Heap) (k:Nat):Prop:=∀ x y a av sv,H.get k = some ⟨zaL,[x,y, .ptr a 0,av,sv],none⟩ → ∀ j,av.pid = some j ∨ sv.pid = some j → lo ≤ j
theorem zpi {lo:Nat} {H:Heap} {kid:Nat} {id:Int} {bv:V} {base:List Nat} (h0:-9223372036854775808 ≤ id) (hk:kid < 18446744073709551616) (hb:By lo H bv base) (b8:Ok8 base) (hbl:base.length ≤ 1099511627776) :
  Ok (sem T zbC [.int .i64 id, .int .u64 (kid:Nat),bv]) H fun r H'=>Grow H H' ∧ ((id < 0 ∨ szs id.toNat = none) ∧ r = .tup [.nilp, .int .i64 1] ∨ ∃ n t k,0 ≤ id ∧ szs id.toNat = some (n,t) ∧ r = .tup [.ptr k 0, .int .i64 0] ∧ KeyM H' k (drv id.toNat kid n t base) ∧ H.next ≤ k ∧ zmx H.next H' k):=by
 refine zlK ?_
 unfold ziU
 refine zah (zqs id h0) ?_
 rintro _ H ⟨rfl,rfl⟩
 cases hs:szs id.toNat with
 | none =>
  simp (disch:=omega) only [↓RD,RZ,eq_self,seval]
  exact ⟨Grow.refl _, .inl (.inr trivial)⟩
 | some q =>
  obtain ⟨n,t⟩:=q
  dsimp only
  by_cases hi:0 ≤ id
  ·rw [if_pos hi]
   obtain ⟨hn,ht,hid⟩:=szs_n hs
   obtain ⟨i,hii⟩:∃ i:Nat,id = (i:Nat):=⟨id.toNat,by omega⟩
   subst hii
   rw [Int.toNat_natCast] at *
   have w0:IntKind.u64.wrap ((i:Nat):Int) = ((i:Nat):Int):=by rw [wrap_u64]; omega
   simp (disch:=omega) only [↓RD,RZ,eq_self,seval]
   refine zah (zni (Lc.nil:By 0 H .nils []) Ok8.nil (by decide) hb b8 hbl) ?_
   rintro _ H1 ⟨rfl,s1⟩
   have n1:=s1.next
   have sl:(zaH base).length = 32:=zc1 _ _ _
   have s8:Ok8 (zaH base):=zks _ _ _
   have eS:hmac kc [] base = zaH base:=rfl
   rw [eS]
   have sp:=sp32 sl
   have l32:((zaH base).map by8).length = 32:=by rw [List.length_map,sl]
   simp (disch:=omega) only [↓RD,RZ,eq_self,seval,zaV,zai,sp,l32]
   have s2:Grow H ((H1.new ⟨zae,[.int .u8 0, .int .u8 0, .int .u8 0, .int .u8 0, .int .u8 0, .int .u8 0, .int .u8 0, .int .u8 0, .int .u8 0, .int .u8 0, .int .u8 0, .int .u8 0, .int .u8 0, .int .u8 0, .int .u8 0, .int .u8 0, .int .u8 0, .int .u8 0, .int .u8 0, .int .u8 0, .int .u8 0, .int .u8 0, .int .u8 0, .int .u8 0, .int .u8 0, .int .u8 0, .int .u8 0, .int .u8 0, .int .u8 0, .int .u8 0, .int .u8 0, .int .u8 0],none⟩).set H1.next (some ⟨zae,(zaH base).map by8,none⟩)):=(s1.trans (Grow.new _ _)).set (by omega) _
   have g2:((H1.new ⟨zae,[.int .u8 0, .int .u8 0, .int .u8 0, .int .u8 0, .int .u8 0, .int .u8 0, .int .u8 0, .int .u8 0, .int .u8 0, .int .u8 0, .int .u8 0, .int .u8 0, .int .u8 0, .int .u8 0, .int .u8 0, .int .u8 0, .int .u8 0, .int .u8 0, .int .u8 0, .int .u8 0, .int .u8 0, .int .u8 0, .int .u8 0, .int .u8 0, .int .u8 0, .int .u8 0, .int .u8 0, .int .u8 0, .int .u8 0, .int .u8 0, .int .u8 0, .int .u8 0],none⟩).set H1.next (some ⟨zae,(zaH base).map by8,none⟩)).get H1.next = _:=zaj _ _ _
   have n2:((H1.new ⟨zae,[.int .u8 0, .int .u8 0, .int .u8 0, .int .u8 0, .int .u8 0, .int .u8 0, .int .u8 0, .int .u8 0, .int .u8 0, .int .u8 0, .int .u8 0, .int .u8 0, .int .u8 0, .int .u8 0, .int .u8 0, .int .u8 0, .int .u8 0, .int .u8 0, .int .u8 0, .int .u8 0, .int .u8 0, .int .u8 0, .int .u8 0, .int .u8 0, .int .u8 0, .int .u8 0, .int .u8 0, .int .u8 0, .int .u8 0, .int .u8 0, .int .u8 0, .int .u8 0],none⟩).set H1.next (some ⟨zae,(zaH base).map by8,none⟩)).next = H1.next + 1:=rfl
   generalize hq:H1.next = q at *
   generalize Heap.set _ q _ = H2 at *
   refine zah (zgK kid 8 hk (by decide)) ?_
   rintro x1 H3 ⟨hx1,s3⟩
   have n3:=s3.next
   simp (disch:=omega) only [↓RD,RZ,eq_self,seval,w0]
   refine zah (zgK i 2 (by omega) (by decide)) ?_
   rintro x2 H4 ⟨hx2,s4⟩
   have n4:=s4.next
   refine zew (hx1.keep (s4.keep _)) (by omega) hx2.by.ac (by rw [zcb,zcb]; decide) fun x3 H5 hx3 b5=>?_
   have n5:=b5.next
   have s25:Grow H2 H5:=(s3.trans s4).bel' (Nat.le_refl _) b5
   have g5:=(s25.same q (by omega)).trans g2
   have vs:=zhw (n:=32) (id:=q)
   have ad:((n:Nat):Int) + 32 = ((n + 32:Nat):Int):=rfl
   have hx3b:=hx3.by
   have il:(num kid 8 ++ num i 2).length = 10:=by rw [List.length_append,zcb,zcb]
   have i8:Ok8 (num kid 8 ++ num i 2):=(zeU _ _).app (zeU _ _)
   simp (disch:=omega) only [↓RD,RZ,eq_self,seval,vs,ad]
   rw [zaK]
   refine ziv (l:=sKey) rfl (by decide) hx3b (by omega) fun x6 H6 hx6 s6=>?_
   have n6:=s6.next
   have g6:=(s6.same q (by omega)).trans g5
   have skl:(sKey ++ (num kid 8 ++ num i 2)).length = 32:=by rw [List.length_append,il]; rfl
   have sk8:Ok8 (sKey ++ (num kid 8 ++ num i 2)):=(all8 rfl).app i8
   refine zah (zmz (ze8 (lo:=0) g6 sl (by omega) (by omega)) s8 (by omega) hx6.by sk8 (by omega) (show n + 32 ≤ 8160 by omega)) ?_
   rintro _ H7 ⟨key,rfl,hkey,s7⟩
   have n7:=s7.next
   have ek:((hkdf kc (zaH base) (sKey ++ (num kid 8 ++ num i 2)) ((n + 32 + 31) / 32)).1.take (n + 32)) = keyb i kid n base:=by
    unfold keyb
    rw [show (n + 32 + 31) / 32 = 2 by omega]
   rw [ek] at hkey
   have kl:=znS i kid n base (by omega)
   have k8:=ztF i kid n base
   have g7:=(s7.same q (by omega)).trans g6
   have hx7:=(hx3b.ext s6).ext s7
   simp (disch:=omega) only [↓RD,RZ,eq_self,seval,vs]
   rw [zaK]
   refine ziv (l:=zpt) rfl (by decide) hx7 (by omega) fun x8 H8 hx8 s8'=>?_
   have n8:=s8'.next
   have g8:=(s8'.same q (by omega)).trans g7
   have ssl:(zpt ++ (num kid 8 ++ num i 2)).length = 33:=by rw [List.length_append,il]; rfl
   have ss8:Ok8 (zpt ++ (num kid 8 ++ num i 2)):=(all8 rfl).app i8
   refine zah (zmz (ze8 (lo:=0) g8 sl (by omega) (by omega)) s8 (by omega) hx8.by ss8 (by omega) (show 12 ≤ 8160 by omega)) ?_
   rintro _ H9 ⟨salt,rfl,hsalt,s9⟩
   have n9:=s9.next
   have hkey9:=(hkey.ext s8').ext s9
   obtain ⟨va,-,ha,-,hva,-⟩:=zbM hkey9 (x:=0) (y:=(n:Nat)) (by omega) (by omega) (by omega)
   obtain ⟨vb,-,-,hvb',hvb,-⟩:=zbM hkey9 (x:=(n:Nat)) (y:=((keyb i kid n base).length:Nat)) (by omega) (by omega) (by omega)
   have ha:=ha rfl (k':=.i64)
   have hvb':=hvb' rfl (k:=.i64)
   simp only [Int.toNat_natCast,Int.toNat_zero,List.drop_zero,Nat.sub_zero] at hva hvb
   rw [List.take_of_length_le (by rw [List.length_drop]; omega)] at hvb
   simp (disch:=omega) only [↓RD,RZ,eq_self,seval,ha]
   refine zah (KNew_ok (n:=n / 4) hva (k8.take n) (by omega) (by rw [List.length_take]; omega)) ?_
   rintro _ H10 ⟨k,rfl,hA,s10,hkk⟩
   have n10:=s10.next
   have hvb10:=hvb.ext s10
   have hs10:=hsalt.ext s10
   simp (disch:=omega) only [↓RD,RZ,eq_self,seval,hvb',hvb10.cells1,hvb10.okc,hs10.cells1,hs10.okc]
   have s010:Grow H H10:=((((((s2.trans s25).trans s6).trans s7).trans s8').trans s9).trans s10)
   have s11:=Grow.new H10 ⟨zaL,[.int .u64 (kid:Nat), .int .i64 (t:Nat), .ptr k 0,vb,salt],none⟩
   refine ⟨s010.trans s11, .inr ⟨n,t,H10.next,by omega,rfl,rfl,⟨zlj hs hk,⟨k,vb,salt,zad _ _,hA.grow s11,(hvb10.ext s11).low (Nat.zero_le _),(hs10.ext s11).low (Nat.zero_le _)⟩,by rw [zaf]; omega⟩,by omega,?_⟩⟩
   intro x y a' av' sv' e j hj
   rw [zad] at e
   simp only [Option.some.injEq,Blk.mk.injEq,List.cons.injEq,true_and,and_true] at e
   obtain ⟨-,-,-,rfl,rfl⟩:=e
   rcases hj with hj | hj
   ·have:=(hvb.own j hj).1; omega
   ·have:=(hsalt.own j hj).1; omega
  ·rw [if_neg hi]
   simp (disch:=omega) only [↓RD,RZ,eq_self,seval]
   exact ⟨Grow.refl _, .inl (.inl (by omega))⟩
theorem zuN {lo:Nat} {H:Heap} {kid:Nat} {id:Int} {bv:V} {base:List Nat} (h0:-9223372036854775808 ≤ id) (hk:kid < 18446744073709551616) (hb:By lo H bv base) (b8:Ok8 base) (hbl:base.length ≤ 1099511627776) :
  Ok (sem T zbC [.int .i64 id, .int .u64 (kid:Nat),bv]) H fun r H'=>Grow H H' ∧ ((id < 0 ∨ szs id.toNat = none) ∧ r = .tup [.nilp, .int .i64 1] ∨ ∃ n t k,0 ≤ id ∧ szs id.toNat = some (n,t) ∧ r = .tup [.ptr k 0, .int .i64 0] ∧ KeyM H' k (drv id.toNat kid n t base) ∧ H.next ≤ k):=by
 refine zar (zpi h0 hk hb b8 hbl) ?_
 rintro r H' ⟨g,h | ⟨n,t,k,h1,h2,h3,h4,h5,_⟩⟩
 ·exact ⟨g, .inl h⟩
 ·exact ⟨g, .inr ⟨n,t,k,h1,h2,h3,h4,h5⟩⟩
end Go.Ax.SU
/- Su27 -/
namespace Go.Ax.SU
open Go.Ax
theorem same_ok {lo lo':Nat} {H:Heap} {u v:V} {a b:List Nat} (hu:By lo H u a) (hv:By lo' H v b) (ha:Ok8 a) (hb:Ok8 b):Ok (sem T zcA [u,v]) H fun r H'=>r = .bool (decide (a = b)) ∧ H' = H:=by
 refine zhW ?_
 unfold zfl
 refine zlH hu.rc ?_
 refine zlH hv.rc ?_
 refine zaP (v:=.bool (decide (a = b))) ?_ ?_
 ·show some (V.bool _) = _
  rw [zq9 ha hb]
 ·exact zfJ ⟨_,rfl,rfl,rfl⟩
theorem zjw {n:Nat} {H:Heap} {l:List Nat} {F:V → M Res} {Q:Res → Heap → Prop} (hl:l.length = n) (h0:0 < n) (k:∀ x' H',By H.next H' x' l → Grow H H' → Ok (F x') H' Q) :
  Ok ((mremark zac (.sl H.next 0 n (.fix n))).bind F) (H.new ⟨zac,l.map by8,none⟩) Q:=by
 have s1:=Grow.new H ⟨zac,l.map by8,none⟩
 have g1:(H.new ⟨zac,l.map by8,none⟩).get H.next = _:=zad _ _
 have n1:(H.new ⟨zac,l.map by8,none⟩).next = H.next + 1:=zaf _ _
 generalize H.new _ = H1 at *
 refine zap ⟨.sl H.next 0 n (.fix n),H1,?_,?_⟩
 ·simp only [mremark,g1,Option.bind_some]
  rw [if_neg (by omega)]
 ·exact k _ _ (ze8 g1 hl (Nat.le_refl _) (by omega)) s1
theorem zo5 {lo:Nat} {H:Heap} {kid id n t:Nat} {bv:V} {base:List Nat} (hs:szs id = some (n,t)) (hk:kid < 18446744073709551616) (hb:By lo H bv base) (b8:Ok8 base) (hbl:base.length ≤ 1099511627776) :
  Ok (sem T zbC [.int .i64 (id:Nat), .int .u64 (kid:Nat),bv]) H fun r H'=>Grow H H' ∧ ∃ k,r = .tup [.ptr k 0, .int .i64 0] ∧ KeyM H' k (drv id kid n t base) ∧ H.next ≤ k:=by
 refine zar (zuN (by omega) hk hb b8 hbl) ?_
 rintro r H' ⟨g,⟨h1 | h1,_⟩ | ⟨n',t',k,h1,h2,rfl,h4,h5⟩⟩
 ·omega
 ·rw [Int.toNat_natCast,hs] at h1; cases h1
 ·rw [Int.toNat_natCast,hs] at h2
  injection h2 with h2
  injection h2 with e1 e2
  subst e1 e2
  rw [Int.toNat_natCast] at h4
  exact ⟨g,k,rfl,h4,h5⟩
end Go.Ax.SU
namespace Go.Ax
open SU
end Go.Ax
/- Re1 -/
namespace Go.Ax.SU
open Go.Ax
theorem w_rot' (x:UInt32) {k k':IntKind} {n:Nat} {a b:Int} (ha:a = (32 - n:Nat)) (hb:b = n):(Ax.bin .shr (w32 x) (.int k' b)).bind (fun v=>(Ax.bin .shl (w32 x) (.int k a)).bind fun u=>Ax.bin .or v u) = some (w32 (rotr x n)):=by
 subst ha hb
 unfold w32
 have h1:=x.toNat_lt
 rw [zpn (by omega) (by omega),znu (by omega) (by omega) (by omega)]
 have h2:shr x.toNat n ≤ x.toNat:=zsH _ _
 simp only [Option.bind_some,Int.toNat_natCast]
 rw [zs1 (by omega) (by omega) (by omega) (by have:=Nat.mod_lt (shl x.toNat (32 - n)) (show 0 < 4294967296 by decide); omega),zqC]
 simp only [Int.toNat_natCast,zfH,znv]
theorem right_eq (x:UInt32) (n:Nat) (h0:0 < n) (h1:n < 32):sem T zam [w32 x, .int .u64 (n:Nat)] = M.pure (w32 (rotr x n)):=by
 refine zdD fun H=>?_
 refine zhE ?_
 unfold ze1
 have e4:Ax.bin .sub (.int .u64 32) (.int .u64 (n:Nat)) = some (.int .u64 ((32 - n:Nat):Int)):=by
  rw [zp8,wrap_u64]
  congr 2
  omega
 have e5:=w_rot' x (k:=.u64) (k':=.u64) (n:=n) (a:=((32 - n:Nat):Int)) (b:=(n:Nat)) rfl rfl
 obtain ⟨u,hu,hu2⟩:=Option.bind_eq_some_iff.1 e5
 obtain ⟨v,hv,hv2⟩:=Option.bind_eq_some_iff.1 hu2
 simp (disch:=omega) only [↓RD,RZ,eq_self,seval,hv,e4,hu,hv2]
theorem r7 (x:UInt32):sem T zam [w32 x, .int .u64 7] = M.pure (w32 (rotr x 7)):=right_eq x 7 (by omega) (by omega)
theorem r18 (x:UInt32):sem T zam [w32 x, .int .u64 18] = M.pure (w32 (rotr x 18)):=right_eq x 18 (by omega) (by omega)
theorem r17 (x:UInt32):sem T zam [w32 x, .int .u64 17] = M.pure (w32 (rotr x 17)):=right_eq x 17 (by omega) (by omega)
theorem r19 (x:UInt32):sem T zam [w32 x, .int .u64 19] = M.pure (w32 (rotr x 19)):=right_eq x 19 (by omega) (by omega)
theorem r6 (x:UInt32):sem T zam [w32 x, .int .u64 6] = M.pure (w32 (rotr x 6)):=right_eq x 6 (by omega) (by omega)
theorem r11 (x:UInt32):sem T zam [w32 x, .int .u64 11] = M.pure (w32 (rotr x 11)):=right_eq x 11 (by omega) (by omega)
theorem r25 (x:UInt32):sem T zam [w32 x, .int .u64 25] = M.pure (w32 (rotr x 25)):=right_eq x 25 (by omega) (by omega)
theorem r2 (x:UInt32):sem T zam [w32 x, .int .u64 2] = M.pure (w32 (rotr x 2)):=right_eq x 2 (by omega) (by omega)
theorem r13 (x:UInt32):sem T zam [w32 x, .int .u64 13] = M.pure (w32 (rotr x 13)):=right_eq x 13 (by omega) (by omega)
theorem r22 (x:UInt32):sem T zam [w32 x, .int .u64 22] = M.pure (w32 (rotr x 22)):=right_eq x 22 (by omega) (by omega)
theorem ztv {lo wb:Nat} {u6:V} {H:Heap} {v:V} {l:List Nat} (hv:By lo H v l) (h8:Ok8 l) (hl:l.length = 64) (hw:H.get wb = some ⟨zat,List.replicate 64 (.int .u32 0),none⟩) (hp:v.pid ≠ some wb) (hwl:wb < H.next) :
  Ok (M.iter (zbZ (sem T) v (.ptr wb 0) u6) [.int .i64 0]) H fun r H'=>r = .ex 0 [] ∧ H'.get wb = some ⟨zat,(wl l 16).map w32 ++ List.replicate 48 (.int .u32 0),none⟩ ∧ At1 wb H H':=by
 refine zaF (fun k L H'=>L = [.int .i64 (k:Nat)] ∧ H'.get wb = some ⟨zat,(wl l k).map w32 ++ List.replicate (64 - k) (.int .u32 0),none⟩ ∧ At1 wb H H') 16 ?_ ?_ ?_
 ·exact ⟨rfl,hw,At1.refl _ _⟩
 ·rintro k L H1 hk ⟨rfl,g1,s1⟩
  have hv1:=hv.at1 s1 hp
  have hln:(wl l k).length = k:=zob l k
  have hlm:((wl l k).map w32).length = k:=by rw [List.length_map,hln]
  have hlr:((wl l k).map w32 ++ List.replicate (64 - k) (V.int .u32 0)).length = 64:=by rw [List.length_append,hlm,List.length_replicate]; omega
  have q0:(4:Int) * (k:Int) = ((4 * k:Nat):Int):=by omega
  have q1:((4 * k:Nat):Int) + 1 = ((4 * k + 1:Nat):Int):=by omega
  have q2:((4 * k:Nat):Int) + 2 = ((4 * k + 2:Nat):Int):=by omega
  have q3:((4 * k:Nat):Int) + 3 = ((4 * k + 3:Nat):Int):=by omega
  obtain ⟨p0,i0,l0,-⟩:=zf8 hv1 (i:=((4 * k:Nat):Int)) (by omega) (by omega)
  obtain ⟨p1,i1,l1,-⟩:=zf8 hv1 (i:=((4 * k + 1:Nat):Int)) (by omega) (by omega)
  obtain ⟨p2,i2,l2,-⟩:=zf8 hv1 (i:=((4 * k + 2:Nat):Int)) (by omega) (by omega)
  obtain ⟨p3,i3,l3,-⟩:=zf8 hv1 (i:=((4 * k + 3:Nat):Int)) (by omega) (by omega)
  have b0:=h8.getD (4 * k)
  have b1:=h8.getD (4 * k + 1)
  have b2:=h8.getD (4 * k + 2)
  have b3:=h8.getD (4 * k + 3)
  simp only [Int.toNat_natCast] at l0 l1 l2 l3
  have sn:wl l (k + 1) = wl l k ++ [word l k]:=by rw [znk,if_pos hk]
  have hwd:word l k = UInt32.ofNat (be [l.getD (4 * k) 0,l.getD (4 * k + 1) 0,l.getD (4 * k + 2) 0,l.getD (4 * k + 3) 0]):=rfl
  have hww:=w_nat (be [l.getD (4 * k) 0,l.getD (4 * k + 1) 0,l.getD (4 * k + 2) 0,l.getD (4 * k + 3) 0]) (by simp only [be,List.foldl_cons,List.foldl_nil]; omega)
  rw [← hwd] at hww
  have hb:be [l.getD (4 * k) 0,l.getD (4 * k + 1) 0,l.getD (4 * k + 2) 0,l.getD (4 * k + 3) 0] = l.getD (4 * k) 0 * 16777216 + l.getD (4 * k + 1) 0 * 65536 + l.getD (4 * k + 2) 0 * 256 + l.getD (4 * k + 3) 0:=by simp only [be,List.foldl_cons,List.foldl_nil]; omega
  rw [hb] at hww
  clear hwd hb
  generalize word l k = wd at *
  generalize l.getD (4 * k) 0 = a0 at *
  generalize l.getD (4 * k + 1) 0 = a1 at *
  generalize l.getD (4 * k + 2) 0 = a2 at *
  generalize l.getD (4 * k + 3) 0 = a3 at *
  have m0:a0 * 16777216 % 4294967296 = a0 * 16777216:=Nat.mod_eq_of_lt (by omega)
  have m1:a1 * 65536 % 4294967296 = a1 * 65536:=Nat.mod_eq_of_lt (by omega)
  have m2:a2 * 256 % 4294967296 = a2 * 256:=Nat.mod_eq_of_lt (by omega)
  have o1:a0 * 16777216 ||| a1 * 65536 = a0 * 16777216 + a1 * 65536:=ziO a0 _ 24 (by omega)
  have o2:a0 * 16777216 + a1 * 65536 ||| a2 * 256 = a0 * 16777216 + a1 * 65536 + a2 * 256:=by
   have:=ziO (a0 * 256 + a1) (a2 * 256) 16 (by omega)
   rw [show (a0 * 256 + a1) * 2 ^ 16 = a0 * 16777216 + a1 * 65536 by omega] at this
   exact this
  have o3:a0 * 16777216 + a1 * 65536 + a2 * 256 ||| a3 = a0 * 16777216 + a1 * 65536 + a2 * 256 + a3:=by
   have:=ziO (a0 * 65536 + a1 * 256 + a2) a3 8 (by omega)
   rw [show (a0 * 65536 + a1 * 256 + a2) * 2 ^ 8 = a0 * 16777216 + a1 * 65536 + a2 * 256 by omega] at this
   exact this
  unfold zbZ
  simp (disch:=omega) only [↓RD,RZ,eq_self,seval,q0,q1,q2,q3,i0,l0,i1,l1,i2,l2,i3,l3,m0,m1,m2,o1,o2,o3,hww,g1,zaW hlm (show k < 64 by omega),w_ok,zg3,hlr]
  refine ⟨by omega,rfl,?_,s1.trans (At1.set wb _ _)⟩
  rw [sn]
  simp
 ·rintro L H1 ⟨rfl,g1,s1⟩
  unfold zbZ
  simp (disch:=omega) only [↓RD,RZ,eq_self,seval]
  exact ⟨g1,s1⟩
theorem ztu {wb:Nat} {u6:V} {H:Heap} {l:List Nat} (hw:H.get wb = some ⟨zat,(wl l 16).map w32 ++ List.replicate 48 (.int .u32 0),none⟩) (hwl:wb < H.next) :
  Ok (M.iter (zbY (sem T) (.ptr wb 0) u6) [.int .i64 16]) H fun r H'=>r = .ex 2 [] ∧ H'.get wb = some ⟨zat,(wl l 64).map w32,none⟩ ∧ At1 wb H H':=by
 refine zaF (fun j L H'=>L = [.int .i64 ((16 + j:Nat):Int)] ∧ H'.get wb = some ⟨zat,(wl l (16 + j)).map w32 ++ List.replicate (48 - j) (.int .u32 0),none⟩ ∧ At1 wb H H') 48 ?_ ?_ ?_
 ·exact ⟨rfl,hw,At1.refl _ _⟩
 ·rintro j L H1 hj ⟨rfl,g1,s1⟩
  obtain ⟨k,hk⟩:∃ k,16 + j = k:=⟨_,rfl⟩
  rw [show 16 + (j + 1) = k + 1 by omega,show 48 - (j + 1) = 64 - (k + 1) by omega]
  rw [hk,show 48 - j = 64 - k by omega] at g1
  rw [hk]
  have hln:(wl l k).length = k:=zob l k
  have hlm:((wl l k).map w32).length = k:=by rw [List.length_map,hln]
  have hlr:((wl l k).map w32 ++ List.replicate (64 - k) (V.int .u32 0)).length = 64:=by rw [List.length_append,hlm,List.length_replicate]; omega
  have w15:=wga (ws:=wl l k) (r:=List.replicate (64 - k) (V.int .u32 0)) (i:=k - 15) (by omega)
  have w2:=wga (ws:=wl l k) (r:=List.replicate (64 - k) (V.int .u32 0)) (i:=k - 2) (by omega)
  have w16:=wga (ws:=wl l k) (r:=List.replicate (64 - k) (V.int .u32 0)) (i:=k - 16) (by omega)
  have w7:=wga (ws:=wl l k) (r:=List.replicate (64 - k) (V.int .u32 0)) (i:=k - 7) (by omega)
  have e15:(k:Int) - 15 = ((k - 15:Nat):Int):=by omega
  have e2:(k:Int) - 2 = ((k - 2:Nat):Int):=by omega
  have e16:(k:Int) - 16 = ((k - 16:Nat):Int):=by omega
  have e7:(k:Int) - 7 = ((k - 7:Nat):Int):=by omega
  unfold zbY
  simp (disch:=omega) only [↓RD,RZ,eq_self,seval,e15,e2,e16,e7,w15,w2,w16,w7,r7,r18,r17,r19,s3,s10,zrq,w_xor,g1,zaW hlm (show k < 64 by omega),w_ok,zg3,hlr]
  refine ⟨by omega,rfl,?_,s1.trans (At1.set wb _ _)⟩
  rw [znk,if_neg (by omega)]
  simp [wnext,sg0,sg1]
 ·rintro L H1 ⟨rfl,g1,s1⟩
  unfold zbY
  simp (disch:=omega) only [↓RD,RZ,eq_self,seval]
  refine ⟨?_,s1⟩
  rw [g1]
  simp
theorem ztt {cb wb vb:Nat} {u6:V} {H:Heap} {l:List Nat} {h:List UInt32} (hh:h.length = 8) (hc:H.get cb = some ⟨zat,kc.map w32,none⟩) (hw:H.get wb = some ⟨zat,(wl l 64).map w32,none⟩)
  (hb:H.get vb = some ⟨zao,h.map w32,none⟩) (h1:vb ≠ cb) (h2:vb ≠ wb) (hcl:cb < H.next) (hwl:wb < H.next) :
  Ok (M.iter (zbX (sem T) (.ptr cb 0) (.ptr wb 0) (.ptr vb 0) u6) [.int .i64 0]) H fun r H'=>r = .ex 4 [] ∧ H'.get vb = some ⟨zao,(rnds kc (wl l 64) h 64).map w32,none⟩ ∧ At1 vb H H':=by
 refine zaF (fun k L H'=>L = [.int .i64 (k:Nat)] ∧ H'.get vb = some ⟨zao,(rnds kc (wl l 64) h k).map w32,none⟩ ∧ At1 vb H H') 64 ?_ ?_ ?_
 ·exact ⟨rfl,hb,At1.refl _ _⟩
 ·rintro k L H1 hk ⟨rfl,g1,s1⟩
  have gc:=(s1.same cb hcl (Ne.symm h1)).trans hc
  have gw:=(s1.same wb hwl (Ne.symm h2)).trans hw
  have hl8:(rnds kc (wl l 64) h k).length = 8:=zk9 hh k
  have hlm:((rnds kc (wl l 64) h k).map w32).length = 8:=by rw [List.length_map,hl8]
  have v0:=wg (ws:=rnds kc (wl l 64) h k) (i:=0) (by omega)
  have v1:=wg (ws:=rnds kc (wl l 64) h k) (i:=1) (by omega)
  have v2:=wg (ws:=rnds kc (wl l 64) h k) (i:=2) (by omega)
  have v3:=wg (ws:=rnds kc (wl l 64) h k) (i:=3) (by omega)
  have v4:=wg (ws:=rnds kc (wl l 64) h k) (i:=4) (by omega)
  have v5:=wg (ws:=rnds kc (wl l 64) h k) (i:=5) (by omega)
  have v6:=wg (ws:=rnds kc (wl l 64) h k) (i:=6) (by omega)
  have v7:=wg (ws:=rnds kc (wl l 64) h k) (i:=7) (by omega)
  have wk:=wg (ws:=wl l 64) (i:=k) (by rw [zob]; exact hk)
  have kk:=wg (ws:=kc) (i:=k) (by rw [zkO]; exact hk)
  have hsp:∀ (L:List V),L.length = 8 → splice ((rnds kc (wl l 64) h k).map w32) 0 L = L:=fun L hL=>by
   unfold splice
   rw [List.take_zero,List.nil_append,hL,List.drop_of_length_le (by rw [hlm]; omega),List.append_nil]
  unfold zbX
  have er:rnds kc (wl l 64) h (k + 1) = rnd (rnds kc (wl l 64) h k) (kc.getD k 0) ((wl l 64).getD k 0):=rfl
  rw [er]
  generalize rnds kc (wl l 64) h k = vs at *
  simp (disch:=omega) only [↓RD,RZ,eq_self,seval,g1,v0,v1,v2,v3,v4,v5,v6,v7,gc,gw,wk,kk,r6,r11,r25,r2,r13,r22,zrq,w_xor,w_and,w_not,w_ok,zg3,hlm]
  refine ⟨rfl,?_,s1.trans (At1.set vb _ _)⟩
  rw [hsp _ rfl]
  refine congrArg (fun c=>some (Blk.mk zao c none)) ?_
  exact List.cons_eq_cons.2 ⟨congrArg w32 (UInt32.add_assoc _ _ _),rfl⟩
 ·rintro L H1 ⟨rfl,g1,s1⟩
  unfold zbX
  simp (disch:=omega) only [↓RD,RZ,eq_self,seval]
  exact ⟨g1,s1⟩
end Go.Ax.SU
