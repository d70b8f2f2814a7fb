/-
  Texts of mine, put together by program (wip/slim.py), for law_lockOpens: part 11.
-/
import Derived.Test.YtmmgnkjdppnboaaGreatZp10
noncomputable section
set_option linter.unusedVariables false
set_option linter.unusedSimpArgs false
set_option linter.defProp false
set_option maxRecDepth 100000
/- Su13 -/
namespace Go.Ax.SU
open Go.Ax
theorem ztF (x:UInt32):Ax.cint .u8 (w32 x) = some (by8 (x.toNat % 256)):=by
 unfold w32 by8;rw [zsd,wrap_u8];rfl
theorem s24 (x:UInt32):Ax.bin .shr (w32 x) (.int .u64 24) = some (w32 (zjK x 24)):=zsu x (by omega)
theorem s16 (x:UInt32):Ax.bin .shr (w32 x) (.int .u64 16) = some (w32 (zjK x 16)):=zsu x (by omega)
theorem s8 (x:UInt32):Ax.bin .shr (w32 x) (.int .u64 8) = some (w32 (zjK x 8)):=zsu x (by omega)
theorem n24 (x:UInt32):(zjK x 24).toNat = x.toNat / 16777216:=by rw [zik,Nat.shiftRight_eq_div_pow]
theorem n16 (x:UInt32):(zjK x 16).toNat = x.toNat / 65536:=by rw [zik,Nat.shiftRight_eq_div_pow]
theorem n8 (x:UInt32):(zjK x 8).toNat = x.toNat / 256:=by rw [zik,Nat.shiftRight_eq_div_pow]
theorem zcZ (n:Nat):(by8 n).okc = true:=rfl
theorem zaP (n:Nat):(by8 n).cells = [by8 n]:=rfl
theorem zst (a b:List UInt32):zbR (a ++ b) = zbR a ++ zbR b:=by unfold zbR; rw [List.map_append,List.flatten_append]
theorem take_w {h:List UInt32} {k:Nat} (hk:k < h.length):h.take (k + 1) = h.take k ++ [h.getD k 0]:=by
 rw [List.take_add_one,List.getElem?_eq_getElem hk,List.getD_eq_getElem?_getD,List.getElem?_eq_getElem hk]; rfl
theorem out_ok {H:Heap} {o r:Nat} {h:List UInt32} (hh:h.length = 8) (ho:H.get o = some ⟨zae,List.replicate 32 (.int .u8 0),none⟩) :
  Ok (M.iter (zcW (sem T) (.agg (h.map w32)) (.ptr o 0) (.ptr r 0)) [.int .i64 0]) H fun x H'=>x = .ex 4 [] ∧ H'.get o = some ⟨zae,(zbR h).map by8,none⟩ ∧ At1 o H H':=by
 refine zaE (fun k L H'=>L = [.int .i64 (k:Nat)] ∧ H'.get o = some ⟨zae,(zbR (h.take k)).map by8 ++ List.replicate (32 - 4 * k) (.int .u8 0),none⟩ ∧ At1 o H H') 8 ?_ ?_ ?_
 ·exact ⟨rfl,by simpa [zbR] using ho,At1.refl _ _⟩
 ·rintro k L H1 hk ⟨rfl,g1,s1⟩;have hl0:((zbR (h.take k)).map by8).length = 4 * k:=by rw [List.length_map,zi3,List.length_take]; omega
  have gk:=wg (ws:=h) (i:=k) (by omega);have e4:(4:Int) * (k:Int) = ((4 * k:Nat):Int):=by omega
  have e5:((4 * k:Nat):Int) + 1 = ((4 * k + 1:Nat):Int):=by omega
  have e6:((4 * k:Nat):Int) + 2 = ((4 * k + 2:Nat):Int):=by omega
  have e7:((4 * k:Nat):Int) + 3 = ((4 * k + 3:Nat):Int):=by omega
  have hlen:∀ (l:List V) (n:Nat),l.length = n → n ≤ 32 → (l ++ List.replicate (32 - n) (V.int .u8 0)).length = 32:=fun l n h1 h2=>by rw [List.length_append,h1,List.length_replicate]; omega
  have x0:=zaZ (z:=.int .u8 0) (x:=by8 ((h.getD k 0).toNat / 16777216 % 256)) hl0 (show 4 * k < 32 by omega);have hl1:((zbR (h.take k)).map by8 ++ [by8 ((h.getD k 0).toNat / 16777216 % 256)]).length = 4 * k + 1:=by rw [List.length_append,hl0]; rfl
  have x1:=zaZ (z:=.int .u8 0) (x:=by8 ((h.getD k 0).toNat / 65536 % 256)) hl1 (show 4 * k + 1 < 32 by omega);have hl2:((zbR (h.take k)).map by8 ++ [by8 ((h.getD k 0).toNat / 16777216 % 256)] ++ [by8 ((h.getD k 0).toNat / 65536 % 256)]).length = 4 * k + 2:=by rw [List.length_append,hl1]; rfl
  have x2:=zaZ (z:=.int .u8 0) (x:=by8 ((h.getD k 0).toNat / 256 % 256)) hl2 (show 4 * k + 2 < 32 by omega);have hl3:((zbR (h.take k)).map by8 ++ [by8 ((h.getD k 0).toNat / 16777216 % 256)] ++ [by8 ((h.getD k 0).toNat / 65536 % 256)] ++ [by8 ((h.getD k 0).toNat / 256 % 256)]).length = 4 * k + 3:=by rw [List.length_append,hl2]; rfl
  have x3:=zaZ (z:=.int .u8 0) (x:=by8 ((h.getD k 0).toNat % 256)) hl3 (show 4 * k + 3 < 32 by omega);have m0:=hlen _ _ hl0 (by omega);have m1:=hlen _ _ hl1 (by omega);have m2:=hlen _ _ hl2 (by omega);have m3:=hlen _ _ hl3 (by omega);unfold zcW uL uT uB uI uc uq ug;simp (disch:=omega) only [↓RD,RZ,gk,e4,e5,e6,e7,s24,s16,s8,ztF,n24,n16,n8,zcZ,zaP,g1,x0,x1,x2,x3,m0,m1,m2,m3];refine ⟨by omega,by omega,by omega,by omega,rfl,?_,s1.trans ((At1.set o _ _).trans ((At1.set o _ _).trans ((At1.set o _ _).trans (At1.set o _ _))))⟩;rw [take_w (by omega),zst,show 32 - 4 * (k + 1) = 32 - (4 * k + 3 + 1) by omega];simp [zbR]
 ·rintro L H1 ⟨rfl,g1,s1⟩;unfold zcW uL uT uB uI uc uq ug;simp (disch:=omega) only [↓RD,RZ];refine ⟨?_,s1⟩;rw [g1,List.take_of_length_le (by omega)];simp
theorem zt9 (n:Nat):pad n = (0x80 :: List.replicate (padz n) 0) ++ bn 8 (n * 8 % 18446744073709551616):=rfl
theorem Sum_ok {H:Heap} {s:Nat} {m F:List Nat} (k:Str H s m F) (hlen:m.length ≤ 562949953421312) :
  Ok (sem T zb8 [.ptr s 0]) H fun r H'=>r = .agg ((sha kc m).map by8) ∧ Step H H' F F:=by
 refine zjm ?_;unfold zgw uS uT uNFM uNF uB uO uc ub uq ug;have s1:=Grow.new H ⟨zae,[.int .u8 0,.int .u8 0,.int .u8 0,.int .u8 0,.int .u8 0,.int .u8 0,.int .u8 0,.int .u8 0,.int .u8 0,.int .u8 0,.int .u8 0,.int .u8 0,.int .u8 0,.int .u8 0,.int .u8 0,.int .u8 0,.int .u8 0,.int .u8 0,.int .u8 0,.int .u8 0,.int .u8 0,.int .u8 0,.int .u8 0,.int .u8 0,.int .u8 0,.int .u8 0,.int .u8 0,.int .u8 0,.int .u8 0,.int .u8 0,.int .u8 0,.int .u8 0],none⟩;have gr:(H.new ⟨zae,[.int .u8 0,.int .u8 0,.int .u8 0,.int .u8 0,.int .u8 0,.int .u8 0,.int .u8 0,.int .u8 0,.int .u8 0,.int .u8 0,.int .u8 0,.int .u8 0,.int .u8 0,.int .u8 0,.int .u8 0,.int .u8 0,.int .u8 0,.int .u8 0,.int .u8 0,.int .u8 0,.int .u8 0,.int .u8 0,.int .u8 0,.int .u8 0,.int .u8 0,.int .u8 0,.int .u8 0,.int .u8 0,.int .u8 0,.int .u8 0,.int .u8 0,.int .u8 0],none⟩).get H.next = some ⟨zae,List.replicate 32 (.int .u8 0),none⟩:=zab _ _;have nr:(H.new ⟨zae,[.int .u8 0,.int .u8 0,.int .u8 0,.int .u8 0,.int .u8 0,.int .u8 0,.int .u8 0,.int .u8 0,.int .u8 0,.int .u8 0,.int .u8 0,.int .u8 0,.int .u8 0,.int .u8 0,.int .u8 0,.int .u8 0,.int .u8 0,.int .u8 0,.int .u8 0,.int .u8 0,.int .u8 0,.int .u8 0,.int .u8 0,.int .u8 0,.int .u8 0,.int .u8 0,.int .u8 0,.int .u8 0,.int .u8 0,.int .u8 0,.int .u8 0,.int .u8 0],none⟩).next = H.next + 1:=zaf _ _;have kF:=k.low;have k1:=k.grow s1;simp (disch:=omega) only [↓RD,RZ];generalize hrb:H.next = rb at *;generalize H.new _ = H1 at *;refine zag (Copy_ok k1) ?_;rintro _ H2 ⟨t,c,Fb,rfl,k2,hcF,htn,hFb,s2⟩;obtain ⟨c',bv,Fb',hF',k2',hm8⟩:=k2;simp only [List.cons.injEq,true_and] at hF';obtain ⟨rfl,rfl⟩:=hF';have n2:=s2.next;have gt2:=k2'.gs;have i9:=st9 k2'.hl;have i8:=st8 k2'.hl;have ebl:=k2'.bf.vlen;have tll:=zrv m;have em:((m.length:Nat):Int) * 8 = ((m.length * 8:Nat):Int):=by omega
 have hlow2:=k2'.low;simp (disch:=first | omega | (simp only [RY] <;> omega) | decide) only [↓RD,RZ,eq_self,seval,gt2,i9,em];have s3:=Grow.new H2 ⟨zad,[.int .u8 128],none⟩;have a3:Ab H2.next (H2.new ⟨zad,[.int .u8 128],none⟩) (.sl H2.next 0 1 (.fix 1)) [0x80]:=.full (zab _ _) rfl (Nat.le_refl _) (by rw [zaf]; omega);have b3:Bel H2.next H2 (H2.new ⟨zad,[.int .u8 128],none⟩):=s3.bel (Nat.le_refl _);generalize hlo:H2.next = lo at *;generalize H2.new _ = H3 at *;have hz:padz m.length < 64:=by unfold padz; omega
 refine zas (Q:=fun r H'=>∃ e,r = .ex 0 [e] ∧ Ab lo H' e (0x80 :: List.replicate (padz m.length) 0) ∧ Bel lo H2 H') ?_ ?_
 ·refine zaE (fun j L H'=>∃ e,L = [e] ∧ Ab lo H' e (0x80 :: List.replicate j 0) ∧ Bel lo H2 H') (padz m.length) ?_ ?_ ?_
  ·exact ⟨_,rfl,a3,b3⟩
  ·rintro j L H4 hj ⟨e,rfl,a4,b4⟩;have hel:=a4.by.vlen;have hl:(0x80 :: List.replicate j 0).length = j + 1:=by simp
   rw [hl] at hel;have gt4:=(b4.same t (hlow2 t (by simp))).trans gt2;have ej:(((tl m).length:Nat):Int) + ((j + 1:Nat):Int) = (((tl m).length + (j + 1):Nat):Int):=rfl;have hne:¬ (((((tl m).length + (j + 1):Nat):Int)) % 64 = 56):=by unfold padz at hj; omega
   have n4:=b4.next;unfold zdX uL uNFM uB uc ub ug;simp (disch:=omega) only [↓RD,RZ,gt4,i8,ebl,hel,ej,hne];refine zeV (m:=[0]) (a4.keep ((Grow.new _ _).keep _)) (by rw [zaf]; omega) (zbZ rfl) (by rw [hl]; simp; omega) fun e' H5 a5 b5=>?_;simp (disch:=omega) only [↓RD,RZ];refine ⟨e',rfl,?_,b4.trans (((Grow.new _ _).bel (by omega)).trans b5)⟩;rw [List.replicate_succ',← List.cons_append];exact a5
  ·rintro L H4 ⟨e,rfl,a4,b4⟩;have hel:=a4.by.vlen;have hl:(0x80 :: List.replicate (padz m.length) 0).length = padz m.length + 1:=by simp
   rw [hl] at hel;have gt4:=(b4.same t (hlow2 t (by simp))).trans gt2;have ej:(((tl m).length:Nat):Int) + ((padz m.length + 1:Nat):Int) = (((tl m).length + (padz m.length + 1):Nat):Int):=rfl;have hne:((((tl m).length + (padz m.length + 1):Nat):Int)) % 64 = 56:=by unfold padz; omega
   have n4:=b4.next;unfold zdX uL uNFM uB uc ub ug;simp (disch:=omega) only [↓RD,RZ,gt4,i8,ebl,hel,ej,hne];exact ⟨e,rfl,a4,b4⟩
 ·rintro _ H4 ⟨e4,rfl,a4,b4⟩;have hl4:(0x80 :: List.replicate (padz m.length) 0).length = padz m.length + 1:=by simp
  have hmod:m.length * 8 % 18446744073709551616 = m.length * 8:=Nat.mod_eq_of_lt (by omega);simp (disch:=omega) only [↓RD,RZ];refine zas (Q:=fun r H'=>∃ e,r = .ex 2 [e] ∧ Ab lo H' e (pad m.length) ∧ Bel lo H2 H') ?_ ?_
  ·refine zaE (fun j L H'=>∃ w,L = [w,.int .i64 ((7:Int) - (j:Nat))] ∧ Ab lo H' w ((0x80 :: List.replicate (padz m.length) 0) ++ (bn 8 (m.length * 8)).take j) ∧ Bel lo H2 H') 8 ?_ ?_ ?_
   ·exact ⟨e4,rfl,by rw [List.take_zero,List.append_nil]; exact a4,b4⟩
   ·rintro j L H5 hj ⟨w,rfl,a5,b5⟩;have e1:(7:Int) - (j:Nat) = ((8 - 1 - j:Nat):Int):=by omega
    have e2:(8:Int) * ((8 - 1 - j:Nat):Int) = ((8 * (8 - 1 - j):Nat):Int):=by omega
    have e3:shr (m.length * 8) (8 * (8 - 1 - j)) = m.length * 8 / 256 ^ (8 - 1 - j):=by rw [zfB,Nat.shiftRight_eq_div_pow,Nat.pow_mul]
    have n5:=b5.next;rw [e1];generalize hw:8 - 1 - j = w' at *;unfold zdW uL uB uc ub ug;have e8:IntKind.u8.wrap ((m.length * 8 / 256 ^ w':Nat):Int) = ((m.length * 8 / 256 ^ w' % 256:Nat):Int):=by rw [wrap_u8]; rfl
    have hlt:((0x80 :: List.replicate (padz m.length) 0) ++ (bn 8 (m.length * 8)).take j).length = padz m.length + 1 + j:=by rw [List.length_append,hl4,List.length_take,zi1]; omega
    simp (disch:=omega) only [↓RD,RZ,e2,e3,e8];refine zeV (m:=[m.length * 8 / 256 ^ w' % 256]) (a5.keep ((Grow.new _ _).keep _)) (by rw [zaf]; omega) (zbZ rfl) (by rw [hlt]; simp; omega) fun e' H6 a6 b6=>?_;simp (disch:=omega) only [↓RD,RZ];refine ⟨e',by rw [show ((w':Nat):Int) - 1 = (7:Int) - ((j + 1:Nat):Int) by omega],?_,b5.trans (((Grow.new _ _).bel (by omega)).trans b6)⟩;rw [zbx (by rw [zi1]; exact hj),zvA 8 _ j hj,hw,← List.append_assoc];exact a6
   ·rintro L H5 ⟨w,rfl,a5,b5⟩;have e1:(7:Int) - ((8:Nat):Int) = -1:=by omega
    rw [e1];unfold zdW uL uB uc ub ug;simp (disch:=omega) only [↓RD,RZ];refine ⟨w,rfl,?_,b5⟩;rw [List.take_of_length_le (by rw [zi1]; exact Nat.le_refl _)] at a5;rw [zt9,hmod];exact a5
  ·rintro _ H5 ⟨e5,rfl,a5,b5⟩;have n5:=b5.next;have k5:Str H5 t m (t :: c :: Fb):=⟨c,bv,Fb,rfl,k2'.to n5 fun i hi=>b5.same i (hlow2 i hi),hm8⟩;have hpl:(pad m.length).length ≤ 72:=by rw [zt9,List.length_append,hl4,zi1]; omega
   have hp8:Ok8 (pad m.length):=by
    rw [zt9];refine Ok8.app (fun x hx=>?_) (bn_8 _ _);rcases List.mem_cons.1 hx with rfl | hx
    ·decide
    ·rw [List.eq_of_mem_replicate hx]; decide
   simp (disch:=omega) only [↓RD,RZ];refine zag (zsp k5 a5.by hp8 (fun i hi hF=>by have h1:=(a5.by.own i hi).1; have h2:=hlow2 i hF; omega) (by omega)) ?_;rintro _ H6 ⟨rfl,F6,k6,s6⟩;obtain ⟨c6,bv6,Fb6,rfl,k6,-⟩:=k6;have n6:=s6.next;have hrF:rb ∉ t :: c :: Fb:=by
    intro h;simp only [List.mem_cons] at h;rcases h with h | h | h
    ·omega
    ·have:=kF c hcF; omega
    ·have:=hFb rb h; omega
   have gr6:H6.get rb = some ⟨zae,List.replicate 32 (.int .u8 0),none⟩:=by
    rw [s6.same rb (by omega) hrF,b5.same rb (by omega),s2.same rb (by omega)]; exact gr
   have hlow6:=k6.low;have gt6:=k6.gs;have f8:=ld8 k6.hl [bv6,.int .u64 ((m ++ pad m.length).length:Nat),.ptr c6 0];have ht6:=k6.sl;have g7:∀ i,i < H6.next → (H6.new ⟨zae,[.int .u8 0,.int .u8 0,.int .u8 0,.int .u8 0,.int .u8 0,.int .u8 0,.int .u8 0,.int .u8 0,.int .u8 0,.int .u8 0,.int .u8 0,.int .u8 0,.int .u8 0,.int .u8 0,.int .u8 0,.int .u8 0,.int .u8 0,.int .u8 0,.int .u8 0,.int .u8 0,.int .u8 0,.int .u8 0,.int .u8 0,.int .u8 0,.int .u8 0,.int .u8 0,.int .u8 0,.int .u8 0,.int .u8 0,.int .u8 0,.int .u8 0,.int .u8 0],none⟩).get i = H6.get i:=fun i hi=>zaX _ _ (by omega);have go7:(H6.new ⟨zae,[.int .u8 0,.int .u8 0,.int .u8 0,.int .u8 0,.int .u8 0,.int .u8 0,.int .u8 0,.int .u8 0,.int .u8 0,.int .u8 0,.int .u8 0,.int .u8 0,.int .u8 0,.int .u8 0,.int .u8 0,.int .u8 0,.int .u8 0,.int .u8 0,.int .u8 0,.int .u8 0,.int .u8 0,.int .u8 0,.int .u8 0,.int .u8 0,.int .u8 0,.int .u8 0,.int .u8 0,.int .u8 0,.int .u8 0,.int .u8 0,.int .u8 0,.int .u8 0],none⟩).get H6.next = some ⟨zae,List.replicate 32 (.int .u8 0),none⟩:=zab _ _;have n7:(H6.new ⟨zae,[.int .u8 0,.int .u8 0,.int .u8 0,.int .u8 0,.int .u8 0,.int .u8 0,.int .u8 0,.int .u8 0,.int .u8 0,.int .u8 0,.int .u8 0,.int .u8 0,.int .u8 0,.int .u8 0,.int .u8 0,.int .u8 0,.int .u8 0,.int .u8 0,.int .u8 0,.int .u8 0,.int .u8 0,.int .u8 0,.int .u8 0,.int .u8 0,.int .u8 0,.int .u8 0,.int .u8 0,.int .u8 0,.int .u8 0,.int .u8 0,.int .u8 0,.int .u8 0],none⟩).next = H6.next + 1:=zaf _ _;simp (disch:=omega) only [↓RD,RZ,gt6,f8];clear gt6;generalize ho:H6.next = o at *;generalize H6.new _ = H7 at *;refine zas (out_ok k6.hl go7) ?_;rintro _ H8 ⟨rfl,go8,s8⟩;have gr8:H8.get rb = some ⟨zae,List.replicate 32 (.int .u8 0),none⟩:=by
    rw [s8.same rb (by omega) (by omega),g7 rb (by omega)]; exact gr6
   have hwl:((zbR (hs kc (m ++ pad m.length))).map by8).length = 32:=by rw [List.length_map,zi3,zu0]
   have l32:ldc (some 32) ((zbR (hs kc (m ++ pad m.length))).map by8) 0 = some (.agg ((zbR (hs kc (m ++ pad m.length))).map by8)):=by
    rw [zdj (by omega),List.drop_zero,List.take_of_length_le (by omega)]
   have hok:V.okc (.agg ((zbR (hs kc (m ++ pad m.length))).map by8)) = true:=by
    simp only [V.okc,List.all_map,List.all_eq_true]
    try (intro x _; rfl)
   have hsp:∀ L:List V,L.length = 32 → splice L 0 ((zbR (hs kc (m ++ pad m.length))).map by8) = (zbR (hs kc (m ++ pad m.length))).map by8:=fun L hL=>by
    unfold splice;rw [List.take_zero,List.nil_append,hwl,List.drop_of_length_le (by omega),List.append_nil]
   have hrl:(List.replicate 32 (V.int .u8 0)).length = 32:=rfl;have hne8:o ≠ rb:=by omega
   simp (disch:=first | omega | (simp only [RY] <;> omega) | decide) only [↓RD,RZ,eq_self,seval,go8,l32,gr8,hok,hwl,hsp,hrl];refine ⟨rfl,⟨?_,fun i hi hF=>?_,fun i hi=>.inl hi⟩⟩
   ·have:=s8.next;rw [zan]; omega
   ·have hi6:i ∉ t :: c :: Fb:=by
     intro h;simp only [List.mem_cons] at h;rcases h with h | h | h
     ·omega
     ·exact hF (h ▸ hcF)
     ·have:=hFb i h; omega
    rw [zai _ _ (by omega),s8.same i (by omega) (by omega),g7 i (by omega),s6.same i (by omega) hi6,b5.same i (by omega),s2.same i (by omega),s1.same i (by omega)]
end Go.Ax.SU
/- Su14 -/
namespace Go.Ax.SU
open Go.Ax
theorem zta {lo n:Nat} {H:Heap} {v x:V} {vs:List V} (h:Lc 1 lo H v vs n) {i:Nat} (hi:i < n) (hx:vs[i]? = some x):∃ p,(∀ {k:IntKind},Ax.iaddr none 1 v (.int k ((i:Nat):Int)) = some p) ∧ LdR none H p x:=by
 obtain ⟨p,hp,hl⟩:=h.at (i:=((i:Nat):Int)) (by omega) (by omega);have hlen:=h.len;have hil:i < vs.length:=by omega
 have e:(vs.drop (((i:Nat):Int).toNat * 1)).take 1 = [x]:=by
  rw [Int.toNat_natCast,Nat.mul_one,List.drop_eq_getElem_cons hil];rw [List.getElem?_eq_getElem hil] at hx;injection hx with hx
  rw [hx]; rfl
 rw [e] at hl;refine ⟨p,hp,fun f Q=>?_⟩;rw [hl.ld0 (by simp)];exact zvI
def Pts (lo:Nat) (H:Heap) (vs:List V) (ps:List (List Nat)):Prop:=vs.length = ps.length ∧ ∀ (i:Nat) (v:V) (p:List Nat),vs[i]? = some v → ps[i]? = some p → By lo H v p ∧ Ok8 p
theorem Pts.grow {lo:Nat} {H H':Heap} {vs:List V} {ps:List (List Nat)} (h:Pts lo H vs ps) (g:Grow H H'):Pts lo H' vs ps:=⟨h.1,fun i v p hv hp=>⟨(h.2 i v p hv hp).1.ext g,(h.2 i v p hv hp).2⟩⟩
theorem Pts.nil {lo:Nat} {H:Heap}:Pts lo H [] []:=⟨rfl,fun i v p h=>by simp at h⟩
theorem Pts.cons {lo:Nat} {H:Heap} {v:V} {p:List Nat} {vs:List V} {ps:List (List Nat)} (h1:By lo H v p) (h2:Ok8 p) (h:Pts lo H vs ps):Pts lo H (v :: vs) (p :: ps):=by
 refine ⟨by simp [h.1],fun i v' p' hv hp=>?_⟩;cases i with
 | zero =>
  simp only [List.getElem?_cons_zero,Option.some.injEq] at hv hp;subst hv hp;exact ⟨h1,h2⟩
 | succ i=>exact h.2 i v' p' hv hp
theorem zhm {ps:List (List Nat)} {k:Nat} {p:List Nat} (h:ps[k]? = some p):(ps.take (k + 1)).flatten = (ps.take k).flatten ++ p:=by
 rw [List.take_add_one,h]; simp
theorem zex (ps:List (List Nat)) (k:Nat):(ps.take k).flatten.length ≤ ps.flatten.length:=by
 conv=>rhs; rw [← List.take_append_drop k ps,List.flatten_append,List.length_append]
 omega
theorem ze5 {lo id n:Nat} {H:Heap} {ty:TypeId} {l:List Nat} {o:Option Nat} (h:H.get id = some ⟨ty,l.map by8,o⟩) (hl:l.length = n) (h0:lo ≤ id) (h1:id < H.next):By lo H (.sl id 0 n (.fix n)) l:=by
 subst hl;refine ⟨?_,fun i hi=>by simp only [V.pid,Option.some.injEq] at hi; subst hi; exact ⟨h0,h1⟩,Nat.le_refl _⟩;simp only [zbn,h,Option.bind_some];rw [if_pos (by simp),List.drop_zero,List.take_of_length_le (by simp)]
theorem Of_ok {H:Heap} {lo:Nat} {v:V} {vs:List V} {ps:List (List Nat)} (hv:Lc 1 lo H v vs vs.length) (hp:Pts 0 H vs ps) (hvn:vs.length ≤ 1000) (hlen:ps.flatten.length ≤ 281474976710656) :
  Ok (sem T zfr [v]) H fun r H'=>r = .agg ((sha kc ps.flatten).map by8) ∧ Grow H H':=by
 refine zpD ?_;unfold zmY uL uS uT uO uc;have s1:=Grow.new H ⟨zae,[.int .u8 0,.int .u8 0,.int .u8 0,.int .u8 0,.int .u8 0,.int .u8 0,.int .u8 0,.int .u8 0,.int .u8 0,.int .u8 0,.int .u8 0,.int .u8 0,.int .u8 0,.int .u8 0,.int .u8 0,.int .u8 0,.int .u8 0,.int .u8 0,.int .u8 0,.int .u8 0,.int .u8 0,.int .u8 0,.int .u8 0,.int .u8 0,.int .u8 0,.int .u8 0,.int .u8 0,.int .u8 0,.int .u8 0,.int .u8 0,.int .u8 0,.int .u8 0],none⟩;have gr:(H.new ⟨zae,[.int .u8 0,.int .u8 0,.int .u8 0,.int .u8 0,.int .u8 0,.int .u8 0,.int .u8 0,.int .u8 0,.int .u8 0,.int .u8 0,.int .u8 0,.int .u8 0,.int .u8 0,.int .u8 0,.int .u8 0,.int .u8 0,.int .u8 0,.int .u8 0,.int .u8 0,.int .u8 0,.int .u8 0,.int .u8 0,.int .u8 0,.int .u8 0,.int .u8 0,.int .u8 0,.int .u8 0,.int .u8 0,.int .u8 0,.int .u8 0,.int .u8 0,.int .u8 0],none⟩).get H.next = some ⟨zae,List.replicate 32 (.int .u8 0),none⟩:=zab _ _;have nr:(H.new ⟨zae,[.int .u8 0,.int .u8 0,.int .u8 0,.int .u8 0,.int .u8 0,.int .u8 0,.int .u8 0,.int .u8 0,.int .u8 0,.int .u8 0,.int .u8 0,.int .u8 0,.int .u8 0,.int .u8 0,.int .u8 0,.int .u8 0,.int .u8 0,.int .u8 0,.int .u8 0,.int .u8 0,.int .u8 0,.int .u8 0,.int .u8 0,.int .u8 0,.int .u8 0,.int .u8 0,.int .u8 0,.int .u8 0,.int .u8 0,.int .u8 0,.int .u8 0,.int .u8 0],none⟩).next = H.next + 1:=zaf _ _;have hvl:=hv.vlen;simp (disch:=first | omega | (simp only [RY] <;> omega) | decide) only [↓RD,RZ,eq_self,seval];generalize hrb:H.next = rb at *;generalize H.new _ = H1 at *;refine zag New_ok ?_;rintro _ H2 ⟨s,F,rfl,k2,hF,s2⟩;have n2:=s2.next;have g2:Grow H H2:=s1.trans s2;simp (disch:=first | omega | (simp only [RY] <;> omega) | decide) only [↓RD,RZ,eq_self,seval,hvl];refine zas (Q:=fun r H'=>r = .ex 0 [] ∧ ∃ F',Str H' s ps.flatten F' ∧ (∀ i ∈ F',H1.next ≤ i) ∧ Grow H1 H') ?_ ?_
 ·refine zaE (fun j L H'=>L = [.int .i64 (j:Nat)] ∧ ∃ F',Str H' s (ps.take j).flatten F' ∧ (∀ i ∈ F',H1.next ≤ i) ∧ Grow H1 H') vs.length ?_ ?_ ?_
  ·exact ⟨rfl,F,by simpa using k2,hF,s2⟩
  ·rintro j L H3 hj ⟨rfl,F',k3,hF3,s3⟩;have g3:Grow H H3:=s1.trans s3;have hx:vs[j]? = some vs[j]:=List.getElem?_eq_getElem hj;have hq:ps[j]? = some (ps[j]'(by rw [← hp.1]; exact hj)):=List.getElem?_eq_getElem _;obtain ⟨hby,h8⟩:=hp.2 j _ _ hx hq;obtain ⟨p,ip,lp⟩:=zta (hv.ext g3) hj hx;have hl1:=zex ps (j + 1);have hft:=zhm hq;rw [hft,List.length_append] at hl1;unfold zhT uB uIM uc ug;simp (disch:=first | omega | (simp only [RY] <;> omega) | decide) only [↓RD,RZ,eq_self,seval,ip,lp];refine zag (zsp k3 (hby.ext g3) h8 (fun i hi hc=>by have h1:=(hby.own i hi).2; have h2:=hF3 i hc; omega) (by omega)) ?_;rintro _ H4 ⟨rfl,F4,k4,s4⟩;rw [← hft] at k4;simp (disch:=first | omega | (simp only [RY] <;> omega) | decide) only [↓RD,RZ,eq_self,seval];refine ⟨rfl,F4,k4,fun i hi=>?_,⟨Nat.le_trans s3.next s4.next,fun i hi=>by rw [s4.same i (by have:=s3.next; omega) (fun hc=>by have:=hF3 i hc; omega),s3.same i hi]⟩⟩;rcases s4.own i hi with h | h
   ·exact hF3 i h
   ·have:=s3.next; omega
  ·rintro L H3 ⟨rfl,F',k3,hF3,s3⟩;unfold zhT uB uIM uc ug;simp (disch:=first | omega | (simp only [RY] <;> omega) | decide) only [↓RD,RZ,eq_self,seval];refine ⟨F',?_,hF3,s3⟩;rw [hp.1,List.take_length] at k3;exact k3
 ·rintro _ H3 ⟨rfl,F',k3,hF3,s3⟩;have n3:=s3.next;simp (disch:=first | omega | (simp only [RY] <;> omega) | decide) only [↓RD,RZ,eq_self,seval];refine zag (Sum_ok k3 (by omega)) ?_;rintro _ H4 ⟨rfl,s4⟩;have n4:=s4.next;have g4:∀ i,i < H1.next → H4.get i = H1.get i:=fun i hi=>by rw [s4.same i (by omega) (fun hc=>by have:=hF3 i hc; omega),s3.same i hi]
  have gr4:=(g4 rb (by omega)).trans gr;have hwl:((sha kc ps.flatten).map by8).length = 32:=by rw [List.length_map,zhB]
  have l32:ldc (some 32) ((sha kc ps.flatten).map by8) 0 = some (.agg ((sha kc ps.flatten).map by8)):=by
   rw [zdj (by omega),List.drop_zero,List.take_of_length_le (by omega)]
  have hok:V.okc (.agg ((sha kc ps.flatten).map by8)) = true:=by
   simp only [V.okc,List.all_map,List.all_eq_true]
   try (intro x _; rfl)
  have hsp:∀ L:List V,L.length = 32 → splice L 0 ((sha kc ps.flatten).map by8) = (sha kc ps.flatten).map by8:=fun L hL=>by
   unfold splice;rw [List.take_zero,List.nil_append,hwl,List.drop_of_length_le (by omega),List.append_nil]
  have hrl:(List.replicate 32 (V.int .u8 0)).length = 32:=rfl;simp (disch:=first | omega | (simp only [RY] <;> omega) | decide) only [↓RD,RZ,eq_self,seval,gr4,l32,hok,hwl,hsp,hrl];exact ⟨by rw [zan]; omega,fun i hi=>by rw [zai _ _ (by omega),g4 i (by omega),s1.same i (by omega)]⟩
theorem zi9 (ks:List UInt32) {key:List Nat} (x:Nat):(kpad ks key x).length = 64:=by
 unfold kpad zdo;split
 ·rw [List.length_map,List.length_append,List.length_replicate,zhB]
 ·rw [List.length_map,List.length_append,List.length_replicate]; omega
theorem ziF {A C:List V} {b:V} {k:Nat} (h:A.length = k):(A ++ b :: C)[k]? = some b:=by
 rw [List.getElem?_append_right (by omega),h,Nat.sub_self]; rfl
theorem ziE {A C:List V} {b y:V} {k:Nat} (h:A.length = k):splice (A ++ b :: C) k [y] = A ++ y :: C:=by
 rw [zlq _ _ _ (by rw [List.length_append,List.length_cons]; omega),List.set_append_right _ _ (by omega),h,Nat.sub_self]; rfl
theorem xor_now {l:List Nat} {k:Nat} (f:Nat → Nat) (hk:k < l.length):((l.take k).map f ++ l.drop k).map by8 = ((l.take k).map f).map by8 ++ by8 (l.getD k 0) :: (l.drop (k + 1)).map by8:=by
 rw [List.drop_eq_getElem_cons hk,List.getD_eq_getElem?_getD,List.getElem?_eq_getElem hk,List.map_append,List.map_cons]; rfl
theorem xor_then {l:List Nat} {k:Nat} (f:Nat → Nat) (hk:k < l.length):((l.take k).map f).map by8 ++ by8 (f (l.getD k 0)) :: (l.drop (k + 1)).map by8 = ((l.take (k + 1)).map f ++ l.drop (k + 1)).map by8:=by
 rw [zbx hk,List.map_append,List.map_append,List.map_append];simp
theorem pad_ok {lo:Nat} {H:Heap} {v:V} {l:List Nat} {x:Nat} (hv:By lo H v l) (h8:Ok8 l) (hl:l.length ≤ 64) (hx:x < 256) :
  Ok (sem T zhk [v,.int .u8 (x:Nat)]) H fun r H'=>By H.next H' r ((l ++ List.replicate (64 - l.length) 0).map (· ^^^ x)) ∧ Grow H H':=by
 refine zsO ?_;unfold zp0 uL uc ub;refine zao (zk7 (l:=64) (c:=64) ⟨by decide,by decide,by decide,by decide⟩ ?_);have e64:(64:Int).toNat = 64:=rfl;rw [e64,zrr];have s1:=Grow.new H ⟨zad,List.replicate 64 (.int .u8 0),none⟩;have g1:(H.new ⟨zad,List.replicate 64 (.int .u8 0),none⟩).get H.next = some ⟨zad,List.replicate 64 (.int .u8 0),none⟩:=zab _ _;have n1:(H.new ⟨zad,List.replicate 64 (.int .u8 0),none⟩).next = H.next + 1:=zaf _ _;have hv1:=hv.ext s1;generalize hid:H.next = id at *;generalize H.new _ = H1 at *;have hz8:Ok8 (l ++ List.replicate (64 - l.length) 0):=h8.app (Ok8.rep _);have hzl:(l ++ List.replicate (64 - l.length) 0).length = 64:=by rw [List.length_append,List.length_replicate]; omega
 have hcp:mcopy 1 (.sl id 0 64 (.fix 64)) v H1 = some (.int .i64 (l.length:Nat),H1.set id (some ⟨zad,(l ++ List.replicate (64 - l.length) 0).map by8,none⟩)):=by
  unfold mcopy;rw [hv1.ac];simp only [Option.bind_some,g1];rw [if_pos (by simp)];have e1:min l.length 64 = l.length:=by omega
  have e2:splice (List.replicate 64 (V.int .u8 0)) 0 ((l.map by8).take (l.length * 1)) = (l ++ List.replicate (64 - l.length) 0).map by8:=by
   unfold splice;rw [List.take_zero,List.nil_append,List.take_of_length_le (by simp),List.length_map,Nat.zero_add,List.drop_replicate,List.map_append,List.map_replicate];rfl
  rw [e1,e2]
 generalize hL:l ++ List.replicate (64 - l.length) 0 = L at *;refine zao ⟨_,_,hcp,?_⟩;have g2:(H1.set id (some ⟨zad,L.map by8,none⟩)).get id = _:=zal _ _ _;have n2:(H1.set id (some ⟨zad,L.map by8,none⟩)).next = H1.next:=zan _ _ _;have s2:∀ i,i ≠ id → (H1.set id (some ⟨zad,L.map by8,none⟩)).get i = H1.get i:=fun i hi=>zai _ _ hi;generalize H1.set id _ = H2 at *;simp (disch:=omega) only [↓RD,RZ,eq_self,seval];refine zas (Q:=fun r H'=>r = .ex 0 [] ∧ H'.get id = some ⟨zad,(L.map (· ^^^ x)).map by8,none⟩ ∧ At1 id H2 H') ?_ ?_
 ·refine zaE (fun k L' H'=>L' = [.int .i64 (k:Nat)] ∧ H'.get id = some ⟨zad,((L.take k).map (· ^^^ x) ++ L.drop k).map by8,none⟩ ∧ At1 id H2 H') 64 ?_ ?_ ?_
  ·exact ⟨rfl,by simpa using g2,At1.refl _ _⟩
  ·rintro k _ H3 hk ⟨rfl,g3,s3⟩;have hA:(((L.take k).map (· ^^^ x)).map by8).length = k:=by rw [List.length_map,List.length_map,List.length_take]; omega
   rw [xor_now _ (by omega)] at g3;have m1:=ziF (b:=by8 (L.getD k 0)) (C:=(L.drop (k + 1)).map by8) hA;have m2:=ziE (b:=by8 (L.getD k 0)) (y:=by8 (L.getD k 0 ^^^ x)) (C:=(L.drop (k + 1)).map by8) hA;have ml:(((L.take k).map (· ^^^ x)).map by8 ++ by8 (L.getD k 0) :: (L.drop (k + 1)).map by8).length = 64:=by rw [List.length_append,hA,List.length_cons,List.length_map,List.length_drop]; omega
   have hg:=hz8.getD k;have ex:Ax.bin .xor (by8 (L.getD k 0)) (.int .u8 (x:Nat)) = some (by8 (L.getD k 0 ^^^ x)):=by
    unfold by8;rw [zty (by omega) (by omega) (by omega) (by omega)];rfl
   unfold zjZ uT uB uI uIM uc ug;simp (disch:=omega) only [↓RD,RZ,eq_self,seval,g3,m1,ex,m2,ml,zcZ,zaP];refine ⟨by omega,rfl,?_,s3.trans (At1.set id _ _)⟩;have:=xor_then (l:=L) (k:=k) (· ^^^ x) (by omega);rw [← this]
  ·rintro _ H3 ⟨rfl,g3,s3⟩;unfold zjZ uT uB uI uIM uc ug;simp (disch:=omega) only [↓RD,RZ,eq_self,seval];refine ⟨?_,s3⟩;rw [g3,List.take_of_length_le (by omega),List.drop_of_length_le (by omega),List.append_nil]
 ·rintro _ H3 ⟨rfl,g3,s3⟩;have n3:=s3.next;simp (disch:=omega) only [↓RD,RZ,eq_self,seval];exact ⟨ze5 g3 (by rw [List.length_map]; exact hzl) (Nat.le_refl _) (by omega),⟨by omega,fun i hi=>by rw [s3.same i (by omega) (by omega),s2 i (by omega),s1.same i (by omega)]⟩⟩
end Go.Ax.SU
/- Su15 -/
namespace Go.Ax.SU
open Go.Ax
theorem zaY (l:List Nat):V.okc (.agg (l.map by8)) = true:=by
 simp only [V.okc,List.all_map,List.all_eq_true]
 try (intro x _; rfl)
theorem zaj (cs:List V):V.cells (.agg cs) = cs:=rfl
theorem sp32 {l:List Nat} (hl:l.length = 32):splice [.int .u8 0,.int .u8 0,.int .u8 0,.int .u8 0,.int .u8 0,.int .u8 0,.int .u8 0,.int .u8 0,.int .u8 0,.int .u8 0,.int .u8 0,.int .u8 0,.int .u8 0,.int .u8 0,.int .u8 0,.int .u8 0,.int .u8 0,.int .u8 0,.int .u8 0,.int .u8 0,.int .u8 0,.int .u8 0,.int .u8 0,.int .u8 0,.int .u8 0,.int .u8 0,.int .u8 0,.int .u8 0,.int .u8 0,.int .u8 0,.int .u8 0,.int .u8 0] 0 (l.map by8) = l.map by8:=by
 unfold splice;rw [List.take_zero,List.nil_append,List.length_map,hl]; simp
theorem spr32 {l:List Nat} (hl:l.length = 32):splice (List.replicate 32 (V.int .u8 0)) 0 (l.map by8) = l.map by8:=sp32 hl
theorem ld32 {l:List Nat} (hl:l.length = 32):ldc (some 32) (l.map by8) 0 = some (.agg (l.map by8)):=by
 rw [zdj (by rw [List.length_map]; omega),List.drop_zero,List.take_of_length_le (by rw [List.length_map]; omega)]
theorem zg7 {n id:Nat}:zaz (.arr n) 1 (.ptr id 0) none none none = some (.sl id 0 n (.fix n)):=by
 simp only [zaz,zdM,Option.bind_some,Option.getD_none];rw [if_neg (by simp),if_pos (by simp)];simp
theorem ziI {id n:Nat} {H:Heap} {ty:TypeId} {cs:List V} {o:Option Nat} (h:H.get id = some ⟨ty,cs,o⟩) (hl:cs.length = n) (h1:id < H.next):Lc 1 0 H (.sl id 0 n (.fix n)) cs n:=by
 subst hl;refine ⟨?_,fun i hi=>by simp only [V.pid,Option.some.injEq] at hi; subst hi; exact ⟨Nat.zero_le _,h1⟩,Nat.le_refl _⟩;simp only [zbn,h,Option.bind_some];rw [if_pos (by simp),List.drop_zero,List.take_of_length_le (by simp)]
theorem zi8 (ks:List UInt32) (key:List Nat):(zdo ks key).length ≤ 64:=by
 unfold zdo;split
 ·rw [zhB]; omega
 ·omega
theorem zl1 (ks:List UInt32) {key:List Nat} (h:Ok8 key):Ok8 (zdo ks key):=by
 unfold zdo;split
 ·exact zrF _ _
 ·exact h
theorem zrU (ks:List UInt32) {key:List Nat} {x:Nat} (h:Ok8 key) (hx:x < 256):Ok8 (kpad ks key x):=by
 unfold kpad;intro y hy;obtain ⟨z,hz,rfl⟩:=List.mem_map.1 hy;exact za6 ((zl1 ks h).app (Ok8.rep _) z hz) hx
theorem zmg {H:Heap} {lo lo':Nat} {kv v:V} {key:List Nat} {vs:List V} {ps:List (List Nat)} (hk:By lo H kv key) (hk8:Ok8 key) (hkl:key.length ≤ 1099511627776) (hv:Lc 1 lo' H v vs vs.length) (hp:Pts 0 H vs ps) (hvn:vs.length ≤ 1000) (hlen:ps.flatten.length ≤ 1099511627776) :
  Ok (sem T zhl [kv,v]) H fun r H'=>r = .agg ((hmac kc key ps.flatten).map by8) ∧ Grow H H':=by
 refine zuj ?_;unfold zr2 uL uS uT uB uO uc ub ug;have s1:=Grow.new H ⟨zae,[.int .u8 0,.int .u8 0,.int .u8 0,.int .u8 0,.int .u8 0,.int .u8 0,.int .u8 0,.int .u8 0,.int .u8 0,.int .u8 0,.int .u8 0,.int .u8 0,.int .u8 0,.int .u8 0,.int .u8 0,.int .u8 0,.int .u8 0,.int .u8 0,.int .u8 0,.int .u8 0,.int .u8 0,.int .u8 0,.int .u8 0,.int .u8 0,.int .u8 0,.int .u8 0,.int .u8 0,.int .u8 0,.int .u8 0,.int .u8 0,.int .u8 0,.int .u8 0],none⟩;have gr:(H.new ⟨zae,[.int .u8 0,.int .u8 0,.int .u8 0,.int .u8 0,.int .u8 0,.int .u8 0,.int .u8 0,.int .u8 0,.int .u8 0,.int .u8 0,.int .u8 0,.int .u8 0,.int .u8 0,.int .u8 0,.int .u8 0,.int .u8 0,.int .u8 0,.int .u8 0,.int .u8 0,.int .u8 0,.int .u8 0,.int .u8 0,.int .u8 0,.int .u8 0,.int .u8 0,.int .u8 0,.int .u8 0,.int .u8 0,.int .u8 0,.int .u8 0,.int .u8 0,.int .u8 0],none⟩).get H.next = some ⟨zae,List.replicate 32 (.int .u8 0),none⟩:=zab _ _;have nr:(H.new ⟨zae,[.int .u8 0,.int .u8 0,.int .u8 0,.int .u8 0,.int .u8 0,.int .u8 0,.int .u8 0,.int .u8 0,.int .u8 0,.int .u8 0,.int .u8 0,.int .u8 0,.int .u8 0,.int .u8 0,.int .u8 0,.int .u8 0,.int .u8 0,.int .u8 0,.int .u8 0,.int .u8 0,.int .u8 0,.int .u8 0,.int .u8 0,.int .u8 0,.int .u8 0,.int .u8 0,.int .u8 0,.int .u8 0,.int .u8 0,.int .u8 0,.int .u8 0,.int .u8 0],none⟩).next = H.next + 1:=zaf _ _;have hkvl:=hk.vlen;have hvl:=hv.vlen;simp (disch:=omega) only [↓RD,RZ,hkvl];generalize hrb:H.next = rb at *;generalize H.new _ = H1 at *;have hk1:=hk.ext s1;refine zas (Q:=fun r H'=>∃ kv',r = .nrm [kv'] ∧ By 0 H' kv' (zdo kc key) ∧ Grow H1 H') ?_ ?_
 ·refine zbw (fun h=>?_) fun h=>?_
  ·have hc:=hk1.cells1;have ho:=hk1.okc;have s2:=Grow.new H1 ⟨zar,[kv],none⟩;have l2:Lc 1 0 (H1.new ⟨zar,[kv],none⟩) (.sl H1.next 0 1 (.fix 1)) [kv] 1:=ziI (zab _ _) rfl (by rw [zaf]; omega);have p2:Pts 0 (H1.new ⟨zar,[kv],none⟩) [kv] [key]:=Pts.cons ((hk1.ext s2).low (Nat.zero_le _)) hk8 Pts.nil;simp (disch:=first | omega | (simp only [RY] <;> omega) | decide) only [↓RD,RZ,eq_self,Int.reduceToNat,Int.reduceAdd,Nat.reduceAdd,Nat.reduceSub,Nat.reduceMul,Nat.reduceLeDiff,hc,ho];generalize H1.new _ = H2 at *;refine zag (Of_ok l2 p2 (by simp) (by simp; omega)) ?_;rintro _ H3 ⟨rfl,s3⟩;have ef:[key].flatten = key:=by simp
   rw [ef];have hsl:=zhB kc key;have hml:((sha kc key).map by8).length = 32:=by rw [List.length_map,hsl]
   have hsp:=sp32 hsl;simp (disch:=first | omega | (simp only [RY] <;> omega) | decide) only [↓RD,RZ,eq_self,Int.reduceToNat,Int.reduceAdd,Nat.reduceAdd,Nat.reduceSub,Nat.reduceMul,Nat.reduceLeDiff,zaY,zaj,hml,hsp,zg7];refine ⟨_,rfl,?_,s2.trans (s3.trans ((Grow.new _ _).set (Nat.le_refl _) _))⟩;have ek:zdo kc key = sha kc key:=if_pos (by omega);rw [ek];exact ze5 (zal _ _ _) hsl (Nat.zero_le _) (by rw [zan,zaf]; omega)
  ·simp (disch:=omega) only [↓RD,RZ];have ek:zdo kc key = key:=if_neg (by omega);rw [ek];exact ⟨kv,rfl,hk1.low (Nat.zero_le _),Grow.refl _⟩
 ·rintro _ H2 ⟨kv',rfl,hk2,s2⟩;have g2:=s1.trans s2;simp (disch:=omega) only [↓RD,RZ];refine zag New_ok ?_;rintro _ H3 ⟨s,F,rfl,k3,hF,s3⟩;simp (disch:=omega) only [↓RD,RZ];refine zag (pad_ok (x:=54) (hk2.ext s3) (zl1 kc hk8) (zi8 _ _) (by omega)) ?_;rintro pv H4 ⟨hpv,s4⟩;have k4:=k3.grow s4;have hF3:∀ i ∈ F,i < H3.next:=k3.low;simp (disch:=omega) only [↓RD,RZ];have hin:(zdo kc key ++ List.replicate (64 - (zdo kc key).length) 0).map (· ^^^ 54) = kpad kc key 0x36:=rfl;rw [hin] at hpv;have hinl:=zi9 kc (key:=key) 0x36;refine zag (zsp k4 hpv (zrU kc hk8 (by omega)) (fun i hi hc=>by have h1:=(hpv.own i hi).1; have h2:=hF3 i hc; omega) (by rw [hinl]; simp)) ?_;rintro _ H5 ⟨rfl,F5,k5,s5⟩;rw [List.nil_append] at k5;have n3:=s3.next;have n4:=s4.next;have n5:=s5.next;have hF5:∀ i ∈ F5,H2.next ≤ i:=fun i hi=>by
   rcases s5.own i hi with h | h
   ·exact hF i h
   ·omega
  have g5:Grow H2 H5:=⟨by omega,fun i hi=>by rw [s5.same i (by omega) (fun hc=>by have:=hF i hc; omega),s4.same i (by omega),s3.same i hi]⟩;simp (disch:=omega) only [↓RD,RZ,hvl];refine zas (Q:=fun r H'=>r = .ex 0 [] ∧ ∃ F',Str H' s (kpad kc key 0x36 ++ ps.flatten) F' ∧ (∀ i ∈ F',H2.next ≤ i) ∧ Grow H2 H') ?_ ?_
  ·refine zaE (fun j L H'=>L = [.int .i64 (j:Nat)] ∧ ∃ F',Str H' s (kpad kc key 0x36 ++ (ps.take j).flatten) F' ∧ (∀ i ∈ F',H2.next ≤ i) ∧ Grow H2 H') vs.length ?_ ?_ ?_
   ·exact ⟨rfl,F5,by simpa using k5,hF5,g5⟩
   ·rintro j L H6 hj ⟨rfl,F',k6,hF6,s6⟩;have g6:Grow H H6:=g2.trans s6;have hx:vs[j]? = some vs[j]:=List.getElem?_eq_getElem hj;have hq:ps[j]? = some (ps[j]'(by rw [← hp.1]; exact hj)):=List.getElem?_eq_getElem _;obtain ⟨hby,h8⟩:=hp.2 j _ _ hx hq;obtain ⟨p,ip,lp⟩:=zta (hv.ext g6) hj hx;have hl1:=zex ps (j + 1);have hft:=zhm hq;rw [hft,List.length_append] at hl1;have n2:=g2.next;unfold zle uB uIM uc ug;simp (disch:=omega) only [↓RD,RZ,ip,lp];refine zag (zsp k6 (hby.ext g6) h8 (fun i hi hc=>by have h1:=(hby.own i hi).2; have h2:=hF6 i hc; omega) (by rw [List.length_append,hinl]; omega)) ?_;rintro _ H7 ⟨rfl,F7,k7,s7⟩;rw [List.append_assoc,← hft] at k7;have n6:=s6.next;simp (disch:=omega) only [↓RD,RZ];refine ⟨rfl,F7,k7,fun i hi=>?_,⟨Nat.le_trans s6.next s7.next,fun i hi=>by rw [s7.same i (by omega) (fun hc=>by have:=hF6 i hc; omega),s6.same i hi]⟩⟩;rcases s7.own i hi with h | h
    ·exact hF6 i h
    ·omega
   ·rintro L H6 ⟨rfl,F',k6,hF6,s6⟩;unfold zle uB uIM uc ug;simp (disch:=omega) only [↓RD,RZ];refine ⟨F',?_,hF6,s6⟩;rw [hp.1,List.take_length] at k6;exact k6
  ·rintro _ H6 ⟨rfl,F6,k6,hF6,s6⟩;have n6:=s6.next;simp (disch:=omega) only [↓RD,RZ];refine zag (Sum_ok k6 (by rw [List.length_append,hinl]; omega)) ?_;rintro _ H7 ⟨rfl,s7⟩;have n7:=s7.next;have g7:Grow H2 H7:=⟨by omega,fun i hi=>by rw [s7.same i (by omega) (fun hc=>by have:=hF6 i hc; omega),s6.same i hi]⟩;have hsl:=zhB kc (kpad kc key 0x36 ++ ps.flatten);have hs8:=zrF kc (kpad kc key 0x36 ++ ps.flatten);have hml:((sha kc (kpad kc key 0x36 ++ ps.flatten)).map by8).length = 32:=by rw [List.length_map,hsl]
   have hsp:=sp32 hsl;have hb8:By 0 ((H7.new ⟨zae,[.int .u8 0,.int .u8 0,.int .u8 0,.int .u8 0,.int .u8 0,.int .u8 0,.int .u8 0,.int .u8 0,.int .u8 0,.int .u8 0,.int .u8 0,.int .u8 0,.int .u8 0,.int .u8 0,.int .u8 0,.int .u8 0,.int .u8 0,.int .u8 0,.int .u8 0,.int .u8 0,.int .u8 0,.int .u8 0,.int .u8 0,.int .u8 0,.int .u8 0,.int .u8 0,.int .u8 0,.int .u8 0,.int .u8 0,.int .u8 0,.int .u8 0,.int .u8 0],none⟩).set H7.next (some ⟨zae,(sha kc (kpad kc key 0x36 ++ ps.flatten)).map by8,none⟩)) (.sl H7.next 0 32 (.fix 32)) (sha kc (kpad kc key 0x36 ++ ps.flatten)):=ze5 (zal _ _ _) hsl (Nat.zero_le _) (by rw [zan,zaf]; omega);have s8:Grow H7 ((H7.new ⟨zae,[.int .u8 0,.int .u8 0,.int .u8 0,.int .u8 0,.int .u8 0,.int .u8 0,.int .u8 0,.int .u8 0,.int .u8 0,.int .u8 0,.int .u8 0,.int .u8 0,.int .u8 0,.int .u8 0,.int .u8 0,.int .u8 0,.int .u8 0,.int .u8 0,.int .u8 0,.int .u8 0,.int .u8 0,.int .u8 0,.int .u8 0,.int .u8 0,.int .u8 0,.int .u8 0,.int .u8 0,.int .u8 0,.int .u8 0,.int .u8 0,.int .u8 0,.int .u8 0],none⟩).set H7.next (some ⟨zae,(sha kc (kpad kc key 0x36 ++ ps.flatten)).map by8,none⟩)):=(Grow.new _ _).set (Nat.le_refl _) _;simp (disch:=first | omega | (simp only [RY] <;> omega) | decide) only [↓RD,RZ,eq_self,Int.reduceToNat,Int.reduceAdd,Nat.reduceAdd,Nat.reduceSub,Nat.reduceMul,Nat.reduceLeDiff,zaY,zaj,hml,hsp,zg7];generalize (H7.new _).set _ _ = H8 at *;refine zag (pad_ok (x:=92) ((hk2.ext g7).ext s8) (zl1 kc hk8) (zi8 _ _) (by omega)) ?_;rintro ov H9 ⟨hov,s9⟩;have hout:(zdo kc key ++ List.replicate (64 - (zdo kc key).length) 0).map (· ^^^ 92) = kpad kc key 0x5c:=rfl;rw [hout] at hov;have houtl:=zi9 kc (key:=key) 0x5c;have hc9:=hov.cells1;have ho9:=hov.okc;have s10:=Grow.new H9 ⟨zar,[ov,.sl H7.next 0 32 (.fix 32)],none⟩;have l10:Lc 1 0 (H9.new ⟨zar,[ov,.sl H7.next 0 32 (.fix 32)],none⟩) (.sl H9.next 0 2 (.fix 2)) [ov,.sl H7.next 0 32 (.fix 32)] 2:=ziI (zab _ _) rfl (by rw [zaf]; omega);have p10:Pts 0 (H9.new ⟨zar,[ov,.sl H7.next 0 32 (.fix 32)],none⟩) [ov,.sl H7.next 0 32 (.fix 32)] [kpad kc key 0x5c,sha kc (kpad kc key 0x36 ++ ps.flatten)] :=
    Pts.cons ((hov.ext s10).low (Nat.zero_le _)) (zrU kc hk8 (by omega)) (Pts.cons ((hb8.ext s9).ext s10) hs8 Pts.nil)
   simp (disch:=first | omega | (simp only [RY] <;> omega) | decide) only [↓RD,RZ,eq_self,Int.reduceToNat,Int.reduceAdd,Nat.reduceAdd,Nat.reduceSub,Nat.reduceMul,Nat.reduceLeDiff,hc9,ho9];generalize H9.new _ = H10 at *;refine zag (Of_ok l10 p10 (by simp) (by simp [houtl,hsl])) ?_;rintro _ H11 ⟨rfl,s11⟩;have ef:[kpad kc key 0x5c,sha kc (kpad kc key 0x36 ++ ps.flatten)].flatten = kpad kc key 0x5c ++ sha kc (kpad kc key 0x36 ++ ps.flatten):=by simp
   rw [ef];have eh:sha kc (kpad kc key 0x5c ++ sha kc (kpad kc key 0x36 ++ ps.flatten)) = hmac kc key ps.flatten:=rfl;rw [eh];have hhl:=zc5 kc key ps.flatten;have g11:Grow H1 H11:=s2.trans (g7.trans (s8.trans (s9.trans (s10.trans s11))));have gr11:=(g11.same rb (by omega)).trans gr;have hml2:((hmac kc key ps.flatten).map by8).length = 32:=by rw [List.length_map,hhl]
   have hsp2:=spr32 hhl;have l32:=ld32 hhl;have hrl:(List.replicate 32 (V.int .u8 0)).length = 32:=rfl;simp (disch:=first | omega | (simp only [RY] <;> omega) | decide) only [↓RD,RZ,eq_self,Int.reduceToNat,Int.reduceAdd,Nat.reduceAdd,Nat.reduceSub,Nat.reduceMul,Nat.reduceLeDiff,gr11,zaY,zaj,hml2,hsp2,l32,hrl];have n11:=g11.next;exact ⟨by rw [zan]; omega,fun i hi=>by rw [zai _ _ (by omega),g11.same i (by omega),s1.same i (by omega)]⟩
end Go.Ax.SU
/- Su16 -/
namespace Go.Ax.SU
open Go.Ax
theorem Ab.nil {lo:Nat} {H:Heap}:Ab lo H .nils []:=.app .nil
theorem zoc {H:Heap} {lo lo':Nat} {sv kv:V} {salt key:List Nat} (hs:By lo H sv salt) (hs8:Ok8 salt) (hsl:salt.length ≤ 1099511627776) (hk:By lo' H kv key) (hk8:Ok8 key) (hkl:key.length ≤ 1099511627776) :
  Ok (sem T zej [sv,kv]) H fun r H'=>r = .agg ((hmac kc salt key).map by8) ∧ Grow H H':=by
 refine znB ?_;unfold zkI uS uT uO;have hc:=hk.cells1;have ho:=hk.okc;have s1:=Grow.new H ⟨zae,[.int .u8 0,.int .u8 0,.int .u8 0,.int .u8 0,.int .u8 0,.int .u8 0,.int .u8 0,.int .u8 0,.int .u8 0,.int .u8 0,.int .u8 0,.int .u8 0,.int .u8 0,.int .u8 0,.int .u8 0,.int .u8 0,.int .u8 0,.int .u8 0,.int .u8 0,.int .u8 0,.int .u8 0,.int .u8 0,.int .u8 0,.int .u8 0,.int .u8 0,.int .u8 0,.int .u8 0,.int .u8 0,.int .u8 0,.int .u8 0,.int .u8 0,.int .u8 0],none⟩;have gr:(H.new ⟨zae,[.int .u8 0,.int .u8 0,.int .u8 0,.int .u8 0,.int .u8 0,.int .u8 0,.int .u8 0,.int .u8 0,.int .u8 0,.int .u8 0,.int .u8 0,.int .u8 0,.int .u8 0,.int .u8 0,.int .u8 0,.int .u8 0,.int .u8 0,.int .u8 0,.int .u8 0,.int .u8 0,.int .u8 0,.int .u8 0,.int .u8 0,.int .u8 0,.int .u8 0,.int .u8 0,.int .u8 0,.int .u8 0,.int .u8 0,.int .u8 0,.int .u8 0,.int .u8 0],none⟩).get H.next = some ⟨zae,List.replicate 32 (.int .u8 0),none⟩:=zab _ _;have nr:(H.new ⟨zae,[.int .u8 0,.int .u8 0,.int .u8 0,.int .u8 0,.int .u8 0,.int .u8 0,.int .u8 0,.int .u8 0,.int .u8 0,.int .u8 0,.int .u8 0,.int .u8 0,.int .u8 0,.int .u8 0,.int .u8 0,.int .u8 0,.int .u8 0,.int .u8 0,.int .u8 0,.int .u8 0,.int .u8 0,.int .u8 0,.int .u8 0,.int .u8 0,.int .u8 0,.int .u8 0,.int .u8 0,.int .u8 0,.int .u8 0,.int .u8 0,.int .u8 0,.int .u8 0],none⟩).next = H.next + 1:=zaf _ _;simp (disch:=first | omega | (simp only [RY] <;> omega) | decide) only [↓RD,RZ,eq_self,Int.reduceToNat,Int.reduceAdd,Nat.reduceAdd,Nat.reduceSub,Nat.reduceMul,Nat.reduceLeDiff,hc,ho];generalize hrb:H.next = rb at *;generalize H.new _ = H1 at *;have s2:=Grow.new H1 ⟨zar,[kv],none⟩;have l2:Lc 1 0 (H1.new ⟨zar,[kv],none⟩) (.sl H1.next 0 1 (.fix 1)) [kv] 1:=ziI (zab _ _) rfl (by rw [zaf]; omega);have p2:Pts 0 (H1.new ⟨zar,[kv],none⟩) [kv] [key]:=Pts.cons (((hk.ext s1).ext s2).low (Nat.zero_le _)) hk8 Pts.nil;rw [nr] at l2;generalize H1.new _ = H2 at *;have ef:[key].flatten = key:=by simp
 refine zag (zmg ((hs.ext s1).ext s2) hs8 hsl l2 p2 (by simp) (by rw [ef]; exact hkl)) ?_;rintro _ H3 ⟨rfl,s3⟩;rw [ef];have hhl:=zc5 kc salt key;have g3:Grow H1 H3:=s2.trans s3;have gr3:=(g3.same rb (by omega)).trans gr;have hml2:((hmac kc salt key).map by8).length = 32:=by rw [List.length_map,hhl]
 have hsp2:=spr32 hhl;have l32:=ld32 hhl;have hrl:(List.replicate 32 (V.int .u8 0)).length = 32:=rfl;have n3:=g3.next;simp (disch:=first | omega | (simp only [RY] <;> omega) | decide) only [↓RD,RZ,eq_self,Int.reduceToNat,Int.reduceAdd,Nat.reduceAdd,Nat.reduceSub,Nat.reduceMul,Nat.reduceLeDiff,gr3,zaY,zaj,hml2,hsp2,l32,hrl];exact ⟨by rw [zan]; omega,fun i hi=>by rw [zai _ _ (by omega),g3.same i (by omega),s1.same i (by omega)]⟩
theorem zhh {H:Heap} (n k:Nat) (hn:n < 18446744073709551616) (hk:k ≤ 16):Ok (sem T zbA [.int .u64 (n:Nat),.int .i64 (k:Nat)]) H fun r H'=>Ab H.next H' r (num n k) ∧ Grow H H':=by
 refine zmu ?_;unfold zjt uB uc ug;simp (disch:=omega) only [↓RD,RZ];refine zaE (fun m L H'=>∃ w,L = [w,.int .i64 ((k:Int) - 1 - (m:Nat))] ∧ Ab H.next H' w ((bn k n).take m) ∧ Bel H.next H H') k ?_ ?_ ?_
 ·exact ⟨.nils,by simp,Ab.nil,Bel.refl _ _⟩
 ·rintro m L H1 hm ⟨w,rfl,ha,hb⟩;have e1:(k:Int) - 1 - (m:Nat) = ((k - 1 - m:Nat):Int):=by omega
  have e2:(8:Int) * ((k - 1 - m:Nat):Int) = ((8 * (k - 1 - m):Nat):Int):=by omega
  have e3:shr n (8 * (k - 1 - m)) = n / 256 ^ (k - 1 - m):=by rw [zfB,Nat.shiftRight_eq_div_pow,Nat.pow_mul]
  have hlo1:=hb.next;have hbg:=zvA k n m hm;rw [e1];generalize hw:k - 1 - m = w' at *;have e8:IntKind.u8.wrap ((n / 256 ^ w':Nat):Int) = ((n / 256 ^ w' % 256:Nat):Int):=by rw [wrap_u8]; rfl
  unfold zfH uL uB uc ub ug;simp (disch:=omega) only [↓RD,RZ,e2,e3,e8];refine zeV (m:=[n / 256 ^ w' % 256]) (ha.keep ((Grow.new _ _).keep _)) (by rw [zaf]; omega) (zbZ rfl) (by rw [List.length_take,zi1]; simp; omega) fun w2 H2 h2 hb2=>?_;simp (disch:=omega) only [↓RD,RZ];refine ⟨w2,by rw [show ((w':Nat):Int) - 1 = (k:Int) - 1 - ((m + 1:Nat):Int) by omega],?_,hb.trans (((Grow.new _ _).bel (by omega)).trans hb2)⟩;rw [zbx (by rw [zi1]; exact hm),hbg];exact h2
 ·rintro L H1 ⟨w,rfl,ha,hb⟩;have e1:(k:Int) - 1 - (k:Nat) = -1:=by omega
  rw [e1];unfold zfH uL uB uc ub ug;simp (disch:=omega) only [↓RD,RZ];rw [List.take_of_length_le (by rw [zi1]; exact Nat.le_refl _)] at ha;exact ⟨ha,hb.grow⟩
theorem znm {H:Heap} {lo lo':Nat} {sv iv:V} {zaI info:List Nat} {n:Nat} (hs:By lo H sv zaI) (hs8:Ok8 zaI) (hsl:zaI.length ≤ 1099511627776) (hi:By lo' H iv info) (hi8:Ok8 info) (hil:info.length ≤ 1099511000000) (hn:n ≤ 8160) :
  Ok (sem T zd3 [sv,iv,.int .i64 (n:Nat)]) H fun r H'=>∃ v,r = .tup [v,.int .i64 0] ∧ By H.next H' v ((hkdf kc zaI info ((n + 31) / 32)).1.take n) ∧ Grow H H':=by
 refine zoz ?_;unfold zlF uL uB uc ub ug;simp (disch:=omega) only [↓RD,RZ];refine zas (Q:=fun r H'=>∃ w,r = .ex 1 [w] ∧ Ab H.next H' w (hkdf kc zaI info ((n + 31) / 32)).1 ∧ Grow H H') ?_ ?_
 ·refine zaE (fun j L H'=>∃ w l,L = [w,l,.int .u8 ((j + 1) % 256:Nat)] ∧ Ab H.next H' w (hkdf kc zaI info j).1 ∧ By 0 H' l (hkdf kc zaI info j).2 ∧ Grow H H') ((n + 31) / 32) ?_ ?_ ?_
  ·exact ⟨.nils,.nils,rfl,Ab.nil,Lc.nil,Grow.refl _⟩
  ·rintro j L H1 hj ⟨w,l,rfl,aw,al,s1⟩;have hwl:=aw.by.vlen;have h1:=zf3 kc zaI info j;have h2:=zlc kc zaI info j;rw [h1] at hwl;have hjn:((32 * j:Nat):Int) < ((n:Nat):Int):=by omega
   have hj1:(j + 1) % 256 = j + 1:=Nat.mod_eq_of_lt (by omega);have hlc:=al.cells1;have hlo:=al.okc;have hic:=hi.cells1;have hio:=hi.okc;have s2:=Grow.new H1 ⟨zad,[.int .u8 (j + 1:Nat)],none⟩;have b2:By 0 (H1.new ⟨zad,[.int .u8 (j + 1:Nat)],none⟩) (.sl H1.next 0 1 (.fix 1)) [j + 1]:=ze5 (l:=[j + 1]) (zab _ _) rfl (Nat.zero_le _) (by rw [zaf]; omega);have n1:=s1.next;rw [hj1];unfold zg2 uL uT uB uO ub ug;simp (disch:=omega) only [↓RD,RZ,eq_self,seval,hwl,hjn,hlc,hlo,hic,hio];have n2e:(H1.new ⟨zad,[.int .u8 (j + 1:Nat)],none⟩).next = H1.next + 1:=zaf _ _;generalize hb:V.sl H1.next 0 1 (.fix 1) = bv at *;generalize H1.new _ = H2 at *;have s3:=Grow.new H2 ⟨zar,[l,iv,bv],none⟩;have l3:Lc 1 0 (H2.new ⟨zar,[l,iv,bv],none⟩) (.sl H2.next 0 3 (.fix 3)) [l,iv,bv] 3:=ziI (zab _ _) rfl (by rw [zaf]; omega);have p3:Pts 0 (H2.new ⟨zar,[l,iv,bv],none⟩) [l,iv,bv] [(hkdf kc zaI info j).2,info,[j + 1]] :=
    Pts.cons ((al.ext s2).ext s3) h2.2 (Pts.cons ((((hi.ext s1).ext s2).ext s3).low (Nat.zero_le _)) hi8 (Pts.cons (b2.ext s3) (fun x hx=>by simp only [List.mem_cons,List.not_mem_nil,or_false] at hx; omega) Pts.nil))
   have n2:=s2.next;rw [n2e] at l3;generalize hv3:V.sl (H1.next + 1) 0 3 (.fix 3) = v3 at *;generalize H2.new _ = H3 at *;have ef:[(hkdf kc zaI info j).2,info,[j + 1]].flatten = (hkdf kc zaI info j).2 ++ info ++ [j + 1]:=by simp
   have hl2:(hkdf kc zaI info j).2.length ≤ 32:=by
    cases j with
    | zero=>simp [hkdf]
    | succ j=>exact Nat.le_of_eq (zc5 _ _ _)
   have n3:=s3.next;have s13:Grow H H3:=s1.trans (s2.trans s3);refine zag (zmg (hs.ext s13) hs8 hsl l3 p3 (by simp) (by rw [ef]; simp only [List.length_append,List.length_cons,List.length_nil]; omega)) ?_;rintro _ H4 ⟨rfl,s4⟩;rw [ef];have eh:(hkdf kc zaI info (j + 1)).2 = hmac kc zaI ((hkdf kc zaI info j).2 ++ info ++ [j + 1]):=rfl;have eh1:(hkdf kc zaI info (j + 1)).1 = (hkdf kc zaI info j).1 ++ hmac kc zaI ((hkdf kc zaI info j).2 ++ info ++ [j + 1]):=rfl;rw [← eh];rw [← eh] at eh1;have hhl:(hkdf kc zaI info (j + 1)).2.length = 32:=zc5 _ _ _;have h28:=(zlc kc zaI info (j + 1)).2;generalize (hkdf kc zaI info (j + 1)).2 = tg at *;have hml2:(tg.map by8).length = 32:=by rw [List.length_map,hhl]
   have hsp2:=sp32 hhl;have b5:By 0 ((H4.new ⟨zae,[.int .u8 0,.int .u8 0,.int .u8 0,.int .u8 0,.int .u8 0,.int .u8 0,.int .u8 0,.int .u8 0,.int .u8 0,.int .u8 0,.int .u8 0,.int .u8 0,.int .u8 0,.int .u8 0,.int .u8 0,.int .u8 0,.int .u8 0,.int .u8 0,.int .u8 0,.int .u8 0,.int .u8 0,.int .u8 0,.int .u8 0,.int .u8 0,.int .u8 0,.int .u8 0,.int .u8 0,.int .u8 0,.int .u8 0,.int .u8 0,.int .u8 0,.int .u8 0],none⟩).set H4.next (some ⟨zae,tg.map by8,none⟩)) (.sl H4.next 0 32 (.fix 32)) tg:=ze5 (zal _ _ _) hhl (Nat.zero_le _) (by rw [zan,zaf]; omega);have s5:Grow H4 ((H4.new ⟨zae,[.int .u8 0,.int .u8 0,.int .u8 0,.int .u8 0,.int .u8 0,.int .u8 0,.int .u8 0,.int .u8 0,.int .u8 0,.int .u8 0,.int .u8 0,.int .u8 0,.int .u8 0,.int .u8 0,.int .u8 0,.int .u8 0,.int .u8 0,.int .u8 0,.int .u8 0,.int .u8 0,.int .u8 0,.int .u8 0,.int .u8 0,.int .u8 0,.int .u8 0,.int .u8 0,.int .u8 0,.int .u8 0,.int .u8 0,.int .u8 0,.int .u8 0,.int .u8 0],none⟩).set H4.next (some ⟨zae,tg.map by8,none⟩)):=(Grow.new _ _).set (Nat.le_refl _) _;have n4:=s4.next;simp (disch:=omega) only [↓RD,RZ,eq_self,seval,zaY,zaj,hml2,hsp2,zg7];generalize hv5:V.sl H4.next 0 32 (.fix 32) = v5 at *;have hd5:∀ i,w.pid = some i → v5.pid ≠ some i:=fun i h=>by
    rw [← hv5];have:=(aw.by.own i h).2;simp only [V.pid,ne_eq,Option.some.injEq];omega
   generalize (H4.new _).set _ _ = H5 at *;have s15:Grow H1 H5:=s2.trans (s3.trans (s4.trans s5));have n5:=s5.next;refine zk5 (aw.keep (s15.keep _)) (by omega) b5.ac (by rw [h1,hhl]; omega) fun w' H6 aw6 b6 s6=>?_;have ew:IntKind.u8.wrap (((j + 1:Nat):Int) + 1) = (((j + 1 + 1) % 256:Nat):Int):=by rw [wrap_u8]; rfl
   simp (disch:=omega) only [↓RD,RZ,ew];refine ⟨w',v5,rfl,?_,?_,⟨by have:=b6.next; omega,fun i hi=>by rw [b6.same i hi,s15.same i (by omega),s1.same i hi]⟩⟩
   ·rw [eh1]; exact aw6
   ·exact b5.stepF s6 fun i hi hF=>hd5 i (zeF.1 hF) hi
  ·rintro L H1 ⟨w,l,rfl,aw,al,s1⟩;have hwl:=aw.by.vlen;rw [zf3] at hwl;have hjn:((n:Nat):Int) ≤ ((32 * ((n + 31) / 32):Nat):Int):=by omega
   unfold zg2 uL uT uB uO ub ug;simp (disch:=omega) only [↓RD,RZ,hwl,hjn];exact ⟨w,rfl,aw,s1⟩
 ·rintro _ H1 ⟨w,rfl,aw,s1⟩;have hwl:=zf3 kc zaI info ((n + 31) / 32);obtain ⟨va,-,ha,-,hva,pa⟩:=zbl aw.by (x:=0) (y:=((n:Nat):Int)) (by omega) (by omega) (by rw [hwl]; omega);have ha2:∀ {k':IntKind},zaz .sl 1 w none (some (.int k' ((n:Nat):Int))) none = some va:=ha rfl;have e0:(0:Int).toNat = 0:=rfl;rw [e0,List.drop_zero,Int.toNat_natCast,Nat.sub_zero] at hva;have n1:=s1.next;simp (disch:=omega) only [↓RD,RZ,ha2];refine zeV (lo:=H1.next) Ab.nil (Nat.le_refl _) hva.ac (by rw [List.length_take]; simp; omega) fun v' H2 a2 b2=>?_;simp (disch:=omega) only [↓RD,RZ];rw [List.nil_append] at a2;exact ⟨v',rfl,a2.by.low (by omega),s1.trans b2.grow⟩
end Go.Ax.SU
/- Su17 -/
namespace Go.Ax.SU
open Go.Ax
/-! Products with three,boxes,computed. -/
def tchk (n:Nat):Bool:=match Cp.cs 3 zcq [by8 n,.int .u8 3] with
 | some (.int .u8 k)=>k == ((t3 n:Nat):Int)
 | _=>false
theorem ztJ:(List.range 256).all tchk = true:=by kernel_rfl
theorem times_eq {n:Nat} (h:n < 256):sem T zcq [by8 n,.int .u8 3] = M.pure (by8 (t3 n)):=by
 have h1:=List.all_eq_true.1 ztJ n (List.mem_range.2 h);unfold tchk at h1;split at h1
 ·rename_i b hb;rw [zj6 hb];simp only [beq_iff_eq] at h1;rw [h1]; rfl
 ·cases h1
def bchk (n:Nat):Bool:=match Cp.cs 3 zcp [by8 n] with
 | some (.int .u8 k)=>k == ((bx n:Nat):Int)
 | _=>false
theorem box_all:(List.range 256).all bchk = true:=by kernel_rfl
theorem box_eq {n:Nat} (h:n < 256):sem T zcp [by8 n] = M.pure (by8 (bx n)):=by
 have h1:=List.all_eq_true.1 box_all n (List.mem_range.2 h);unfold bchk at h1;split at h1
 ·rename_i b hb;rw [zj6 hb];simp only [beq_iff_eq] at h1;rw [h1]; rfl
 ·cases h1
theorem bg {l:List Nat} {i:Nat} (h:i < l.length):(l.map by8)[i]? = some (by8 (l.getD i 0)):=by
 rw [List.getElem?_map,List.getElem?_eq_getElem h,List.getD_eq_getElem?_getD,List.getElem?_eq_getElem h]; rfl
theorem bga {l:List Nat} {r:List V} {i:Nat} (h:i < l.length):(l.map by8 ++ r)[i]? = some (by8 (l.getD i 0)):=by
 rw [List.getElem?_append_left (by rw [List.length_map]; exact h),bg h]
theorem bset {l:List Nat} {r:List V} {i x:Nat} (h:i < l.length):splice (l.map by8 ++ r) i [by8 x] = (l.set i x).map by8 ++ r:=by
 rw [zlq _ _ _ (by rw [List.length_append,List.length_map]; omega),List.set_append_left _ _ (by rw [List.length_map]; exact h),← List.map_set]
theorem zfA {a b:Nat} (ha:a < 256) (hb:b < 256):Ax.bin .xor (by8 a) (by8 b) = some (by8 (a ^^^ b)):=by
 unfold by8;rw [zty (by omega) (by omega) (by omega) (by omega)]; rfl
theorem zll {n id off m:Nat} (h:m < n):Ax.iaddr (some n) 1 (.ptr id off) (by8 m) = some (.ptr id (off + m)):=by
 unfold by8;rw [zrZ (by omega) (by omega)]; simp
def tabC:Bool → List V
 | false=>.int .u32 0 :: .int .i32 0 :: .int .u32 0 :: List.replicate 256 (.int .u8 0)
 | true=>.int .u32 1 :: .int .i32 0 :: .int .u32 0 :: sbox.map by8
theorem zuN {H:Heap} {b k ty:Nat} {x0 x1 x2:V} {r:List V} (hb:H.get b = some ⟨zbJ,[.ptr k 0],none⟩) (hk:H.get k = some ⟨ty,x0 :: x1 :: x2 :: ((zkA 0).map by8 ++ r),none⟩) (hbk:b ≠ k) (hbl:b < H.next) (hkl:k < H.next) :
  Ok (sem T zcS [.ptr b 0]) H fun _ H'=>H'.get k = some ⟨ty,x0 :: x1 :: x2 :: (sbox.map by8 ++ r),none⟩ ∧ Step H H' [k] [k]:=by
 refine ziD ?_;unfold zfW uM uS uT uNF uI uO uU uc ub;refine zao (zaQ (by kernel_rfl) ?_);have ez:(V.agg (List.replicate 255 (V.int .u8 0))).cells = List.replicate 255 (V.int .u8 0):=rfl;have s1:=Grow.new H ⟨zdg,List.replicate 255 (.int .u8 0),none⟩;have gp:(H.new ⟨zdg,List.replicate 255 (.int .u8 0),none⟩).get H.next = some ⟨zdg,List.replicate 255 (.int .u8 0),none⟩:=zab _ _;have n1:(H.new ⟨zdg,List.replicate 255 (.int .u8 0),none⟩).next = H.next + 1:=zaf _ _;have gb1:=(s1.same b hbl).trans hb;have gk1:=(s1.same k hkl).trans hk;show Ok _ (H.new ⟨zdg,List.replicate 255 (.int .u8 0),none⟩) _;generalize hp:H.next = p at *;generalize H.new _ = H1 at *;have hpl:=pwl_len;have hp8:=zpq;simp (disch:=omega) only [↓RD,RZ,eq_self,seval];refine zas (Q:=fun x H'=>x = .ex 0 [] ∧ H'.get p = some ⟨zdg,pwl.map by8,none⟩ ∧ At1 p H1 H') ?_ ?_
 ·refine zaE (fun j L H'=>∃ x,L = [x,.int .i64 (j:Nat)] ∧ (j < 255 → x = by8 (pwl.getD j 0)) ∧ H'.get p = some ⟨zdg,(pwl.take j).map by8 ++ List.replicate (255 - j) (.int .u8 0),none⟩ ∧ At1 p H1 H') 255 ?_ ?_ ?_
  ·exact ⟨_,rfl,fun _=>rfl,gp,At1.refl _ _⟩
  ·rintro j L H2 hj ⟨x,rfl,hx,g2,s2⟩;have hx:=hx hj;subst hx;have hlt:((pwl.take j).map by8).length = j:=by rw [List.length_map,List.length_take]; omega
   have h8:=hp8.getD j;have et:=times_eq h8;have e:=zaZ (z:=.int .u8 0) (x:=by8 (pwl.getD j 0)) hlt hj;have hll:((pwl.take j).map by8 ++ List.replicate (255 - j) (V.int .u8 0)).length = 255:=by rw [List.length_append,hlt,List.length_replicate]; omega
   unfold zdC uB uI uc ub ug;simp (disch:=omega) only [↓RD,RZ,eq_self,seval,g2,e,et,zcZ,zaP,hll];refine ⟨by omega,_,rfl,fun h=>?_,?_,s2.trans (At1.set p _ _)⟩
   ·rw [pwl_step (by omega)]
   ·rw [zbx (by omega)]; simp
  ·rintro L H2 ⟨x,rfl,hx,g2,s2⟩;unfold zdC uB uI uc ub ug;simp (disch:=omega) only [↓RD,RZ,eq_self,seval];refine ⟨?_,s2⟩;rw [g2,List.take_of_length_le (by omega)]; simp
 ·rintro _ H2 ⟨rfl,gp2,s2⟩;have n2:=s2.next;have gb2:=(s2.same b (by omega) (by omega)).trans gb1;have gk2:=(s2.same k (by omega) (by omega)).trans gk1;have hpm:(pwl.map by8).length = 255:=by rw [List.length_map,hpl]
  have l255:ldc (some 255) (pwl.map by8) 0 = some (.agg (pwl.map by8)):=by rw [zdj (by omega),List.drop_zero,List.take_of_length_le (by omega)]
  simp (disch:=omega) only [↓RD,RZ,eq_self,seval,gp2,l255];refine zas (Q:=fun x H'=>x = .ex 2 [] ∧ H'.get k = some ⟨ty,x0 :: x1 :: x2 :: ((zkA 255).map by8 ++ r),none⟩ ∧ At1 k H2 H') ?_ ?_
  ·refine zaE (fun j L H'=>L = [.int .i64 (j:Nat)] ∧ H'.get k = some ⟨ty,x0 :: x1 :: x2 :: ((zkA j).map by8 ++ r),none⟩ ∧ At1 k H2 H') 255 ?_ ?_ ?_
   ·exact ⟨rfl,gk2,At1.refl _ _⟩
   ·rintro j L H3 hj ⟨rfl,g3,s3⟩;have gb3:=(s3.same b (by omega) hbk).trans gb2;have gp3:=(s3.same p (by omega) (by omega)).trans gp2;have e1:=bg (l:=pwl) (i:=j) (by omega);have e2:=bg (l:=pwl) (i:=(255 - j) % 255) (by rw [hpl]; exact Nat.mod_lt _ (by decide));have e3:(255:Int) - (j:Nat) = ((255 - j:Nat):Int):=by omega
    have e4:((255 - j:Nat):Int) % 255 = (((255 - j) % 255:Nat):Int):=by omega
    have eb:=box_eq (hp8.getD ((255 - j) % 255));have h8:=hp8.getD j;have e5:3 + pwl.getD j 0 = pwl.getD j 0 + 1 + 1 + 1:=by omega
    have e6:=bset (l:=zkA j) (r:=r) (i:=pwl.getD j 0) (x:=bx (pwl.getD ((255 - j) % 255) 0)) (by rw [zkz]; exact h8);have hlm:((zkA j).map by8 ++ r).length = 256 + r.length:=by rw [List.length_append,List.length_map,zkz]
    have hmod:=Nat.mod_lt (255 - j) (show 0 < 255 by decide);have ia:=zll (id:=k) (off:=3) (n:=256) h8;unfold zdB uL uM uT uNF uB uI uIM uU uc ug;simp (disch:=omega) only [↓RD,RZ,eq_self,seval,e1,gb3,e3,e4,gp3,e2,eb,ia,e5,g3,zjJ,e6,zcZ,zaP,hlm];exact ⟨by omega,rfl,rfl,s3.trans (At1.set k _ _)⟩
   ·rintro L H3 ⟨rfl,g3,s3⟩;unfold zdB uL uM uT uNF uB uI uIM uU uc ug;simp (disch:=omega) only [↓RD,RZ,eq_self,seval];exact ⟨g3,s3⟩
  ·rintro _ H3 ⟨rfl,g3,s3⟩;have gb3:=(s3.same b (by omega) hbk).trans gb2;have eb:=box_eq (n:=0) (by omega);have n3:=s3.next;have e6:=bset (l:=zkA 255) (r:=r) (i:=0) (x:=bx 0) (by rw [zkz]; omega);rw [zvf] at e6;have hlm:((zkA 255).map by8 ++ r).length = 256 + r.length:=by rw [List.length_append,List.length_map,zkz]
   have eb0:sem T zcp [.int .u8 0] = M.pure (by8 (bx 0)):=eb;simp (disch:=omega) only [↓RD,RZ,eq_self,seval,gb3,eb0,g3,zjJ,e6,zcZ,zaP,hlm];refine ⟨by omega,⟨by rw [zan]; omega,fun i hi hF=>?_,fun i hi=>.inl hi⟩⟩;simp only [List.mem_singleton] at hF;rw [zai _ _ hF,s3.same i (by omega) hF,s2.same i (by omega) (by omega),s1.same i (by omega)]
theorem zuM {H:Heap} {k ty:Nat} {d:Bool} {r:List V} (hk:H.get k = some ⟨ty,tabC d ++ r,none⟩) (hkl:k < H.next) :
  Ok (sem T zbm [.ptr k 0]) H fun x H'=>x = .ptr k 3 ∧ H'.get k = some ⟨ty,tabC true ++ r,none⟩ ∧ Step H H' [k] [k]:=by
 refine zjS ?_;unfold zgR uM uNF uO;simp (disch:=omega) only [↓RD,RZ,eq_self,seval];have s1:=Grow.new H ⟨zbJ,[.ptr k 0],none⟩;have gb:(H.new ⟨zbJ,[.ptr k 0],none⟩).get H.next = _:=zab _ _;have gk:=(s1.same k hkl).trans hk;have nb:H.next < (H.new ⟨zbJ,[.ptr k 0],none⟩).next:=by rw [zaf]; omega
 have hne:H.next ≠ k:=by omega
 have n1:=s1.next;generalize hgb:H.next = b at *;generalize H.new _ = H1 at *;refine zag (P:=fun x H'=>H'.get b = some ⟨zbJ,[.ptr k 0],none⟩ ∧ H'.get k = some ⟨ty,tabC true ++ r,none⟩ ∧ Step H1 H' [k] [k]) ?_ ?_
 ·cases d with
  | true =>
   refine zas (zpz gk rfl) ?_;rintro _ _ ⟨rfl,rfl⟩;exact ⟨gb,gk,Step.refl _ _⟩
  | false =>
   refine zas (zpy (P:=fun H'=>H'.get b = some ⟨zbJ,[.ptr k 0],none⟩ ∧ H'.get k = some ⟨ty,tabC true ++ r,none⟩ ∧ Step H1 H' [k] [k]) gk rfl rfl ?_) ?_
   ·have e0:List.replicate 256 (V.int .u8 0) = (zkA 0).map by8:=by unfold zkA; rw [List.map_replicate]; rfl
    have e1:splice (tabC false ++ r) (0 + 1) [.int .i32 1] = .int .u32 0 :: .int .i32 1 :: .int .u32 0 :: ((zkA 0).map by8 ++ r):=by
     rw [← e0]; rfl
    refine zas (zuN (k:=k) (ty:=ty) (x0:=.int .u32 0) (x1:=.int .i32 1) (x2:=.int .u32 0) (r:=r) (by rw [zai _ _ hne]; exact gb) (by rw [zal,e1]) hne (by rw [zan]; exact nb) (by rw [zan]; omega)) ?_;rintro _ H2 ⟨g2,s2⟩;have n2:=s2.next;rw [zan] at n2;have hb2:H2.get b = some ⟨zbJ,[.ptr k 0],none⟩:=by rw [s2.same b (by rw [zan]; exact nb) (by simpa using hne),zai _ _ hne]; exact gb
    refine ⟨_,g2,rfl,rfl,?_,?_,?_⟩
    ·rw [zai _ _ hne,zai _ _ hne,hb2]
    ·rw [zal]; rfl
    ·exact ((Step.set (H:=H1) _ (by simp:k ∈ [k])).trans s2).trans ((Step.set (H:=H2) _ (by simp:k ∈ [k])).trans (Step.set _ (by simp)))
   ·rintro _ H2 ⟨_,h2⟩;exact h2
 ·rintro x H2 ⟨g1,g2,s2⟩;simp (disch:=omega) only [↓RD,RZ,eq_self,seval,g1];exact ⟨g2,⟨Nat.le_trans (by omega) s2.next,fun i hi hF=>by rw [s2.same i (by omega) hF,s1.same i (by omega)],fun i hi=>.inl hi⟩⟩
theorem zsW {H:Heap} {k ty:Nat} {r:List V} (hk:H.get k = some ⟨ty,tabC true ++ r,none⟩) (hkl:k < H.next) :
  Ok (sem T zbm [.ptr k 0]) H fun x H'=>x = .ptr k 3 ∧ Grow H H':=by
 refine zas (zuM hk hkl) ?_;rintro _ H' ⟨rfl,g,s⟩;refine ⟨rfl,⟨s.next,fun i hi=>?_⟩⟩;by_cases e:i = k
 ·subst e; rw [g,hk]
 ·exact s.same i hi (by simpa using e)
theorem zog {n:Nat} (h:n < 256):sem T zbk [by8 n] = M.pure (by8 (xt n)):=by
 refine zdv fun H=>?_;refine znF ?_;unfold f_block_twice by8 xt uB ub uq;by_cases e:128 ≤ n
 ·have e1:n * 2 % 256 < 256:=Nat.mod_lt _ (by decide);rw [if_pos e];simp (disch:=omega) only [↓RD,RZ,eq_self,seval]
 ·rw [if_neg e,← Nat.mod_eq_of_lt (show n * 2 < 256 by omega)];simp (disch:=omega) only [↓RD,RZ,eq_self,seval]
end Go.Ax.SU
/- Su18 -/
namespace Go.Ax.SU
open Go.Ax
def Aes (H:Heap) (k:Nat) (ws:List (List Nat)):Prop:=∃ id,H.get k = some ⟨zaT,tabC true ++ [.sl id 0 ws.length (.opn 4)],none⟩ ∧ H.get id = some ⟨zav,ws.flatten.map by8,some 4⟩ ∧ k < H.next ∧ id < H.next ∧ ∀ w ∈ ws,Word w
theorem Aes.grow {H H':Heap} {k:Nat} {ws:List (List Nat)} (h:Aes H k ws) (g:Grow H H'):Aes H' k ws:=by
 obtain ⟨id,h1,h2,h3,h4,h5⟩:=h;exact ⟨id,by rw [g.same k h3]; exact h1,by rw [g.same id h4]; exact h2,Nat.lt_of_lt_of_le h3 g.next,Nat.lt_of_lt_of_le h4 g.next,h5⟩
theorem zpQ (wv:V):(tabC true ++ [wv])[259]? = some wv:=by
 rw [List.getElem?_append_right (by show (tabC true).length ≤ 259; unfold tabC; simp only [List.length_cons,List.length_map,zeC]; omega)];have:(tabC true).length = 259:=by unfold tabC; simp only [List.length_cons,List.length_map,zeC]
 rw [this]; rfl
theorem flat4:∀ (ws:List (List Nat)),(∀ w ∈ ws,Word w) → ws.flatten.length = 4 * ws.length:=by
 intro ws
 induction ws with
 | nil=>intro _; rfl
 | cons w ws ih =>
  intro h;rw [List.flatten_cons,List.length_append,ih (fun w' h'=>h w' (List.mem_cons_of_mem _ h')),(h w (List.mem_cons_self ..)).1,List.length_cons];omega
theorem zoP:∀ (ws:List (List Nat)),(∀ w ∈ ws,Word w) → ∀ j m:Nat,m < 4 → ws.flatten.getD (j * 4 + m) 0 = (ws.getD j []).getD m 0:=by
 intro ws
 induction ws with
 | nil=>intro _ j m _; simp
 | cons w ws ih =>
  intro h j m hm;have hw:=(h w (List.mem_cons_self ..)).1;cases j with
  | zero =>
   rw [List.flatten_cons,Nat.zero_mul,Nat.zero_add,List.getD_eq_getElem?_getD,List.getElem?_append_left (by omega)];simp
  | succ j =>
   rw [List.flatten_cons,List.getD_eq_getElem?_getD,List.getElem?_append_right (by omega),hw,show (j + 1) * 4 + m - 4 = j * 4 + m by omega,← List.getD_eq_getElem?_getD,ih (fun w' h'=>h w' (List.mem_cons_of_mem _ h')) j m hm];rfl
theorem zo6 {ws:List (List Nat)} (hw:∀ w ∈ ws,Word w) {j m:Nat} (hj:j < ws.length) (hm:m < 4):(ws.flatten.map by8)[j * 4 + m]? = some (by8 ((ws.getD j []).getD m 0)):=by
 rw [bg (by rw [flat4 ws hw]; omega),zoP ws hw j m hm]
theorem zrt {ws:List (List Nat)} (hw:∀ w ∈ ws,Word w) (j m:Nat):(ws.getD j []).getD m 0 < 256:=by
 refine Ok8.getD ?_ _;rw [List.getD_eq_getElem?_getD];cases e:ws[j]? with
 | none=>exact Ok8.nil
 | some w=>exact (hw w (List.mem_of_getElem? e)).2
theorem zfg {x:List Nat} (h:x.length = 16):(x.map by8).length = 16:=by rw [List.length_map,h]
theorem ld16 {l:List Nat} (hl:l.length = 16):ldc (some 16) (l.map by8) 0 = some (.agg (l.map by8)):=by
 rw [zdj (by rw [List.length_map]; omega),List.drop_zero,List.take_of_length_le (by rw [List.length_map]; omega)]
theorem sp16 {l:List Nat} (hl:l.length = 16) {L:List V} (hL:L.length = 16):splice L 0 (l.map by8) = l.map by8:=by
 unfold splice;rw [List.take_zero,List.nil_append,List.length_map,hl,List.drop_of_length_le (by omega),List.append_nil]
theorem znO {x y:List Nat} {i:Nat} (hx:i < x.length):(y.take i ++ x.drop i).map by8 = (y.take i).map by8 ++ by8 (x.getD i 0) :: (x.drop (i + 1)).map by8:=by
 rw [List.drop_eq_getElem_cons hx,List.getD_eq_getElem?_getD,List.getElem?_eq_getElem hx,List.map_append,List.map_cons]; rfl
theorem zkY {x y:List Nat} {i:Nat} (hy:i < y.length):(y.take i).map by8 ++ by8 (y.getD i 0) :: (x.drop (i + 1)).map by8 = (y.take (i + 1) ++ x.drop (i + 1)).map by8:=by
 rw [zbx hy,List.map_append,List.map_append];simp
theorem zc1 (ws:List (List Nat)) (r:Nat) (x:List Nat):(addk ws r x).length = 16:=by simp [addk]
theorem zeE (x:List Nat):(movd x).length = 16:=by simp [movd]
theorem zgI (x:List Nat):(mixd x).length = 16:=by simp [mixd]
theorem zqf {ws:List (List Nat)} (hw:∀ w ∈ ws,Word w) {r:Nat} {x:List Nat} (h:Ok8 x):Ok8 (addk ws r x):=Ok8.rmap fun i _=>za6 (h.getD i) (zrt hw _ _)
theorem zjq (x:List Nat):Ok8 (movd x):=Ok8.rmap fun i _=>zqq _
theorem zuH {x:List Nat} (h:Ok8 x):Ok8 (mixd x):=Ok8.rmap fun i _=>za6 (za6 (za6 (za6 (zjE (h.getD _)) (zjE (h.getD _))) (h.getD _)) (h.getD _)) (h.getD _)
theorem add_ok {H:Heap} {k r:Nat} {ws:List (List Nat)} {x:List Nat} (hA:Aes H k ws) (hx:x.length = 16) (h8:Ok8 x) (hr:4 * r + 3 < ws.length) (hwl:ws.length ≤ 1000) :
  Ok (sem T zdr [.ptr k 0,.agg (x.map by8),.int .i64 (r:Nat)]) H fun res H'=>res = .agg ((addk ws r x).map by8) ∧ Grow H H':=by
 refine zlQ ?_;unfold ziV uS uT uO uc;refine zao (zaQ (zaY _) ?_);rw [zaj];have s1:=Grow.new H ⟨zaa,x.map by8,none⟩;have g1:(H.new ⟨zaa,x.map by8,none⟩).get H.next = some ⟨zaa,x.map by8,none⟩:=zab _ _;have n1:(H.new ⟨zaa,x.map by8,none⟩).next = H.next + 1:=zaf _ _;generalize ha:H.next = a at *;generalize H.new _ = H1 at *;have s2:=Grow.new H1 ⟨zaa,[.int .u8 0,.int .u8 0,.int .u8 0,.int .u8 0,.int .u8 0,.int .u8 0,.int .u8 0,.int .u8 0,.int .u8 0,.int .u8 0,.int .u8 0,.int .u8 0,.int .u8 0,.int .u8 0,.int .u8 0,.int .u8 0],none⟩;have g2:(H1.new ⟨zaa,[.int .u8 0,.int .u8 0,.int .u8 0,.int .u8 0,.int .u8 0,.int .u8 0,.int .u8 0,.int .u8 0,.int .u8 0,.int .u8 0,.int .u8 0,.int .u8 0,.int .u8 0,.int .u8 0,.int .u8 0,.int .u8 0],none⟩).get H1.next = some ⟨zaa,[.int .u8 0,.int .u8 0,.int .u8 0,.int .u8 0,.int .u8 0,.int .u8 0,.int .u8 0,.int .u8 0,.int .u8 0,.int .u8 0,.int .u8 0,.int .u8 0,.int .u8 0,.int .u8 0,.int .u8 0,.int .u8 0],none⟩:=zab _ _;have n2:(H1.new ⟨zaa,[.int .u8 0,.int .u8 0,.int .u8 0,.int .u8 0,.int .u8 0,.int .u8 0,.int .u8 0,.int .u8 0,.int .u8 0,.int .u8 0,.int .u8 0,.int .u8 0,.int .u8 0,.int .u8 0,.int .u8 0,.int .u8 0],none⟩).next = H1.next + 1:=zaf _ _;have ga2:=(s2.same a (by omega)).trans g1;have hA2:=(hA.grow s1).grow s2;simp (disch:=omega) only [↓RD,RZ,eq_self,seval];generalize hb:H1.next = b at *;generalize H1.new _ = H2 at *;obtain ⟨id,k1,k2,k3,k4,hw⟩:=hA2;have hkk:k < a ∧ id < a:=by
  obtain ⟨id',k1',k2',k3',k4',hw'⟩:=hA;have e1:=(s2.same k (by omega)).trans ((s1.same k (by omega)).trans k1');rw [k1] at e1;injection e1 with e1
  injection e1 with _ e1 _
  have e2:=List.append_cancel_left e1;injection e2 with e2
  injection e2 with e2
  omega
 refine zas (Q:=fun z H'=>z = .ex 0 [] ∧ H'.get a = some ⟨zaa,(addk ws r x).map by8,none⟩ ∧ At1 a H2 H') ?_ ?_
 ·refine zaE (fun i L H'=>L = [.int .i64 (i:Nat)] ∧ H'.get a = some ⟨zaa,((addk ws r x).take i ++ x.drop i).map by8,none⟩ ∧ At1 a H2 H') 16 ?_ ?_ ?_
  ·exact ⟨rfl,by simpa using ga2,At1.refl _ _⟩
  ·rintro i L H3 hi ⟨rfl,g3,s3⟩;have gk3:=(s3.same k (by omega) (by omega)).trans k1;have gi3:=(s3.same id (by omega) (by omega)).trans k2;have hal:=zc1 ws r x;have hA':(((addk ws r x).take i).map by8).length = i:=by rw [List.length_map,List.length_take]; omega
   rw [znO (by omega)] at g3;have m1:=ziF (b:=by8 (x.getD i 0)) (C:=(x.drop (i + 1)).map by8) hA';have m2:=ziE (b:=by8 (x.getD i 0)) (y:=by8 ((addk ws r x).getD i 0)) (C:=(x.drop (i + 1)).map by8) hA';have ml:(((addk ws r x).take i).map by8 ++ by8 (x.getD i 0) :: (x.drop (i + 1)).map by8).length = 16:=by rw [List.length_append,hA',List.length_cons,List.length_map,List.length_drop]; omega
   have ek:=zpQ (.sl id 0 ws.length (.opn 4));have e1:(4:Int) * (r:Nat) = ((4 * r:Nat):Int):=by omega
   have e2:((i:Nat):Int) / 4 = ((i / 4:Nat):Int):=by omega
   have e3:((4 * r:Nat):Int) + ((i / 4:Nat):Int) = ((4 * r + i / 4:Nat):Int):=by omega
   have e4:((i:Nat):Int) % 4 = ((i % 4:Nat):Int):=by omega
   have hm4:=Nat.mod_lt i (show 0 < 4 by decide);have wb:=zo6 hw (j:=4 * r + i / 4) (m:=i % 4) (by omega) hm4;have ex:=zfA (h8.getD i) (zrt hw (4 * r + i / 4) (i % 4));have ea:x.getD i 0 ^^^ (ws.getD (4 * r + i / 4) []).getD (i % 4) 0 = (addk ws r x).getD i 0:=by unfold addk; rw [zcu hi]
   rw [ea] at ex;unfold zfd uT uNFM uB uI uIM uc ug;simp (disch:=omega) only [↓RD,RZ,eq_self,seval,g3,m1,gk3,ek,e1,e2,e3,e4,gi3,wb,ex,m2,ml,zcZ,zaP];refine ⟨by omega,rfl,?_,s3.trans (At1.set a _ _)⟩;rw [zkY (by omega)]
  ·rintro L H3 ⟨rfl,g3,s3⟩;unfold zfd uT uNFM uB uI uIM uc ug;simp (disch:=omega) only [↓RD,RZ,eq_self,seval];refine ⟨?_,s3⟩;rw [g3,List.take_of_length_le (by rw [zc1]; omega),List.drop_of_length_le (by omega),List.append_nil]
 ·rintro _ H3 ⟨rfl,g3,s3⟩;have n3:=s3.next;have gb3:=(s3.same b (by omega) (by omega)).trans g2;have hal:=zc1 ws r x;have l1:=ld16 hal;have l2:=sp16 hal (L:=[.int .u8 0,.int .u8 0,.int .u8 0,.int .u8 0,.int .u8 0,.int .u8 0,.int .u8 0,.int .u8 0,.int .u8 0,.int .u8 0,.int .u8 0,.int .u8 0,.int .u8 0,.int .u8 0,.int .u8 0,.int .u8 0]) rfl;have l3:=zfg hal;simp (disch:=omega) only [↓RD,RZ,eq_self,seval,g3,l1,gb3,zaY,zaj,l2,l3];exact ⟨by rw [zan]; omega,fun i hi=>by rw [zai _ _ (by omega),s3.same i (by omega) (by omega),s2.same i (by omega),s1.same i (by omega)]⟩
end Go.Ax.SU
/- Su19 -/
namespace Go.Ax.SU
open Go.Ax
theorem tab_at {wv:V} {n:Nat} (h:n < 256):(tabC true ++ [wv])[3 + n]? = some (by8 (sb n)):=by
 have e:tabC true ++ [wv] = .int .u32 1 :: .int .i32 0 :: .int .u32 0 :: (sbox.map by8 ++ [wv]):=rfl;rw [e,show 3 + n = n + 1 + 1 + 1 by omega];rw [List.getElem?_cons_succ,List.getElem?_cons_succ,List.getElem?_cons_succ,bga (by rw [zeC]; exact h)];rfl
theorem moved_ok {H:Heap} {k:Nat} {ws:List (List Nat)} {x:List Nat} (hA:Aes H k ws) (hx:x.length = 16) (h8:Ok8 x) :
  Ok (sem T zdH [.ptr k 0,.agg (x.map by8)]) H fun res H'=>res = .agg ((movd x).map by8) ∧ Grow H H':=by
 refine zkm ?_;unfold zht uS uT uNF uO uc;refine zao (zaQ (zaY _) ?_);rw [zaj];have s1:=Grow.new H ⟨zaa,x.map by8,none⟩;have g1:(H.new ⟨zaa,x.map by8,none⟩).get H.next = some ⟨zaa,x.map by8,none⟩:=zab _ _;have n1:(H.new ⟨zaa,x.map by8,none⟩).next = H.next + 1:=zaf _ _;generalize ha:H.next = a at *;generalize H.new _ = H1 at *;have s2:=Grow.new H1 ⟨zaa,[.int .u8 0,.int .u8 0,.int .u8 0,.int .u8 0,.int .u8 0,.int .u8 0,.int .u8 0,.int .u8 0,.int .u8 0,.int .u8 0,.int .u8 0,.int .u8 0,.int .u8 0,.int .u8 0,.int .u8 0,.int .u8 0],none⟩;have g2:(H1.new ⟨zaa,[.int .u8 0,.int .u8 0,.int .u8 0,.int .u8 0,.int .u8 0,.int .u8 0,.int .u8 0,.int .u8 0,.int .u8 0,.int .u8 0,.int .u8 0,.int .u8 0,.int .u8 0,.int .u8 0,.int .u8 0,.int .u8 0],none⟩).get H1.next = some ⟨zaa,[.int .u8 0,.int .u8 0,.int .u8 0,.int .u8 0,.int .u8 0,.int .u8 0,.int .u8 0,.int .u8 0,.int .u8 0,.int .u8 0,.int .u8 0,.int .u8 0,.int .u8 0,.int .u8 0,.int .u8 0,.int .u8 0],none⟩:=zab _ _;have n2:(H1.new ⟨zaa,[.int .u8 0,.int .u8 0,.int .u8 0,.int .u8 0,.int .u8 0,.int .u8 0,.int .u8 0,.int .u8 0,.int .u8 0,.int .u8 0,.int .u8 0,.int .u8 0,.int .u8 0,.int .u8 0,.int .u8 0,.int .u8 0],none⟩).next = H1.next + 1:=zaf _ _;have ga2:=(s2.same a (by omega)).trans g1;have hA2:=(hA.grow s1).grow s2;simp (disch:=omega) only [↓RD,RZ];generalize hb:H1.next = b at *;generalize H1.new _ = H2 at *;obtain ⟨id,k1,k2,k3,k4,hw⟩:=hA2;refine zag (zsW k1 k3) ?_;rintro _ H3 ⟨rfl,s3⟩;have n3:=s3.next;have gk3:=(s3.same k k3).trans k1;have ga3:=(s3.same a (by omega)).trans ga2;have gb3:=(s3.same b (by omega)).trans g2;have s4:=Grow.new H3 ⟨zaa,[.int .u8 0,.int .u8 0,.int .u8 0,.int .u8 0,.int .u8 0,.int .u8 0,.int .u8 0,.int .u8 0,.int .u8 0,.int .u8 0,.int .u8 0,.int .u8 0,.int .u8 0,.int .u8 0,.int .u8 0,.int .u8 0],none⟩;have g4:(H3.new ⟨zaa,[.int .u8 0,.int .u8 0,.int .u8 0,.int .u8 0,.int .u8 0,.int .u8 0,.int .u8 0,.int .u8 0,.int .u8 0,.int .u8 0,.int .u8 0,.int .u8 0,.int .u8 0,.int .u8 0,.int .u8 0,.int .u8 0],none⟩).get H3.next = some ⟨zaa,List.replicate 16 (.int .u8 0),none⟩:=zab _ _;have n4:(H3.new ⟨zaa,[.int .u8 0,.int .u8 0,.int .u8 0,.int .u8 0,.int .u8 0,.int .u8 0,.int .u8 0,.int .u8 0,.int .u8 0,.int .u8 0,.int .u8 0,.int .u8 0,.int .u8 0,.int .u8 0,.int .u8 0,.int .u8 0],none⟩).next = H3.next + 1:=zaf _ _;have gk4:=(s4.same k (by omega)).trans gk3;have ga4:=(s4.same a (by omega)).trans ga3;have gb4:=(s4.same b (by omega)).trans gb3;simp (disch:=omega) only [↓RD,RZ];generalize hc:H3.next = c at *;generalize H3.new _ = H4 at *;have hml:=zeE x;refine zas (Q:=fun z H'=>z = .ex 0 [] ∧ H'.get c = some ⟨zaa,(movd x).map by8,none⟩ ∧ At1 c H4 H') ?_ ?_
 ·refine zaE (fun i L H'=>L = [.int .i64 (i:Nat)] ∧ H'.get c = some ⟨zaa,((movd x).take i).map by8 ++ List.replicate (16 - i) (.int .u8 0),none⟩ ∧ At1 c H4 H') 16 ?_ ?_ ?_
  ·exact ⟨rfl,by simpa using g4,At1.refl _ _⟩
  ·rintro i L H5 hi ⟨rfl,g5,s5⟩;have gk5:=(s5.same k (by omega) (by omega)).trans gk4;have ga5:=(s5.same a (by omega) (by omega)).trans ga4;have hl0:(((movd x).take i).map by8).length = i:=by rw [List.length_map,List.length_take]; omega
   have x0:=zaZ (z:=.int .u8 0) (x:=by8 ((movd x).getD i 0)) hl0 hi;have ml:(((movd x).take i).map by8 ++ List.replicate (16 - i) (V.int .u8 0)).length = 16:=by rw [List.length_append,hl0,List.length_replicate]; omega
   have e1:((i:Nat):Int) % 4 = ((i % 4:Nat):Int):=by omega
   have e2:(4:Int) * ((i % 4:Nat):Int) = ((4 * (i % 4):Nat):Int):=by omega
   have e3:((i:Nat):Int) + ((4 * (i % 4):Nat):Int) = ((i + 4 * (i % 4):Nat):Int):=by omega
   have e4:((i + 4 * (i % 4):Nat):Int) % 16 = (((i + 4 * (i % 4)) % 16:Nat):Int):=by omega
   have hm:=Nat.mod_lt (i + 4 * (i % 4)) (show 0 < 16 by decide);have hm4:=Nat.mod_lt i (show 0 < 4 by decide);have eg:=bg (l:=x) (i:=(i + 4 * (i % 4)) % 16) (by omega);have hb8:=h8.getD ((i + 4 * (i % 4)) % 16);have ia:=zll (id:=k) (off:=3) (n:=256) hb8;have et:=tab_at (wv:=.sl id 0 ws.length (.opn 4)) hb8;have em:sb (x.getD ((i + 4 * (i % 4)) % 16) 0) = (movd x).getD i 0:=by unfold movd; rw [zcu hi]
   rw [em] at et;unfold zer uT uN uB uI uIM uc ug;simp (disch:=omega) only [↓RD,RZ,e1,e2,e3,e4,ga5,eg,ia,gk5,et,g5,x0,ml,zcZ,zaP];refine ⟨by omega,rfl,?_,s5.trans (At1.set c _ _)⟩;rw [zbx (by omega)]; simp
  ·rintro L H5 ⟨rfl,g5,s5⟩;unfold zer uT uN uB uI uIM uc ug;simp (disch:=omega) only [↓RD,RZ];refine ⟨?_,s5⟩;rw [g5,List.take_of_length_le (by omega)]; simp
 ·rintro _ H5 ⟨rfl,g5,s5⟩;have n5:=s5.next;have gb5:=(s5.same b (by omega) (by omega)).trans gb4;have l1:=ld16 hml;have l2:=sp16 hml (L:=[.int .u8 0,.int .u8 0,.int .u8 0,.int .u8 0,.int .u8 0,.int .u8 0,.int .u8 0,.int .u8 0,.int .u8 0,.int .u8 0,.int .u8 0,.int .u8 0,.int .u8 0,.int .u8 0,.int .u8 0,.int .u8 0]) rfl;have l3:=zfg hml;simp (disch:=omega) only [↓RD,RZ,eq_self,seval,g5,l1,gb5,zaY,zaj,l2,l3];exact ⟨by rw [zan]; omega,fun i hi=>by rw [zai _ _ (by omega),s5.same i (by omega) (by omega),s4.same i (by omega),s3.same i (by omega),s2.same i (by omega),s1.same i (by omega)]⟩
theorem mixed_ok {H:Heap} {x:List Nat} (hx:x.length = 16) (h8:Ok8 x) :
  Ok (sem T zfm [.agg (x.map by8)]) H fun res H'=>res = .agg ((mixd x).map by8) ∧ Grow H H':=by
 refine znG ?_;unfold zkN uS uT uO uc;refine zao (zaQ (zaY _) ?_);rw [zaj];have s1:=Grow.new H ⟨zaa,x.map by8,none⟩;have g1:(H.new ⟨zaa,x.map by8,none⟩).get H.next = some ⟨zaa,x.map by8,none⟩:=zab _ _;have n1:(H.new ⟨zaa,x.map by8,none⟩).next = H.next + 1:=zaf _ _;generalize ha:H.next = a at *;generalize H.new _ = H1 at *;refine zao (zaQ (by rfl) ?_);have s2:=Grow.new H1 ⟨zaa,[.int .u8 0,.int .u8 0,.int .u8 0,.int .u8 0,.int .u8 0,.int .u8 0,.int .u8 0,.int .u8 0,.int .u8 0,.int .u8 0,.int .u8 0,.int .u8 0,.int .u8 0,.int .u8 0,.int .u8 0,.int .u8 0],none⟩;have g2:(H1.new ⟨zaa,[.int .u8 0,.int .u8 0,.int .u8 0,.int .u8 0,.int .u8 0,.int .u8 0,.int .u8 0,.int .u8 0,.int .u8 0,.int .u8 0,.int .u8 0,.int .u8 0,.int .u8 0,.int .u8 0,.int .u8 0,.int .u8 0],none⟩).get H1.next = some ⟨zaa,[.int .u8 0,.int .u8 0,.int .u8 0,.int .u8 0,.int .u8 0,.int .u8 0,.int .u8 0,.int .u8 0,.int .u8 0,.int .u8 0,.int .u8 0,.int .u8 0,.int .u8 0,.int .u8 0,.int .u8 0,.int .u8 0],none⟩:=zab _ _;have n2:(H1.new ⟨zaa,[.int .u8 0,.int .u8 0,.int .u8 0,.int .u8 0,.int .u8 0,.int .u8 0,.int .u8 0,.int .u8 0,.int .u8 0,.int .u8 0,.int .u8 0,.int .u8 0,.int .u8 0,.int .u8 0,.int .u8 0,.int .u8 0],none⟩).next = H1.next + 1:=zaf _ _;have ga2:=(s2.same a (by omega)).trans g1;rw [zaj];generalize hb:H1.next = b at *;generalize H1.new _ = H2 at *;refine zao (zaQ (by rfl) ?_);have s4:=Grow.new H2 ⟨zaa,[.int .u8 0,.int .u8 0,.int .u8 0,.int .u8 0,.int .u8 0,.int .u8 0,.int .u8 0,.int .u8 0,.int .u8 0,.int .u8 0,.int .u8 0,.int .u8 0,.int .u8 0,.int .u8 0,.int .u8 0,.int .u8 0],none⟩;have g4:(H2.new ⟨zaa,[.int .u8 0,.int .u8 0,.int .u8 0,.int .u8 0,.int .u8 0,.int .u8 0,.int .u8 0,.int .u8 0,.int .u8 0,.int .u8 0,.int .u8 0,.int .u8 0,.int .u8 0,.int .u8 0,.int .u8 0,.int .u8 0],none⟩).get H2.next = some ⟨zaa,List.replicate 16 (.int .u8 0),none⟩:=zab _ _;have n4:(H2.new ⟨zaa,[.int .u8 0,.int .u8 0,.int .u8 0,.int .u8 0,.int .u8 0,.int .u8 0,.int .u8 0,.int .u8 0,.int .u8 0,.int .u8 0,.int .u8 0,.int .u8 0,.int .u8 0,.int .u8 0,.int .u8 0,.int .u8 0],none⟩).next = H2.next + 1:=zaf _ _;have ga4:=(s4.same a (by omega)).trans ga2;have gb4:=(s4.same b (by omega)).trans g2;rw [zaj];generalize hc:H2.next = c at *;generalize H2.new _ = H4 at *;have hml:=zgI x;simp (disch:=omega) only [↓RD,RZ];refine zas (Q:=fun z H'=>z = .ex 0 [] ∧ H'.get c = some ⟨zaa,(mixd x).map by8,none⟩ ∧ At1 c H4 H') ?_ ?_
 ·refine zaE (fun i L H'=>L = [.int .i64 (i:Nat)] ∧ H'.get c = some ⟨zaa,((mixd x).take i).map by8 ++ List.replicate (16 - i) (.int .u8 0),none⟩ ∧ At1 c H4 H') 16 ?_ ?_ ?_
  ·exact ⟨rfl,by simpa using g4,At1.refl _ _⟩
  ·rintro i L H5 hi ⟨rfl,g5,s5⟩;have ga5:=(s5.same a (by omega) (by omega)).trans ga4;have hl0:(((mixd x).take i).map by8).length = i:=by rw [List.length_map,List.length_take]; omega
   have x0:=zaZ (z:=.int .u8 0) (x:=by8 ((mixd x).getD i 0)) hl0 hi;have ml:(((mixd x).take i).map by8 ++ List.replicate (16 - i) (V.int .u8 0)).length = 16:=by rw [List.length_append,hl0,List.length_replicate]; omega
   have e1:((i:Nat):Int) % 4 = ((i % 4:Nat):Int):=by omega
   have e2:((i:Nat):Int) - ((i % 4:Nat):Int) = ((i - i % 4:Nat):Int):=by omega
   have f1:(((i:Nat):Int) + 1) % 4 = (((i + 1) % 4:Nat):Int):=by omega
   have f2:(((i:Nat):Int) + 2) % 4 = (((i + 2) % 4:Nat):Int):=by omega
   have f3:(((i:Nat):Int) + 3) % 4 = (((i + 3) % 4:Nat):Int):=by omega
   have k1:((i - i % 4:Nat):Int) + (((i + 1) % 4:Nat):Int) = ((i - i % 4 + (i + 1) % 4:Nat):Int):=rfl;have k2:((i - i % 4:Nat):Int) + (((i + 2) % 4:Nat):Int) = ((i - i % 4 + (i + 2) % 4:Nat):Int):=rfl;have k3:((i - i % 4:Nat):Int) + (((i + 3) % 4:Nat):Int) = ((i - i % 4 + (i + 3) % 4:Nat):Int):=rfl;have m0:i - i % 4 ≤ 12:=by omega
   have m1:=Nat.mod_lt (i + 1) (show 0 < 4 by decide);have m2:=Nat.mod_lt (i + 2) (show 0 < 4 by decide);have m3:=Nat.mod_lt (i + 3) (show 0 < 4 by decide);have b0:=bg (l:=x) (i:=i) (by omega);have b1:=bg (l:=x) (i:=i - i % 4 + (i + 1) % 4) (by omega);have b2:=bg (l:=x) (i:=i - i % 4 + (i + 2) % 4) (by omega);have b3:=bg (l:=x) (i:=i - i % 4 + (i + 3) % 4) (by omega);have q0:=h8.getD i;have q1:=h8.getD (i - i % 4 + (i + 1) % 4);have q2:=h8.getD (i - i % 4 + (i + 2) % 4);have q3:=h8.getD (i - i % 4 + (i + 3) % 4);have w0:=zog q0;have w1:=zog q1;have x1:=zfA (zjE q0) (zjE q1);have x2:=zfA (za6 (zjE q0) (zjE q1)) q1;have x3:=zfA (za6 (za6 (zjE q0) (zjE q1)) q1) q2;have x4:=zfA (za6 (za6 (za6 (zjE q0) (zjE q1)) q1) q2) q3;have em:xt (x.getD i 0) ^^^ xt (x.getD (i - i % 4 + (i + 1) % 4) 0) ^^^ x.getD (i - i % 4 + (i + 1) % 4) 0 ^^^ x.getD (i - i % 4 + (i + 2) % 4) 0 ^^^ x.getD (i - i % 4 + (i + 3) % 4) 0 = (mixd x).getD i 0:=by unfold mixd; rw [zcu hi]
   rw [em] at x4;unfold zgy uM uT uB uI uIM uU uc ug;simp (disch:=omega) only [↓RD,RZ,e1,e2,f1,f2,f3,k1,k2,k3,ga5,b0,b1,b2,b3,w0,w1,x1,x2,x3,x4,g5,x0,ml,zcZ,zaP];refine ⟨by omega,rfl,?_,s5.trans (At1.set c _ _)⟩;rw [zbx (by omega)]; simp
  ·rintro L H5 ⟨rfl,g5,s5⟩;unfold zgy uM uT uB uI uIM uU uc ug;simp (disch:=omega) only [↓RD,RZ];refine ⟨?_,s5⟩;rw [g5,List.take_of_length_le (by omega)]; simp
 ·rintro _ H5 ⟨rfl,g5,s5⟩;have n5:=s5.next;have gb5:=(s5.same b (by omega) (by omega)).trans gb4;have l1:=ld16 hml;have l2:=sp16 hml (L:=[.int .u8 0,.int .u8 0,.int .u8 0,.int .u8 0,.int .u8 0,.int .u8 0,.int .u8 0,.int .u8 0,.int .u8 0,.int .u8 0,.int .u8 0,.int .u8 0,.int .u8 0,.int .u8 0,.int .u8 0,.int .u8 0]) rfl;have l3:=zfg hml;simp (disch:=omega) only [↓RD,RZ,eq_self,seval,g5,l1,gb5,zaY,zaj,l2,l3];exact ⟨by rw [zan]; omega,fun i hi=>by rw [zai _ _ (by omega),s5.same i (by omega) (by omega),s4.same i (by omega),s2.same i (by omega),s1.same i (by omega)]⟩
theorem zsk {ws:List (List Nat)} {x:List Nat} (n:Nat):(arnd ws x n).length = 16:=by
 cases n with
 | zero=>exact zc1 _ _ _
 | succ n=>exact zc1 _ _ _
theorem arnd_8 {ws:List (List Nat)} (hw:∀ w ∈ ws,Word w) {x:List Nat} (h:Ok8 x) (n:Nat):Ok8 (arnd ws x n):=by
 cases n with
 | zero=>exact zqf hw h
 | succ n=>exact zqf hw (zuH (zjq _))
def bst (ws:List (List Nat)) (x:List Nat) (i:Nat):List Nat:=if i < ws.length / 4 - 1 then arnd ws x i else aes ws x
theorem Block_ok {H:Heap} {k:Nat} {ws:List (List Nat)} {x:List Nat} (hA:Aes H k ws) (hx:x.length = 16) (h8:Ok8 x) (hwl:ws.length ≤ 1000) (hw4:ws.length % 4 = 0) (hw8:8 ≤ ws.length) :
  Ok (sem T zcT [.ptr k 0,.agg (x.map by8)]) H fun res H'=>res = .agg ((aes ws x).map by8) ∧ Grow H H':=by
 have hw:∀ w ∈ ws,Word w:=by obtain ⟨_,_,_,_,_,hw⟩:=hA; exact hw
 refine zkn ?_;unfold zhu uL uS uT uNFM uB uO uc;refine zao (zaQ (zaY _) ?_);rw [zaj];have s1:=Grow.new H ⟨zaa,x.map by8,none⟩;have g1:(H.new ⟨zaa,x.map by8,none⟩).get H.next = some ⟨zaa,x.map by8,none⟩:=zab _ _;have n1:(H.new ⟨zaa,x.map by8,none⟩).next = H.next + 1:=zaf _ _;generalize ha:H.next = a at *;generalize H.new _ = H1 at *;refine zao (zaQ (by rfl) ?_);have s2:=Grow.new H1 ⟨zaa,[.int .u8 0,.int .u8 0,.int .u8 0,.int .u8 0,.int .u8 0,.int .u8 0,.int .u8 0,.int .u8 0,.int .u8 0,.int .u8 0,.int .u8 0,.int .u8 0,.int .u8 0,.int .u8 0,.int .u8 0,.int .u8 0],none⟩;have g2:(H1.new ⟨zaa,[.int .u8 0,.int .u8 0,.int .u8 0,.int .u8 0,.int .u8 0,.int .u8 0,.int .u8 0,.int .u8 0,.int .u8 0,.int .u8 0,.int .u8 0,.int .u8 0,.int .u8 0,.int .u8 0,.int .u8 0,.int .u8 0],none⟩).get H1.next = some ⟨zaa,[.int .u8 0,.int .u8 0,.int .u8 0,.int .u8 0,.int .u8 0,.int .u8 0,.int .u8 0,.int .u8 0,.int .u8 0,.int .u8 0,.int .u8 0,.int .u8 0,.int .u8 0,.int .u8 0,.int .u8 0,.int .u8 0],none⟩:=zab _ _;have n2:(H1.new ⟨zaa,[.int .u8 0,.int .u8 0,.int .u8 0,.int .u8 0,.int .u8 0,.int .u8 0,.int .u8 0,.int .u8 0,.int .u8 0,.int .u8 0,.int .u8 0,.int .u8 0,.int .u8 0,.int .u8 0,.int .u8 0,.int .u8 0],none⟩).next = H1.next + 1:=zaf _ _;have ga2:=(s2.same a (by omega)).trans g1;have hA2:=(hA.grow s1).grow s2;rw [zaj];generalize hb:H1.next = b at *;generalize H1.new _ = H2 at *;obtain ⟨id,k1,k2,k3,k4,-⟩:=id hA2;have ek:=zpQ (.sl id 0 ws.length (.opn 4));have e1:((ws.length:Nat):Int) / 4 = ((ws.length / 4:Nat):Int):=by omega
 have e2:((ws.length / 4:Nat):Int) - 1 = ((ws.length / 4 - 1:Nat):Int):=by omega
 have l1:=ld16 hx;simp (disch:=omega) only [↓RD,RZ,k1,ek,e1,e2,ga2,l1];have hlast:ws.length / 4 - 1 + 1 = ws.length / 4:=by omega
 have hAg:∀ H',Grow H H' → Aes H' k ws:=fun H' g=>hA.grow g;have ad:=add_ok (r:=0) hA2 hx h8 (by omega) hwl;refine zag ad ?_;rintro _ H3 ⟨rfl,s3⟩;have n3:=s3.next;have ga3:=(s3.same a (by omega)).trans ga2;have gb3:=(s3.same b (by omega)).trans g2;have l2:=sp16 (zc1 ws 0 x) (L:=x.map by8) (zfg hx);have l3:=zfg (zc1 ws 0 x);simp (disch:=omega) only [↓RD,RZ,eq_self,seval,ga3,zaY,zaj,l2,l3,zfg hx];have gH3:Grow H (H3.set a (some ⟨zaa,(addk ws 0 x).map by8,none⟩)):=(((s1.trans s2).trans s3)).set (by omega) _;have gb4:(H3.set a (some ⟨zaa,(addk ws 0 x).map by8,none⟩)).get b = _:=(zai _ _ (by omega)).trans gb3;have ga4:(H3.set a (some ⟨zaa,(addk ws 0 x).map by8,none⟩)).get a = _:=zal _ _ _;have n4:H3.next = (H3.set a (some ⟨zaa,(addk ws 0 x).map by8,none⟩)).next:=rfl;generalize H3.set a _ = H4 at *;have gA:∀ H',At1 a H4 H' → Grow H H':=fun H' g=>⟨Nat.le_trans gH3.next g.next,fun i hi=>by rw [g.same i (by omega) (by omega),gH3.same i hi]⟩;have bl:∀ i,(bst ws x i).length = 16:=fun i=>by unfold bst; split; exact zsk _; exact zc1 _ _ _
 have b8:∀ i,Ok8 (bst ws x i):=fun i=>by unfold bst; split; exact arnd_8 hw h8 _; exact zqf hw (zjq _)
 refine zas (Q:=fun z H'=>z = .ex 0 [] ∧ H'.get a = some ⟨zaa,(aes ws x).map by8,none⟩ ∧ At1 a H4 H') ?_ ?_
 ·refine zaE (fun i L H'=>L = [.int .i64 ((i + 1:Nat):Int)] ∧ H'.get a = some ⟨zaa,(bst ws x i).map by8,none⟩ ∧ At1 a H4 H') (ws.length / 4 - 1) ?_ ?_ ?_
  ·refine ⟨rfl,?_,At1.refl _ _⟩;unfold bst;rw [if_pos (by omega)];exact ga4
  ·rintro i L H5 hi ⟨rfl,ga5,s5⟩;have n5:=s5.next;have e5:((i + 1:Nat):Int) + 1 = ((i + 1 + 1:Nat):Int):=rfl;have l1:=ld16 (bl i);unfold zes uS uT uB uc ug;simp (disch:=omega) only [↓RD,RZ,ga5,l1];refine zag (moved_ok (hAg _ (gA _ s5)) (bl i) (b8 i)) ?_;rintro _ H6 ⟨rfl,s6⟩;have n6:=s6.next;have ga6:=(s6.same a (by omega)).trans ga5;have l2:=sp16 (zeE (bst ws x i)) (L:=(bst ws x i).map by8) (zfg (bl i));have l3:=zfg (zeE (bst ws x i));have l4:=zfg (bl i);have l5:=ld16 (zeE (bst ws x i));simp (disch:=omega) only [↓RD,RZ,eq_self,seval,ga6,zaY,zaj,l2,l3,l4];have s7:At1 a H4 (H6.set a (some ⟨zaa,(movd (bst ws x i)).map by8,none⟩)):=(s5.trans (s6.at1 a)).trans (At1.set a _ _);have ga7:(H6.set a (some ⟨zaa,(movd (bst ws x i)).map by8,none⟩)).get a = _:=zal _ _ _;generalize H6.set a _ = H7 at *;have n7:=s7.next;refine zas (Q:=fun z H'=>z = .nrm [] ∧ H'.get a = some ⟨zaa,(if i + 1 < ws.length / 4 - 1 then mixd (movd (bst ws x i)) else movd (bst ws x i)).map by8,none⟩ ∧ At1 a H4 H') ?_ ?_
   ·refine zbw (fun h=>?_) (fun h=>?_)
    ·simp (disch:=omega) only [↓RD,RZ,ga7,l5];refine zag (mixed_ok (zeE _) (zjq _)) ?_;rintro _ H8 ⟨rfl,s8⟩;have n8:=s8.next;have ga8:=(s8.same a (by omega)).trans ga7;have m2:=sp16 (zgI (movd (bst ws x i))) (L:=(movd (bst ws x i)).map by8) l3;have m3:=zfg (zgI (movd (bst ws x i)));simp (disch:=omega) only [↓RD,RZ,eq_self,seval,ga8,zaY,zaj,m2,m3,l3];exact ⟨by rw [if_pos (by omega)],(s7.trans (s8.at1 a)).trans (At1.set a _ _)⟩
    ·simp (disch:=omega) only [↓RD,RZ];rw [if_neg (by omega)];exact ⟨ga7,s7⟩
   ·rintro _ H8 ⟨rfl,ga8,s8⟩;have n8:=s8.next;generalize hy:(if i + 1 < ws.length / 4 - 1 then mixd (movd (bst ws x i)) else movd (bst ws x i)) = y at *;have yl:y.length = 16:=by rw [← hy]; split; exact zgI _; exact zeE _
    have y8:Ok8 y:=by rw [← hy]; split; exact zuH (zjq _); exact zjq _
    have m1:=ld16 yl;simp (disch:=omega) only [↓RD,RZ,ga8,m1];refine zag (add_ok (r:=i + 1) (hAg _ (gA _ s8)) yl y8 (by omega) hwl) ?_;rintro _ H9 ⟨rfl,s9⟩;have n9:=s9.next;have ga9:=(s9.same a (by omega)).trans ga8;have m2:=sp16 (zc1 ws (i + 1) y) (L:=y.map by8) (zfg yl);have m3:=zfg (zc1 ws (i + 1) y);have m4:=zfg yl;simp (disch:=omega) only [↓RD,RZ,eq_self,seval,ga9,zaY,zaj,m2,m3,m4,e5];refine ⟨?_,(s8.trans (s9.at1 a)).trans (At1.set a _ _)⟩
    ·congr 3;rw [← hy];unfold bst;rw [if_pos hi];by_cases h:i + 1 < ws.length / 4 - 1
     ·rw [if_pos h,if_pos h]; rfl
     ·rw [if_neg h,if_neg h];unfold aes;rw [show ws.length / 4 - 2 = i by omega,show ws.length / 4 - 1 = i + 1 by omega]
  ·rintro L H5 ⟨rfl,ga5,s5⟩;unfold zes uS uT uB uc ug;simp (disch:=omega) only [↓RD,RZ];refine ⟨?_,s5⟩;rw [ga5];unfold bst;rw [if_neg (by omega)]
 ·rintro _ H5 ⟨rfl,ga5,s5⟩;have n5:=s5.next;have al:=zc1 ws (ws.length / 4 - 1) (movd (arnd ws x (ws.length / 4 - 2)));have l1:=ld16 (l:=aes ws x) al;have l2:=sp16 (l:=aes ws x) al (L:=[.int .u8 0,.int .u8 0,.int .u8 0,.int .u8 0,.int .u8 0,.int .u8 0,.int .u8 0,.int .u8 0,.int .u8 0,.int .u8 0,.int .u8 0,.int .u8 0,.int .u8 0,.int .u8 0,.int .u8 0,.int .u8 0]) rfl;have l3:=zfg (x:=aes ws x) al;have gb6:=(s5.same b (by omega) (by omega)).trans gb4;simp (disch:=omega) only [↓RD,RZ,eq_self,seval,ga5,l1,gb6,zaY,zaj,l2,l3];exact (gA _ s5).set (by omega) _
end Go.Ax.SU
/- Su5 -/
namespace Go.Ax.SU
open Go.Ax
theorem ze8 (x:Nat):1 ≤ zbz x ∧ zbz x ≤ 8:=by
 unfold zbz
 repeat' split
 all_goals omega
theorem zko {x:Nat} (h:x < 18446744073709551616):x < 256 ^ zbz x:=by
 unfold zbz
 repeat' split
 all_goals omega
theorem zk9 {x:Nat} (h:0 < x):256 ^ (zbz x - 1) ≤ x:=by
 unfold zbz
 repeat' split
 all_goals omega
theorem zoD (x n:Nat):num x (n + 1) = num (x / 256) n ++ [x % 256]:=by
 unfold num;rw [List.range_succ,List.map_append];congr 1
 ·refine List.map_congr_left fun i hi=>?_;rw [List.mem_range] at hi;rw [Nat.div_div_eq_div_mul,← Nat.pow_succ'];congr 3;omega
 ·simp
theorem be_num (n:Nat):∀ x:Nat,x < 256 ^ n → be (num x n) = x:=by
 induction n with
 | zero=>intro x h; simp at h; subst h; rfl
 | succ n ih =>
  intro x h;rw [zoD,zrd,ih]
  ·omega
  ·rw [Nat.pow_succ] at h;omega
theorem num_top {x n:Nat} (h:256 ^ n ≤ x) (hx:x < 256 ^ (n + 1)):(num x (n + 1)).getD 0 0 ≠ 0:=by
 unfold num;rw [zcu (by omega)];have h1:x / 256 ^ n < 256:=by
  rw [Nat.div_lt_iff_lt_mul (Nat.pow_pos (by decide))];rw [Nat.pow_succ] at hx;omega
 have h2:1 ≤ x / 256 ^ n:=by
  rw [Nat.le_div_iff_mul_le (Nat.pow_pos (by decide))];omega
 show x / 256 ^ (n + 1 - 1 - 0) % 256 ≠ 0;rw [show n + 1 - 1 - 0 = n by omega];omega
def psz (x:Nat):Nat:=if x < 8 then 0 else x - 7
def pnum (x:Nat) (b:List Nat):Nat:=if x < 8 then x else be b
def zio (x:Nat) (b:List Nat):Bool:=if x < 8 then true else (b.getD 0 0 != 0) && decide (8 ≤ be b)
inductive PH
 | err (e:Nat)
 | ok (kid ctr n:Nat)
def parse (b:List Nat):PH :=
 if b.length = 0 then .err 3
 else
  let k:=b.getD 0 0 / 16
  let c:=b.getD 0 0 % 16
  let at':=1 + psz k
  let en:=at' + psz c
  if b.length < en then .err 3
  else
   let x:=(b.take at').drop 1
   let y:=(b.take en).drop at'
   if zio k x && zio c y then .ok (pnum k x) (pnum c y) en else .err 2
theorem ziQ (x:Nat):(fld x).1 < 16 ∧ psz (fld x).1 = (fld x).2.length:=by
 unfold fld psz;split
 ·refine ⟨by dsimp only; omega,?_⟩;dsimp only
  first | rfl | (rw [if_pos (by omega)]; rfl)
 ·have:=ze8 x;refine ⟨by dsimp only; omega,?_⟩;dsimp only;rw [if_neg (by omega),zcs];omega
theorem zl4 {x:Nat} (h:x < 18446744073709551616):pnum (fld x).1 (fld x).2 = x ∧ zio (fld x).1 (fld x).2 = true:=by
 unfold fld;split
 ·rename_i hx;dsimp only;unfold pnum zio;rw [if_pos hx,if_pos hx];exact ⟨rfl,rfl⟩
 ·have h1:=ze8 x;have h2:=be_num (zbz x) x (zko h);have h3:(num x (zbz x)).getD 0 0 ≠ 0:=by
   have a:=zk9 (x:=x) (by omega);have b:=zko h;obtain ⟨n,hn⟩:∃ n,zbz x = n + 1:=⟨zbz x - 1,by omega⟩;rw [hn] at a b ⊢;exact num_top (by simpa using a) b
  dsimp only;unfold pnum zio;rw [if_neg (by omega),if_neg (by omega),h2];refine ⟨rfl,?_⟩;simp only [Bool.and_eq_true,bne_iff_ne,ne_eq,decide_eq_true_eq];exact ⟨h3,by omega⟩
theorem zqX (kid ctr:Nat):(hdr kid ctr).length = 1 + (fld kid).2.length + (fld ctr).2.length:=by
 unfold hdr; simp only [List.length_cons,List.length_append]; omega
theorem zu1 (kid ctr:Nat):Ok8 (hdr kid ctr):=by
 unfold hdr;intro x hx;have h1:=(ziQ kid).1;have h2:=(ziQ ctr).1;have h3:∀ x:Nat,Ok8 (fld x).2:=fun x=>by
  unfold fld;split
  ·exact Ok8.nil
  ·exact zfo _ _
 rcases List.mem_cons.1 hx with rfl | hx
 ·omega
 ·exact (h3 kid).app (h3 ctr) x hx
theorem zoO (kid ctr:Nat):(hdr kid ctr).length ≤ 17:=by
 have h:∀ x:Nat,(fld x).2.length ≤ 8:=fun x=>by
  unfold fld;split
  ·simp
  ·dsimp only;rw [zcs]; exact (ze8 x).2
 rw [zqX];have:=h kid; have:=h ctr;omega
theorem zpt {kid ctr:Nat} (h1:kid < 18446744073709551616) (h2:ctr < 18446744073709551616) (r:List Nat):parse (hdr kid ctr ++ r) = .ok kid ctr (hdr kid ctr).length:=by
 have k1:=ziQ kid;have k2:=ziQ ctr;have b0:(hdr kid ctr ++ r).getD 0 0 = (fld kid).1 * 16 + (fld ctr).1:=rfl;have hl:=zqX kid ctr;have e1:(hdr kid ctr ++ r).getD 0 0 / 16 = (fld kid).1:=by rw [b0]; omega
 have e2:(hdr kid ctr ++ r).getD 0 0 % 16 = (fld ctr).1:=by rw [b0]; omega
 unfold parse;rw [if_neg (by rw [List.length_append,hl]; omega)];dsimp only;rw [e1,e2,k1.2,k2.2,if_neg (by rw [List.length_append,hl]; omega)];have hh:hdr kid ctr ++ r = ((fld kid).1 * 16 + (fld ctr).1) :: ((fld kid).2 ++ ((fld ctr).2 ++ r)):=by unfold hdr; simp
 have t1:((hdr kid ctr ++ r).take (1 + (fld kid).2.length)).drop 1 = (fld kid).2:=by
  rw [show 1 + (fld kid).2.length = (fld kid).2.length + 1 by omega,hh];rw [List.take_succ_cons,List.drop_one,List.tail_cons,List.take_left]
 have t2:((hdr kid ctr ++ r).take (1 + (fld kid).2.length + (fld ctr).2.length)).drop (1 + (fld kid).2.length) = (fld ctr).2:=by
  rw [show 1 + (fld kid).2.length + (fld ctr).2.length = ((fld kid).2.length + (fld ctr).2.length) + 1 by omega,show 1 + (fld kid).2.length = (fld kid).2.length + 1 by omega,hh];rw [List.take_succ_cons,List.drop_succ_cons,← List.append_assoc,List.take_left' (by rw [List.length_append]),List.drop_left]
 rw [t1,t2,(zl4 h1).1,(zl4 h1).2,(zl4 h2).1,(zl4 h2).2,hl];rfl
end Go.Ax.SU
/- Su6 -/
namespace Go.Ax.SU
open Go.Ax
structure Ky where
 kid:Nat
 t:Nat
 ws:List (List Nat)
 auth:List Nat
 salt:List Nat
def sKey:List Nat:=[83,70,114,97,109,101,32,49,46,48,32,83,101,99,114,101,116,32,107,101,121,32]
def zqu:List Nat:=[83,70,114,97,109,101,32,49,46,48,32,83,101,99,114,101,116,32,115,97,108,116,32]
def szs:Nat → Option (Nat × Nat)
 | 1=>some (16,10)
 | 2=>some (16,8)
 | 3=>some (16,4)
 | 16=>some (32,10)
 | _=>none
def zaI (base:List Nat):List Nat:=hmac kc [] base
def keyb (id kid n:Nat) (base:List Nat):List Nat:=((hkdf kc (zaI base) (sKey ++ (num kid 8 ++ num id 2)) 2).1).take (n + 32)
def saltb (id kid:Nat) (base:List Nat):List Nat:=((hkdf kc (zaI base) (zqu ++ (num kid 8 ++ num id 2)) 1).1).take 12
def drv (id kid n t:Nat) (base:List Nat):Ky :=
 ⟨kid,t,kw ((keyb id kid n base).take n) (n / 4) (4 * (n / 4 + 7)),(keyb id kid n base).drop n,saltb id kid base⟩
def zbf (salt:List Nat) (c:Nat):List Nat:=(List.range 12).map fun i=>(num c 12).getD i 0 ^^^ salt.getD i 0
def first (n:List Nat):List Nat:=n ++ List.replicate 4 0
def tagm (k:Ky) (n head m b:List Nat):List Nat:=num (head.length + m.length) 8 ++ num b.length 8 ++ num k.t 8 ++ n ++ head ++ m ++ b
def zha (k:Ky) (n head m b:List Nat):List Nat:=(hmac kc k.auth (tagm k n head m b)).take k.t
def zed (k:Ky) (c:Nat) (m p:List Nat):List Nat :=
 hdr k.kid c ++ ctr k.ws (first (zbf k.salt c)) p ++ zha k (zbf k.salt c) (hdr k.kid c) m (ctr k.ws (first (zbf k.salt c)) p)
inductive PO
 | err (e:Nat)
 | ok (p:List Nat) (c:Nat)
def zjL (k:Ky) (b m:List Nat):PO :=
 match parse b with
 | .err e=>.err e
 | .ok kid c n =>
  if kid ≠ k.kid then .err 10
  else if b.length < n + k.t then .err 3
  else if 1000 < b.length - n - k.t then .err 4
  else
   if zha k (zbf k.salt c) (b.take n) m ((b.drop n).take (b.length - n - k.t)) = b.drop (b.length - k.t) then .ok (ctr k.ws (first (zbf k.salt c)) ((b.drop n).take (b.length - n - k.t))) c
   else .err 8
theorem zl3 {ws:List (List Nat)} {f b:List Nat} {i:Nat} (h:i < b.length):(ctr ws f b).getD i 0 = b.getD i 0 ^^^ zoH ws f i:=by
 unfold ctr;rw [zcu h]
theorem zl5 {a b:List Nat} (h:a.length = b.length) (g:∀ i,i < a.length → a.getD i 0 = b.getD i 0):a = b:=by
 refine List.ext_getElem h fun i h1 h2=>?_;have:=g i h1;rw [List.getD_eq_getElem?_getD,List.getD_eq_getElem?_getD,List.getElem?_eq_getElem h1,List.getElem?_eq_getElem h2] at this;exact this
theorem zvp (ws:List (List Nat)) (f b:List Nat):ctr ws f (ctr ws f b) = b:=by
 refine zl5 (by rw [zfK,zfK]) fun i hi=>?_;rw [zfK,zfK] at hi;rw [zl3 (by rw [zfK]; exact hi),zl3 hi,Nat.xor_assoc,Nat.xor_self,Nat.xor_zero]
theorem zsY (ws:List (List Nat)) (f:List Nat) (hw:∀ w ∈ ws,Word w) (i:Nat):zoH ws f i < 256:=by
 unfold zoH;refine Ok8.getD ?_ _;unfold aes addk;refine Ok8.rmap fun j hj=>za6 (Ok8.getD (by unfold movd; exact Ok8.rmap fun _ _=>zqq _) j) (Ok8.getD ?_ _);rw [List.getD_eq_getElem?_getD];cases e:ws[4 * (ws.length / 4 - 1) + j / 4]? with
 | none=>exact Ok8.nil
 | some w=>exact (hw w (List.mem_of_getElem? e)).2
theorem zvq {ws:List (List Nat)} {f b:List Nat} (hw:∀ w ∈ ws,Word w) (h:Ok8 b):Ok8 (ctr ws f b):=Ok8.rmap fun i _=>za6 (h.getD i) (zsY _ _ hw i)
theorem zpd {k:Ky} (ht:k.t ≤ 32) (n head m b:List Nat):(zha k n head m b).length = k.t:=by
 unfold zha;rw [List.length_take,zc5];omega
theorem zmh (k:Ky) (n head m b:List Nat):Ok8 (zha k n head m b):=Ok8.take (zjX _ _ _) _
theorem zkc {k:Ky} (ht:k.t ≤ 32) (c:Nat) (m p:List Nat):(zed k c m p).length = (hdr k.kid c).length + p.length + k.t:=by
 unfold zed;rw [List.length_append,List.length_append,zfK,zpd ht]
theorem seal_8 {k:Ky} (hw:∀ w ∈ k.ws,Word w) {c:Nat} {m p:List Nat} (h:Ok8 p):Ok8 (zed k c m p):=((zu1 _ _).app (zvq hw h)).app (zmh _ _ _ _ _)
theorem zuc {k:Ky} (ht:k.t ≤ 32) (h1:k.kid < 18446744073709551616) {c:Nat} (h2:c < 18446744073709551616) {m p:List Nat} (hp:p.length ≤ 1000):zjL k (zed k c m p) m = .ok p c:=by
 have hl:=zkc ht c m p;have h0:parse (zed k c m p) = .ok k.kid c (hdr k.kid c).length:=by
  unfold zed;rw [List.append_assoc];exact zpt h1 h2 _
 unfold zjL;rw [h0];dsimp only;rw [if_neg (fun h=>h rfl),if_neg (by omega),if_neg (by omega)];have e1:(zed k c m p).take (hdr k.kid c).length = hdr k.kid c:=by
  unfold zed;rw [List.append_assoc,List.take_left]
 have e2:((zed k c m p).drop (hdr k.kid c).length).take ((zed k c m p).length - (hdr k.kid c).length - k.t) = ctr k.ws (first (zbf k.salt c)) p:=by
  rw [hl];unfold zed;rw [List.append_assoc,List.drop_left,List.take_left' (by rw [zfK]; omega)]
 have e3:(zed k c m p).drop ((zed k c m p).length - k.t) = zha k (zbf k.salt c) (hdr k.kid c) m (ctr k.ws (first (zbf k.salt c)) p):=by
  rw [hl];unfold zed;rw [List.drop_left' (by rw [List.length_append,zfK]; omega)]
 rw [e1,e2,e3,if_pos rfl,zvp]
end Go.Ax.SU
/- Su20 -/
namespace Go.Ax.SU
open Go.Ax
theorem zre {l:List Nat} (h8:Ok8 l) {i:Nat} (hi:i < l.length) (h:i < 8):(be (l.take i) * 256 % 18446744073709551616) ||| l.getD i 0 = be (l.take (i + 1)):=by
 have h1:=zf7 h8 (show i ≤ 7 by omega);rw [zbx hi,zrd,Nat.mod_eq_of_lt (by omega),or256 _ _ (getD_lt h8 i)]
theorem zu2 {lo:Nat} {H:Heap} {v:V} {l:List Nat} (hv:By lo H v l) (h8:Ok8 l) (hl:l.length ≤ 8):Ok (sem T zeh [v]) H fun r H'=>r = .int .u64 (be l:Nat) ∧ H' = H:=by
 refine zny ?_;unfold zkF uL uc uq ug;simp (disch:=omega) only [↓RD,RZ,hv.vlen];refine zaE (fun i L H'=>L = [.int .u64 (be (l.take i):Nat),.int .i64 (i:Nat)] ∧ H' = H) l.length ?_ ?_ ?_
 ·exact ⟨rfl,rfl⟩
 ·rintro i _ H' hi ⟨rfl,rfl⟩;obtain ⟨p,hp,hld,-⟩:=zfL hv (i:=(i:Nat)) (by omega) (by omega);have e1:=zre h8 hi (by omega);have b1:=zf7 h8 (show i ≤ 8 by omega);have b2:=getD_lt h8 i;simp only [Int.toNat_natCast] at hld;have e2:be (l.take i) * 256 % 18446744073709551616 < 18446744073709551616:=Nat.mod_lt _ (by decide);unfold zgo uL uB uIM uc uq ug;simp (disch:=omega) only [↓RD,RZ,eq_self,seval,hp,hld,Int.toNat_natCast,e1];rfl
 ·rintro _ H' ⟨rfl,rfl⟩;unfold zgo uL uB uIM uc uq ug;simp (disch:=omega) only [↓RD,RZ,List.take_length]
def nxt8 (v:Nat) (i:Nat):Nat:=v / 256 ^ (7 - i) % 256
def nxtS (x:List Nat) (v w i:Nat):List Nat:=(List.range 16).map fun j=>if j < 8 then (if j < i then nxt8 v j else x.getD j 0) else (if j - 8 < i then nxt8 w (j - 8) else x.getD j 0)
theorem zgH (x:List Nat) (v w i:Nat):(nxtS x v w i).length = 16:=by simp [nxtS]
theorem zur {x:List Nat} (h:x.length = 16) (v w:Nat):nxtS x v w 0 = x:=by
 refine zl5 (by rw [zgH,h]) fun i hi=>?_;rw [zgH] at hi;unfold nxtS;rw [zcu hi];split <;> rfl
theorem nxtS_all (x:List Nat) (v w:Nat):nxtS x v w 8 = (List.range 8).map (nxt8 v) ++ (List.range 8).map (nxt8 w):=rfl
theorem zus (x:List Nat) (v w:Nat) {i:Nat} (h:i < 8):((nxtS x v w i).set i (nxt8 v i)).set (8 + i) (nxt8 w i) = nxtS x v w (i + 1):=by
 refine zl5 (by simp [zgH]) fun j hj=>?_;simp only [List.length_set,zgH] at hj;rw [List.getD_eq_getElem?_getD,List.getElem?_set,List.getElem?_set];unfold nxtS;rw [zcu hj];simp only [List.length_set,List.length_map,List.length_range];by_cases e:8 + i = j
 ·subst e;rw [if_pos rfl,if_pos hj,if_neg (by omega),if_pos (by omega),show 8 + i - 8 = i by omega];rfl
 ·rw [if_neg e];by_cases e2:i = j
  ·subst e2;rw [if_pos rfl,if_pos hj,if_pos h,if_pos (by omega)];rfl
  ·rw [if_neg e2,List.getElem?_map,List.getElem?_range hj];show (if j < 8 then _ else _) = _;by_cases k:j < 8
   ·rw [if_pos k,if_pos k];by_cases k2:j < i
    ·rw [if_pos k2,if_pos (by omega)]
    ·rw [if_neg k2,if_neg (by omega)]
   ·rw [if_neg k,if_neg k];by_cases k2:j - 8 < i
    ·rw [if_pos k2,if_pos (by omega)]
    ·rw [if_neg k2,if_neg (by omega)]
theorem zkr {l:List Nat} {i y:Nat} (h:i < l.length):splice (l.map by8) i [by8 y] = (l.set i y).map by8:=by
 rw [zlq _ _ _ (by rw [List.length_map]; exact h),List.map_set]
theorem cint8 (n:Nat):IntKind.u8.wrap (n:Int) = ((n % 256:Nat):Int):=by rw [wrap_u8]; rfl
theorem Next_ok {H:Heap} {x:List Nat} {n:Nat} (hx:x.length = 16) (h8:Ok8 x) (hn:n < 18446744073709551616) :
  Ok (sem T zei [.agg (x.map by8),.int .u64 (n:Nat)]) H fun res H'=>res = .agg ((zdK x n).map by8) ∧ Grow H H':=by
 refine znz ?_;unfold zkG uL uS uT uB uO uc uq ug;refine zao (zaQ (zaY _) ?_);rw [zaj];have s1:=Grow.new H ⟨zaa,x.map by8,none⟩;have g1:(H.new ⟨zaa,x.map by8,none⟩).get H.next = some ⟨zaa,x.map by8,none⟩:=zab _ _;have n1:(H.new ⟨zaa,x.map by8,none⟩).next = H.next + 1:=zaf _ _;generalize ha:H.next = a at *;generalize H.new _ = H1 at *;refine zao (zaQ (by rfl) ?_);have s2:=Grow.new H1 ⟨zaa,[.int .u8 0,.int .u8 0,.int .u8 0,.int .u8 0,.int .u8 0,.int .u8 0,.int .u8 0,.int .u8 0,.int .u8 0,.int .u8 0,.int .u8 0,.int .u8 0,.int .u8 0,.int .u8 0,.int .u8 0,.int .u8 0],none⟩;have g2:(H1.new ⟨zaa,[.int .u8 0,.int .u8 0,.int .u8 0,.int .u8 0,.int .u8 0,.int .u8 0,.int .u8 0,.int .u8 0,.int .u8 0,.int .u8 0,.int .u8 0,.int .u8 0,.int .u8 0,.int .u8 0,.int .u8 0,.int .u8 0],none⟩).get H1.next = some ⟨zaa,[.int .u8 0,.int .u8 0,.int .u8 0,.int .u8 0,.int .u8 0,.int .u8 0,.int .u8 0,.int .u8 0,.int .u8 0,.int .u8 0,.int .u8 0,.int .u8 0,.int .u8 0,.int .u8 0,.int .u8 0,.int .u8 0],none⟩:=zab _ _;have n2:(H1.new ⟨zaa,[.int .u8 0,.int .u8 0,.int .u8 0,.int .u8 0,.int .u8 0,.int .u8 0,.int .u8 0,.int .u8 0,.int .u8 0,.int .u8 0,.int .u8 0,.int .u8 0,.int .u8 0,.int .u8 0,.int .u8 0,.int .u8 0],none⟩).next = H1.next + 1:=zaf _ _;have ga2:=(s2.same a (by omega)).trans g1;rw [zaj];generalize hb:H1.next = b at *;generalize H1.new _ = H2 at *;have c1:By 0 H2 (.sl a 0 8 (.fix 16)) (x.take 8):=by
  refine ⟨?_,fun i hi=>?_,show (8:Nat) ≤ _ by decide⟩
  ·simp only [zbn,ga2,Option.bind_some];rw [if_pos (by rw [List.length_map]; omega),List.drop_zero,List.map_take,List.length_take,Nat.min_eq_left (by omega)]
  ·simp only [V.pid,Option.some.injEq] at hi; omega
 have c2:By 0 H2 (.sl a 8 8 (.fix 8)) (x.drop 8):=by
  refine ⟨?_,fun i hi=>?_,show (8:Nat) ≤ _ by decide⟩
  ·simp only [zbn,ga2,Option.bind_some];rw [if_pos (by rw [List.length_map]; omega),List.map_drop,List.length_drop,List.take_of_length_le (by rw [List.length_drop,List.length_map]; omega),show x.length - 8 = 8 by omega]
  ·simp only [V.pid,Option.some.injEq] at hi; omega
 have d1:=@zbM _ _ _ _ (zu2 c1 (h8.take 8) (by rw [List.length_take]; omega));have d2:=@zbM _ _ _ _ (zu2 c2 (h8.drop 8) (by rw [List.length_drop]; omega));have v1:zaz (.arr 16) 1 (.ptr a 0) none (some (.int .i64 8)) none = some (.sl a 0 8 (.fix 16)):=rfl;have v2:zaz (.arr 16) 1 (.ptr a 0) (some (.int .i64 8)) none none = some (.sl a 8 8 (.fix 8)):=rfl;have l1:be (x.take 8) < 18446744073709551616:=zf7 h8 (n:=8) (by omega);have l2:be (x.drop 8) < 18446744073709551616:=by
  have:=zvF _ (h8.drop 8);rw [List.length_drop,hx] at this;exact this
 simp (disch:=omega) only [↓RD,RZ,v1,v2,d1,d2];have eW:IntKind.u64.wrap ((be (x.drop 8):Nat) + (n:Nat):Int) = (((be (x.drop 8) + n) % 18446744073709551616:Nat):Int):=by rw [wrap_u64]; rfl
 rw [eW];refine zas (Q:=fun r H'=>r = .nrm [.int .u64 ((be (x.take 8) + (if 18446744073709551616 ≤ be (x.drop 8) + n then 1 else 0)) % 18446744073709551616:Nat)] ∧ H' = H2) ?_ ?_
 ·refine zbw (fun h=>?_) (fun h=>?_)
  ·have hh:18446744073709551616 ≤ be (x.drop 8) + n:=by omega
   have ew:IntKind.u64.wrap ((be (x.take 8):Nat) + 1:Int) = (((be (x.take 8) + 1) % 18446744073709551616:Nat):Int):=by rw [wrap_u64]; rfl
   rw [if_pos hh];simp (disch:=omega) only [↓RD,RZ,ew]
  ·have hh:¬ 18446744073709551616 ≤ be (x.drop 8) + n:=by omega
   rw [if_neg hh,Nat.add_zero,Nat.mod_eq_of_lt l1];simp (disch:=omega) only [↓RD,RZ]
 rintro _ H2 ⟨rfl,rfl⟩;generalize hV:(be (x.take 8) + (if 18446744073709551616 ≤ be (x.drop 8) + n then 1 else 0)) % 18446744073709551616 = v;have v8:v < 18446744073709551616:=by rw [← hV]; exact Nat.mod_lt _ (by decide)
 generalize hW:(be (x.drop 8) + n) % 18446744073709551616 = w at *;have w8:w < 18446744073709551616:=by rw [← hW]; exact Nat.mod_lt _ (by decide)
 simp (disch:=omega) only [↓RD,RZ,eW];refine zas (Q:=fun z H'=>z = .ex 0 [] ∧ H'.get a = some ⟨zaa,(zdK x n).map by8,none⟩ ∧ At1 a H2 H') ?_ ?_
 ·refine zaE (fun i L H'=>L = [.int .i64 (i:Nat)] ∧ H'.get a = some ⟨zaa,(nxtS x v w i).map by8,none⟩ ∧ At1 a H2 H') 8 ?_ ?_ ?_
  ·exact ⟨rfl,by rw [zur hx]; exact ga2,At1.refl _ _⟩
  ·rintro i _ H3 hi ⟨rfl,g3,s3⟩;have e1:(8:Int) * ((i:Nat):Int) = ((8 * i:Nat):Int):=rfl;have e2:(56:Int) - ((8 * i:Nat):Int) = ((8 * (7 - i):Nat):Int):=by omega
   have e3:∀ u,shr u (8 * (7 - i)) = u / 256 ^ (7 - i):=fun u=>by rw [zfB,Nat.shiftRight_eq_div_pow,Nat.pow_mul]
   have e4:∀ u:Nat,IntKind.u8.wrap ((u / 256 ^ (7 - i):Nat):Int) = ((nxt8 u i:Nat):Int):=fun u=>cint8 _;have e5:(8:Int) + ((i:Nat):Int) = ((8 + i:Nat):Int):=rfl;have m1:=zkr (l:=nxtS x v w i) (i:=i) (y:=nxt8 v i) (by rw [zgH]; omega);have m2:=zkr (l:=(nxtS x v w i).set i (nxt8 v i)) (i:=8 + i) (y:=nxt8 w i) (by rw [List.length_set,zgH]; omega);have k1:((nxtS x v w i).map by8).length = 16:=by rw [List.length_map,zgH]
   have k2:(((nxtS x v w i).set i (nxt8 v i)).map by8).length = 16:=by rw [List.length_map,List.length_set,zgH]
   rw [zus _ _ _ hi] at m2;unfold zgp uL uT uB uI uc ug;replace m1:splice ((nxtS x v w i).map by8) i [.int .u8 (nxt8 v i:Nat)] = _:=m1;replace m2:splice (((nxtS x v w i).set i (nxt8 v i)).map by8) (8 + i) [.int .u8 (nxt8 w i:Nat)] = _:=m2;simp (disch:=omega) only [↓RD,RZ,e1,e2,e3,e4,e5,g3,m1,m2,k1,k2];exact ⟨by omega,by omega,rfl,s3.trans ((At1.set a _ _).trans (At1.set a _ _))⟩
  ·rintro _ H3 ⟨rfl,g3,s3⟩;unfold zgp uL uT uB uI uc ug;simp (disch:=omega) only [↓RD,RZ];refine ⟨?_,s3⟩;rw [g3,nxtS_all];unfold zdK;rw [hV,hW];rfl
 ·rintro _ H3 ⟨rfl,g3,s3⟩;have n3:=s3.next;have gb3:=(s3.same b (by omega) (by omega)).trans g2;have hl:(zdK x n).length = 16:=by simp [zdK]
  have l1:=ld16 hl;have l2:=sp16 hl (L:=[.int .u8 0,.int .u8 0,.int .u8 0,.int .u8 0,.int .u8 0,.int .u8 0,.int .u8 0,.int .u8 0,.int .u8 0,.int .u8 0,.int .u8 0,.int .u8 0,.int .u8 0,.int .u8 0,.int .u8 0,.int .u8 0]) rfl;have l3:=zfg hl;simp (disch:=omega) only [↓RD,RZ,eq_self,seval,g3,l1,gb3,zaY,zaj,l2,l3];exact ⟨by rw [zan]; omega,fun i hi=>by rw [zai _ _ (by omega),s3.same i (by omega) (by omega),s2.same i (by omega),s1.same i (by omega)]⟩
theorem zmH (x:List Nat) (n:Nat):(zdK x n).length = 16:=by simp [zdK]
theorem zuw (x:List Nat) (n:Nat):Ok8 (zdK x n):=(Ok8.rmap fun i _=>Nat.mod_lt _ (by decide)).app (Ok8.rmap fun i _=>Nat.mod_lt _ (by decide))
theorem zln (ws:List (List Nat)) (x:List Nat):(aes ws x).length = 16:=zc1 _ _ _
theorem aes_8 {ws:List (List Nat)} (hw:∀ w ∈ ws,Word w) (x:List Nat):Ok8 (aes ws x):=zqf hw (zjq _)
theorem zdN {α:Type} {c:V} {x y:M α} {H:Heap} {Q:α → Heap → Prop}:@OkI α c H ⟨x⟩ ⟨y⟩ ⟨Q⟩ = Ok (M.ite c x y) H Q:=rfl
theorem zp7 {H:Heap} {k n:Nat} {ws:List (List Nat)} {f:List Nat} {F:V → M Res} {Q:Res → Heap → Prop} (hA:Aes H k ws) (hf:f.length = 16) (f8:Ok8 f) (hwl:ws.length ≤ 1000) (hw4:ws.length % 4 = 0) (hw8:8 ≤ ws.length) (hn:n < 18446744073709551616)
  (h:∀ H',Grow H H' → Ok (F (.agg ((aes ws (zdK f n)).map by8))) H' Q):Ok ((sem T zei [.agg (f.map by8),.int .u64 (n:Nat)]).bind fun t43=>(sem T zcT [.ptr k 0,t43]).bind F) H Q:=by
 refine zag (Next_ok hf f8 hn) ?_;rintro _ H1 ⟨rfl,s1⟩;refine zag (Block_ok (hA.grow s1) (zmH _ _) (zuw _ _) hwl hw4 hw8) ?_;rintro _ H2 ⟨rfl,s2⟩;exact h _ (s1.trans s2)
theorem Crypt_ok {lo:Nat} {H:Heap} {k:Nat} {ws:List (List Nat)} {bv:V} {f l:List Nat} (hA:Aes H k ws) (hf:f.length = 16) (f8:Ok8 f) (hv:By lo H bv l) (h8:Ok8 l) (hwl:ws.length ≤ 1000) (hw4:ws.length % 4 = 0) (hw8:8 ≤ ws.length) (hl:l.length ≤ 1099511627776) :
  Ok (sem T zeI [.ptr k 0,.agg (f.map by8),.int .i64 0,bv]) H fun res H'=>∃ r,res = .tup [r,.int .i64 0] ∧ By H.next H' r (ctr ws f l) ∧ Grow H H':=by
 have hw:∀ w ∈ ws,Word w:=by obtain ⟨_,_,_,_,_,hw⟩:=hA; exact hw
 have cl:=zfK ws f l;refine zmw ?_;unfold zjv uL uB uG uH uO uc;refine zao (zaQ (zaY _) ?_);rw [zaj];have s1:=Grow.new H ⟨zaa,f.map by8,none⟩;have g1:(H.new ⟨zaa,f.map by8,none⟩).get H.next = some ⟨zaa,f.map by8,none⟩:=zab _ _;have n1:(H.new ⟨zaa,f.map by8,none⟩).next = H.next + 1:=zaf _ _;generalize ha:H.next = a at *;generalize H.new _ = H1 at *;simp (disch:=omega) only [↓RD,RZ,hv.vlen];refine ⟨⟨by omega,by omega,by omega,by omega⟩,?_⟩;rw [zrr,Int.toNat_natCast];have s2:=Grow.new H1 ⟨zad,List.replicate l.length (.int .u8 0),none⟩;have g2:(H1.new ⟨zad,List.replicate l.length (.int .u8 0),none⟩).get H1.next = some ⟨zad,List.replicate l.length (.int .u8 0),none⟩:=zab _ _;have n2:(H1.new ⟨zad,List.replicate l.length (.int .u8 0),none⟩).next = H1.next + 1:=zaf _ _;have ga2:=(s2.same a (by omega)).trans g1;generalize hb:H1.next = b at *;generalize H1.new _ = H2 at *;generalize hc:b + 1 = c at *;have s3:=Grow.new H2 ⟨zaa,[.int .u8 0,.int .u8 0,.int .u8 0,.int .u8 0,.int .u8 0,.int .u8 0,.int .u8 0,.int .u8 0,.int .u8 0,.int .u8 0,.int .u8 0,.int .u8 0,.int .u8 0,.int .u8 0,.int .u8 0,.int .u8 0],none⟩;have g3:(H2.new ⟨zaa,[.int .u8 0,.int .u8 0,.int .u8 0,.int .u8 0,.int .u8 0,.int .u8 0,.int .u8 0,.int .u8 0,.int .u8 0,.int .u8 0,.int .u8 0,.int .u8 0,.int .u8 0,.int .u8 0,.int .u8 0,.int .u8 0],none⟩).get H2.next = some ⟨zaa,(List.replicate 16 0).map by8,none⟩:=zab _ _;have n3:(H2.new ⟨zaa,[.int .u8 0,.int .u8 0,.int .u8 0,.int .u8 0,.int .u8 0,.int .u8 0,.int .u8 0,.int .u8 0,.int .u8 0,.int .u8 0,.int .u8 0,.int .u8 0,.int .u8 0,.int .u8 0,.int .u8 0,.int .u8 0],none⟩).next = H2.next + 1:=zaf _ _;have ga3:=(s3.same a (by omega)).trans ga2;have gb3:=(s3.same b (by omega)).trans g2;rw [n2] at g3 n3;generalize H2.new _ = H3 at *;have s03:Grow H H3:=(s1.trans s2).trans s3;have hv3:=hv.ext s03;refine zas (Q:=fun z H'=>z = .ex 0 [] ∧ H'.get b = some ⟨zad,(ctr ws f l).map by8,none⟩ ∧ Grow H H' ∧ c < H'.next) ?_ ?_
 ·refine zaE (fun i L H'=>L = [.int .i64 (i:Nat)] ∧ H'.get a = some ⟨zaa,f.map by8,none⟩ ∧ H'.get b = some ⟨zad,((ctr ws f l).take i).map by8 ++ List.replicate (l.length - i) (.int .u8 0),none⟩ ∧ H'.get c = some ⟨zaa,(if i = 0 then List.replicate 16 0 else aes ws (zdK f ((i - 1) / 16))).map by8,none⟩ ∧ Grow H H' ∧ c < H'.next) l.length ?_ ?_ ?_
  ·exact ⟨rfl,ga3,by simpa using gb3,g3,s03,by omega⟩
  ·rintro i _ H4 hi ⟨rfl,ga4,gb4,gc4,s4,n4⟩;have hv4:=hv.ext s4;generalize hy:(if i = 0 then List.replicate 16 0 else aes ws (zdK f ((i - 1) / 16))) = y at *;have yl:y.length = 16:=by rw [← hy]; split; exact List.length_replicate ..; exact zln _ _
   have e1:(((i:Nat):Int) % 16 == 0) = decide (i % 16 = 0):=by
    by_cases h:i % 16 = 0
    ·rw [decide_eq_true h,show ((i:Nat):Int) % 16 = 0 by omega]; rfl
    ·rw [decide_eq_false h];have:¬ ((i:Nat):Int) % 16 = 0:=by omega
     simpa using this
   have e2:(((i:Nat):Int) == 0) = decide (i = 0):=by
    by_cases h:i = 0
    ·rw [decide_eq_true h,h]; rfl
    ·rw [decide_eq_false h];have:¬ ((i:Nat):Int) = 0:=by omega
     simpa using this
   have l1:=ld16 hf;unfold zfI uL uS uT uB uI uIM uG uH uc ug;simp (disch:=omega) only [↓RD,RZ,e1,e2,Int.zero_add];rw [zaK];refine zas (α:=Res) (Q:=fun r H'=>r = .nrm [] ∧ ∃ H5,Grow H H5 ∧ c < H5.next ∧ H5.get a = H4.get a ∧ H5.get b = H4.get b ∧ H5.get c = some ⟨zaa,(aes ws (zdK f (i / 16))).map by8,none⟩ ∧ H' = H5.set b (some ⟨zad,((ctr ws f l).take (i + 1)).map by8 ++ List.replicate (l.length - (i + 1)) (.int .u8 0),none⟩)) ?_ ?_
   ·have rest:∀ H5,Grow H H5 → c < H5.next → H5.get a = H4.get a → H5.get b = H4.get b → H5.get c = some ⟨zaa,(aes ws (zdK f (i / 16))).map by8,none⟩ →
      Ok ((M.lift (Ax.iaddr none 1 bv (.int .i64 (i:Nat)))).bind fun t49 =>
       (mload none t49).bind fun t50 =>
       (M.lift (Ax.bin .add (.int .i64 0) (.int .i64 (i:Nat)))).bind fun t53 =>
       (M.lift (Ax.bin .rem t53 (V.int .i64 16))).bind fun t54 =>
       (M.lift (Ax.iaddr (some 16) 1 (.ptr c 0) t54)).bind fun t55 =>
       (mload none t55).bind fun t56 =>
       (M.lift (Ax.bin .xor t50 t56)).bind fun t57 =>
       (M.lift (Ax.iaddr none 1 (.sl b 0 l.length (.fix l.length)) (.int .i64 (i:Nat)))).bind fun t58 =>
       (mstore 1 t58 t57).bind fun _ =>
       M.pure (Res.nrm [])) H5 fun r H'=>r = Res.nrm [] ∧ H' = H5.set b (some ⟨zad,((ctr ws f l).take (i + 1)).map by8 ++ List.replicate (l.length - (i + 1)) (.int .u8 0),none⟩):=by
     intro H5 g5 m5 a5 b5 c5;have hv5:=hv.ext g5;obtain ⟨p,hp,hld,-⟩:=zfL hv5 (i:=(i:Nat)) (by omega) (by omega);simp only [Int.toNat_natCast] at hld;rw [gb4] at b5;have q1:=getD_lt h8 i;have hk:=aes_8 hw (zdK f (i / 16));have hkl:=zln ws (zdK f (i / 16));have q2:=bg (l:=aes ws (zdK f (i / 16))) (i:=i % 16) (by omega);have q3:=zfA q1 (hk.getD (i % 16));have q4:l.getD i 0 ^^^ (aes ws (zdK f (i / 16))).getD (i % 16) 0 = (ctr ws f l).getD i 0:=(zl3 hi).symm;rw [q4] at q3;have hl0:(((ctr ws f l).take i).map by8).length = i:=by rw [List.length_map,List.length_take]; omega
     have x0:=zaZ (z:=.int .u8 0) (x:=by8 ((ctr ws f l).getD i 0)) hl0 hi;have ml:(((ctr ws f l).take i).map by8 ++ List.replicate (l.length - i) (V.int .u8 0)).length = l.length:=by rw [List.length_append,hl0,List.length_replicate]; omega
     have ei:((i:Nat):Int) % 16 = ((i % 16:Nat):Int):=by omega
     have em:=Nat.mod_lt i (show 0 < 16 by decide);have et:((ctr ws f l).take i).map by8 ++ [by8 ((ctr ws f l).getD i 0)] = ((ctr ws f l).take (i + 1)).map by8:=by rw [zbx (by omega)]; simp
     rw [et] at x0;replace q3:Ax.bin .xor (.int .u8 (l.getD i 0:Nat)) (by8 ((aes ws (zdK f (i / 16))).getD (i % 16) 0)) = _:=q3;simp (disch:=omega) only [↓RD,RZ,hp,hld,Int.zero_add,ei,c5,q2,q3,b5,x0,ml,zcZ,zaP];omega
    have ln:=zln ws (zdK f (i / 16));have l2:=ld16 ln;have l3:=sp16 ln (L:=y.map by8) (by rw [List.length_map,yl]);have l4:=zfg ln;have e4:((i:Nat):Int) / 16 = ((i / 16:Nat):Int):=by omega
    have l5:(y.map by8).length = 16:=by rw [List.length_map,yl]
    by_cases h0:i = 0
    ·have e3:decide (i = 0) = true:=decide_eq_true h0;simp (disch:=omega) only [↓RD,RZ,e1,e2,e3,Int.zero_add,ga4,l1,e4];rw [zaK];refine zp7 (hA.grow s4) hf f8 hwl hw4 hw8 (by omega) fun H5 s5=>?_;have n5:=s5.next;have ga5:=s5.same a (by omega);have gb5:=s5.same b (by omega);have gc5:=(s5.same c (by omega)).trans gc4;simp (disch:=first | omega | (simp only [RY] <;> omega) | decide) only [↓RD,RZ,eq_self,Int.reduceToNat,Int.reduceAdd,Nat.reduceAdd,Nat.reduceSub,Nat.reduceMul,Nat.reduceLeDiff,gc5,zaY,zaj,l3,l4,l5];rw [zaK];refine zas (rest (H5.set c (some ⟨zaa,(aes ws (zdK f (i / 16))).map by8,none⟩)) ((s4.trans s5).set (by omega) _) (by rw [zan]; omega) (by rw [zai _ _ (by omega)]; exact ga5) (by rw [zai _ _ (by omega)]; exact gb5) (zal _ _ _)) ?_;rintro _ _ ⟨rfl,rfl⟩;exact ⟨rfl,_,(s4.trans s5).set (by omega) _,by rw [zan]; omega,by rw [zai _ _ (by omega)]; exact ga5,by rw [zai _ _ (by omega)]; exact gb5,zal _ _ _,rfl⟩
    ·have e3:decide (i = 0) = false:=decide_eq_false h0;simp (disch:=omega) only [↓RD,RZ,e1,e2,e3,Int.zero_add];rw [zdN];refine zbw (fun h=>?_) (fun h=>?_)
     ·simp (disch:=omega) only [↓RD,RZ,ga4,l1,e4,Int.zero_add];rw [zaK];refine zp7 (hA.grow s4) hf f8 hwl hw4 hw8 (by omega) fun H5 s5=>?_;have n5:=s5.next;have ga5:=s5.same a (by omega);have gb5:=s5.same b (by omega);have gc5:=(s5.same c (by omega)).trans gc4;simp (disch:=first | omega | (simp only [RY] <;> omega) | decide) only [↓RD,RZ,eq_self,Int.reduceToNat,Int.reduceAdd,Nat.reduceAdd,Nat.reduceSub,Nat.reduceMul,Nat.reduceLeDiff,gc5,zaY,zaj,l3,l4,l5];rw [zaK];refine zas (rest (H5.set c (some ⟨zaa,(aes ws (zdK f (i / 16))).map by8,none⟩)) ((s4.trans s5).set (by omega) _) (by rw [zan]; omega) (by rw [zai _ _ (by omega)]; exact ga5) (by rw [zai _ _ (by omega)]; exact gb5) (zal _ _ _)) ?_;rintro _ _ ⟨rfl,rfl⟩;exact ⟨rfl,_,(s4.trans s5).set (by omega) _,by rw [zan]; omega,by rw [zai _ _ (by omega)]; exact ga5,by rw [zai _ _ (by omega)]; exact gb5,zal _ _ _,rfl⟩
     ·have ey:y = aes ws (zdK f (i / 16)):=by rw [← hy,if_neg h0,show (i - 1) / 16 = i / 16 by omega]
      rw [ey] at gc4;simp (disch:=omega) only [↓RD,RZ];rw [zaK];refine zas (rest H4 s4 n4 rfl rfl gc4) ?_;rintro _ _ ⟨rfl,rfl⟩;exact ⟨rfl,_,s4,n4,rfl,rfl,gc4,rfl⟩
   ·rintro _ _ ⟨rfl,H5,s5,n5,ga5,gb5,gc5,rfl⟩;simp (disch:=omega) only [↓RD,RZ];refine ⟨rfl,ga5.trans ga4,?_,s5.set (by omega) _,n5⟩;rw [gc5,if_neg (by omega),show i + 1 - 1 = i by omega]
  ·rintro _ H4 ⟨rfl,ga4,gb4,gc4,s4,n4⟩;unfold zfI uL uS uT uB uI uIM uG uH uc ug;simp (disch:=omega) only [↓RD,RZ];refine ⟨?_,s4,n4⟩;rw [gb4,List.take_of_length_le (by omega)]; simp
 ·rintro _ H4 ⟨rfl,gb4,s4,n4⟩;simp (disch:=omega) only [↓RD,RZ];refine ⟨_,rfl,?_,s4⟩;exact ze5 gb4 cl (by omega) (by omega)
end Go.Ax.SU
/- Su21 -/
namespace Go.Ax.SU
open Go.Ax
theorem App.same {ty e lo n:Nat} {H H':Heap} {v:V} {cells:List V} (h:App ty e lo H v cells n) (hn:H.next ≤ H'.next) (hs:∀ i,v.pid = some i → H'.get i = H.get i):App ty e lo H' v cells n:=by
 cases h with
 | opn h ho=>exact .opn (h.to hs) fun i hi=>⟨(ho i hi).1,Nat.lt_of_lt_of_le (ho i hi).2 hn⟩
 | lit h h0 h1=>exact .lit (by rw [hs _ rfl,h]) h0 (Nat.lt_of_lt_of_le h1 hn)
def Kst (H:Heap) (k:Nat) (w:V) (ws:List (List Nat)):Prop:=H.get k = some ⟨zaT,tabC true ++ [w],none⟩ ∧ App zav 4 (k + 1) H w (ws.flatten.map by8) ws.length ∧ k < H.next
theorem ztM (wv x:V):splice (tabC true ++ [wv]) 259 [x] = tabC true ++ [x]:=by
 have e:(tabC true).length = 259:=by unfold tabC; simp only [List.length_cons,List.length_map,zeC]
 unfold splice;rw [List.take_append_of_le_length (by omega),List.take_of_length_le (by omega),List.drop_of_length_le (by rw [List.length_append,e]; exact Nat.le_refl _),List.append_nil]
theorem len260 (wv:V):(tabC true ++ [wv]).length = 260:=by
 have e:(tabC true).length = 259:=by unfold tabC; simp only [List.length_cons,List.length_map,zeC]
 rw [List.length_append,e]; rfl
theorem _root_.Go.Ax.Lc.same {e lo n:Nat} {H H':Heap} {v:V} {cells:List V} (h:Lc e lo H v cells n) (hn:H.next ≤ H'.next) (hs:∀ i,v.pid = some i → H'.get i = H.get i):Lc e lo H' v cells n :=
 ⟨by rw [zhb hs]; exact h.rc,fun i hi=>⟨(h.own i hi).1,Nat.lt_of_lt_of_le (h.own i hi).2 hn⟩,h.cap⟩
theorem Kst.expl {H:Heap} {k:Nat} {w:V} {ws:List (List Nat)} (h:Kst H k w ws) (h0:0 < ws.length):∃ id,w = .sl id 0 ws.length (.opn 4) ∧ H.get id = some ⟨zav,ws.flatten.map by8,some 4⟩ ∧ k < id ∧ id < H.next:=by
 obtain ⟨h1,h2,h3⟩:=h;cases hn:ws.length with
 | zero=>omega
 | succ n =>
  rw [hn] at h2;generalize ws.flatten.map by8 = cs at *;cases h2 with
  | opn h ho =>
   rcases h with ⟨_,_,h⟩ | ⟨id,rfl,hg,hl⟩
   ·omega
   ·exact ⟨id,rfl,hg,(ho id rfl).1,(ho id rfl).2⟩
theorem kpush {H:Heap} {k:Nat} {w:V} {ws:List (List Nat)} {a b c d:Nat} {F:V → M Res} {Q:Res → Heap → Prop} (hk:Kst H k w ws) (hl:ws.length ≤ 1000)
  (h:∀ w' H',Kst H' k w' (ws ++ [[a,b,c,d]]) → Bel k H H' → Ok (F .undef) H' Q) :
  Ok ((mappend zav 4 4 w (.sl H.next 0 1 (.fix 1))).bind fun t45 =>
   (M.lift (Ax.nilck (.ptr k 0))).bind fun t46 =>
   (M.lift (Ax.faddr 259 t46)).bind fun t47 =>
   (mstore 1 t47 t45).bind F) (H.new ⟨zav,[by8 a,by8 b,by8 c,by8 d],none⟩) Q:=by
 obtain ⟨h1,h2,h3⟩:=hk;have s1:=Grow.new H ⟨zav,[by8 a,by8 b,by8 c,by8 d],none⟩;have n1:(H.new ⟨zav,[by8 a,by8 b,by8 c,by8 d],none⟩).next = H.next + 1:=zaf _ _;have g1:=(s1.same k h3).trans h1;have ac:zea 4 (H.new ⟨zav,[by8 a,by8 b,by8 c,by8 d],none⟩) (.sl H.next 0 1 (.fix 1)) = some ([by8 a,by8 b,by8 c,by8 d],1):=zbZ rfl;have h2':App zav 4 (k + 1) (H.new ⟨zav,[by8 a,by8 b,by8 c,by8 d],none⟩) w (ws.flatten.map by8) ws.length:=App.keep h2 (s1.keep _);generalize hid:H.next = id at *;generalize H.new _ = H1 at *;refine zir h2' (by omega) ac rfl (by omega) (by omega) fun w' H2 a2 st=>?_;have n2:=st.next;have hpw:∀ i,i ∈ w.pid.toList → k + 1 ≤ i:=fun i hi=>(h2'.lc.own i (by simpa [zeF] using hi)).1;have b2:Bel (k + 1) H1 H2:=⟨st.next,fun i hi=>by
  by_cases hin:i < H1.next
  ·exact st.same i hin fun e=>by have:=hpw i e; omega
  ·omega⟩
 have g2:H2.get k = _:=(b2.same k (by omega)).trans g1;have sp:=ztM w w';have ln:=len260 w;simp (disch:=omega) only [↓RD,RZ,eq_self,seval,g2,sp,ln,a2.lc.cells1,a2.lc.okc];refine h w' _ ⟨zal _ _ _,?_,by rw [zan]; omega⟩ ⟨by rw [zan]; omega,fun i hi=>?_⟩
 ·have:(ws ++ [[a,b,c,d]]).flatten.map by8 = ws.flatten.map by8 ++ [by8 a,by8 b,by8 c,by8 d]:=by simp
  rw [this,List.length_append];refine App.same a2 (by rw [zan]; exact Nat.le_refl _) fun i hi=>zai _ _ ?_;have:=(a2.lc.own i hi).1;omega
 ·rw [zai _ _ (by omega),b2.same i (by omega),s1.same i (by omega)]
theorem s2a_ok {lo:Nat} {H:Heap} {v:V} {l:List Nat} (hv:By lo H v l) (hl:4 ≤ l.length):∃ p,op1 (.s2a 4) v = some p ∧ LdR (some 4) H p (.agg ((l.take 4).map by8)):=by
 have hlen:=hv.len;rw [List.length_map,Nat.mul_one] at hlen;rcases hv.cases with ⟨_,_,hn⟩ | ⟨id,off,cap,b,rfl,hb,hle,hc⟩ | ⟨cs,rfl,hle,hc⟩
 ·omega
 ·refine ⟨.ptr id off,by simp only [op1]; rw [if_pos ⟨hl,by decide⟩],?_⟩;have h1:=(pl_ptr (H:=H) (off:=off) (m:=4) hb (by omega)).all;have e:(b.cells.drop off).take 4 = (l.take 4).map by8:=by
   rw [List.map_take,hc,List.take_take,Nat.mul_one,Nat.min_eq_left hl]
  rw [e,List.length_map,List.length_take,Nat.min_eq_left hl] at h1;exact h1
 ·refine ⟨.rp cs 0,by simp only [op1]; rw [if_pos ⟨hl,by decide⟩],?_⟩;have h1:=(pl_rp (H:=H) (cs:=cs) (off:=0) (m:=4) (by omega)).all;have e:(cs.drop 0).take 4 = (l.take 4).map by8:=by
   rw [List.map_take,hc,List.take_take,List.drop_zero,Nat.mul_one,Nat.min_eq_left hl]
  rw [e,List.length_map,List.length_take,Nat.min_eq_left hl] at h1;exact h1
theorem four {l:List Nat} (h:l.length = 4):∃ a b c d,l = [a,b,c,d]:=by
 match l,h with
 | [a,b,c,d],_=>exact ⟨a,b,c,d,rfl⟩
def xw (s p:List Nat):List Nat:=(List.range 4).map fun j=>s.getD j 0 ^^^ p.getD j 0
theorem znN (s p:List Nat):(xw s p).length = 4:=by simp [xw]
theorem zoG (b:List Nat) (n i:Nat):kw b n (i + 1) = kw b n i ++ [if i < n then (b.drop (4 * i)).take 4 else xw (zjV n i ((kw b n i).getD (i - 1) [])) ((kw b n i).getD (i - n) [])]:=rfl
theorem New_1_ok {H:Heap} {k q id i j:Nat} {ws:List (List Nat)} {s:List Nat} {u2 u3 u8:V} (hw:∀ w ∈ ws,Word w) (hs:Word s) (hgk:H.get k = some ⟨zaT,tabC true ++ [.sl id 0 ws.length (.opn 4)],none⟩) (hgi:H.get id = some ⟨zav,ws.flatten.map by8,some 4⟩)
  (hq:H.get q = some ⟨zav,s.map by8,none⟩) (hqk:q ≠ k) (hqi:q ≠ id) (hkl:k < H.next) (hil:id < H.next) (hj:j ≤ i) (hi:i ≤ ws.length) (hj0:0 < j) (hwl:ws.length ≤ 1000) :
  Ok (M.iter (zf6 (sem T) (.ptr k 0) (.int .i64 (i:Nat)) (.int .i64 (j:Nat)) (.ptr q 0) u2 u3 u8) [.int .i64 0]) H fun z H'=>z = .ex 5 [] ∧ H'.get q = some ⟨zav,(xw s (ws.getD (i - j) [])).map by8,none⟩ ∧ At1 q H H':=by
 refine zaE (fun m L H'=>L = [.int .i64 (m:Nat)] ∧ H'.get q = some ⟨zav,((xw s (ws.getD (i - j) [])).take m ++ s.drop m).map by8,none⟩ ∧ At1 q H H') 4 ?_ ?_ ?_
 ·exact ⟨rfl,by simpa using hq,At1.refl _ _⟩
 ·rintro m _ H3 hm ⟨rfl,g3,s3⟩;have sl:=hs.1;have gk3:=(s3.same k hkl (by omega)).trans hgk;have gi3:=(s3.same id hil (by omega)).trans hgi;have hA':(((xw s (ws.getD (i - j) [])).take m).map by8).length = m:=by rw [List.length_map,List.length_take,znN]; omega
  rw [znO (by omega)] at g3;have m1:=ziF (b:=by8 (s.getD m 0)) (C:=(s.drop (m + 1)).map by8) hA';have m2:=ziE (b:=by8 (s.getD m 0)) (y:=by8 ((xw s (ws.getD (i - j) [])).getD m 0)) (C:=(s.drop (m + 1)).map by8) hA';have ml:(((xw s (ws.getD (i - j) [])).take m).map by8 ++ by8 (s.getD m 0) :: (s.drop (m + 1)).map by8).length = 4:=by rw [List.length_append,hA',List.length_cons,List.length_map,List.length_drop]; omega
  have ek:=zpQ (.sl id 0 ws.length (.opn 4));have e1:((i:Nat):Int) - ((j:Nat):Int) = ((i - j:Nat):Int):=by omega
  have wb:=zo6 hw (j:=i - j) (m:=m) (by omega) hm;have ex:=zfA (hs.2.getD m) (zrt hw (i - j) m);have ea:s.getD m 0 ^^^ (ws.getD (i - j) []).getD m 0 = (xw s (ws.getD (i - j) [])).getD m 0:=by unfold xw; rw [zcu hm]
  rw [ea] at ex;unfold zf6 uT uNFM uB uI uIM uc ug;simp (disch:=omega) only [↓RD,RZ,g3,m1,gk3,ek,e1,gi3,wb,ex,m2,ml,zcZ,zaP];refine ⟨by omega,rfl,?_,s3.trans (At1.set q _ _)⟩;rw [zkY (by rw [znN]; omega)]
 ·rintro _ H3 ⟨rfl,g3,s3⟩;have sl:=hs.1;unfold zf6 uT uNFM uB uI uIM uc ug;simp (disch:=omega) only [↓RD,RZ];refine ⟨?_,s3⟩;rw [g3,List.take_of_length_le (by rw [znN]; omega),List.drop_of_length_le (by omega),List.append_nil]
theorem New_rest {lo:Nat} {H:Heap} {k n:Nat} {v:V} {l:List Nat} (hv:By lo H v l) (h8:Ok8 l) (hn:n = 4 ∨ n = 8) (hl:l.length = 4 * n) (hvk:∀ i,v.pid = some i → i < k) (hk:H.get k = some ⟨zaT,tabC true ++ [.nils],none⟩) (hkl:k < H.next) :
  Ok (M.blk 0 (M.iter (zeT (sem T) (.int .i64 (n:Nat)) (.ptr k 0) v .nilp (.int .i64 0)) [.int .i64 0]) fun _ =>
   M.blk 2 (M.iter (zeS (sem T) (.ptr k 3) (.int .i64 (n:Nat)) (.ptr k 0) .nilp (.int .i64 0)) [.int .u8 1,.int .i64 (n:Nat)]) fun _ =>
   M.pure (.ret [.ptr k 0,.int .i64 0])) H fun r H'=>r = .ret [.ptr k 0,.int .i64 0] ∧ Aes H' k (kw l n (4 * (n + 7))) ∧ Bel k H H':=by
 have hn0:0 < n:=by omega
 have hwd:∀ i,∀ w ∈ kw l n i,Word w:=fun i=>zjU hn0 h8 hl i;simp (disch:=omega) only [↓RD,RZ];refine zas (Q:=fun z H'=>z = .ex 0 [] ∧ ∃ w,Kst H' k w (kw l n n) ∧ Bel k H H') ?_ ?_
 ·refine zaE (fun i L H'=>L = [.int .i64 (i:Nat)] ∧ ∃ w,Kst H' k w (kw l n i) ∧ Bel k H H') n ?_ ?_ ?_
  ·exact ⟨rfl,.nils,⟨hk,App.nil,hkl⟩,Bel.refl _ _⟩
  ·rintro i _ H1 hi ⟨rfl,w,hw,b1⟩;have hv1:By lo H1 v l:=hv.same b1.next fun j hj=>b1.same j (hvk j hj);obtain ⟨v',-,-,hs,hv',-⟩:=zbl hv1 (x:=((4 * i:Nat):Int)) (y:=(l.length:Nat)) (by omega) (by omega) (by omega);have hs:=hs rfl (k:=.i64);rw [Int.toNat_natCast,Int.toNat_natCast,List.take_of_length_le (by rw [List.length_drop]; omega)] at hv';obtain ⟨p,hp,hld⟩:=s2a_ok hv' (by rw [List.length_drop]; omega);obtain ⟨a,b,c,d,e4⟩:=four (l:=(l.drop (4 * i)).take 4) (by rw [List.length_take,List.length_drop]; omega);rw [e4] at hld;replace hld:LdR (some 4) H1 p (.agg [by8 a,by8 b,by8 c,by8 d]):=hld;have e1:(4:Int) * ((i:Nat):Int) = ((4 * i:Nat):Int):=rfl;have ek:=zpQ w;have g1:=hw.1;unfold zeT uL uS uT uNFM uNF uB uc ub ug;simp (disch:=first | omega | (simp only [RY] <;> omega) | decide) only [↓RD,RZ,eq_self,Int.reduceToNat,Int.reduceAdd,Nat.reduceAdd,Nat.reduceSub,Nat.reduceMul,Nat.reduceLeDiff,g1,ek,e1,hs,hp,hld];rw [zaK];refine kpush hw (by rw [zhj]; omega) fun w' H2 hw' b2=>?_;simp (disch:=omega) only [↓RD,RZ];refine ⟨rfl,w',?_,b1.trans b2⟩;rw [zoG,if_pos hi,e4];exact hw'
  ·rintro _ H1 ⟨rfl,w,hw,b1⟩;unfold zeT uL uS uT uNFM uNF uB uc ub ug;simp (disch:=omega) only [↓RD,RZ];exact ⟨w,hw,b1⟩
 ·rintro _ H1 ⟨rfl,w,hw,b1⟩;simp (disch:=omega) only [↓RD,RZ];refine zas (Q:=fun z H'=>z = .ex 2 [] ∧ ∃ w,Kst H' k w (kw l n (4 * (n + 7))) ∧ Bel k H H') ?_ ?_
  ·refine zaE (fun j L H'=>L = [by8 (rcon ((n + j - 1) / n)),.int .i64 ((n + j:Nat):Int)] ∧ ∃ w,Kst H' k w (kw l n (n + j)) ∧ Bel k H H') (4 * (n + 7) - n) ?_ ?_ ?_
   ·refine ⟨?_,w,hw,b1⟩;rw [Nat.add_zero,Nat.div_eq_of_lt (by omega)]; rfl
   ·rintro j _ H2 hj ⟨rfl,w2,hw2,b2⟩;obtain ⟨i,hi⟩:∃ i,n + j = i:=⟨_,rfl⟩;rw [show n + (j + 1) = i + 1 by omega];rw [hi] at hw2 ⊢;have e1:(((n:Nat):Int) + 6 + 1) * 4 = ((4 * (n + 7):Nat):Int):=by omega
    have e1':(4:Int) * (((n:Nat):Int) + 6 + 1) = ((4 * (n + 7):Nat):Int):=by omega
    have e2:((i:Nat):Int) - 1 = ((i - 1:Nat):Int):=by omega
    have hwl:=zhj l n i;obtain ⟨id,hwe,gi2,hid,hid2⟩:=hw2.expl (by omega);rw [hwl] at hwe;subst hwe;have ek:=zpQ (.sl id 0 i (.opn 4));have g2:=hw2.1;have hil:i < 4 * (n + 7):=by omega
    obtain ⟨sw,hsw⟩:∃ sw,(kw l n i).getD (i - 1) [] = sw:=⟨_,rfl⟩;have hsm:(kw l n i)[i - 1]? = some sw:=by rw [← hsw,List.getD_eq_getElem?_getD,List.getElem?_eq_getElem (by omega)]; rfl
    have hsW:Word sw:=hwd i sw (List.mem_of_getElem? hsm);obtain ⟨a,b,c,d,e4⟩:=four hsW.1;have hld:ldc (some 4) ((kw l n i).flatten.map by8) (4 * (i - 1)) = some (.agg [by8 a,by8 b,by8 c,by8 d]):=by
     rw [List.map_flatten];have:=ldc_flat (es:=(kw l n i).map (List.map by8)) (k:=4) (i:=i - 1) (x:=sw.map by8) (fun x hx=>by
      obtain ⟨y,hy,rfl⟩:=List.mem_map.1 hx;rw [List.length_map]; exact (hwd i y hy).1) (by rw [List.getElem?_map,hsm]; rfl)
     rw [Nat.mul_comm,this,e4]; rfl
    have hld':=hld;rw [Nat.mul_comm] at hld';unfold zeS uL uS uT uNFM uNF uN uB uI uIM uG uH uO uc ug;simp (disch:=first | omega | (simp only [RY] <;> omega) | decide) only [↓RD,RZ,eq_self,Int.reduceToNat,Int.reduceAdd,Nat.reduceAdd,Nat.reduceSub,Nat.reduceMul,Nat.reduceLeDiff,e1,e1',e2,g2,ek,gi2,hld,hld'];have s3:At1 H2.next H2 ((H2.new ⟨zav,[.int .u8 0,.int .u8 0,.int .u8 0,.int .u8 0],none⟩).set H2.next (some ⟨zav,[by8 a,by8 b,by8 c,by8 d],none⟩)):=((Grow.new _ _).at1 _).trans (At1.set _ _ _);have gq3:((H2.new ⟨zav,[.int .u8 0,.int .u8 0,.int .u8 0,.int .u8 0],none⟩).set H2.next (some ⟨zav,[by8 a,by8 b,by8 c,by8 d],none⟩)).get H2.next = _:=zal _ _ _;have n3:((H2.new ⟨zav,[.int .u8 0,.int .u8 0,.int .u8 0,.int .u8 0],none⟩).set H2.next (some ⟨zav,[by8 a,by8 b,by8 c,by8 d],none⟩)).next = H2.next + 1:=rfl;generalize hq:H2.next = q at *;generalize Heap.set _ q _ = H3 at *;have gk3:=(s3.same k (by omega) (by omega)).trans g2;have gi3:=(s3.same id (by omega) (by omega)).trans gi2;have eb:(((i:Nat):Int) % ((n:Nat):Int) == 0) = decide (i % n = 0):=by
     by_cases h:i % n = 0
     ·rw [decide_eq_true h,show ((i:Nat):Int) % ((n:Nat):Int) = ((i % n:Nat):Int) from rfl,h]; rfl
     ·rw [decide_eq_false h,show ((i:Nat):Int) % ((n:Nat):Int) = ((i % n:Nat):Int) from rfl];have:¬ ((i % n:Nat):Int) = 0:=by omega
      simpa using this
    have eb4:(((i:Nat):Int) % ((n:Nat):Int) == 4) = decide (i % n = 4):=by
     by_cases h:i % n = 4
     ·rw [decide_eq_true h,show ((i:Nat):Int) % ((n:Nat):Int) = ((i % n:Nat):Int) from rfl,h]; rfl
     ·rw [decide_eq_false h,show ((i:Nat):Int) % ((n:Nat):Int) = ((i % n:Nat):Int) from rfl];have:¬ ((i % n:Nat):Int) = 4:=by omega
      simpa using this
    have tb:∀ m,m < 256 → (tabC true ++ [V.sl id 0 i (.opn 4)])[3 + m]? = some (by8 (sb m)):=fun m h=>tab_at h;have ia:∀ m,m < 256 → Ax.iaddr (some 256) 1 (.ptr k 3) (by8 m) = some (.ptr k (3 + m)):=fun m h=>zll h;have s8:Ok8 [a,b,c,d]:=e4 ▸ hsW.2;have a8:a < 256:=s8 a (by simp);have b8:b < 256:=s8 b (by simp);have c8:c < 256:=s8 c (by simp);have d8:d < 256:=s8 d (by simp);have tw:=zog (zmo ((i - 1) / n));have xr:=zfA (zqq b) (zmo ((i - 1) / n));rw [eb,zdN];refine zas (Q:=fun r H'=>r = .nrm [by8 (rcon (i / n))] ∧ H'.get q = some ⟨zav,(zjV n i sw).map by8,none⟩ ∧ At1 q H3 H') ?_ ?_
    ·refine zbw (fun h=>?_) (fun h=>?_)
     ·simp (disch:=first | omega | (simp only [RY] <;> omega) | decide) only [↓RD,RZ,eq_self,Int.reduceToNat,Int.reduceAdd,Nat.reduceAdd,Nat.reduceSub,Nat.reduceMul,Nat.reduceLeDiff,gq3,gk3,tb _ a8,tb _ b8,tb _ c8,tb _ d8,ia _ a8,ia _ b8,ia _ c8,ia _ d8,xr,tw,zcZ,zaP,zaj];have er:(i - 1) / n + 1 = i / n:=by rcases hn with rfl | rfl <;> omega
      have er':i / n - 1 = (i - 1) / n:=by rcases hn with rfl | rfl <;> omega
      refine ⟨by rw [← er]; rfl,?_,At1.set q _ _⟩;unfold zjV;rw [if_pos h,e4,er'];rfl
     ·have er:(i - 1) / n = i / n:=by rcases hn with rfl | rfl <;> omega
      have e8:[a,b,c,d].map by8 = [by8 a,by8 b,by8 c,by8 d]:=rfl;rcases hn with hn4 | hn8
      ·have e6:decide ((6:Int) < ((n:Nat):Int)) = false:=by rw [hn4]; rfl
       simp (disch:=omega) only [↓RD,RZ,e6];refine ⟨by rw [er],?_,At1.refl _ _⟩;unfold zjV;rw [if_neg h,if_neg (fun hh=>by have:=hh.1; omega),e4,e8];exact gq3
      ·have e6:decide ((6:Int) < ((n:Nat):Int)) = true:=by rw [hn8]; rfl
       simp (disch:=omega) only [↓RD,RZ,e6,eb4];rw [zdN];refine zbw (fun h4=>?_) (fun h4=>?_)
       ·simp (disch:=first | omega | (simp only [RY] <;> omega) | decide) only [↓RD,RZ,eq_self,Int.reduceToNat,Int.reduceAdd,Nat.reduceAdd,Nat.reduceSub,Nat.reduceMul,Nat.reduceLeDiff,gq3,gk3,tb _ a8,tb _ b8,tb _ c8,tb _ d8,ia _ a8,ia _ b8,ia _ c8,ia _ d8,zcZ,zaP,zaj];refine ⟨by rw [er],?_,At1.set q _ _⟩;unfold zjV;rw [if_neg h,if_pos ⟨by omega,h4⟩,e4];rfl
       ·simp (disch:=omega) only [↓RD,RZ];refine ⟨by rw [er],?_,At1.refl _ _⟩;unfold zjV;rw [if_neg h,if_neg (fun hh=>h4 hh.2),e4,e8];exact gq3
    ·rintro _ H4 ⟨rfl,gq4,s4⟩;have n4:=s4.next;simp (disch:=omega) only [↓RD,RZ];have s24:=s3.trans s4;have gk4:=(s24.same k (by omega) (by omega)).trans g2;have gi4:=(s24.same id (by omega) (by omega)).trans gi2;have hkw:(kw l n i).length = i:=zhj _ _ _;refine zas (New_1_ok (k:=k) (q:=q) (id:=id) (i:=i) (j:=n) (hwd i) (zla hsW) (by rw [hkw]; exact gk4) gi4 gq4 (by omega) (by omega) (by omega) (by omega) (by omega) (by omega) (by omega) (by omega)) ?_;rintro _ H5 ⟨rfl,gq5,s5⟩;have n5:=s5.next;have s25:=s24.trans s5;have gk5:=(s25.same k (by omega) (by omega)).trans g2;obtain ⟨x0,x1,x2,x3,ex⟩:=four (znN (zjV n i sw) ((kw l n i).getD (i - n) []));rw [ex] at gq5;have lq:ldc (some 4) ([x0,x1,x2,x3].map by8) 0 = some (.agg [by8 x0,by8 x1,by8 x2,by8 x3]):=rfl;have hK5:Kst H5 k (.sl id 0 i (.opn 4)) (kw l n i):=⟨gk5,App.same hw2.2.1 (by omega) fun m hm=>by
      simp only [V.pid,Option.some.injEq] at hm;exact s25.same m (by omega) (by omega),by omega⟩
     simp (disch:=first | omega | (simp only [RY] <;> omega) | decide) only [↓RD,RZ,eq_self,Int.reduceToNat,Int.reduceAdd,Nat.reduceAdd,Nat.reduceSub,Nat.reduceMul,Nat.reduceLeDiff,gk5,ek,gq5,lq];rw [zaK];refine kpush hK5 (by rw [zhj]; omega) fun w' H6 hw6 b6=>?_;simp (disch:=omega) only [↓RD,RZ];refine ⟨?_,w',?_,b2.trans (Bel.trans ⟨by omega,fun m hm=>s25.same m (by omega) (by omega)⟩ b6)⟩
     ·rw [show i + 1 - 1 = i by omega]; rfl
     ·rw [zoG,if_neg (by omega),hsw,ex];exact hw6
   ·rintro _ H2 ⟨rfl,w2,hw2,b2⟩;have e1:(4:Int) * (((n:Nat):Int) + 6 + 1) = ((4 * (n + 7):Nat):Int):=by omega
    unfold zeS uL uS uT uNFM uNF uN uB uI uIM uG uH uO uc ug;simp (disch:=omega) only [↓RD,RZ,e1];exact ⟨w2,by rw [show 4 * (n + 7) = n + (4 * (n + 7) - n) by omega]; exact hw2,b2⟩
  ·rintro _ H2 ⟨rfl,w2,hw2,b2⟩;obtain ⟨id,rfl,g1,h1,h2⟩:=hw2.expl (by rw [zhj]; omega);simp (disch:=omega) only [↓RD,RZ];exact ⟨⟨id,hw2.1,g1,hw2.2.2,h2,hwd _⟩,b2⟩
theorem KNew_ok {lo:Nat} {H:Heap} {v:V} {l:List Nat} {n:Nat} (hv:By lo H v l) (h8:Ok8 l) (hn:n = 4 ∨ n = 8) (hl:l.length = 4 * n) :
  Ok (sem T zgL [v]) H fun r H'=>∃ k,r = .tup [.ptr k 0,.int .i64 0] ∧ Aes H' k (kw l n (4 * (n + 7))) ∧ Grow H H' ∧ H.next ≤ k:=by
 refine zpE ?_;unfold zm1 uL uNF uB uG uH uO uc ub;have hpl:∀ i,v.pid = some i → i < H.next:=fun i hi=>(hv.own i hi).2;have fin:∀ H1,H1.get H.next = some ⟨zaT,tabC false ++ [.nils],none⟩ → H1.next = H.next + 1 → Grow H H1 → Ok ((sem T zbm [.ptr H.next 0]).bind fun t25 =>
   (M.lift (Ax.vlen v)).bind fun t27 =>
   (M.lift (Ax.bin .quo t27 (V.int .i64 4))).bind fun t28 =>
   M.blk 0 (
    M.iter (zeT (sem T) t28 (.ptr H.next 0) v V.nilp (V.int .i64 0)) [(V.int .i64 0)]) fun _ =>
   M.blk 2 (
    M.iter (zeS (sem T) t25 t28 (.ptr H.next 0) V.nilp (V.int .i64 0)) [(V.int .u8 1),t28]) fun _ =>
   M.pure (.ret [.ptr H.next 0,(V.int .i64 0)])) H1 fun r H'=>∃ L,r = .ret L ∧ ∃ k,zgD L = .tup [.ptr k 0,.int .i64 0] ∧ Aes H' k (kw l n (4 * (n + 7))) ∧ Grow H H' ∧ H.next ≤ k:=by
  intro H1 g1 n1 s1;refine zag (zuM g1 (by omega)) ?_;rintro _ H2 ⟨rfl,g2,s2⟩;have n2:=s2.next;have b2:Bel H.next H1 H2:=⟨s2.next,fun i hi=>s2.same i (by omega) (by simp; omega)⟩;have hv2:By lo H2 v l:=(hv.ext s1).same n2 fun j hj=>b2.same j (hpl j hj);have e1:((l.length:Nat):Int) / 4 = ((n:Nat):Int):=by omega
  refine za0 hv2.vlen ?_;refine za0 (v:=.int .i64 (n:Nat)) (by rw [ztY (by omega) (by omega) (by omega),e1]) ?_;refine zas (New_rest hv2 h8 hn hl hpl g2 (by omega)) ?_;rintro _ H3 ⟨rfl,hA,b3⟩;exact ⟨_,rfl,_,rfl,hA,(s1.bel' (Nat.le_refl _) (b2.trans b3)),Nat.le_refl _⟩
 rcases hn with hn4 | hn8
 ·have hvl:Ax.vlen v = some (.int .i64 16):=by rw [hv.vlen,hl,hn4]; rfl
  simp (disch:=omega) only [↓RD,RZ,hvl];rw [zaK];exact fin _ (by rw [zab]; rfl) (zaf _ _) (Grow.new _ _)
 ·have hvl:Ax.vlen v = some (.int .i64 32):=by rw [hv.vlen,hl,hn8]; rfl
  simp (disch:=omega) only [↓RD,RZ,hvl];rw [zaK];exact fin _ (by rw [zab]; rfl) (zaf _ _) (Grow.new _ _)
end Go.Ax.SU
/- Su22 -/
namespace Go.Ax.SU
open Go.Ax
theorem zlZ (x n:Nat):num x (n + 1) = (x / 256 ^ n % 256) :: num x n:=by
 unfold num;rw [List.range_succ_eq_map,List.map_cons,List.map_map];congr 1;refine List.map_congr_left fun i hi=>?_;rw [List.mem_range] at hi;show x / 256 ^ (n + 1 - 1 - (i + 1)) % 256 = _;rw [show n + 1 - 1 - (i + 1) = n - 1 - i by omega]
theorem zr1 {H:Heap} {x:Nat} (hx:x < 18446744073709551616):Ok (sem T zdP [.int .u64 (x:Nat)]) H fun r H'=>∃ v,r = .tup [.int .u8 ((fld x).1:Nat),v] ∧ By H.next H' v (fld x).2 ∧ Grow H H':=by
 refine zmy ?_;unfold zjx uL uB uc ub uq ug;have np:=ze8 x;by_cases h8:x < 8
 ·have e:fld x = (x,[]):=by unfold fld; rw [if_pos h8]
  have c8:IntKind.u8.wrap ((x:Nat):Int) = ((x:Nat):Int):=by rw [wrap_u8]; omega
  simp (disch:=omega) only [↓RD,RZ,c8,e];exact ⟨_,rfl,Lc.nil,Grow.refl _⟩
 ·have e:fld x = (8 + zbz x - 1,num x (zbz x)):=by unfold fld; rw [if_neg h8]
  simp (disch:=omega) only [↓RD,RZ];refine zaE (fun k L H'=>∃ b,L = [.int .u64 (x / 256 ^ k:Nat),b] ∧ By H.next H' b (num x k) ∧ Grow H H') (zbz x) ?_ ?_ ?_
  ·exact ⟨.nils,by simp,Lc.nil,Grow.refl _⟩
  ·rintro k _ H1 hk ⟨b,rfl,hb,s1⟩;have n1:=s1.next;have hpos:0 < x / 256 ^ k:=by
    refine Nat.div_pos (Nat.le_trans (Nat.pow_le_pow_right (by decide) (show k ≤ zbz x - 1 by omega)) (zk9 (by omega))) (Nat.pow_pos (by decide))
   have hlt:x / 256 ^ k < 18446744073709551616:=Nat.lt_of_le_of_lt (Nat.div_le_self _ _) hx;have e1':x / 256 ^ k / 256 = x / 256 ^ (k + 1):=by rw [Nat.div_div_eq_div_mul,Nat.pow_succ]
   have e1:shr (x / 256 ^ k) 8 = x / 256 ^ (k + 1):=by rw [zfB,Nat.shiftRight_eq_div_pow]; exact e1'
   have e8:=cint8 (x / 256 ^ k);unfold zfJ uL uB ub uq ug;simp (disch:=omega) only [↓RD,RZ,e8];have s2:=Grow.new H1 ⟨zad,[.int .u8 (x / 256 ^ k % 256:Nat)],none⟩;have g2:(H1.new ⟨zad,[.int .u8 (x / 256 ^ k % 256:Nat)],none⟩).get H1.next = _:=zab _ _;have n2:(H1.new ⟨zad,[.int .u8 (x / 256 ^ k % 256:Nat)],none⟩).next = H1.next + 1:=zaf _ _;have hb2:=hb.ext s2;refine zeV (lo:=H1.next) (l:=[x / 256 ^ k % 256]) (m:=num x k) (.full g2 rfl (Nat.le_refl _) (by omega)) (by omega) hb2.ac (by rw [zcs]; simp; omega) fun w H3 hw b3=>?_;simp (disch:=omega) only [↓RD,RZ,eq_self,seval,e1,e1'];exact ⟨w,rfl,by rw [zlZ]; exact hw.by.low (by omega),s1.trans (s2.bel' (Nat.le_refl _) b3)⟩
  ·rintro _ H1 ⟨b,rfl,hb,s1⟩;have hz:x / 256 ^ zbz x = 0:=Nat.div_eq_of_lt (zko hx);have c8:IntKind.u8.wrap (((zbz x:Nat):Int) - 1) = ((zbz x - 1:Nat):Int):=by rw [wrap_u8]; omega
   have o8:8 ||| (zbz x - 1) = 8 + zbz x - 1:=by
    have:∀ n,n < 8 → 8 ||| n = 8 + n:=by decide
    rw [this _ (by omega)]; omega
   have hvl:=hb.vlen;rw [zcs] at hvl;rw [hz];unfold zfJ uL uB ub uq ug;simp (disch:=omega) only [↓RD,RZ,eq_self,seval,hvl,c8,o8,e];exact ⟨_,rfl,hb,s1⟩
theorem Bytes_ok {H:Heap} {kid ctr:Nat} (h1:kid < 18446744073709551616) (h2:ctr < 18446744073709551616):Ok (sem T zeK [.int .u64 (kid:Nat),.int .u64 (ctr:Nat)]) H fun r H'=>By H.next H' r (hdr kid ctr) ∧ Grow H H':=by
 refine zmA ?_;unfold zjz uE uB ub uq;refine zag (zr1 h1) ?_;rintro _ H1 ⟨a,rfl,ha,s1⟩;simp (disch:=omega) only [↓RD,RZ];refine zag (zr1 h2) ?_;rintro _ H2 ⟨b,rfl,hb,s2⟩;have n1:=s1.next;have n2:=s2.next;have k1:=(ziQ kid).1;have k2:=(ziQ ctr).1;have m1:∀ x:Nat,(fld x).2.length ≤ 8:=fun x=>by
  unfold fld;split
  ·simp
  ·dsimp only; rw [zcs]; exact (ze8 x).2
 have e1:(fld kid).1 * 16 % 256 ||| (fld ctr).1 = (fld kid).1 * 16 + (fld ctr).1:=by
  rw [Nat.mod_eq_of_lt (by omega),show (16:Nat) = 2 ^ 4 from rfl,zjo _ _ 4 k2]
 have e2:shl (fld kid).1 4 % 256 ||| (fld ctr).1 = (fld kid).1 * 16 + (fld ctr).1:=by rw [zoo,Nat.shiftLeft_eq]; exact e1
 simp (disch:=omega) only [↓RD,RZ,eq_self,seval,e1,e2];have s3:=Grow.new H2 ⟨zad,[.int .u8 ((fld kid).1 * 16 + (fld ctr).1:Nat)],none⟩;have g3:(H2.new ⟨zad,[.int .u8 ((fld kid).1 * 16 + (fld ctr).1:Nat)],none⟩).get H2.next = _:=zab _ _;have n3:(H2.new ⟨zad,[.int .u8 ((fld kid).1 * 16 + (fld ctr).1:Nat)],none⟩).next = H2.next + 1:=zaf _ _;have ha3:=((ha.ext s2).ext s3);have hb3:=hb.ext s3;have l1:=m1 kid;have l2:=m1 ctr;refine zeV (lo:=H2.next) (l:=[(fld kid).1 * 16 + (fld ctr).1]) (m:=(fld kid).2) (.full g3 rfl (Nat.le_refl _) (by omega)) (by omega) ha3.ac (by simp; omega) fun w H4 hw b4=>?_;have hb4:By H1.next H4 b (fld ctr).2:=hb3.same b4.next fun i hi=>b4.same i (hb.own i hi).2;have n4:=b4.next;refine zeV (m:=(fld ctr).2) hw (by omega) hb4.ac (by simp; omega) fun w' H5 hw' b5=>?_;simp (disch:=omega) only [↓RD,RZ];refine ⟨?_,(s1.trans s2).trans (s3.bel' (Nat.le_refl _) (b4.trans b5))⟩;have:=hw'.by.low (show H.next ≤ H2.next by omega);have e:hdr kid ctr = [(fld kid).1 * 16 + (fld ctr).1] ++ (fld kid).2 ++ (fld ctr).2:=by unfold hdr; simp
 rw [e];exact this
theorem and8:∀ x,x < 16 → x &&& 8 = if x < 8 then 0 else 8:=by decide
theorem and7:∀ x,x < 16 → x &&& 7 = if x < 8 then x else x - 8:=by decide
theorem size_eq {x:Nat} (hx:x < 16):sem T zek [.int .u8 (x:Nat)] = M.pure (.int .i64 (psz x:Nat)):=by
 refine zdv fun H=>?_;refine znC ?_;unfold zkJ psz uL uB uc ub;have a8:=and8 x hx;have a7:=and7 x hx;by_cases h:x < 8
 ·rw [if_pos h] at a8 a7 ⊢;simp (disch:=first | omega | (simp only [RY] <;> omega) | decide) only [↓RD,RZ,eq_self,Int.reduceToNat,Int.reduceAdd,Nat.reduceAdd,Nat.reduceSub,Nat.reduceMul,Nat.reduceLeDiff,a8,a7];rfl
 ·rw [if_neg h] at a8 a7 ⊢;have e:(((x - 8:Nat):Int)) + 1 = ((x - 7:Nat):Int):=by omega
  simp (disch:=first | omega | (simp only [RY] <;> omega) | decide) only [↓RD,RZ,eq_self,Int.reduceToNat,Int.reduceAdd,Nat.reduceAdd,Nat.reduceSub,Nat.reduceMul,Nat.reduceLeDiff,a8,a7,e]
theorem zmE {lo:Nat} {H:Heap} {v:V} {l:List Nat} {x:Nat} (hx:x < 16) (hv:By lo H v l) (h8:Ok8 l) (hl:l.length = psz x):Ok (sem T zdq [.int .u8 (x:Nat),v]) H fun r H'=>r = .tup [.int .u64 (pnum x l:Nat),.bool (zio x l)] ∧ H' = H:=by
 refine zlP ?_;unfold ziU uL uB uIM uG uH uc ub uq ug;have a8:=and8 x hx;by_cases h:x < 8
 ·rw [if_pos h] at a8;have c:IntKind.u64.wrap ((x:Nat):Int) = ((x:Nat):Int):=by rw [wrap_u64]; omega
  simp (disch:=omega) only [↓RD,RZ,eq_self,seval,a8,c];unfold pnum zio;rw [if_pos h,if_pos h]
 ·rw [if_neg h] at a8;unfold psz at hl;rw [if_neg h] at hl;simp (disch:=omega) only [↓RD,RZ,eq_self,seval,a8,hv.vlen];refine zaE (fun i L H'=>L = [.int .u64 (be (l.take i):Nat),.int .i64 (i:Nat)] ∧ H' = H) l.length ?_ ?_ ?_
  ·exact ⟨rfl,rfl⟩
  ·rintro i _ H' hi ⟨rfl,rfl⟩;obtain ⟨p,hp,hld,-⟩:=zfL hv (i:=(i:Nat)) (by omega) (by omega);have e1:=zre h8 hi (by omega);have b1:=zf7 h8 (show i ≤ 8 by omega);have b2:=getD_lt h8 i;simp only [Int.toNat_natCast] at hld;have e2:be (l.take i) * 256 % 18446744073709551616 < 18446744073709551616:=Nat.mod_lt _ (by decide);unfold zfc uL uB uIM uc uq ug;simp (disch:=omega) only [↓RD,RZ,eq_self,seval,hp,hld,Int.toNat_natCast,e1];rfl
  ·rintro _ H' ⟨rfl,rfl⟩;obtain ⟨p,hp,hld,-⟩:=zfL hv (i:=0) (by omega) (by omega);simp only [Int.toNat_zero] at hld;unfold zfc uL uB uIM uc uq ug;simp (disch:=omega) only [↓RD,RZ,List.take_length,hp,hld];have eb:(((l.getD 0 0:Nat):Int) == 0) = decide (l.getD 0 0 = 0):=by
    by_cases h:l.getD 0 0 = 0
    ·rw [h]; rfl
    ·rw [decide_eq_false h];have:¬ ((l.getD 0 0:Nat):Int) = 0:=by omega
     simpa using this
   have ef:zio x l = ((l.getD 0 0 != 0) && decide (8 ≤ be l)):=by unfold zio; rw [if_neg h]
   have ep:pnum x l = be l:=by unfold pnum; rw [if_neg h]
   rw [ef,ep,eb];by_cases h0:l.getD 0 0 = 0
   ·rw [decide_eq_true h0,h0];simp (disch:=omega) only [↓RD,RZ];rw [List.take_length];rfl
   ·rw [decide_eq_false h0];have e0:(l.getD 0 0 != 0) = true:=by simpa using h0
    rw [e0];have eg:decide ((8:Int) ≤ ((be l:Nat):Int)) = decide (8 ≤ be l):=by
     by_cases h:8 ≤ be l
     ·rw [decide_eq_true h,decide_eq_true (by omega)]
     ·rw [decide_eq_false h,decide_eq_false (by omega)]
    simp (disch:=omega) only [↓RD,RZ,eg];rw [List.take_length];rfl
def phv:PH → V
 | .err e=>.tup [.int .u64 0,.int .u64 0,.int .i64 0,.int .i64 (e:Nat)]
 | .ok kid ctr n=>.tup [.int .u64 (kid:Nat),.int .u64 (ctr:Nat),.int .i64 (n:Nat),.int .i64 0]
theorem zob {lo:Nat} {H:Heap} {v:V} {l:List Nat} (hv:By lo H v l) (h8:Ok8 l) (hl:l.length ≤ 1125899906842624):Ok (sem T zdQ [v]) H fun r H'=>r = phv (parse l) ∧ H' = H:=by
 refine zmz ?_;unfold zjy uL uE uB uIM uG uH uc ub uq;have ez:(((l.length:Nat):Int) == 0) = decide (l.length = 0):=by
  by_cases h:l.length = 0
  ·rw [h]; rfl
  ·rw [decide_eq_false h];have:¬ ((l.length:Nat):Int) = 0:=by omega
   simpa using this
 simp (disch:=omega) only [↓RD,RZ,hv.vlen,ez];rw [zdN];refine zbw (fun h=>?_) (fun h=>?_)
 ·simp (disch:=omega) only [↓RD,RZ];unfold parse;rw [if_pos h]; rfl
 ·obtain ⟨p,hp,hld,-⟩:=zfL hv (i:=0) (by omega) (by omega);simp only [Int.toNat_zero] at hld;have g8:=getD_lt h8 0;unfold parse;rw [if_neg h];generalize l.getD 0 0 = x at *;have a15:x &&& 15 = x % 16:=Nat.and_two_pow_sub_one_eq_mod x 4;have e4:shr x 4 = x / 16:=by rw [zfB,Nat.shiftRight_eq_div_pow]
  have x1:=size_eq (x:=x / 16) (by omega);have x2:=size_eq (x:=x % 16) (by omega);have p1:psz (x / 16) ≤ 8:=by unfold psz; split <;> omega
  have p2:psz (x % 16) ≤ 8:=by unfold psz; split <;> omega
  have e1:(1:Int) + ((psz (x / 16):Nat):Int) = ((1 + psz (x / 16):Nat):Int):=by omega
  have e2:((1 + psz (x / 16):Nat):Int) + ((psz (x % 16):Nat):Int) = ((1 + psz (x / 16) + psz (x % 16):Nat):Int):=by omega
  simp (disch:=omega) only [↓RD,RZ,eq_self,seval,hp,hld,e4,a15,x1,x2,e1,e2,hv.vlen];rw [zdN];refine zbw (fun h1=>?_) (fun h1=>?_)
  ·simp (disch:=omega) only [↓RD,RZ];rw [if_pos (by omega)]; rfl
  ·rw [if_neg (by omega)];obtain ⟨va,ha,-,-,hva,-⟩:=zbl hv (x:=1) (y:=((1 + psz (x / 16):Nat):Int)) (by omega) (by omega) (by omega);obtain ⟨vb,hb,-,-,hvb,-⟩:=zbl hv (x:=((1 + psz (x / 16):Nat):Int)) (y:=((1 + psz (x / 16) + psz (x % 16):Nat):Int)) (by omega) (by omega) (by omega);simp only [Int.toNat_natCast,Int.toNat_one] at hva hvb;rw [← List.drop_take] at hva hvb;have la:((l.take (1 + psz (x / 16))).drop 1).length = psz (x / 16):=by rw [List.length_drop,List.length_take]; omega
   have lb:((l.take (1 + psz (x / 16) + psz (x % 16))).drop (1 + psz (x / 16))).length = psz (x % 16):=by rw [List.length_drop,List.length_take]; omega
   have k1:=@zbM _ _ _ _ (zmE (by omega) hva ((h8.take _).drop _) la);have k2:=@zbM _ _ _ _ (zmE (by omega) hvb ((h8.take _).drop _) lb);simp (disch:=omega) only [↓RD,RZ,ha,hb,k1,k2];generalize (l.take (1 + psz (x / 16))).drop 1 = ya at *;generalize (l.take (1 + psz (x / 16) + psz (x % 16))).drop (1 + psz (x / 16)) = yb at *;cases q1:zio (x / 16) ya with
   | false =>
    simp (disch:=omega) only [↓RD,RZ,Bool.not_false];rw [q1]; rfl
   | true =>
    cases q2:zio (x % 16) yb with
    | false =>
     simp (disch:=omega) only [↓RD,RZ,Bool.not_true,Bool.not_false];rw [q1,q2]; rfl
    | true =>
     simp (disch:=omega) only [↓RD,RZ,Bool.not_true,Bool.not_false];rw [q1,q2]; rfl
end Go.Ax.SU
/- Su23 -/
namespace Go.Ax.SU
open Go.Ax
theorem beqn (n m:Nat):(((n:Nat):Int) == ((m:Nat):Int)) = decide (n = m):=by
 by_cases h:n = m
 ·rw [h,decide_eq_true rfl]; simp
 ·rw [decide_eq_false h];have:¬ ((n:Nat):Int) = ((m:Nat):Int):=by omega
  simpa using this
theorem beqz (n:Nat):(((n:Nat):Int) == 0) = decide (n = 0):=beqn n 0
theorem ztx {a b:Nat} (h:a ^^^ b = 0):a = b:=by
 have h1:(a ^^^ b) ^^^ b = b:=by rw [h,Nat.zero_xor]
 rw [Nat.xor_assoc,Nat.xor_self,Nat.xor_zero] at h1;exact h1
theorem or_zero8 {a b:Nat} (h:a ||| b = 0):a = 0 ∧ b = 0:=by
 have:=Nat.left_le_or (n:=a) (m:=b);have:=Nat.right_le_or (n:=a) (m:=b);omega
theorem or_lt8 {a b:Nat} (ha:a < 256) (hb:b < 256):a ||| b < 256:=Nat.or_lt_two_pow (n:=8) ha hb
theorem Same_ok {lo lo':Nat} {H:Heap} {u v:V} {a b:List Nat} (hu:By lo H u a) (hv:By lo' H v b) (ha:Ok8 a) (hb:Ok8 b) (hal:a.length ≤ 1125899906842624):Ok (sem T zhQ [u,v]) H fun r H'=>r = .bool (decide (a = b)) ∧ H' = H:=by
 refine zqC ?_;unfold zn4 uL uB uc ub ug;simp (disch:=omega) only [↓RD,RZ,hu.vlen,hv.vlen,beqn];by_cases hl:a.length = b.length
 ·have e:decide (a.length = b.length) = true:=decide_eq_true hl;simp (disch:=omega) only [↓RD,RZ,e,hu.vlen];refine zaE (fun i L H'=>∃ x,L = [.int .u8 (x:Nat),.int .i64 (i:Nat)] ∧ H' = H ∧ x < 256 ∧ (x = 0 ↔ a.take i = b.take i)) a.length ?_ ?_ ?_
  ·exact ⟨0,rfl,rfl,by decide,by simp⟩
  ·rintro i _ H' hi ⟨x,rfl,rfl,hx,hxe⟩;obtain ⟨p,hp,hld,-⟩:=zfL hu (i:=(i:Nat)) (by omega) (by omega);obtain ⟨q,hq,hlq,-⟩:=zfL hv (i:=(i:Nat)) (by omega) (by omega);simp only [Int.toNat_natCast] at hld hlq;have h1:=ha.getD i;have h2:=hb.getD i;have ex:=zfA h1 h2;replace ex:Ax.bin .xor (.int .u8 (a.getD i 0:Nat)) (.int .u8 (b.getD i 0:Nat)) = some (.int .u8 (a.getD i 0 ^^^ b.getD i 0:Nat)):=ex;have hxl:=za6 h1 h2;unfold ziR uB uIM uc ug;simp (disch:=omega) only [↓RD,RZ,hp,hq,hld,hlq,ex];refine ⟨_,rfl,or_lt8 hx hxl,?_⟩;rw [zbx hi,zbx (by omega)];constructor
   ·intro h;obtain ⟨h3,h4⟩:=or_zero8 h;rw [hxe.1 h3,ztx h4]
   ·intro h;have:=List.append_inj h (by rw [List.length_take,List.length_take]; omega);rw [hxe.2 this.1,Nat.zero_or];have h5:a.getD i 0 = b.getD i 0:=by simpa using this.2
    rw [h5,Nat.xor_self]
  ·rintro _ H' ⟨x,rfl,rfl,hx,hxe⟩;unfold ziR uB uIM uc ug;simp (disch:=omega) only [↓RD,RZ,beqz];rw [List.take_length,hl,List.take_length] at hxe;simp only [hxe]
 ·have e:decide (a.length = b.length) = false:=decide_eq_false hl;have e2:decide (a = b) = false:=decide_eq_false fun h=>hl (by rw [h]);simp (disch:=omega) only [↓RD,RZ,e];rw [e2]
theorem by_sl {lo id n:Nat} {H:Heap} {cap:Cap} {ty:TypeId} {l:List Nat} {o:Option Nat} (h:H.get id = some ⟨ty,l.map by8,o⟩) (hl:l.length = n) (h0:lo ≤ id) (h1:id < H.next) (hc:V.capOk 1 (.sl id 0 n cap)):By lo H (.sl id 0 n cap) l:=by
 refine ⟨?_,fun i hi=>by simp only [V.pid,Option.some.injEq] at hi; omega,hc⟩;simp only [zbn,h,Option.bind_some];rw [if_pos (by rw [List.length_map]; omega),List.drop_zero,List.take_of_length_le (by rw [List.length_map]; omega),hl]
theorem Ab.blk {lo:Nat} {H:Heap} {v:V} {l:List Nat} (h:Ab lo H v l) (h0:0 < l.length):∃ id cap o,v = .sl id 0 l.length cap ∧ H.get id = some ⟨zad,l.map by8,o⟩ ∧ lo ≤ id ∧ id < H.next ∧ V.capOk 1 (.sl id 0 l.length cap):=by
 have hc:=Ab.by h |>.cap;have h':Apf zad 1 lo H v (l.map by8) l.length:=h;generalize hn:l.length = n at *;generalize hcs:l.map by8 = cs at *;have hcl:cs.length = n:=by rw [← hcs,List.length_map,hn]
 clear h;cases h' with
 | app h =>
  cases h with
  | opn h ho =>
   rcases h with ⟨_,_,h⟩ | ⟨id,rfl,hg,hl⟩
   ·omega
   ·exact ⟨id,_,_,rfl,hg,(ho id rfl).1,(ho id rfl).2,hc⟩
  | lit h g0 g1=>omega
 | full h hl g0 g1=>exact ⟨_,_,_,rfl,h,g0,g1,hc⟩
theorem zlh {lo id off len:Nat} {H:Heap} {cap:Cap} {ty:TypeId} {v:V} {cs:List V} {o:Option Nat} {p:List Nat} (hg:H.get id = some ⟨ty,cs,o⟩) (hv:By lo H v p) (h1:off + len ≤ cs.length) (h2:p.length ≤ len) :
  mcopy 1 (.sl id off len cap) v H = some (.int .i64 (p.length:Nat),H.set id (some ⟨ty,splice cs off (p.map by8),o⟩)):=by
 unfold mcopy;rw [hv.ac];simp only [Option.bind_some,hg];rw [if_pos (by omega),Nat.min_eq_left h2,Nat.mul_one,List.take_of_length_le (by rw [List.length_map]; exact Nat.le_refl _)]
theorem Join_ok {lo:Nat} {H:Heap} {v:V} {vs:List V} {ps:List (List Nat)} (hv:Lc 1 lo H v vs vs.length) (hp:Pts 0 H vs ps) (hn:2 ≤ vs.length) (hvn:vs.length ≤ 1000) (hlen:ps.flatten.length ≤ 1099511627776) :
  Ok (sem T zf5 [v,.nils]) H fun r H'=>By H.next H' r ps.flatten ∧ Grow H H':=by
 refine zoB ?_;unfold zlH uL uB uIM uc ub ug;have hpl:=hp.1;have c0:(((vs.length:Nat):Int) == 0) = false:=by rw [beqz]; exact decide_eq_false (by omega)
 have c1:(((vs.length:Nat):Int) == 1) = false:=by rw [show (1:Int) = ((1:Nat):Int) from rfl,beqn]; exact decide_eq_false (by omega)
 have vn:Ax.vlen .nils = some (.int .i64 0):=rfl;simp (disch:=omega) only [↓RD,RZ,hv.vlen,c0,c1,vn];refine zas (α:=Res) (Q:=fun z H'=>z = .ex 0 [.int .i64 (ps.flatten.length:Nat)] ∧ H' = H) ?_ ?_
 ·refine zaE (fun i L H'=>L = [.int .i64 ((ps.take i).flatten.length:Nat),.int .i64 (i:Nat)] ∧ H' = H) vs.length ?_ ?_ ?_
  ·exact ⟨rfl,rfl⟩
  ·rintro i _ H' hi ⟨rfl,rfl⟩;have hx:vs[i]? = some vs[i]:=List.getElem?_eq_getElem hi;have hy:ps[i]? = some ps[i]:=List.getElem?_eq_getElem (by omega);obtain ⟨hb,hb8⟩:=hp.2 i _ _ hx hy;obtain ⟨q,hq,hld⟩:=zta hv hi hx;have hf:=zhm hy;have hl1:=zex ps (i + 1);rw [hf,List.length_append] at hl1;unfold zg4 uL uB uIM uc ug;have ea:(((ps.take i).flatten.length:Nat):Int) + ((ps[i].length:Nat):Int) = (((ps.take (i + 1)).flatten.length:Nat):Int):=by rw [hf,List.length_append]; omega
   simp (disch:=omega) only [↓RD,RZ,hq,hld,hb.vlen,ea];rfl
  ·rintro _ H' ⟨rfl,rfl⟩;unfold zg4 uL uB uIM uc ug;simp (disch:=omega) only [↓RD,RZ];rw [List.take_of_length_le (by omega)]
 ·rintro _ H' ⟨rfl,rfl⟩;have hx0:vs[0]? = some vs[0]:=List.getElem?_eq_getElem (by omega);have hy0:ps[0]? = some ps[0]:=List.getElem?_eq_getElem (by omega);obtain ⟨hb0,-⟩:=hp.2 0 _ _ hx0 hy0;have hf0:=zhm hy0;rw [List.take_zero,List.flatten_nil,List.nil_append] at hf0;have hl0:=zex ps 1;rw [hf0] at hl0;generalize hn':ps.flatten.length = n at *;simp (disch:=omega) only [↓RD,RZ];have hmk:mmknz zad (.int .i64 (n:Nat)) H' = some (.sl H'.next 0 n (.opn 1),H'.new ⟨zad,List.replicate n .any,some 1⟩):=by
   simp only [mmknz];rw [if_pos (by omega),Int.toNat_natCast]
  rw [zaK];refine zao ⟨_,_,hmk,?_⟩;have s1:=Grow.new H' ⟨zad,List.replicate n .any,some 1⟩;have g1:(H'.new ⟨zad,List.replicate n .any,some 1⟩).get H'.next = _:=zab _ _;have n1:(H'.new ⟨zad,List.replicate n .any,some 1⟩).next = H'.next + 1:=zaf _ _;have hv1:=hv.ext s1;have hp1:=hp.grow s1;have hb1:=hb0.ext s1;generalize hb:H'.next = b at *;generalize H'.new _ = H1 at *;have hvb:∀ i,v.pid = some i → i < b:=fun i hi=>by have:=(hv.own i hi).2; omega
  have vsl:zaz .sl 1 (.sl b 0 n (.opn 1)) none (some (.int .i64 (n:Nat))) (some (.int .i64 (n:Nat))) = some (.sl b 0 n (.fix n)):=by
   simp only [zaz,zdM,vint,Option.map_some,Option.bind_some,Option.getD_some,Option.getD_none];rw [if_neg (by simp),if_pos (by omega)];simp
  obtain ⟨q,hq,hld⟩:=zta hv1 (i:=0) (by omega) hx0;replace hq:∀ {k:IntKind},Ax.iaddr none 1 v (.int k 0) = some q:=hq;simp (disch:=omega) only [↓RD,RZ,vsl,hq,hld];have cp:=zlh (off:=0) (len:=n) (cap:=.fix n) g1 hb1 (by simp) (by omega);rw [zaK];refine zao ⟨_,_,cp,?_⟩;obtain ⟨w,-,-,hw,hwc,hwp⟩:=hv1.slice (x:=1) (y:=(vs.length:Nat)) (by omega) (by omega) (by omega);have hw:=hw rfl (k:=.i64);have e1:(1:Int).toNat = 1:=rfl;rw [e1,Int.toNat_natCast,Nat.mul_one,Nat.mul_one,List.take_of_length_le (by rw [List.length_drop]; omega)] at hwc;have hwb:w.pid ≠ some b:=by rw [hwp]; exact fun e=>by have:=hvb _ e; omega
  simp (disch:=omega) only [↓RD,RZ,hw,hwc.vlen];have sp0:∀ (p:List Nat),p.length ≤ n → splice (List.replicate n V.any) 0 (p.map by8) = p.map by8 ++ List.replicate (n - p.length) .any:=fun p hp=>by
   unfold splice;rw [List.take_zero,List.nil_append,List.length_map,Nat.zero_add,List.drop_replicate]
  have spj:∀ (p q:List Nat),p.length + q.length ≤ n → splice (p.map by8 ++ List.replicate (n - p.length) V.any) p.length (q.map by8) = (p ++ q).map by8 ++ List.replicate (n - (p ++ q).length) .any:=fun p q h=>by
   unfold splice;rw [List.take_left' (by rw [List.length_map]),List.length_map,List.drop_append,List.length_map,List.drop_of_length_le (by rw [List.length_map]; omega),List.nil_append,List.drop_replicate,List.map_append,List.length_append,show n - p.length - (p.length + q.length - p.length) = n - (p.length + q.length) by omega]
  refine zas (α:=Res) (Q:=fun z H'=>z = .ex 2 [] ∧ H'.get b = some ⟨zad,ps.flatten.map by8,some 1⟩ ∧ At1 b H1 H') ?_ ?_
  ·refine zaE (fun j L H'=>L = [.int .i64 ((ps.take (j + 1)).flatten.length:Nat),.int .i64 (j:Nat)] ∧ H'.get b = some ⟨zad,(ps.take (j + 1)).flatten.map by8 ++ List.replicate (n - (ps.take (j + 1)).flatten.length) .any,some 1⟩ ∧ At1 b H1 H') (vs.length - 1) ?_ ?_ ?_
   ·refine ⟨by rw [Nat.zero_add,hf0]; rfl,?_,At1.set b _ _⟩;rw [zal,Nat.zero_add,hf0,sp0 _ hl0]
   ·rintro j _ H2 hj ⟨rfl,g2,s2⟩;have hx:vs[j + 1]? = some vs[j + 1]:=List.getElem?_eq_getElem (by omega);have hy:ps[j + 1]? = some ps[j + 1]:=List.getElem?_eq_getElem (by omega);obtain ⟨hbj,-⟩:=hp1.2 (j + 1) _ _ hx hy;obtain ⟨hbj0,-⟩:=hp.2 (j + 1) _ _ hx hy;have hbj2:=hbj.at1 s2 (fun e=>by have:=(hbj0.own _ e).2; omega);have hwc2:=hwc.at1 s2 hwb;have hwl:(vs.drop 1).length = vs.length - 1:=List.length_drop ..;rw [← hwl] at hwc2;have hwx:(vs.drop 1)[j]? = some vs[j + 1]:=by rw [List.getElem?_drop,Nat.add_comm]; exact hx
    obtain ⟨q2,hq2,hld2⟩:=zta hwc2 (i:=j) (by omega) hwx;have hf:=zhm hy;have hl1:=zex ps (j + 1 + 1);rw [hf,List.length_append] at hl1;rw [hf];generalize (ps.take (j + 1)).flatten = P at *;have vs1:zaz .sl 1 (.sl b 0 n (.fix n)) (some (.int .i64 (P.length:Nat))) none none = some (.sl b P.length (n - P.length) (.fix (n - P.length))):=by
     simp only [zaz,zdM,vint,Option.map_some,Option.bind_some,Option.getD_some,Option.getD_none];rw [if_neg (by simp),if_pos (by omega)];simp
    have cl:(P.map by8 ++ List.replicate (n - P.length) V.any).length = n:=by rw [List.length_append,List.length_map,List.length_replicate]; omega
    have nl:By 0 H2 .nils []:=Lc.nil;have cp1:=zlh (off:=P.length) (len:=n - P.length) (cap:=.fix (n - P.length)) g2 nl (by omega) (Nat.zero_le _);have sp1:splice (P.map by8 ++ List.replicate (n - P.length) V.any) P.length (([]:List Nat).map by8) = P.map by8 ++ List.replicate (n - P.length) V.any:=by
     rw [spj P [] (by simp; omega),List.append_nil]
    rw [sp1] at cp1;have s3:=At1.set b H2 (some ⟨zad,P.map by8 ++ List.replicate (n - P.length) V.any,some 1⟩);have g3:(H2.set b (some ⟨zad,P.map by8 ++ List.replicate (n - P.length) V.any,some 1⟩)).get b = _:=zal _ _ _;have hbj3:=hbj2.at1 s3 (fun e=>by have:=(hbj0.own _ e).2; omega);have cp2:=zlh (off:=P.length) (len:=n - P.length) (cap:=.fix (n - P.length)) g3 hbj3 (by omega) (by omega);rw [spj _ _ (by omega)] at cp2;have ea:((P.length:Nat):Int) + ((0:Nat):Int) = ((P.length:Nat):Int):=by omega
    unfold zg3 uL uB uIM uc ug;simp (disch:=omega) only [↓RD,RZ,hq2,hld2,vs1];rw [zaK];refine zao ⟨_,_,cp1,?_⟩;have ez:(([]:List Nat).length:Nat) = 0:=rfl;simp (disch:=omega) only [↓RD,RZ,ez,ea,vs1,Int.natCast_zero,Int.add_zero];rw [zaK];refine zao ⟨_,_,cp2,?_⟩;simp (disch:=omega) only [↓RD,RZ];exact ⟨by rw [List.length_append]; rfl,(s2.trans s3).trans (At1.set b _ _)⟩
   ·rintro _ H2 ⟨rfl,g2,s2⟩;unfold zg3 uL uB uIM uc ug;simp (disch:=omega) only [↓RD,RZ];refine ⟨?_,s2⟩;rw [g2,show vs.length - 1 + 1 = vs.length by omega,List.take_of_length_le (by omega),hn',Nat.sub_self];simp
  ·rintro _ H2 ⟨rfl,g2,s2⟩;have n2:=s2.next;simp (disch:=omega) only [↓RD,RZ];exact ⟨ze5 g2 hn' (by omega) (by omega),⟨by omega,fun i hi=>by rw [s2.same i (by omega) (by omega),s1.same i (by omega)]⟩⟩
end Go.Ax.SU
/- Su24 -/
namespace Go.Ax.SU
open Go.Ax
structure KyG (K:Ky):Prop where
 kid:K.kid < 18446744073709551616
 t:K.t ≤ 32
 ws:∀ w ∈ K.ws,Word w
 wl:K.ws.length ≤ 1000
 w4:K.ws.length % 4 = 0
 w8:8 ≤ K.ws.length
 auth:K.auth.length = 32
 auth8:Ok8 K.auth
 salt:K.salt.length = 12
 salt8:Ok8 K.salt
structure KeyM (H:Heap) (k:Nat) (K:Ky):Prop where
 good:KyG K
 mem:∃ a av sv,H.get k = some ⟨zaR,[.int .u64 (K.kid:Nat),.int .i64 (K.t:Nat),.ptr a 0,av,sv],none⟩ ∧ Aes H a K.ws ∧ By 0 H av K.auth ∧ By 0 H sv K.salt
 low:k < H.next
theorem KeyM.grow {H H':Heap} {k:Nat} {K:Ky} (h:KeyM H k K) (g:Grow H H'):KeyM H' k K:=by
 obtain ⟨a,av,sv,h1,h2,h3,h4⟩:=h.mem;exact ⟨h.good,⟨a,av,sv,by rw [g.same k h.low]; exact h1,h2.grow g,h3.ext g,h4.ext g⟩,Nat.lt_of_lt_of_le h.low g.next⟩
theorem zeD (s:List Nat) (c:Nat):(zbf s c).length = 12:=by simp [zbf]
theorem zmF {s:List Nat} (h:Ok8 s) (c:Nat):Ok8 (zbf s c):=Ok8.rmap fun i _=>za6 ((zfo c 12).getD i) (h.getD i)
theorem zpY (s:List Nat) (c:Nat):(first (zbf s c)).length = 16:=by unfold first; rw [List.length_append,zeD]; rfl
theorem zvb {s:List Nat} (h:Ok8 s) (c:Nat):Ok8 (first (zbf s c)):=(zmF h c).app (Ok8.rep 4)
theorem zrQ {H:Heap} {k c:Nat} {K:Ky} (hk:KeyM H k K) (hc:c < 18446744073709551616):Ok (sem T zcv [.ptr k 0,.int .u64 (c:Nat)]) H fun r H'=>By H.next H' r (zbf K.salt c) ∧ Grow H H':=by
 refine zjN ?_;unfold zgM uL uc;refine zag (zhh c 12 hc (by decide)) ?_;rintro r H1 ⟨hr,s1⟩;have nl:=zeD K.salt c;have hk1:=hk.grow s1;have kl:=hk.low;have m12:=zcs c 12;obtain ⟨id,cap,o,hrv,g1,i0,i1,hcap⟩:=hr.blk (by rw [m12]; decide);rw [m12] at hrv hcap;subst hrv;have vn:Ax.vlen (.sl id 0 12 cap) = some (.int .i64 12):=rfl;obtain ⟨a,av,sv,k1,-,-,ks⟩:=hk1.mem;obtain ⟨a',av',sv',k1',-,-,ks'⟩:=hk.mem;have hpid:∀ i,sv.pid = some i → i < H.next:=by
  have e:=(s1.same k kl).symm.trans k1;rw [k1'] at e;simp only [Option.some.injEq,Blk.mk.injEq,List.cons.injEq,true_and,and_true] at e;obtain ⟨-,rfl,-⟩:_ ∧ sv' = sv ∧ True:=⟨trivial,by simp_all,trivial⟩;exact fun i hi=>(ks'.own i hi).2
 have n1:=s1.next;simp (disch:=omega) only [↓RD,RZ,eq_self,seval,vn];refine zas (α:=Res) (Q:=fun z H'=>z = .ex 0 [] ∧ H'.get id = some ⟨zad,(zbf K.salt c).map by8,o⟩ ∧ At1 id H1 H') ?_ ?_
 ·refine zaE (fun i L H'=>L = [.int .i64 (i:Nat)] ∧ H'.get id = some ⟨zad,((zbf K.salt c).take i ++ (num c 12).drop i).map by8,o⟩ ∧ At1 id H1 H') 12 ?_ ?_ ?_
  ·exact ⟨rfl,by simpa using g1,At1.refl _ _⟩
  ·rintro i _ H2 hi ⟨rfl,g2,s2⟩;have gk2:=(s2.same k (by omega) (by omega)).trans k1;have ks2:=ks.at1 s2 (fun e=>by have:=hpid _ e; omega);obtain ⟨p,hp,hld,-⟩:=zfL ks2 (i:=(i:Nat)) (by omega) (by have:=hk.good.salt; omega);simp only [Int.toNat_natCast] at hld;have hA:(((zbf K.salt c).take i).map by8).length = i:=by rw [List.length_map,List.length_take]; omega
   rw [znO (by omega)] at g2;have m1:=ziF (b:=by8 ((num c 12).getD i 0)) (C:=((num c 12).drop (i + 1)).map by8) hA;have m2:=ziE (b:=by8 ((num c 12).getD i 0)) (y:=by8 ((zbf K.salt c).getD i 0)) (C:=((num c 12).drop (i + 1)).map by8) hA;have ml:(((zbf K.salt c).take i).map by8 ++ by8 ((num c 12).getD i 0) :: ((num c 12).drop (i + 1)).map by8).length = 12:=by rw [List.length_append,hA,List.length_cons,List.length_map,List.length_drop]; omega
   have ex:=zfA ((zfo c 12).getD i) (hk.good.salt8.getD i);have ea:(num c 12).getD i 0 ^^^ K.salt.getD i 0 = (zbf K.salt c).getD i 0:=by unfold zbf; rw [zcu hi]
   rw [ea] at ex;replace ex:Ax.bin .xor (by8 ((num c 12).getD i 0)) (.int .u8 (K.salt.getD i 0:Nat)) = _:=ex;unfold zeb uT uNFM uB uI uIM uc ug;simp (disch:=omega) only [↓RD,RZ,eq_self,seval,g2,m1,gk2,hp,hld,ex,m2,ml,zcZ,zaP];refine ⟨by omega,rfl,?_,s2.trans (At1.set id _ _)⟩;rw [zkY (by omega)]
  ·rintro _ H2 ⟨rfl,g2,s2⟩;unfold zeb uT uNFM uB uI uIM uc ug;simp (disch:=omega) only [↓RD,RZ,eq_self,seval];refine ⟨?_,s2⟩;rw [g2,List.take_of_length_le (by omega),List.drop_of_length_le (by omega),List.append_nil]
 ·rintro _ H2 ⟨rfl,g2,s2⟩;have n2:=s2.next;simp (disch:=omega) only [↓RD,RZ,eq_self,seval];exact ⟨by_sl g2 nl i0 (by omega) hcap,⟨by omega,fun i hi=>by rw [s2.same i (by omega) (by omega),s1.same i hi]⟩⟩
theorem zr7 {lo lo':Nat} {H:Heap} {k c:Nat} {K:Ky} {nv bv:V} {l:List Nat} (hk:KeyM H k K) (hn:By lo H nv (zbf K.salt c)) (hb:By lo' H bv l) (h8:Ok8 l) (hl:l.length ≤ 1099511627776) :
  Ok (sem T zcw [.ptr k 0,nv,bv]) H fun r H'=>By H.next H' r (ctr K.ws (first (zbf K.salt c)) l) ∧ Grow H H':=by
 refine zjO ?_;unfold zgN uL uS uNFM uE uO uc;refine zao (zaQ (by rfl) ?_);rw [zaj];have s1:=Grow.new H ⟨zaa,[.int .u8 0,.int .u8 0,.int .u8 0,.int .u8 0,.int .u8 0,.int .u8 0,.int .u8 0,.int .u8 0,.int .u8 0,.int .u8 0,.int .u8 0,.int .u8 0,.int .u8 0,.int .u8 0,.int .u8 0,.int .u8 0],none⟩;have g1:(H.new ⟨zaa,[.int .u8 0,.int .u8 0,.int .u8 0,.int .u8 0,.int .u8 0,.int .u8 0,.int .u8 0,.int .u8 0,.int .u8 0,.int .u8 0,.int .u8 0,.int .u8 0,.int .u8 0,.int .u8 0,.int .u8 0,.int .u8 0],none⟩).get H.next = some ⟨zaa,List.replicate 16 (.int .u8 0),none⟩:=zab _ _;have n1:(H.new ⟨zaa,[.int .u8 0,.int .u8 0,.int .u8 0,.int .u8 0,.int .u8 0,.int .u8 0,.int .u8 0,.int .u8 0,.int .u8 0,.int .u8 0,.int .u8 0,.int .u8 0,.int .u8 0,.int .u8 0,.int .u8 0,.int .u8 0],none⟩).next = H.next + 1:=zaf _ _;have hk1:=hk.grow s1;have hn1:=hn.ext s1;have hb1:=hb.ext s1;have kl:=hk.low;generalize ha:H.next = a at *;generalize H.new _ = H1 at *;have nl:=zeD K.salt c;have cp:=zlh (off:=0) (len:=16) (cap:=.fix 16) g1 hn1 (by rw [List.length_replicate]; decide) (by omega);have sp:splice (List.replicate 16 (V.int .u8 0)) 0 ((zbf K.salt c).map by8) = (first (zbf K.salt c)).map by8:=by
  unfold splice first
  rw [List.take_zero,List.nil_append,List.length_map,nl,List.map_append,List.drop_replicate];rfl
 rw [sp] at cp;have vs:=zg7 (n:=16) (id:=a);simp (disch:=omega) only [↓RD,RZ,eq_self,seval,vs];rw [zaK];refine zao ⟨_,_,cp,?_⟩;have fl:=zpY K.salt c;have f8:=zvb hk.good.salt8 c;have s2:=At1.set a H1 (some ⟨zaa,(first (zbf K.salt c)).map by8,none⟩);have g2:(H1.set a (some ⟨zaa,(first (zbf K.salt c)).map by8,none⟩)).get a = _:=zal _ _ _;have s02:Grow H (H1.set a (some ⟨zaa,(first (zbf K.salt c)).map by8,none⟩)):=s1.set (by omega) _;have hk2:=hk.grow s02;have hb2:=hb.ext s02;generalize Heap.set _ a _ = H2 at *;obtain ⟨aa,av,sv,k1,kA,-,-⟩:=hk2.mem;have l1:=ld16 fl;simp (disch:=omega) only [↓RD,RZ,eq_self,seval,k1,g2,l1];have hg:=hk.good;refine zag (Crypt_ok kA fl f8 hb2 h8 hg.wl hg.w4 hg.w8 hl) ?_;rintro _ H3 ⟨r,rfl,hr,s3⟩;have n2:=s02.next;simp (disch:=omega) only [↓RD,RZ,eq_self,seval];exact ⟨hr.low (by omega),s02.trans s3⟩
end Go.Ax.SU
/- Su25 -/
namespace Go.Ax.SU
open Go.Ax
theorem zpc {lo1 lo2 lo3 lo4:Nat} {H:Heap} {k:Nat} {K:Ky} {nv hv mv bv:V} {n h m b:List Nat} (hk:KeyM H k K) (hn:By lo1 H nv n) (n8:Ok8 n) (hh:By lo2 H hv h) (h8:Ok8 h) (hm:By lo3 H mv m) (m8:Ok8 m) (hb:By lo4 H bv b) (b8:Ok8 b)
  (hl:n.length + h.length + m.length + b.length ≤ 549755813888) :
  Ok (sem T zb4 [.ptr k 0,nv,hv,mv,bv]) H fun r H'=>By H.next H' r (zha K n h m b) ∧ Grow H H':=by
 refine zjf ?_;unfold zgn uL uM uT uNFM uNF uB uO uU uc;have e1:((h.length:Nat):Int) + ((m.length:Nat):Int) = ((h.length + m.length:Nat):Int):=by omega
 have w1:IntKind.u64.wrap ((h.length + m.length:Nat):Int) = ((h.length + m.length:Nat):Int):=by rw [wrap_u64]; omega
 have w2:IntKind.u64.wrap ((b.length:Nat):Int) = ((b.length:Nat):Int):=by rw [wrap_u64]; omega
 have w3:IntKind.u64.wrap ((K.t:Nat):Int) = ((K.t:Nat):Int):=by rw [wrap_u64]; have:=hk.good.t; omega
 have kl:=hk.low;simp (disch:=omega) only [↓RD,RZ,eq_self,seval,hh.vlen,hm.vlen,hb.vlen,e1,w1,w2];refine zag (zhh (h.length + m.length) 8 (by omega) (by decide)) ?_;rintro x1 H1 ⟨hx1,s1⟩;have n1:=s1.next;simp (disch:=omega) only [↓RD,RZ,eq_self,seval,hh.vlen,hm.vlen,hb.vlen,w2];refine zag (zhh b.length 8 (by omega) (by decide)) ?_;rintro x2 H2 ⟨hx2,s2⟩;have n2:=s2.next;have hx1':Ab H.next H2 x1 (num (h.length + m.length) 8):=hx1.keep (s2.keep _);refine zeV hx1' (by omega) hx2.by.ac (by rw [zcs,zcs]; decide) fun x3 H3 hx3 b3=>?_;have n3:=b3.next;have s3:Grow H H3:=(s1.trans s2).bel' (by omega) b3;have hk3:=hk.grow s3;have hk3l:=hk3.low;obtain ⟨aa,av,sv,k1,kA,kv,ks⟩:=hk3.mem;simp (disch:=omega) only [↓RD,RZ,eq_self,seval,k1,w3];refine zag (zhh K.t 8 (by have:=hk.good.t; omega) (by decide)) ?_;rintro x4 H4 ⟨hx4,s4⟩;have n4:=s4.next;have gk4:=s4.same k hk3l;have hx3':=hx3.by.ext s4;have s04:=s3.trans s4;have hn4:=hn.ext s04;have hh4:=hh.ext s04;have hm4:=hm.ext s04;have hb4:=hb.ext s04;have hv4:=kv.ext s4;simp (disch:=omega) only [↓RD,RZ,eq_self,seval,gk4,hx3'.cells1,hx3'.okc,hx4.by.cells1,hx4.by.okc,hn4.cells1,hn4.okc,hh4.cells1,hh4.okc,hm4.cells1,hm4.okc,hb4.cells1,hb4.okc];have s5:=Grow.new H4 ⟨zar,[x3,x4,nv,hv,mv,bv],none⟩;have g5:(H4.new ⟨zar,[x3,x4,nv,hv,mv,bv],none⟩).get H4.next = _:=zab _ _;have n5:(H4.new ⟨zar,[x3,x4,nv,hv,mv,bv],none⟩).next = H4.next + 1:=zaf _ _;have hlv:Lc 1 0 (H4.new ⟨zar,[x3,x4,nv,hv,mv,bv],none⟩) (.sl H4.next 0 6 (.fix 6)) [x3,x4,nv,hv,mv,bv] 6:=ziI g5 rfl (by omega);have hps:Pts 0 H4 [x3,x4,nv,hv,mv,bv] [num (h.length + m.length) 8 ++ num b.length 8,num K.t 8,n,h,m,b] :=
  .cons (hx3'.low (Nat.zero_le _)) ((zfo _ _).app (zfo _ _)) (.cons (hx4.by.low (Nat.zero_le _)) (zfo _ _) (.cons (hn4.low (Nat.zero_le _)) n8 (.cons (hh4.low (Nat.zero_le _)) h8 (.cons (hm4.low (Nat.zero_le _)) m8 (.cons (hb4.low (Nat.zero_le _)) b8 .nil)))))
 have efl:[num (h.length + m.length) 8 ++ num b.length 8,num K.t 8,n,h,m,b].flatten = tagm K n h m b:=by
  unfold tagm; simp
 have lfl:(tagm K n h m b).length ≤ 1099511627776:=by
  unfold tagm;simp only [List.length_append,zcs];omega
 refine zag (zmg (hv4.ext s5) hk.good.auth8 (by rw [hk.good.auth]; decide) hlv (hps.grow s5) (show 6 ≤ 1000 by decide) (by rw [efl]; exact lfl)) ?_;rintro _ H6 ⟨rfl,s6⟩;rw [efl];have n6:=s6.next;have hl32:=zc5 kc K.auth (tagm K n h m b);have sp:=sp32 hl32;have l32:(((hmac kc K.auth (tagm K n h m b))).map by8).length = 32:=by rw [List.length_map,hl32]
 have s06:=(s04.trans s5).trans s6;have hk6:=hk.grow s06;have kl6:=hk6.low;obtain ⟨aa,av,sv,k6,-,-,-⟩:=hk6.mem;have ht:=hk.good.t;have vsl:∀ id,zaz (.arr 32) 1 (.ptr id 0) none (some (.int .i64 (K.t:Nat))) none = some (.sl id 0 K.t (.fix 32)):=fun id=>by
  simp only [zaz,zdM,vint,Option.map_some,Option.bind_some,Option.getD_some,Option.getD_none];rw [if_neg (by simp),if_pos ⟨by simp,by omega,by omega,by omega⟩];simp
 simp (disch:=omega) only [↓RD,RZ,eq_self,seval,zaY,zaj,sp,l32,k6,vsl];refine ⟨⟨?_,fun i hi=>?_,?_⟩,⟨by rw [zan,zaf]; omega,fun i hi=>by rw [zai _ _ (by omega),zaX _ _ (by omega),s06.same i hi]⟩⟩
 ·simp only [zbn,zal,Option.bind_some];rw [if_pos (by rw [l32]; omega),List.drop_zero,Nat.mul_one];unfold zha;rw [List.map_take,List.length_take,hl32,Nat.min_eq_left ht]
 ·simp only [V.pid,Option.some.injEq] at hi;rw [zan,zaf];omega
 ·show K.t ≤ 32;exact ht
theorem zry {H:Heap} (id:Int) (h0:-9223372036854775808 ≤ id):Ok (sem T zc2 [.int .i64 id]) H fun r H'=>r = (match szs id.toNat with | some (n,t)=>if 0 ≤ id then V.tup [.int .i64 (n:Nat),.int .i64 (t:Nat),.bool true] else .tup [.int .i64 0,.int .i64 0,.bool false] | none=>.tup [.int .i64 0,.int .i64 0,.bool false]) ∧ H' = H:=by
 refine znx ?_;unfold zkE uB uc;by_cases h1:id = 1
 ·subst h1; simp (disch:=omega) only [↓RD,RZ]; rfl
 by_cases h2:id = 2
 ·subst h2; simp (disch:=omega) only [↓RD,RZ]; rfl
 by_cases h3:id = 3
 ·subst h3; simp (disch:=omega) only [↓RD,RZ]; rfl
 by_cases h4:id = 16
 ·subst h4; simp (disch:=omega) only [↓RD,RZ]; rfl
 have e1:(id == 1) = false:=by simpa using h1
 have e2:(id == 2) = false:=by simpa using h2
 have e3:(id == 3) = false:=by simpa using h3
 have e4:(id == 16) = false:=by simpa using h4
 simp (disch:=omega) only [↓RD,RZ,e1,e2,e3,e4];unfold szs;split
 ·rename_i n t heq;split at heq
  ·rw [if_neg (by omega)]
  ·rw [if_neg (by omega)]
  ·rw [if_neg (by omega)]
  ·rw [if_neg (by omega)]
  ·cases heq
 ·rfl
theorem Seal_ok {lo1 lo2:Nat} {H:Heap} {k c:Nat} {K:Ky} {mv pv:V} {m p:List Nat} (hk:KeyM H k K) (hc:c < 18446744073709551616) (hm:By lo1 H mv m) (m8:Ok8 m) (hp:By lo2 H pv p) (p8:Ok8 p) (hml:m.length ≤ 274877906944) (hpl:p.length ≤ 1099511627776) :
  Ok (sem T zdD [.ptr k 0,.int .u64 (c:Nat),mv,pv]) H fun r H'=>Grow H H' ∧ if 1000 < p.length then r = .tup [.nils,.int .i64 4] else ∃ v,r = .tup [v,.int .i64 0] ∧ By H.next H' v (zed K c m p):=by
 refine zkg ?_;unfold zhn uL uNFM uB uc;have hg:=hk.good;have kl:=hk.low;simp (disch:=omega) only [↓RD,RZ,hp.vlen];rw [zdN];refine zbw (fun h=>?_) (fun h=>?_)
 ·simp (disch:=omega) only [↓RD,RZ];rw [if_pos (by omega)];exact ⟨Grow.refl _,trivial⟩
 ·obtain ⟨aa,av,sv,k1,kA,kv,ks⟩:=id hk.mem;simp (disch:=omega) only [↓RD,RZ,k1];refine zag (Bytes_ok hg.kid hc) ?_;rintro hv H1 ⟨hh,s1⟩;refine zag (zrQ (hk.grow s1) hc) ?_;rintro nv H2 ⟨hn,s2⟩;have s02:=s1.trans s2;refine zag (zr7 (hk.grow s02) hn (hp.ext s02) p8 hpl) ?_;rintro bv H3 ⟨hb,s3⟩;have s03:=s02.trans s3;have cl:=zfK K.ws (first (zbf K.salt c)) p;have hx:=zoO K.kid c;have nl:=zeD K.salt c;refine zag (zpc (hk.grow s03) (hn.ext s3) (zmF hg.salt8 c) ((hh.ext s2).ext s3) (zu1 _ _) (hm.ext s03) m8 hb (zvq hg.ws p8) (by rw [cl]; omega)) ?_;rintro tv H4 ⟨ht,s4⟩;have s04:=s03.trans s4;have hh4:=((hh.ext s2).ext s3).ext s4;have hb4:=hb.ext s4;have n1:=s1.next;have n2:=s2.next;have n3:=s3.next;have n4:=s4.next;simp (disch:=omega) only [↓RD,RZ,hh4.cells1,hh4.okc,hb4.cells1,hb4.okc,ht.cells1,ht.okc];have s5:=Grow.new H4 ⟨zar,[hv,bv,tv],none⟩;have g5:(H4.new ⟨zar,[hv,bv,tv],none⟩).get H4.next = _:=zab _ _;have n5:(H4.new ⟨zar,[hv,bv,tv],none⟩).next = H4.next + 1:=zaf _ _;have hlv:Lc 1 0 (H4.new ⟨zar,[hv,bv,tv],none⟩) (.sl H4.next 0 3 (.fix 3)) [hv,bv,tv] [hv,bv,tv].length:=ziI g5 rfl (by omega);have hps:Pts 0 H4 [hv,bv,tv] [hdr K.kid c,ctr K.ws (first (zbf K.salt c)) p,zha K (zbf K.salt c) (hdr K.kid c) m (ctr K.ws (first (zbf K.salt c)) p)] :=
   .cons (hh4.low (Nat.zero_le _)) (zu1 _ _) (.cons (hb4.low (Nat.zero_le _)) (zvq hg.ws p8) (.cons (ht.low (Nat.zero_le _)) (zmh _ _ _ _ _) .nil))
  have efl:[hdr K.kid c,ctr K.ws (first (zbf K.salt c)) p,zha K (zbf K.salt c) (hdr K.kid c) m (ctr K.ws (first (zbf K.salt c)) p)].flatten = zed K c m p:=by
   unfold zed; simp
  refine zag (Join_ok hlv (hps.grow s5) (show 2 ≤ 3 by decide) (show 3 ≤ 1000 by decide) (by rw [efl,zkc hg.t]; have:=hg.t; omega)) ?_;rintro v H6 ⟨hv6,s6⟩;rw [efl] at hv6;simp (disch:=omega) only [↓RD,RZ];rw [if_neg (by omega)];exact ⟨(s04.trans s5).trans s6,_,rfl,hv6.low (by omega)⟩
end Go.Ax.SU
/- Su26 -/
namespace Go.Ax.SU
open Go.Ax
theorem zow {b:List Nat} {kid c n:Nat} (h:parse b = .ok kid c n) (h8:Ok8 b):n ≤ b.length ∧ n ≤ 17 ∧ kid < 18446744073709551616 ∧ c < 18446744073709551616:=by
 unfold parse at h;split at h
 ·cases h
 ·dsimp only at h;split at h
  ·cases h
  ·split at h
   ·rename_i h2 h3;injection h with e1 e2 e3
    have g:=getD_lt h8 0;have q:∀ x,psz x ≤ x - 7 ∧ (x < 16 → psz x ≤ 8):=fun x=>by unfold psz; split <;> omega
    have r:∀ (x:Nat) (l:List Nat),x < 16 → Ok8 l → l.length ≤ 8 → pnum x l < 18446744073709551616:=fun x l hx hl h8=>by
     unfold pnum;split
     ·omega
     ·have:=zvF l hl;have h3:256 ^ l.length ≤ 256 ^ 8:=Nat.pow_le_pow_right (by decide) h8;omega
    have q1:=(q (b.getD 0 0 / 16)).2 (by omega);have q2:=(q (b.getD 0 0 % 16)).2 (by omega);refine ⟨by omega,by omega,?_,?_⟩
    ·rw [← e1];refine r _ _ (by omega) ((h8.take _).drop _) ?_;rw [List.length_drop,List.length_take]; omega
    ·rw [← e2];refine r _ _ (by omega) ((h8.take _).drop _) ?_;rw [List.length_drop,List.length_take]; omega
   ·cases h
def pov (H0 H:Heap) (r:V):PO → Prop
 | .err e=>r = .tup [.nils,.int .u64 0,.int .i64 (e:Nat)]
 | .ok p c=>∃ v,r = .tup [v,.int .u64 (c:Nat),.int .i64 0] ∧ By H0.next H v p
theorem Open_ok {lo1 lo2:Nat} {H:Heap} {k:Nat} {K:Ky} {bv mv:V} {b m:List Nat} (hk:KeyM H k K) (hb:By lo1 H bv b) (b8:Ok8 b) (hm:By lo2 H mv m) (m8:Ok8 m) (hml:m.length ≤ 274877906944) (hbl:b.length ≤ 1099511627776) :
  Ok (sem T zdE [.ptr k 0,bv,mv]) H fun r H'=>Grow H H' ∧ pov H H' r (zjL K b m):=by
 refine zkh ?_;unfold zho uL uNFM uE uB uc uq ug;have hg:=hk.good;have kl:=hk.low;have ht:=hg.t;obtain ⟨aa,av,sv,k1,kA,kv,ks⟩:=id hk.mem;refine zag (zob hb b8 (by omega)) ?_;rintro _ H ⟨rfl,rfl⟩;unfold zjL;cases hp:parse b with
 | err e =>
  have e0:(((e:Nat):Int) == 0) = false:=by
   have:e ≠ 0:=by
    unfold parse at hp;split at hp
    ·injection hp with hp; omega
    ·dsimp only at hp;split at hp
     ·injection hp with hp; omega
     ·split at hp
      ·cases hp
      ·injection hp with hp; omega
   rw [beqz]; exact decide_eq_false this
  simp (disch:=omega) only [↓RD,RZ,phv,k1,hb.vlen,e0,Bool.not_false];exact ⟨Grow.refl _,rfl⟩
 | ok kid c n =>
  obtain ⟨n1,n2,n3,n4⟩:=zow hp b8;dsimp only;simp (disch:=omega) only [↓RD,RZ,phv,k1,hb.vlen,beqn];by_cases hkid:kid = K.kid
  ·have ed:decide (kid = K.kid) = true:=decide_eq_true hkid;rw [if_neg (fun h=>h hkid)];simp (disch:=omega) only [↓RD,RZ,ed,Bool.not_true];rw [zdN];refine zbw (fun h1=>?_) (fun h1=>?_)
   ·simp (disch:=omega) only [↓RD,RZ];rw [if_pos (by omega)];exact ⟨Grow.refl _,rfl⟩
   ·rw [if_neg (by omega)];obtain ⟨z,hz⟩:∃ z,b.length - n - K.t = z:=⟨_,rfl⟩;have ez:((b.length:Nat):Int) - ((n:Nat):Int) - ((K.t:Nat):Int) = ((z:Nat):Int):=by omega
    have eb:b.length - K.t = n + z:=by omega
    rw [hz,eb];simp (disch:=omega) only [↓RD,RZ,ez];rw [zdN];refine zbw (fun h2=>?_) (fun h2=>?_)
    ·simp (disch:=omega) only [↓RD,RZ];rw [if_pos (by omega)];exact ⟨Grow.refl _,rfl⟩
    ·rw [if_neg (by omega)];obtain ⟨va,-,ha,-,hva,hpa⟩:=zbl hb (x:=0) (y:=(n:Nat)) (by omega) (by omega) (by omega);obtain ⟨vc,hc,-,-,hvc,hpc⟩:=zbl hb (x:=(n:Nat)) (y:=((n + z:Nat):Int)) (by omega) (by omega) (by omega);obtain ⟨vt,-,-,hx,hvt,hpt⟩:=zbl hb (x:=((n + z:Nat):Int)) (y:=(b.length:Nat)) (by omega) (by omega) (by omega);have ha:=ha rfl (k':=.i64);have hx:=hx rfl (k:=.i64);simp only [Int.toNat_natCast,Int.toNat_zero,List.drop_zero,Nat.sub_zero] at hva hvc hvt;rw [show n + z - n = z by omega] at hvc;rw [List.take_of_length_le (by rw [List.length_drop]; omega)] at hvt;have eq:((n:Nat):Int) + ((z:Nat):Int) = ((n + z:Nat):Int):=rfl;have eq':((n:Nat):Int) + (((b.length:Nat):Int) - ((n:Nat):Int) - ((K.t:Nat):Int)) = ((n + z:Nat):Int):=by omega
     simp (disch:=omega) only [↓RD,RZ,ha,hc,eq,eq'];refine zag (zrQ hk n4) ?_;rintro nv H1 ⟨hn,s1⟩;have nl:=zeD K.salt c;have lc:((b.drop n).take z).length = z:=by rw [List.length_take,List.length_drop]; omega
     have la:(b.take n).length = n:=by rw [List.length_take]; omega
     have c8:Ok8 ((b.drop n).take z):=(b8.drop n).take z;simp (disch:=omega) only [↓RD,RZ,hx,eq,eq'];refine zag (zpc (hk.grow s1) hn (zmF hg.salt8 c) (hva.ext s1) (b8.take n) (hm.ext s1) m8 (hvc.ext s1) c8 (by omega)) ?_;rintro tv H2 ⟨htv,s2⟩;have s02:=s1.trans s2;have kS:=@zbM _ _ _ _ (Same_ok htv (hvt.ext s02) (zmh _ _ _ _ _) (b8.drop _) (by rw [zpd ht]; omega));simp (disch:=omega) only [↓RD,RZ,kS];by_cases htg:zha K (zbf K.salt c) (b.take n) m ((b.drop n).take z) = b.drop (n + z)
     ·rw [if_pos htg];have e:decide (zha K (zbf K.salt c) (b.take n) m ((b.drop n).take z) = b.drop (n + z)) = true:=decide_eq_true htg;simp (disch:=omega) only [↓RD,RZ,e,Bool.not_true];refine zag (zr7 (hk.grow s02) (hn.ext s2) (hvc.ext s02) c8 (by omega)) ?_;rintro pv H3 ⟨hpv,s3⟩;have q1:=s1.next;have q2:=s2.next;simp (disch:=omega) only [↓RD,RZ];exact ⟨s02.trans s3,_,rfl,hpv.low (by omega)⟩
     ·rw [if_neg htg];have e:decide (zha K (zbf K.salt c) (b.take n) m ((b.drop n).take z) = b.drop (n + z)) = false:=decide_eq_false htg;simp (disch:=omega) only [↓RD,RZ,e,Bool.not_false];exact ⟨s02,rfl⟩
  ·have ed:decide (kid = K.kid) = false:=decide_eq_false hkid;rw [if_pos hkid];simp (disch:=omega) only [↓RD,RZ,ed,Bool.not_false];exact ⟨Grow.refl _,rfl⟩
theorem szs_n {id n t:Nat} (h:szs id = some (n,t)):(n = 16 ∨ n = 32) ∧ t ≤ 10 ∧ id ≤ 16:=by
 unfold szs at h;split at h <;> simp at h <;> omega
theorem zoJ (id kid n:Nat) (base:List Nat) (hn:n ≤ 32):(keyb id kid n base).length = n + 32:=by
 unfold keyb;rw [List.length_take,zf3];omega
theorem ztT (id kid:Nat) (base:List Nat):(saltb id kid base).length = 12:=by
 unfold saltb;rw [List.length_take,zf3];rfl
theorem zuS (id kid n:Nat) (base:List Nat):Ok8 (keyb id kid n base):=Ok8.take (zlc _ _ _ _).1 _
theorem saltb_8 (id kid:Nat) (base:List Nat):Ok8 (saltb id kid base):=Ok8.take (zlc _ _ _ _).1 _
theorem zoW {id kid n t:Nat} {base:List Nat} (h:szs id = some (n,t)) (hk:kid < 18446744073709551616):KyG (drv id kid n t base):=by
 obtain ⟨h1,h2,h3⟩:=szs_n h;have kl:=zoJ id kid n base (by omega);have k8:=zuS id kid n base;unfold drv;refine ⟨hk,by dsimp only; omega,?_,?_,?_,?_,?_,k8.drop _,ztT _ _ _,saltb_8 _ _ _⟩
 ·exact zjU (by omega) (k8.take _) (by rw [List.length_take]; omega) _
 ·dsimp only; rw [zhj]; omega
 ·dsimp only; rw [zhj]; omega
 ·dsimp only; rw [zhj]; omega
 ·dsimp only; rw [List.length_drop,kl]; omega
theorem zi4 {lo n:Nat} {H:Heap} {y:V} {l m:List Nat} {F:V → M Res} {Q:Res → Heap → Prop} (hl:l.length = n) (h0:0 < n) (hy:By lo H y m) (hm:n + m.length ≤ 1099511627776) (k:∀ x' H',Ab H.next H' x' (l ++ m) → Grow H H' → Ok (F x') H' Q) :
  Ok ((mremark zad (.sl H.next 0 n (.fix n))).bind fun t=>(mappend zad 1 1 t y).bind F) (H.new ⟨zad,l.map by8,none⟩) Q:=by
 have s1:=Grow.new H ⟨zad,l.map by8,none⟩;have g1:(H.new ⟨zad,l.map by8,none⟩).get H.next = _:=zab _ _;have n1:(H.new ⟨zad,l.map by8,none⟩).next = H.next + 1:=zaf _ _;have hy1:=hy.ext s1;generalize H.new _ = H1 at *;refine zao ⟨.sl H.next 0 n (.fix n),H1,?_,?_⟩
 ·simp only [mremark,g1,Option.bind_some];rw [if_neg (by omega)]
 ·subst hl;refine zeV (lo:=H.next) (l:=l) (m:=m) (.full g1 (by simp) (Nat.le_refl _) (by omega)) (by omega) hy1.ac (by omega) fun x' H2 h2 b2=>?_;exact k x' H2 h2 (s1.bel' (Nat.le_refl _) b2)
def znM (lo:Nat) (H:Heap) (k:Nat):Prop:=∀ x y a av sv,H.get k = some ⟨zaR,[x,y,.ptr a 0,av,sv],none⟩ → ∀ j,av.pid = some j ∨ sv.pid = some j → lo ≤ j
theorem zqj {lo:Nat} {H:Heap} {kid:Nat} {id:Int} {bv:V} {base:List Nat} (h0:-9223372036854775808 ≤ id) (hk:kid < 18446744073709551616) (hb:By lo H bv base) (b8:Ok8 base) (hbl:base.length ≤ 1099511627776) :
  Ok (sem T zbS [.int .i64 id,.int .u64 (kid:Nat),bv]) H fun r H'=>Grow H H' ∧ ((id < 0 ∨ szs id.toNat = none) ∧ r = .tup [.nilp,.int .i64 1] ∨ ∃ n t k,0 ≤ id ∧ szs id.toNat = some (n,t) ∧ r = .tup [.ptr k 0,.int .i64 0] ∧ KeyM H' k (drv id.toNat kid n t base) ∧ H.next ≤ k ∧ znM H.next H' k):=by
 refine zmv ?_;unfold zju uL uT uE uB uO uc ub uq;refine zag (zry id h0) ?_;rintro _ H ⟨rfl,rfl⟩;cases hs:szs id.toNat with
 | none =>
  simp (disch:=omega) only [↓RD,RZ,eq_self,seval];exact ⟨Grow.refl _,.inl (.inr trivial)⟩
 | some q =>
  obtain ⟨n,t⟩:=q;dsimp only;by_cases hi:0 ≤ id
  ·rw [if_pos hi];obtain ⟨hn,ht,hid⟩:=szs_n hs;obtain ⟨i,hii⟩:∃ i:Nat,id = (i:Nat):=⟨id.toNat,by omega⟩;subst hii;rw [Int.toNat_natCast] at *;have w0:IntKind.u64.wrap ((i:Nat):Int) = ((i:Nat):Int):=by rw [wrap_u64]; omega
   simp (disch:=omega) only [↓RD,RZ,eq_self,seval];refine zag (zoc (Lc.nil:By 0 H .nils []) Ok8.nil (by decide) hb b8 hbl) ?_;rintro _ H1 ⟨rfl,s1⟩;have n1:=s1.next;have sl:(zaI base).length = 32:=zc5 _ _ _;have s8:Ok8 (zaI base):=zjX _ _ _;have eS:hmac kc [] base = zaI base:=rfl;rw [eS];have sp:=sp32 sl;have l32:((zaI base).map by8).length = 32:=by rw [List.length_map,sl]
   simp (disch:=omega) only [↓RD,RZ,eq_self,seval,zaY,zaj,sp,l32];have s2:Grow H ((H1.new ⟨zae,[.int .u8 0,.int .u8 0,.int .u8 0,.int .u8 0,.int .u8 0,.int .u8 0,.int .u8 0,.int .u8 0,.int .u8 0,.int .u8 0,.int .u8 0,.int .u8 0,.int .u8 0,.int .u8 0,.int .u8 0,.int .u8 0,.int .u8 0,.int .u8 0,.int .u8 0,.int .u8 0,.int .u8 0,.int .u8 0,.int .u8 0,.int .u8 0,.int .u8 0,.int .u8 0,.int .u8 0,.int .u8 0,.int .u8 0,.int .u8 0,.int .u8 0,.int .u8 0],none⟩).set H1.next (some ⟨zae,(zaI base).map by8,none⟩)):=(s1.trans (Grow.new _ _)).set (by omega) _;have g2:((H1.new ⟨zae,[.int .u8 0,.int .u8 0,.int .u8 0,.int .u8 0,.int .u8 0,.int .u8 0,.int .u8 0,.int .u8 0,.int .u8 0,.int .u8 0,.int .u8 0,.int .u8 0,.int .u8 0,.int .u8 0,.int .u8 0,.int .u8 0,.int .u8 0,.int .u8 0,.int .u8 0,.int .u8 0,.int .u8 0,.int .u8 0,.int .u8 0,.int .u8 0,.int .u8 0,.int .u8 0,.int .u8 0,.int .u8 0,.int .u8 0,.int .u8 0,.int .u8 0,.int .u8 0],none⟩).set H1.next (some ⟨zae,(zaI base).map by8,none⟩)).get H1.next = _:=zal _ _ _;have n2:((H1.new ⟨zae,[.int .u8 0,.int .u8 0,.int .u8 0,.int .u8 0,.int .u8 0,.int .u8 0,.int .u8 0,.int .u8 0,.int .u8 0,.int .u8 0,.int .u8 0,.int .u8 0,.int .u8 0,.int .u8 0,.int .u8 0,.int .u8 0,.int .u8 0,.int .u8 0,.int .u8 0,.int .u8 0,.int .u8 0,.int .u8 0,.int .u8 0,.int .u8 0,.int .u8 0,.int .u8 0,.int .u8 0,.int .u8 0,.int .u8 0,.int .u8 0,.int .u8 0,.int .u8 0],none⟩).set H1.next (some ⟨zae,(zaI base).map by8,none⟩)).next = H1.next + 1:=rfl;generalize hq:H1.next = q at *;generalize Heap.set _ q _ = H2 at *;refine zag (zhh kid 8 hk (by decide)) ?_;rintro x1 H3 ⟨hx1,s3⟩;have n3:=s3.next;simp (disch:=omega) only [↓RD,RZ,eq_self,seval,w0];refine zag (zhh i 2 (by omega) (by decide)) ?_;rintro x2 H4 ⟨hx2,s4⟩;have n4:=s4.next;refine zeV (hx1.keep (s4.keep _)) (by omega) hx2.by.ac (by rw [zcs,zcs]; decide) fun x3 H5 hx3 b5=>?_;have n5:=b5.next;have s25:Grow H2 H5:=(s3.trans s4).bel' (Nat.le_refl _) b5;have g5:=(s25.same q (by omega)).trans g2;have vs:=zg7 (n:=32) (id:=q);have ad:((n:Nat):Int) + 32 = ((n + 32:Nat):Int):=rfl;have hx3b:=hx3.by;have il:(num kid 8 ++ num i 2).length = 10:=by rw [List.length_append,zcs,zcs]
   have i8:Ok8 (num kid 8 ++ num i 2):=(zfo _ _).app (zfo _ _);simp (disch:=omega) only [↓RD,RZ,eq_self,seval,vs,ad];rw [zaK];refine zi4 (l:=sKey) rfl (by decide) hx3b (by omega) fun x6 H6 hx6 s6=>?_;have n6:=s6.next;have g6:=(s6.same q (by omega)).trans g5;have skl:(sKey ++ (num kid 8 ++ num i 2)).length = 32:=by rw [List.length_append,il]; rfl
   have sk8:Ok8 (sKey ++ (num kid 8 ++ num i 2)):=(all8 rfl).app i8;refine zag (znm (ze5 (lo:=0) g6 sl (by omega) (by omega)) s8 (by omega) hx6.by sk8 (by omega) (show n + 32 ≤ 8160 by omega)) ?_;rintro _ H7 ⟨key,rfl,hkey,s7⟩;have n7:=s7.next;have ek:((hkdf kc (zaI base) (sKey ++ (num kid 8 ++ num i 2)) ((n + 32 + 31) / 32)).1.take (n + 32)) = keyb i kid n base:=by
    unfold keyb;rw [show (n + 32 + 31) / 32 = 2 by omega]
   rw [ek] at hkey;have kl:=zoJ i kid n base (by omega);have k8:=zuS i kid n base;have g7:=(s7.same q (by omega)).trans g6;have hx7:=(hx3b.ext s6).ext s7;simp (disch:=omega) only [↓RD,RZ,eq_self,seval,vs];rw [zaK];refine zi4 (l:=zqu) rfl (by decide) hx7 (by omega) fun x8 H8 hx8 s8'=>?_;have n8:=s8'.next;have g8:=(s8'.same q (by omega)).trans g7;have ssl:(zqu ++ (num kid 8 ++ num i 2)).length = 33:=by rw [List.length_append,il]; rfl
   have ss8:Ok8 (zqu ++ (num kid 8 ++ num i 2)):=(all8 rfl).app i8;refine zag (znm (ze5 (lo:=0) g8 sl (by omega) (by omega)) s8 (by omega) hx8.by ss8 (by omega) (show 12 ≤ 8160 by omega)) ?_;rintro _ H9 ⟨salt,rfl,hsalt,s9⟩;have n9:=s9.next;have hkey9:=(hkey.ext s8').ext s9;obtain ⟨va,-,ha,-,hva,-⟩:=zbl hkey9 (x:=0) (y:=(n:Nat)) (by omega) (by omega) (by omega);obtain ⟨vb,-,-,hvb',hvb,-⟩:=zbl hkey9 (x:=(n:Nat)) (y:=((keyb i kid n base).length:Nat)) (by omega) (by omega) (by omega);have ha:=ha rfl (k':=.i64);have hvb':=hvb' rfl (k:=.i64);simp only [Int.toNat_natCast,Int.toNat_zero,List.drop_zero,Nat.sub_zero] at hva hvb;rw [List.take_of_length_le (by rw [List.length_drop]; omega)] at hvb;simp (disch:=omega) only [↓RD,RZ,eq_self,seval,ha];refine zag (KNew_ok (n:=n / 4) hva (k8.take n) (by omega) (by rw [List.length_take]; omega)) ?_;rintro _ H10 ⟨k,rfl,hA,s10,hkk⟩;have n10:=s10.next;have hvb10:=hvb.ext s10;have hs10:=hsalt.ext s10;simp (disch:=omega) only [↓RD,RZ,eq_self,seval,hvb',hvb10.cells1,hvb10.okc,hs10.cells1,hs10.okc];have s010:Grow H H10:=((((((s2.trans s25).trans s6).trans s7).trans s8').trans s9).trans s10);have s11:=Grow.new H10 ⟨zaR,[.int .u64 (kid:Nat),.int .i64 (t:Nat),.ptr k 0,vb,salt],none⟩;refine ⟨s010.trans s11,.inr ⟨n,t,H10.next,by omega,rfl,rfl,⟨zoW hs hk,⟨k,vb,salt,zab _ _,hA.grow s11,(hvb10.ext s11).low (Nat.zero_le _),(hs10.ext s11).low (Nat.zero_le _)⟩,by rw [zaf]; omega⟩,by omega,?_⟩⟩;intro x y a' av' sv' e j hj;rw [zab] at e;simp only [Option.some.injEq,Blk.mk.injEq,List.cons.injEq,true_and,and_true] at e;obtain ⟨-,-,-,rfl,rfl⟩:=e;rcases hj with hj | hj
   ·have:=(hvb.own j hj).1; omega
   ·have:=(hsalt.own j hj).1; omega
  ·rw [if_neg hi];simp (disch:=omega) only [↓RD,RZ,eq_self,seval];exact ⟨Grow.refl _,.inl (.inl (by omega))⟩
theorem zv3 {lo:Nat} {H:Heap} {kid:Nat} {id:Int} {bv:V} {base:List Nat} (h0:-9223372036854775808 ≤ id) (hk:kid < 18446744073709551616) (hb:By lo H bv base) (b8:Ok8 base) (hbl:base.length ≤ 1099511627776) :
  Ok (sem T zbS [.int .i64 id,.int .u64 (kid:Nat),bv]) H fun r H'=>Grow H H' ∧ ((id < 0 ∨ szs id.toNat = none) ∧ r = .tup [.nilp,.int .i64 1] ∨ ∃ n t k,0 ≤ id ∧ szs id.toNat = some (n,t) ∧ r = .tup [.ptr k 0,.int .i64 0] ∧ KeyM H' k (drv id.toNat kid n t base) ∧ H.next ≤ k):=by
 refine zas (zqj h0 hk hb b8 hbl) ?_;rintro r H' ⟨g,h | ⟨n,t,k,h1,h2,h3,h4,h5,_⟩⟩
 ·exact ⟨g,.inl h⟩
 ·exact ⟨g,.inr ⟨n,t,k,h1,h2,h3,h4,h5⟩⟩
end Go.Ax.SU
/- Su27 -/
namespace Go.Ax.SU
open Go.Ax
theorem zin {n:Nat} {H:Heap} {l:List Nat} {F:V → M Res} {Q:Res → Heap → Prop} (hl:l.length = n) (h0:0 < n) (k:∀ x' H',By H.next H' x' l → Grow H H' → Ok (F x') H' Q) :
  Ok ((mremark zad (.sl H.next 0 n (.fix n))).bind F) (H.new ⟨zad,l.map by8,none⟩) Q:=by
 have s1:=Grow.new H ⟨zad,l.map by8,none⟩;have g1:(H.new ⟨zad,l.map by8,none⟩).get H.next = _:=zab _ _;have n1:(H.new ⟨zad,l.map by8,none⟩).next = H.next + 1:=zaf _ _;generalize H.new _ = H1 at *;refine zao ⟨.sl H.next 0 n (.fix n),H1,?_,?_⟩
 ·simp only [mremark,g1,Option.bind_some];rw [if_neg (by omega)]
 ·exact k _ _ (ze5 g1 hl (Nat.le_refl _) (by omega)) s1
theorem zp6 {lo:Nat} {H:Heap} {kid id n t:Nat} {bv:V} {base:List Nat} (hs:szs id = some (n,t)) (hk:kid < 18446744073709551616) (hb:By lo H bv base) (b8:Ok8 base) (hbl:base.length ≤ 1099511627776) :
  Ok (sem T zbS [.int .i64 (id:Nat),.int .u64 (kid:Nat),bv]) H fun r H'=>Grow H H' ∧ ∃ k,r = .tup [.ptr k 0,.int .i64 0] ∧ KeyM H' k (drv id kid n t base) ∧ H.next ≤ k:=by
 refine zas (zv3 (by omega) hk hb b8 hbl) ?_;rintro r H' ⟨g,⟨h1 | h1,_⟩ | ⟨n',t',k,h1,h2,rfl,h4,h5⟩⟩
 ·omega
 ·rw [Int.toNat_natCast,hs] at h1; cases h1
 ·rw [Int.toNat_natCast,hs] at h2;injection h2 with h2
  injection h2 with e1 e2
  subst e1 e2;rw [Int.toNat_natCast] at h4;exact ⟨g,k,rfl,h4,h5⟩
end Go.Ax.SU
namespace Go.Ax
open SU
end Go.Ax
/- Re1 -/
namespace Go.Ax.SU
open Go.Ax
theorem w_rot' (x:UInt32) {k k':IntKind} {n:Nat} {a b:Int} (ha:a = (32 - n:Nat)) (hb:b = n):(Ax.bin .shr (w32 x) (.int k' b)).bind (fun v=>(Ax.bin .shl (w32 x) (.int k a)).bind fun u=>Ax.bin .or v u) = some (w32 (rotr x n)):=by
 subst ha hb;unfold w32;have h1:=x.toNat_lt;rw [zqo (by omega) (by omega),zon (by omega) (by omega) (by omega)];have h2:shr x.toNat n ≤ x.toNat:=zrE _ _;simp only [Option.bind_some,Int.toNat_natCast];rw [zub (by omega) (by omega) (by omega) (by have:=Nat.mod_lt (shl x.toNat (32 - n)) (show 0 < 4294967296 by decide); omega),zrI];simp only [Int.toNat_natCast,zfB,zoo]
theorem right_eq (x:UInt32) (n:Nat) (h0:0 < n) (h1:n < 32):sem T zam [w32 x,.int .u64 (n:Nat)] = M.pure (w32 (rotr x n)):=by
 refine zdv fun H=>?_;refine zh9 ?_;unfold zfs uB uq;have e4:Ax.bin .sub (.int .u64 32) (.int .u64 (n:Nat)) = some (.int .u64 ((32 - n:Nat):Int)):=by
  rw [zrc,wrap_u64];congr 2;omega
 have e5:=w_rot' x (k:=.u64) (k':=.u64) (n:=n) (a:=((32 - n:Nat):Int)) (b:=(n:Nat)) rfl rfl;obtain ⟨u,hu,hu2⟩:=Option.bind_eq_some_iff.1 e5;obtain ⟨v,hv,hv2⟩:=Option.bind_eq_some_iff.1 hu2;simp (disch:=omega) only [↓RD,RZ,eq_self,seval,hv,e4,hu,hv2]
theorem r7 (x:UInt32):sem T zam [w32 x,.int .u64 7] = M.pure (w32 (rotr x 7)):=right_eq x 7 (by omega) (by omega)
theorem r18 (x:UInt32):sem T zam [w32 x,.int .u64 18] = M.pure (w32 (rotr x 18)):=right_eq x 18 (by omega) (by omega)
theorem r17 (x:UInt32):sem T zam [w32 x,.int .u64 17] = M.pure (w32 (rotr x 17)):=right_eq x 17 (by omega) (by omega)
theorem r19 (x:UInt32):sem T zam [w32 x,.int .u64 19] = M.pure (w32 (rotr x 19)):=right_eq x 19 (by omega) (by omega)
theorem r6 (x:UInt32):sem T zam [w32 x,.int .u64 6] = M.pure (w32 (rotr x 6)):=right_eq x 6 (by omega) (by omega)
theorem r11 (x:UInt32):sem T zam [w32 x,.int .u64 11] = M.pure (w32 (rotr x 11)):=right_eq x 11 (by omega) (by omega)
theorem r25 (x:UInt32):sem T zam [w32 x,.int .u64 25] = M.pure (w32 (rotr x 25)):=right_eq x 25 (by omega) (by omega)
theorem r2 (x:UInt32):sem T zam [w32 x,.int .u64 2] = M.pure (w32 (rotr x 2)):=right_eq x 2 (by omega) (by omega)
theorem r13 (x:UInt32):sem T zam [w32 x,.int .u64 13] = M.pure (w32 (rotr x 13)):=right_eq x 13 (by omega) (by omega)
theorem r22 (x:UInt32):sem T zam [w32 x,.int .u64 22] = M.pure (w32 (rotr x 22)):=right_eq x 22 (by omega) (by omega)
theorem zuG {lo wb:Nat} {u6:V} {H:Heap} {v:V} {l:List Nat} (hv:By lo H v l) (h8:Ok8 l) (hl:l.length = 64) (hw:H.get wb = some ⟨zau,List.replicate 64 (.int .u32 0),none⟩) (hp:v.pid ≠ some wb) (hwl:wb < H.next) :
  Ok (M.iter (zcj (sem T) v (.ptr wb 0) u6) [.int .i64 0]) H fun r H'=>r = .ex 0 [] ∧ H'.get wb = some ⟨zau,(wl l 16).map w32 ++ List.replicate 48 (.int .u32 0),none⟩ ∧ At1 wb H H':=by
 refine zaE (fun k L H'=>L = [.int .i64 (k:Nat)] ∧ H'.get wb = some ⟨zau,(wl l k).map w32 ++ List.replicate (64 - k) (.int .u32 0),none⟩ ∧ At1 wb H H') 16 ?_ ?_ ?_
 ·exact ⟨rfl,hw,At1.refl _ _⟩
 ·rintro k L H1 hk ⟨rfl,g1,s1⟩;have hv1:=hv.at1 s1 hp;have hln:(wl l k).length = k:=zo7 l k;have hlm:((wl l k).map w32).length = k:=by rw [List.length_map,hln]
  have hlr:((wl l k).map w32 ++ List.replicate (64 - k) (V.int .u32 0)).length = 64:=by rw [List.length_append,hlm,List.length_replicate]; omega
  have q0:(4:Int) * (k:Int) = ((4 * k:Nat):Int):=by omega
  have q1:((4 * k:Nat):Int) + 1 = ((4 * k + 1:Nat):Int):=by omega
  have q2:((4 * k:Nat):Int) + 2 = ((4 * k + 2:Nat):Int):=by omega
  have q3:((4 * k:Nat):Int) + 3 = ((4 * k + 3:Nat):Int):=by omega
  obtain ⟨p0,i0,l0,-⟩:=zfL hv1 (i:=((4 * k:Nat):Int)) (by omega) (by omega);obtain ⟨p1,i1,l1,-⟩:=zfL hv1 (i:=((4 * k + 1:Nat):Int)) (by omega) (by omega);obtain ⟨p2,i2,l2,-⟩:=zfL hv1 (i:=((4 * k + 2:Nat):Int)) (by omega) (by omega);obtain ⟨p3,i3,l3,-⟩:=zfL hv1 (i:=((4 * k + 3:Nat):Int)) (by omega) (by omega);have b0:=h8.getD (4 * k);have b1:=h8.getD (4 * k + 1);have b2:=h8.getD (4 * k + 2);have b3:=h8.getD (4 * k + 3);simp only [Int.toNat_natCast] at l0 l1 l2 l3;have sn:wl l (k + 1) = wl l k ++ [word l k]:=by rw [zoe,if_pos hk]
  have hwd:word l k = UInt32.ofNat (be [l.getD (4 * k) 0,l.getD (4 * k + 1) 0,l.getD (4 * k + 2) 0,l.getD (4 * k + 3) 0]):=rfl;have hww:=w_nat (be [l.getD (4 * k) 0,l.getD (4 * k + 1) 0,l.getD (4 * k + 2) 0,l.getD (4 * k + 3) 0]) (by simp only [be,List.foldl_cons,List.foldl_nil]; omega);rw [← hwd] at hww;have hb:be [l.getD (4 * k) 0,l.getD (4 * k + 1) 0,l.getD (4 * k + 2) 0,l.getD (4 * k + 3) 0] = l.getD (4 * k) 0 * 16777216 + l.getD (4 * k + 1) 0 * 65536 + l.getD (4 * k + 2) 0 * 256 + l.getD (4 * k + 3) 0:=by simp only [be,List.foldl_cons,List.foldl_nil]; omega
  rw [hb] at hww;clear hwd hb;generalize word l k = wd at *;generalize l.getD (4 * k) 0 = a0 at *;generalize l.getD (4 * k + 1) 0 = a1 at *;generalize l.getD (4 * k + 2) 0 = a2 at *;generalize l.getD (4 * k + 3) 0 = a3 at *;have m0:a0 * 16777216 % 4294967296 = a0 * 16777216:=Nat.mod_eq_of_lt (by omega);have m1:a1 * 65536 % 4294967296 = a1 * 65536:=Nat.mod_eq_of_lt (by omega);have m2:a2 * 256 % 4294967296 = a2 * 256:=Nat.mod_eq_of_lt (by omega);have o1:a0 * 16777216 ||| a1 * 65536 = a0 * 16777216 + a1 * 65536:=zjo a0 _ 24 (by omega);have o2:a0 * 16777216 + a1 * 65536 ||| a2 * 256 = a0 * 16777216 + a1 * 65536 + a2 * 256:=by
   have:=zjo (a0 * 256 + a1) (a2 * 256) 16 (by omega);rw [show (a0 * 256 + a1) * 2 ^ 16 = a0 * 16777216 + a1 * 65536 by omega] at this;exact this
  have o3:a0 * 16777216 + a1 * 65536 + a2 * 256 ||| a3 = a0 * 16777216 + a1 * 65536 + a2 * 256 + a3:=by
   have:=zjo (a0 * 65536 + a1 * 256 + a2) a3 8 (by omega);rw [show (a0 * 65536 + a1 * 256 + a2) * 2 ^ 8 = a0 * 16777216 + a1 * 65536 + a2 * 256 by omega] at this;exact this
  unfold zcj uL uT uB uI uIM uc uq ug;simp (disch:=omega) only [↓RD,RZ,eq_self,seval,q0,q1,q2,q3,i0,l0,i1,l1,i2,l2,i3,l3,m0,m1,m2,o1,o2,o3,hww,g1,zaZ hlm (show k < 64 by omega),w_ok,zhz,hlr];refine ⟨by omega,rfl,?_,s1.trans (At1.set wb _ _)⟩;rw [sn];simp
 ·rintro L H1 ⟨rfl,g1,s1⟩;unfold zcj uL uT uB uI uIM uc uq ug;simp (disch:=omega) only [↓RD,RZ,eq_self,seval];exact ⟨g1,s1⟩
theorem zuF {wb:Nat} {u6:V} {H:Heap} {l:List Nat} (hw:H.get wb = some ⟨zau,(wl l 16).map w32 ++ List.replicate 48 (.int .u32 0),none⟩) (hwl:wb < H.next) :
  Ok (M.iter (zci (sem T) (.ptr wb 0) u6) [.int .i64 16]) H fun r H'=>r = .ex 2 [] ∧ H'.get wb = some ⟨zau,(wl l 64).map w32,none⟩ ∧ At1 wb H H':=by
 refine zaE (fun j L H'=>L = [.int .i64 ((16 + j:Nat):Int)] ∧ H'.get wb = some ⟨zau,(wl l (16 + j)).map w32 ++ List.replicate (48 - j) (.int .u32 0),none⟩ ∧ At1 wb H H') 48 ?_ ?_ ?_
 ·exact ⟨rfl,hw,At1.refl _ _⟩
 ·rintro j L H1 hj ⟨rfl,g1,s1⟩;obtain ⟨k,hk⟩:∃ k,16 + j = k:=⟨_,rfl⟩;rw [show 16 + (j + 1) = k + 1 by omega,show 48 - (j + 1) = 64 - (k + 1) by omega];rw [hk,show 48 - j = 64 - k by omega] at g1;rw [hk];have hln:(wl l k).length = k:=zo7 l k;have hlm:((wl l k).map w32).length = k:=by rw [List.length_map,hln]
  have hlr:((wl l k).map w32 ++ List.replicate (64 - k) (V.int .u32 0)).length = 64:=by rw [List.length_append,hlm,List.length_replicate]; omega
  have w15:=wga (ws:=wl l k) (r:=List.replicate (64 - k) (V.int .u32 0)) (i:=k - 15) (by omega);have w2:=wga (ws:=wl l k) (r:=List.replicate (64 - k) (V.int .u32 0)) (i:=k - 2) (by omega);have w16:=wga (ws:=wl l k) (r:=List.replicate (64 - k) (V.int .u32 0)) (i:=k - 16) (by omega);have w7:=wga (ws:=wl l k) (r:=List.replicate (64 - k) (V.int .u32 0)) (i:=k - 7) (by omega);have e15:(k:Int) - 15 = ((k - 15:Nat):Int):=by omega
  have e2:(k:Int) - 2 = ((k - 2:Nat):Int):=by omega
  have e16:(k:Int) - 16 = ((k - 16:Nat):Int):=by omega
  have e7:(k:Int) - 7 = ((k - 7:Nat):Int):=by omega
  unfold zci uM uT uB uI uIM uU uc uq ug;simp (disch:=omega) only [↓RD,RZ,eq_self,seval,e15,e2,e16,e7,w15,w2,w16,w7,r7,r18,r17,r19,s3,s10,zsv,w_xor,g1,zaZ hlm (show k < 64 by omega),w_ok,zhz,hlr];refine ⟨by omega,rfl,?_,s1.trans (At1.set wb _ _)⟩;rw [zoe,if_neg (by omega)];simp [wnext,sg0,sg1]
 ·rintro L H1 ⟨rfl,g1,s1⟩;unfold zci uM uT uB uI uIM uU uc uq ug;simp (disch:=omega) only [↓RD,RZ,eq_self,seval];refine ⟨?_,s1⟩;rw [g1];simp
theorem zuE {cb wb vb:Nat} {u6:V} {H:Heap} {l:List Nat} {h:List UInt32} (hh:h.length = 8) (hc:H.get cb = some ⟨zau,kc.map w32,none⟩) (hw:H.get wb = some ⟨zau,(wl l 64).map w32,none⟩)
  (hb:H.get vb = some ⟨zap,h.map w32,none⟩) (h1:vb ≠ cb) (h2:vb ≠ wb) (hcl:cb < H.next) (hwl:wb < H.next) :
  Ok (M.iter (zch (sem T) (.ptr cb 0) (.ptr wb 0) (.ptr vb 0) u6) [.int .i64 0]) H fun r H'=>r = .ex 4 [] ∧ H'.get vb = some ⟨zap,(rnds kc (wl l 64) h 64).map w32,none⟩ ∧ At1 vb H H':=by
 refine zaE (fun k L H'=>L = [.int .i64 (k:Nat)] ∧ H'.get vb = some ⟨zap,(rnds kc (wl l 64) h k).map w32,none⟩ ∧ At1 vb H H') 64 ?_ ?_ ?_
 ·exact ⟨rfl,hb,At1.refl _ _⟩
 ·rintro k L H1 hk ⟨rfl,g1,s1⟩;have gc:=(s1.same cb hcl (Ne.symm h1)).trans hc;have gw:=(s1.same wb hwl (Ne.symm h2)).trans hw;have hl8:(rnds kc (wl l 64) h k).length = 8:=zlV hh k;have hlm:((rnds kc (wl l 64) h k).map w32).length = 8:=by rw [List.length_map,hl8]
  have v0:=wg (ws:=rnds kc (wl l 64) h k) (i:=0) (by omega);have v1:=wg (ws:=rnds kc (wl l 64) h k) (i:=1) (by omega);have v2:=wg (ws:=rnds kc (wl l 64) h k) (i:=2) (by omega);have v3:=wg (ws:=rnds kc (wl l 64) h k) (i:=3) (by omega);have v4:=wg (ws:=rnds kc (wl l 64) h k) (i:=4) (by omega);have v5:=wg (ws:=rnds kc (wl l 64) h k) (i:=5) (by omega);have v6:=wg (ws:=rnds kc (wl l 64) h k) (i:=6) (by omega);have v7:=wg (ws:=rnds kc (wl l 64) h k) (i:=7) (by omega);have wk:=wg (ws:=wl l 64) (i:=k) (by rw [zo7]; exact hk);have kk:=wg (ws:=kc) (i:=k) (by rw [zlz]; exact hk);have hsp:∀ (L:List V),L.length = 8 → splice ((rnds kc (wl l 64) h k).map w32) 0 L = L:=fun L hL=>by
   unfold splice;rw [List.take_zero,List.nil_append,hL,List.drop_of_length_le (by rw [hlm]; omega),List.append_nil]
  unfold zch uL uM uT uB uI uIM uU uc uq ug;have er:rnds kc (wl l 64) h (k + 1) = rnd (rnds kc (wl l 64) h k) (kc.getD k 0) ((wl l 64).getD k 0):=rfl;rw [er];generalize rnds kc (wl l 64) h k = vs at *;simp (disch:=omega) only [↓RD,RZ,eq_self,seval,g1,v0,v1,v2,v3,v4,v5,v6,v7,gc,gw,wk,kk,r6,r11,r25,r2,r13,r22,zsv,w_xor,w_and,w_not,w_ok,zhz,hlm];refine ⟨rfl,?_,s1.trans (At1.set vb _ _)⟩;rw [hsp _ rfl];refine congrArg (fun c=>some (Blk.mk zap c none)) ?_;exact List.cons_eq_cons.2 ⟨congrArg w32 (UInt32.add_assoc _ _ _),rfl⟩
 ·rintro L H1 ⟨rfl,g1,s1⟩;unfold zch uL uM uT uB uI uIM uU uc uq ug;simp (disch:=omega) only [↓RD,RZ,eq_self,seval];exact ⟨g1,s1⟩
end Go.Ax.SU
/- Re2 -/
namespace Go.Ax.SU
open Go.Ax
theorem zuD {s vb:Nat} {u6:V} {H:Heap} {h ws:List UInt32} (hh:h.length = 8) (hw:ws.length = 8) (hs:H.get s = some ⟨zap,h.map w32,none⟩) (hb:H.get vb = some ⟨zap,ws.map w32,none⟩) (hne:vb ≠ s) (hvl:vb < H.next) :
  Ok (M.iter (zcg (sem T) (.ptr vb 0) (.ptr s 0) u6) [.int .i64 0]) H fun x H'=>x = .ex 6 [] ∧ H'.get s = some ⟨zap,((List.range 8).map fun i=>h.getD i 0 + ws.getD i 0).map w32,none⟩ ∧ At1 s H H':=by
 refine zaE (fun k L H'=>L = [.int .i64 (k:Nat)] ∧ H'.get s = some ⟨zap,(part h ws k).map w32,none⟩ ∧ At1 s H H') 8 ?_ ?_ ?_
 ·exact ⟨rfl,by rw [zps ws hh]; exact hs,At1.refl _ _⟩
 ·rintro k L H1 hk ⟨rfl,g1,s1⟩;have gb:=(s1.same vb hvl hne).trans hb;have i1:=wg (ws:=part h ws k) (i:=k) (by rw [zfh]; exact hk);have i2:=wg (ws:=ws) (i:=k) (by omega);rw [ziq h ws k hk,if_neg (by omega)] at i1;have hl:((part h ws k).map w32).length = 8:=by rw [List.length_map,zfh]
  have hsp:splice ((part h ws k).map w32) k [w32 (h.getD k 0 + ws.getD k 0)] = (part h ws (k + 1)).map w32:=by
   rw [zlq _ _ _ (by rw [hl]; omega),← List.map_set,zrK hk]
  unfold zcg uT uB uI uIM uc ug;simp (disch:=omega) only [↓RD,RZ,eq_self,seval,g1,gb,i1,i2,zsv,w_ok,zhz,hsp,hl];exact ⟨by omega,rfl,s1.trans (At1.set s _ _)⟩
 ·rintro L H1 ⟨rfl,g1,s1⟩;unfold zcg uT uB uI uIM uc ug;simp (disch:=omega) only [↓RD,RZ,eq_self,seval];refine ⟨?_,s1⟩;rw [g1];have:part h ws 8 = (List.range 8).map fun i=>h.getD i 0 + ws.getD i 0:=List.map_congr_left fun i hi=>by rw [if_pos (List.mem_range.1 hi)]
  rw [this]
theorem zlm (l:List UInt32):V.okc (.agg (l.map w32)) = true:=by
 simp only [V.okc,List.all_map,List.all_eq_true]
 try (intro x _; rfl)
theorem ldw {l:List UInt32} {n:Nat} (hl:l.length = n):ldc (some n) (l.map w32) 0 = some (.agg (l.map w32)):=by
 rw [zdj (by rw [List.length_map]; omega),List.drop_zero,List.take_of_length_le (by rw [List.length_map]; omega)]
theorem spw {l:List UInt32} {n:Nat} (hl:l.length = n) {L:List V} (hL:L.length = n):splice L 0 (l.map w32) = l.map w32:=by
 unfold splice;rw [List.take_zero,List.nil_append,List.length_map,hl,List.drop_of_length_le (by omega),List.append_nil]
theorem zsU {lo:Nat} {H:Heap} {v:V} {l:List Nat} {h:List UInt32} (hh:h.length = 8) (hv:By lo H v l) (h8:Ok8 l) (hl:l.length = 64) :
  Ok (sem T zcB [.agg (h.map w32),v,.agg (kc.map w32)]) H fun r H'=>r = .agg ((comp kc h l).map w32) ∧ Grow H H':=by
 refine zia ?_;unfold zft uS uT uO uc;have hvl:∀ i,v.pid = some i → i < H.next:=fun i hi=>(hv.own i hi).2;refine zao (zaQ (zlm _) ?_);rw [zaj];have s1:=Grow.new H ⟨zap,h.map w32,none⟩;have g1:(H.new ⟨zap,h.map w32,none⟩).get H.next = some ⟨zap,h.map w32,none⟩:=zab _ _;have n1:(H.new ⟨zap,h.map w32,none⟩).next = H.next + 1:=zaf _ _;generalize ha:H.next = a at *;generalize H.new _ = H1 at *;refine zao (zaQ (zlm _) ?_);rw [zaj];have s2:=Grow.new H1 ⟨zau,kc.map w32,none⟩;have g2:(H1.new ⟨zau,kc.map w32,none⟩).get H1.next = some ⟨zau,kc.map w32,none⟩:=zab _ _;have n2:(H1.new ⟨zau,kc.map w32,none⟩).next = H1.next + 1:=zaf _ _;have ga2:=(s2.same a (by omega)).trans g1;generalize hb:H1.next = b at *;generalize H1.new _ = H2 at *;refine zao (zaQ (by rfl) ?_);rw [zaj];have s3:=Grow.new H2 ⟨zap,[.int .u32 0,.int .u32 0,.int .u32 0,.int .u32 0,.int .u32 0,.int .u32 0,.int .u32 0,.int .u32 0],none⟩;have g3:(H2.new ⟨zap,[.int .u32 0,.int .u32 0,.int .u32 0,.int .u32 0,.int .u32 0,.int .u32 0,.int .u32 0,.int .u32 0],none⟩).get H2.next = some ⟨zap,[.int .u32 0,.int .u32 0,.int .u32 0,.int .u32 0,.int .u32 0,.int .u32 0,.int .u32 0,.int .u32 0],none⟩:=zab _ _;have n3:(H2.new ⟨zap,[.int .u32 0,.int .u32 0,.int .u32 0,.int .u32 0,.int .u32 0,.int .u32 0,.int .u32 0,.int .u32 0],none⟩).next = H2.next + 1:=zaf _ _;have ga3:=(s3.same a (by omega)).trans ga2;have gb3:=(s3.same b (by omega)).trans g2;generalize hc:H2.next = c at *;generalize H2.new _ = H3 at *;refine zao (zaQ (by rfl) ?_);rw [zaj];have s4:=Grow.new H3 ⟨zau,[.int .u32 0,.int .u32 0,.int .u32 0,.int .u32 0,.int .u32 0,.int .u32 0,.int .u32 0,.int .u32 0,.int .u32 0,.int .u32 0,.int .u32 0,.int .u32 0,.int .u32 0,.int .u32 0,.int .u32 0,.int .u32 0,.int .u32 0,.int .u32 0,.int .u32 0,.int .u32 0,.int .u32 0,.int .u32 0,.int .u32 0,.int .u32 0,.int .u32 0,.int .u32 0,.int .u32 0,.int .u32 0,.int .u32 0,.int .u32 0,.int .u32 0,.int .u32 0,.int .u32 0,.int .u32 0,.int .u32 0,.int .u32 0,.int .u32 0,.int .u32 0,.int .u32 0,.int .u32 0,.int .u32 0,.int .u32 0,.int .u32 0,.int .u32 0,.int .u32 0,.int .u32 0,.int .u32 0,.int .u32 0,.int .u32 0,.int .u32 0,.int .u32 0,.int .u32 0,.int .u32 0,.int .u32 0,.int .u32 0,.int .u32 0,.int .u32 0,.int .u32 0,.int .u32 0,.int .u32 0,.int .u32 0,.int .u32 0,.int .u32 0,.int .u32 0],none⟩;have g4:(H3.new ⟨zau,[.int .u32 0,.int .u32 0,.int .u32 0,.int .u32 0,.int .u32 0,.int .u32 0,.int .u32 0,.int .u32 0,.int .u32 0,.int .u32 0,.int .u32 0,.int .u32 0,.int .u32 0,.int .u32 0,.int .u32 0,.int .u32 0,.int .u32 0,.int .u32 0,.int .u32 0,.int .u32 0,.int .u32 0,.int .u32 0,.int .u32 0,.int .u32 0,.int .u32 0,.int .u32 0,.int .u32 0,.int .u32 0,.int .u32 0,.int .u32 0,.int .u32 0,.int .u32 0,.int .u32 0,.int .u32 0,.int .u32 0,.int .u32 0,.int .u32 0,.int .u32 0,.int .u32 0,.int .u32 0,.int .u32 0,.int .u32 0,.int .u32 0,.int .u32 0,.int .u32 0,.int .u32 0,.int .u32 0,.int .u32 0,.int .u32 0,.int .u32 0,.int .u32 0,.int .u32 0,.int .u32 0,.int .u32 0,.int .u32 0,.int .u32 0,.int .u32 0,.int .u32 0,.int .u32 0,.int .u32 0,.int .u32 0,.int .u32 0,.int .u32 0,.int .u32 0],none⟩).get H3.next = some ⟨zau,List.replicate 64 (.int .u32 0),none⟩:=zab _ _
 have n4:(H3.new ⟨zau,[.int .u32 0,.int .u32 0,.int .u32 0,.int .u32 0,.int .u32 0,.int .u32 0,.int .u32 0,.int .u32 0,.int .u32 0,.int .u32 0,.int .u32 0,.int .u32 0,.int .u32 0,.int .u32 0,.int .u32 0,.int .u32 0,.int .u32 0,.int .u32 0,.int .u32 0,.int .u32 0,.int .u32 0,.int .u32 0,.int .u32 0,.int .u32 0,.int .u32 0,.int .u32 0,.int .u32 0,.int .u32 0,.int .u32 0,.int .u32 0,.int .u32 0,.int .u32 0,.int .u32 0,.int .u32 0,.int .u32 0,.int .u32 0,.int .u32 0,.int .u32 0,.int .u32 0,.int .u32 0,.int .u32 0,.int .u32 0,.int .u32 0,.int .u32 0,.int .u32 0,.int .u32 0,.int .u32 0,.int .u32 0,.int .u32 0,.int .u32 0,.int .u32 0,.int .u32 0,.int .u32 0,.int .u32 0,.int .u32 0,.int .u32 0,.int .u32 0,.int .u32 0,.int .u32 0,.int .u32 0,.int .u32 0,.int .u32 0,.int .u32 0,.int .u32 0],none⟩).next = H3.next + 1:=zaf _ _;have ga4:=(s4.same a (by omega)).trans ga3;have gb4:=(s4.same b (by omega)).trans gb3;have gc4:=(s4.same c (by omega)).trans g3;generalize hd:H3.next = d at *;generalize H3.new _ = H4 at *;have s04:Grow H H4:=((s1.trans s2).trans s3).trans s4;have hv4:=hv.ext s04;rw [← ha] at *;simp (disch:=omega) only [↓RD,RZ,eq_self,seval];refine zas (zuG hv4 h8 hl g4 (fun e=>by have:=hvl _ e; omega) (by omega)) ?_;rintro _ H5 ⟨rfl,g5,s5⟩;have n5:=s5.next;simp (disch:=omega) only [↓RD,RZ,eq_self,seval];refine zas (zuF g5 (by omega)) ?_;rintro _ H6 ⟨rfl,g6,s6⟩;have n6:=s6.next;have s46:=s5.trans s6;have ga6:=(s46.same _ (by omega) (by omega)).trans ga4;have gb6:=(s46.same b (by omega) (by omega)).trans gb4;have gc6:=(s46.same c (by omega) (by omega)).trans gc4;have l1:=ldw hh;have l2:=spw hh (L:=[.int .u32 0,.int .u32 0,.int .u32 0,.int .u32 0,.int .u32 0,.int .u32 0,.int .u32 0,.int .u32 0]) rfl;have l3:(h.map w32).length = 8:=by rw [List.length_map,hh]
 simp (disch:=omega) only [↓RD,RZ,eq_self,seval,ga6,l1,zlm,zaj,l2,l3];have s7:Grow H6 ((H6.new ⟨zap,[.int .u32 0,.int .u32 0,.int .u32 0,.int .u32 0,.int .u32 0,.int .u32 0,.int .u32 0,.int .u32 0],none⟩).set H6.next (some ⟨zap,h.map w32,none⟩)):=(Grow.new _ _).set (Nat.le_refl _) _;have g7:((H6.new ⟨zap,[.int .u32 0,.int .u32 0,.int .u32 0,.int .u32 0,.int .u32 0,.int .u32 0,.int .u32 0,.int .u32 0],none⟩).set H6.next (some ⟨zap,h.map w32,none⟩)).get H6.next = _:=zal _ _ _;have n7:((H6.new ⟨zap,[.int .u32 0,.int .u32 0,.int .u32 0,.int .u32 0,.int .u32 0,.int .u32 0,.int .u32 0,.int .u32 0],none⟩).set H6.next (some ⟨zap,h.map w32,none⟩)).next = H6.next + 1:=rfl;generalize he:H6.next = e at *;generalize Heap.set _ e _ = H7 at *;have ga7:=(s7.same _ (by omega)).trans ga6;have gb7:=(s7.same b (by omega)).trans gb6;have gc7:=(s7.same c (by omega)).trans gc6;have gd7:=(s7.same d (by omega)).trans g6;refine zas (zuE hh gb7 gd7 g7 (by omega) (by omega) (by omega) (by omega)) ?_;rintro _ H8 ⟨rfl,g8,s8⟩;have n8:=s8.next;have ga8:=(s8.same _ (by omega) (by omega)).trans ga7;have gc8:=(s8.same c (by omega) (by omega)).trans gc7;simp (disch:=omega) only [↓RD,RZ,eq_self,seval];refine zas (zuD hh (zlV hh 64) ga8 g8 (by omega) (by omega)) ?_;rintro _ H9 ⟨rfl,g9,s9⟩;have n9:=s9.next;have gc9:=(s9.same c (by omega) (by omega)).trans gc8;have cl:=zl6 kc h l;have ec:((List.range 8).map fun i=>h.getD i 0 + (rnds kc (wl l 64) h 64).getD i 0) = comp kc h l:=rfl;rw [ec] at g9;have m1:=ldw cl;have m2:=spw cl (L:=[.int .u32 0,.int .u32 0,.int .u32 0,.int .u32 0,.int .u32 0,.int .u32 0,.int .u32 0,.int .u32 0]) rfl;have m3:((comp kc h l).map w32).length = 8:=by rw [List.length_map,cl]
 simp (disch:=omega) only [↓RD,RZ,eq_self,seval,g9,m1,gc9,zlm,zaj,m2,m3];exact ⟨by rw [zan]; omega,fun i hi=>by rw [zai _ _ (by omega),s9.same i (by omega) (by omega),s8.same i (by omega) (by omega),s7.same i (by omega),s46.same i (by omega) (by omega),s04.same i hi]⟩
end Go.Ax.SU
/- Re3 -/
namespace Go.Ax.SU
open Go.Ax
theorem znK {β:Type} {lo:Nat} {H:Heap} {y:V} {l:List Nat} {f:V → M β} {Q:β → Heap → Prop} (hy:By lo H y l) (hl:l.length ≤ 140737488355328)
  (k:∀ x' H',Ab H.next H' x' l → Grow H H' → Ok (f x') H' Q):Ok ((mappend zad 1 1 (.sl H.next 0 0 (.fix 0)) y).bind f) (H.new ⟨zad,[],none⟩) Q :=
 okb_copy hy.ac (fun i hi=>(hy.own i hi).2) (by rw [List.length_map]; omega) (by omega) (by omega) fun x' H' h g=>k x' H' (.app h) g
theorem U_ok {lo:Nat} {H:Heap} {bv:V} {b:List Nat} (n k:Nat) (hb:By lo H bv b) (hn:n < 18446744073709551616) (hk:k ≤ 16) (hbl:b.length ≤ 1099511627000):Ok (sem T zaS [bv,.int .u64 (n:Nat),.int .i64 (k:Nat)]) H fun r H'=>Ab H.next H' r (b ++ num n k) ∧ Grow H H':=by
 refine zkj ?_;unfold zhp uB uc ub ug;simp (disch:=omega) only [↓RD,RZ,eq_self,seval];rw [zaK];refine znK hb (by omega) fun x0 H0' hx0 s0=>?_;simp (disch:=omega) only [↓RD,RZ,eq_self,seval];refine zaE (fun m L H'=>∃ w,L = [w,.int .i64 ((k:Int) - 1 - (m:Nat))] ∧ Ab H.next H' w (b ++ (bn k n).take m) ∧ Bel H.next H H') k ?_ ?_ ?_
 ·exact ⟨x0,by simp,by simpa using hx0,s0.bel (Nat.le_refl _)⟩
 ·rintro m L H1 hm ⟨w,rfl,ha,hb'⟩;have e1:(k:Int) - 1 - (m:Nat) = ((k - 1 - m:Nat):Int):=by omega
  have e2:(8:Int) * ((k - 1 - m:Nat):Int) = ((8 * (k - 1 - m):Nat):Int):=by omega
  have e2':IntKind.u64.wrap ((8 * (k - 1 - m):Nat):Int) = ((8 * (k - 1 - m):Nat):Int):=by rw [wrap_u64]; omega
  have e3:shr n (8 * (k - 1 - m)) = n / 256 ^ (k - 1 - m):=by rw [zfB,Nat.shiftRight_eq_div_pow,Nat.pow_mul]
  have hlo1:=hb'.next;have hbg:=zvA k n m hm;rw [e1];generalize hw:k - 1 - m = w' at *;have e8:IntKind.u8.wrap ((n / 256 ^ w':Nat):Int) = ((n / 256 ^ w' % 256:Nat):Int):=by rw [wrap_u8]; rfl
  unfold zeq uL uB uc ub ug;simp (disch:=omega) only [↓RD,RZ,eq_self,seval,e2,e2',e3,e8];refine zeV (m:=[n / 256 ^ w' % 256]) (Apf.keep ha ((Grow.new _ _).keep _)) (by rw [zaf]; omega) (zbZ rfl) (by rw [List.length_append,List.length_take,zi1]; simp; omega) fun w2 H2 h2 hb2=>?_;simp (disch:=omega) only [↓RD,RZ,eq_self,seval];refine ⟨w2,by rw [show ((w':Nat):Int) - 1 = (k:Int) - 1 - ((m + 1:Nat):Int) by omega],?_,hb'.trans (((Grow.new _ _).bel (by omega)).trans hb2)⟩;rw [zbx (by rw [zi1]; exact hm),hbg,← List.append_assoc];exact h2
 ·rintro L H1 ⟨w,rfl,ha,hb'⟩;have e1:(k:Int) - 1 - (k:Nat) = -1:=by omega
  rw [e1];unfold zeq uL uB uc ub ug;simp (disch:=omega) only [↓RD,RZ,eq_self,seval];rw [List.take_of_length_le (by rw [zi1]; exact Nat.le_refl _)] at ha;exact ⟨ha,hb'.grow⟩
theorem zq6 {H:Heap}:Ok (sem T zcc []) H fun r H'=>r = .agg (kc.map w32) ∧ Grow H H':=by
 refine zhF ?_;unfold zeY uL uS uT uO;simp (disch:=first | omega | (simp only [RY] <;> omega) | decide) only [↓RD,RZ,eq_self,seval];exact ⟨by kernel_rfl,(Grow.new _ _).set (Nat.le_refl _) _⟩
theorem zqA (n:Nat):pad n = (0x80 :: List.replicate (padz n) 0) ++ num (n * 8 % 18446744073709551616) 8:=rfl
theorem wb_get:∀ (h:List UInt32) (i:Nat),i < 4 * h.length → (zbR h).getD i 0 = (h.getD (i / 4) 0).toNat / 256 ^ (3 - i % 4) % 256:=by
 intro h
 induction h with
 | nil=>intro i hi; simp at hi
 | cons x h ih =>
  intro i hi;have e:zbR (x :: h) = [x.toNat / 16777216 % 256,x.toNat / 65536 % 256,x.toNat / 256 % 256,x.toNat % 256] ++ zbR h:=rfl;rw [e];by_cases h4:i < 4
  ·rw [List.getD_eq_getElem?_getD,List.getElem?_append_left (by simpa using h4),← List.getD_eq_getElem?_getD,show i / 4 = 0 by omega];have:i = 0 ∨ i = 1 ∨ i = 2 ∨ i = 3:=by omega
   rcases this with rfl | rfl | rfl | rfl
   ·rfl
   ·rfl
   ·rfl
   ·show x.toNat % 256 = x.toNat / 256 ^ 0 % 256;rw [Nat.pow_zero,Nat.div_one]
  ·simp only [List.length_cons] at hi;rw [List.getD_eq_getElem?_getD,List.getElem?_append_right (by simp; omega),← List.getD_eq_getElem?_getD];show (zbR h).getD (i - 4) 0 = _;rw [ih (i - 4) (by omega),show (i - 4) % 4 = i % 4 by omega];have:i / 4 = (i - 4) / 4 + 1:=by omega
   rw [this];rfl
end Go.Ax.SU
/- Re4 -/
namespace Go.Ax.SU
open Go.Ax
theorem pcs_step {ks:List UInt32} {m:List Nat} {h:List UInt32} (j:Nat):pcs ks (j + 1) m h = comp ks (pcs ks j m h) ((m.drop (64 * j)).take 64):=by
 rw [zqy];rfl
theorem sha1_ok {lo a b:Nat} {u2 v:V} {H:Heap} {m:List Nat} (hv:By lo H v m) (h8:Ok8 m) (hm:m.length % 64 = 0) (hml:m.length ≤ 1125899906842624) (ha:H.get a = some ⟨zap,h0.map w32,none⟩) (hb:H.get b = some ⟨zau,kc.map w32,none⟩) (hal:a < H.next) (hbl:b < H.next) (hab:a ≠ b) (hva:∀ i,v.pid = some i → i ≠ a) :
  Ok (M.iter (zcV (sem T) v (.ptr b 0) (.ptr a 0) u2) [.int .i64 0]) H fun r H'=>r = .ex 2 [] ∧ H'.get a = some ⟨zap,(hs kc m).map w32,none⟩ ∧ At1 a H H':=by
 refine zaE (fun j L H'=>L = [.int .i64 ((64 * j:Nat):Int)] ∧ H'.get a = some ⟨zap,(pcs kc j m h0).map w32,none⟩ ∧ At1 a H H') (m.length / 64) ?_ ?_ ?_
 ·exact ⟨rfl,ha,At1.refl _ _⟩
 ·rintro j _ H1 hj ⟨rfl,g1,s1⟩;have n1:=s1.next;have hv1:=hv.at1 s1 (fun e=>hva _ e rfl);have gb1:=(s1.same b hbl (Ne.symm hab)).trans hb;have pl:(pcs kc j m h0).length = 8:=zt7 _ _ _ rfl;have l1:=ldw pl;have l2:=ldw zlz;obtain ⟨x,hx,-,-,hxb,-⟩:=zbl hv1 (x:=((64 * j:Nat):Int)) (y:=((64 * j + 64:Nat):Int)) (by omega) (by omega) (by omega);simp only [Int.toNat_natCast] at hxb;rw [show 64 * j + 64 - 64 * j = 64 by omega] at hxb;have ea:((64 * j:Nat):Int) + 64 = ((64 * j + 64:Nat):Int):=rfl;have xl:((m.drop (64 * j)).take 64).length = 64:=by rw [List.length_take,List.length_drop]; omega
  unfold zcV uL uS uT uB uc ug;simp (disch:=omega) only [↓RD,RZ,hv1.vlen,g1,l1,ea,hx,gb1,l2];refine zag (zsU pl hxb ((h8.drop _).take _) xl) ?_;rintro _ H2 ⟨rfl,s2⟩;have ga2:=(s2.same a (by omega)).trans g1;have cl:=zl6 kc (pcs kc j m h0) ((m.drop (64 * j)).take 64);have m2:=spw cl (L:=(pcs kc j m h0).map w32) (by rw [List.length_map,pl]);have m3:((comp kc (pcs kc j m h0) ((m.drop (64 * j)).take 64)).map w32).length = 8:=by rw [List.length_map,cl]
  have m4:((pcs kc j m h0).map w32).length = 8:=by rw [List.length_map,pl]
  simp (disch:=omega) only [↓RD,RZ,eq_self,seval,ga2,zlm,zaj,m2,m3,m4,ea];exact ⟨rfl,by rw [pcs_step],(s1.trans (s2.at1 a)).trans (At1.set a _ _)⟩
 ·rintro _ H1 ⟨rfl,g1,s1⟩;have hv1:=hv.at1 s1 (fun e=>hva _ e rfl);unfold zcV uL uS uT uB uc ug;simp (disch:=omega) only [↓RD,RZ,hv1.vlen];exact ⟨g1,s1⟩
theorem sha2_ok {a o:Nat} {u2:V} {H:Heap} {h:List UInt32} (hh:h.length = 8) (ha:H.get a = some ⟨zap,h.map w32,none⟩) (ho:H.get o = some ⟨zae,List.replicate 32 (.int .u8 0),none⟩) (hao:a ≠ o) (hal:a < H.next) :
  Ok (M.iter (zcU (sem T) (.ptr a 0) (.ptr o 0) u2) [.int .i64 0]) H fun r H'=>r = .ex 4 [] ∧ H'.get o = some ⟨zae,(zbR h).map by8,none⟩ ∧ At1 o H H':=by
 have wl32:(zbR h).length = 32:=by rw [zi3,hh]
 refine zaE (fun i L H'=>L = [.int .i64 (i:Nat)] ∧ H'.get o = some ⟨zae,((zbR h).take i).map by8 ++ List.replicate (32 - i) (.int .u8 0),none⟩ ∧ At1 o H H') 32 ?_ ?_ ?_
 ·exact ⟨rfl,by simpa using ho,At1.refl _ _⟩
 ·rintro i _ H1 hi ⟨rfl,g1,s1⟩;have ga1:=(s1.same a hal hao).trans ha;have hl0:(((zbR h).take i).map by8).length = i:=by rw [List.length_map,List.length_take]; omega
  have x0:=zaZ (z:=.int .u8 0) (x:=by8 ((zbR h).getD i 0)) hl0 hi;have ml:(((zbR h).take i).map by8 ++ List.replicate (32 - i) (V.int .u8 0)).length = 32:=by rw [List.length_append,hl0,List.length_replicate]; omega
  have e1:((i:Nat):Int) / 4 = ((i / 4:Nat):Int):=by omega
  have e2:((i:Nat):Int) % 4 = ((i % 4:Nat):Int):=by omega
  have e3:(8:Int) * ((i % 4:Nat):Int) = ((8 * (i % 4):Nat):Int):=by omega
  have hm4:=Nat.mod_lt i (show 0 < 4 by decide);have e4:(24:Int) - ((8 * (i % 4):Nat):Int) = ((8 * (3 - i % 4):Nat):Int):=by omega
  have e5:IntKind.u64.wrap ((8 * (3 - i % 4):Nat):Int) = ((8 * (3 - i % 4):Nat):Int):=by rw [wrap_u64]; omega
  have hx:=wg (ws:=h) (i:=i / 4) (by omega);have hsh:=zsu (h.getD (i / 4) 0) (k:=.u64) (n:=((8 * (3 - i % 4):Nat):Int)) (by omega);rw [Int.toNat_natCast] at hsh;have hci:=ztF (zjK (h.getD (i / 4) 0) (8 * (3 - i % 4)));have hby:(zjK (h.getD (i / 4) 0) (8 * (3 - i % 4))).toNat % 256 = (zbR h).getD i 0:=by
   rw [wb_get h i (by omega),zik,Nat.shiftRight_eq_div_pow,Nat.pow_mul]
  rw [hby] at hci;unfold zcU uL uT uB uI uIM uc ug;simp (disch:=omega) only [↓RD,RZ,e1,e2,e3,e4,e5,ga1,hx,hsh,hci,g1,x0,ml,zcZ,zaP];refine ⟨by omega,rfl,?_,s1.trans (At1.set o _ _)⟩;rw [zbx (by omega)]; simp
 ·rintro _ H1 ⟨rfl,g1,s1⟩;unfold zcU uL uT uB uI uIM uc ug;simp (disch:=omega) only [↓RD,RZ];refine ⟨?_,s1⟩;rw [g1,List.take_of_length_le (by omega)]; simp
set_option maxHeartbeats 1000000 in
theorem zvW {lo:Nat} {H:Heap} {v:V} {l:List Nat} (hv:By lo H v l) (h8:Ok8 l) (hl:l.length ≤ 549755813888) :
  Ok (sem T zbI [v]) H fun r H'=>r = .agg ((sha kc l).map by8) ∧ Grow H H':=by
 refine zjg ?_;unfold zgq uL uS uT uB uO uc ub uq ug;refine zao (zaQ (by rfl) ?_);rw [zaj];have s1:=Grow.new H ⟨zae,[.int .u8 0,.int .u8 0,.int .u8 0,.int .u8 0,.int .u8 0,.int .u8 0,.int .u8 0,.int .u8 0,.int .u8 0,.int .u8 0,.int .u8 0,.int .u8 0,.int .u8 0,.int .u8 0,.int .u8 0,.int .u8 0,.int .u8 0,.int .u8 0,.int .u8 0,.int .u8 0,.int .u8 0,.int .u8 0,.int .u8 0,.int .u8 0,.int .u8 0,.int .u8 0,.int .u8 0,.int .u8 0,.int .u8 0,.int .u8 0,.int .u8 0,.int .u8 0],none⟩;have g1:(H.new ⟨zae,[.int .u8 0,.int .u8 0,.int .u8 0,.int .u8 0,.int .u8 0,.int .u8 0,.int .u8 0,.int .u8 0,.int .u8 0,.int .u8 0,.int .u8 0,.int .u8 0,.int .u8 0,.int .u8 0,.int .u8 0,.int .u8 0,.int .u8 0,.int .u8 0,.int .u8 0,.int .u8 0,.int .u8 0,.int .u8 0,.int .u8 0,.int .u8 0,.int .u8 0,.int .u8 0,.int .u8 0,.int .u8 0,.int .u8 0,.int .u8 0,.int .u8 0,.int .u8 0],none⟩).get H.next = some ⟨zae,[.int .u8 0,.int .u8 0,.int .u8 0,.int .u8 0,.int .u8 0,.int .u8 0,.int .u8 0,.int .u8 0,.int .u8 0,.int .u8 0,.int .u8 0,.int .u8 0,.int .u8 0,.int .u8 0,.int .u8 0,.int .u8 0,.int .u8 0,.int .u8 0,.int .u8 0,.int .u8 0,.int .u8 0,.int .u8 0,.int .u8 0,.int .u8 0,.int .u8 0,.int .u8 0,.int .u8 0,.int .u8 0,.int .u8 0,.int .u8 0,.int .u8 0,.int .u8 0],none⟩:=zab _ _;have n1:(H.new ⟨zae,[.int .u8 0,.int .u8 0,.int .u8 0,.int .u8 0,.int .u8 0,.int .u8 0,.int .u8 0,.int .u8 0,.int .u8 0,.int .u8 0,.int .u8 0,.int .u8 0,.int .u8 0,.int .u8 0,.int .u8 0,.int .u8 0,.int .u8 0,.int .u8 0,.int .u8 0,.int .u8 0,.int .u8 0,.int .u8 0,.int .u8 0,.int .u8 0,.int .u8 0,.int .u8 0,.int .u8 0,.int .u8 0,.int .u8 0,.int .u8 0,.int .u8 0,.int .u8 0],none⟩).next = H.next + 1:=zaf _ _;have hv1:=hv.ext s1;have hvl:∀ i,v.pid = some i → i < H.next:=fun i hi=>(hv.own i hi).2;generalize H.new _ = H1 at *;simp (disch:=omega) only [↓RD,RZ];rw [zaK];refine znK hv1 (by omega) fun x2 H2 hx2 s2=>?_;have n2:=s2.next;simp (disch:=omega) only [↓RD,RZ,eq_self,seval];rw [zaK];have s3:=Grow.new H2 ⟨zad,[.int .u8 128],none⟩;have hx3:=Apf.keep hx2 (s3.keep _);refine zeV (m:=[128]) hx3 (by rw [zaf]; omega) (zbZ rfl) (by simp; omega) fun x4 H4 hx4 b4=>?_;have s14:Grow H1 H4:=⟨by have:=b4.next; rw [zaf] at this; omega,fun i hi=>by rw [b4.same i hi,s3.same i (by omega),s2.same i hi]⟩;simp (disch:=omega) only [↓RD,RZ];refine zas (Q:=fun r H'=>∃ x,r = .ex 0 [x] ∧ Ab H1.next H' x (l ++ [128] ++ List.replicate (padz l.length) 0) ∧ Grow H1 H') ?_ ?_
 ·refine zaE (fun k L H'=>∃ x,L = [x] ∧ Ab H1.next H' x (l ++ [128] ++ List.replicate k 0) ∧ Grow H1 H') (padz l.length) ?_ ?_ ?_
  ·exact ⟨x4,rfl,by simpa using hx4,s14⟩
  ·rintro k _ H5 hk ⟨x,rfl,hx,s5⟩;have hk64:padz l.length < 64:=by unfold padz; omega
   have xl:(l ++ [128] ++ List.replicate k 0).length = l.length + 1 + k:=by simp; omega
   have n5:=s5.next;have hxv:=hx.by.vlen;rw [xl] at hxv;have er:((l.length + 1 + k:Nat):Int) % 64 = (((l.length + 1 + k) % 64:Nat):Int):=by omega
   have en:((((l.length + 1 + k) % 64:Nat):Int) == 56) = false:=by
    rw [show (56:Int) = ((56:Nat):Int) from rfl,beqn];refine decide_eq_false ?_;unfold padz at hk;omega
   unfold zdR uL uB uc ub ug;simp (disch:=omega) only [↓RD,RZ,hxv,er,en,Bool.not_false];have s6:=Grow.new H5 ⟨zad,[.int .u8 0],none⟩;refine zeV (m:=[0]) (Apf.keep hx (s6.keep _)) (by rw [zaf]; omega) (zbZ rfl) (by rw [xl]; simp; omega) fun x7 H7 hx7 b7=>?_;simp (disch:=omega) only [↓RD,RZ];refine ⟨x7,rfl,?_,⟨by have:=b7.next; rw [zaf] at this; omega,fun i hi=>by rw [b7.same i hi,s6.same i (by omega),s5.same i hi]⟩⟩;rw [List.replicate_succ',← List.append_assoc];exact hx7
  ·rintro _ H5 ⟨x,rfl,hx,s5⟩;have xl:(l ++ [128] ++ List.replicate (padz l.length) 0).length = l.length + 1 + padz l.length:=by simp; omega
   have hxv:=hx.by.vlen;rw [xl] at hxv;have er:((l.length + 1 + padz l.length:Nat):Int) % 64 = 56:=by unfold padz; omega
   unfold zdR uL uB uc ub ug;simp (disch:=omega) only [↓RD,RZ,hxv,er];exact ⟨x,rfl,hx,s5⟩
 rintro _ H5 ⟨x,rfl,hx,s5⟩;have n5:=s5.next;have hv5:=hv1.ext s5;have w1:IntKind.u64.wrap ((l.length:Nat):Int) = ((l.length:Nat):Int):=by rw [wrap_u64]; omega
 have w2:IntKind.u64.wrap (((l.length:Nat):Int) * 8) = ((l.length * 8:Nat):Int):=by rw [wrap_u64]; omega
 have w3:((l.length:Nat):Int) * 8 = ((l.length * 8:Nat):Int):=rfl;have hk64:padz l.length < 64:=by unfold padz; omega
 simp (disch:=omega) only [↓RD,RZ,hv5.vlen,w1,w2,w3];refine zag (U_ok (l.length * 8) 8 hx.by (by omega) (by decide) (by simp; omega)) ?_;rintro mv H6 ⟨hm,s6⟩;have n6:=s6.next;have em:l ++ [128] ++ List.replicate (padz l.length) 0 ++ num (l.length * 8) 8 = l ++ pad l.length:=by
  rw [zqA,Nat.mod_eq_of_lt (show l.length * 8 < 18446744073709551616 by omega)]; simp
 rw [em] at hm;have m8:Ok8 (l ++ pad l.length):=by
  rw [zqA];refine h8.app (Ok8.app ?_ (zfo _ _));intro y hy;rcases List.mem_cons.1 hy with rfl | hy
  ·decide
  ·rw [List.eq_of_mem_replicate hy]; decide
 have mm:=pad_len l.length;have ml:(l ++ pad l.length).length = l.length + (pad l.length).length:=List.length_append;have pl:(pad l.length).length ≤ 100:=by rw [zqA,List.length_append,zcs,List.length_cons,List.length_replicate]; omega
 generalize hM:l ++ pad l.length = m at *;simp (disch:=omega) only [↓RD,RZ,eq_self,seval];have s7:Grow H6 ((H6.new ⟨zap,[.int .u32 0,.int .u32 0,.int .u32 0,.int .u32 0,.int .u32 0,.int .u32 0,.int .u32 0,.int .u32 0],none⟩).set H6.next (some ⟨zap,[.int .u32 1779033703,.int .u32 3144134277,.int .u32 1013904242,.int .u32 2773480762,.int .u32 1359893119,.int .u32 2600822924,.int .u32 528734635,.int .u32 1541459225],none⟩)):=(Grow.new _ _).set (Nat.le_refl _) _;have g7:((H6.new ⟨zap,[.int .u32 0,.int .u32 0,.int .u32 0,.int .u32 0,.int .u32 0,.int .u32 0,.int .u32 0,.int .u32 0],none⟩).set H6.next (some ⟨zap,[.int .u32 1779033703,.int .u32 3144134277,.int .u32 1013904242,.int .u32 2773480762,.int .u32 1359893119,.int .u32 2600822924,.int .u32 528734635,.int .u32 1541459225],none⟩)).get H6.next = some ⟨zap,h0.map w32,none⟩:=zal _ _ _;have n7:((H6.new ⟨zap,[.int .u32 0,.int .u32 0,.int .u32 0,.int .u32 0,.int .u32 0,.int .u32 0,.int .u32 0,.int .u32 0],none⟩).set H6.next (some ⟨zap,[.int .u32 1779033703,.int .u32 3144134277,.int .u32 1013904242,.int .u32 2773480762,.int .u32 1359893119,.int .u32 2600822924,.int .u32 528734635,.int .u32 1541459225],none⟩)).next = H6.next + 1:=rfl;have hm7:=hm.by.ext s7;have hmp:∀ i,mv.pid = some i → i < H6.next:=fun i hi=>(hm.by.own i hi).2;generalize ha:H6.next = a at *;generalize Heap.set _ a _ = H7 at *;refine zag zq6 ?_;rintro _ H8 ⟨rfl,s8⟩;have n8:=s8.next;have ga8:=(s8.same a (by omega)).trans g7;have hm8:=hm7.ext s8;have m2:=spw zlz (L:=[.int .u32 0,.int .u32 0,.int .u32 0,.int .u32 0,.int .u32 0,.int .u32 0,.int .u32 0,.int .u32 0,.int .u32 0,.int .u32 0,.int .u32 0,.int .u32 0,.int .u32 0,.int .u32 0,.int .u32 0,.int .u32 0,.int .u32 0,.int .u32 0,.int .u32 0,.int .u32 0,.int .u32 0,.int .u32 0,.int .u32 0,.int .u32 0,.int .u32 0,.int .u32 0,.int .u32 0,.int .u32 0,.int .u32 0,.int .u32 0,.int .u32 0,.int .u32 0,.int .u32 0,.int .u32 0,.int .u32 0,.int .u32 0,.int .u32 0,.int .u32 0,.int .u32 0,.int .u32 0,.int .u32 0,.int .u32 0,.int .u32 0,.int .u32 0,.int .u32 0,.int .u32 0,.int .u32 0,.int .u32 0,.int .u32 0,.int .u32 0,.int .u32 0,.int .u32 0,.int .u32 0,.int .u32 0,.int .u32 0,.int .u32 0,.int .u32 0,.int .u32 0,.int .u32 0,.int .u32 0,.int .u32 0,.int .u32 0,.int .u32 0,.int .u32 0]) rfl;have m3:(kc.map w32).length = 64:=by rw [List.length_map,zlz]
 simp (disch:=omega) only [↓RD,RZ,eq_self,seval,zlm,zaj,m2,m3];have s9:Grow H8 ((H8.new ⟨zau,[.int .u32 0,.int .u32 0,.int .u32 0,.int .u32 0,.int .u32 0,.int .u32 0,.int .u32 0,.int .u32 0,.int .u32 0,.int .u32 0,.int .u32 0,.int .u32 0,.int .u32 0,.int .u32 0,.int .u32 0,.int .u32 0,.int .u32 0,.int .u32 0,.int .u32 0,.int .u32 0,.int .u32 0,.int .u32 0,.int .u32 0,.int .u32 0,.int .u32 0,.int .u32 0,.int .u32 0,.int .u32 0,.int .u32 0,.int .u32 0,.int .u32 0,.int .u32 0,.int .u32 0,.int .u32 0,.int .u32 0,.int .u32 0,.int .u32 0,.int .u32 0,.int .u32 0,.int .u32 0,.int .u32 0,.int .u32 0,.int .u32 0,.int .u32 0,.int .u32 0,.int .u32 0,.int .u32 0,.int .u32 0,.int .u32 0,.int .u32 0,.int .u32 0,.int .u32 0,.int .u32 0,.int .u32 0,.int .u32 0,.int .u32 0,.int .u32 0,.int .u32 0,.int .u32 0,.int .u32 0,.int .u32 0,.int .u32 0,.int .u32 0,.int .u32 0],none⟩).set H8.next (some ⟨zau,kc.map w32,none⟩)):=(Grow.new _ _).set (Nat.le_refl _) _;have g9:((H8.new ⟨zau,[.int .u32 0,.int .u32 0,.int .u32 0,.int .u32 0,.int .u32 0,.int .u32 0,.int .u32 0,.int .u32 0,.int .u32 0,.int .u32 0,.int .u32 0,.int .u32 0,.int .u32 0,.int .u32 0,.int .u32 0,.int .u32 0,.int .u32 0,.int .u32 0,.int .u32 0,.int .u32 0,.int .u32 0,.int .u32 0,.int .u32 0,.int .u32 0,.int .u32 0,.int .u32 0,.int .u32 0,.int .u32 0,.int .u32 0,.int .u32 0,.int .u32 0,.int .u32 0,.int .u32 0,.int .u32 0,.int .u32 0,.int .u32 0,.int .u32 0,.int .u32 0,.int .u32 0,.int .u32 0,.int .u32 0,.int .u32 0,.int .u32 0,.int .u32 0,.int .u32 0,.int .u32 0,.int .u32 0,.int .u32 0,.int .u32 0,.int .u32 0,.int .u32 0,.int .u32 0,.int .u32 0,.int .u32 0,.int .u32 0,.int .u32 0,.int .u32 0,.int .u32 0,.int .u32 0,.int .u32 0,.int .u32 0,.int .u32 0,.int .u32 0,.int .u32 0],none⟩).set H8.next (some ⟨zau,kc.map w32,none⟩)).get H8.next = some ⟨zau,kc.map w32,none⟩:=zal _ _ _;have n9:((H8.new ⟨zau,[.int .u32 0,.int .u32 0,.int .u32 0,.int .u32 0,.int .u32 0,.int .u32 0,.int .u32 0,.int .u32 0,.int .u32 0,.int .u32 0,.int .u32 0,.int .u32 0,.int .u32 0,.int .u32 0,.int .u32 0,.int .u32 0,.int .u32 0,.int .u32 0,.int .u32 0,.int .u32 0,.int .u32 0,.int .u32 0,.int .u32 0,.int .u32 0,.int .u32 0,.int .u32 0,.int .u32 0,.int .u32 0,.int .u32 0,.int .u32 0,.int .u32 0,.int .u32 0,.int .u32 0,.int .u32 0,.int .u32 0,.int .u32 0,.int .u32 0,.int .u32 0,.int .u32 0,.int .u32 0,.int .u32 0,.int .u32 0,.int .u32 0,.int .u32 0,.int .u32 0,.int .u32 0,.int .u32 0,.int .u32 0,.int .u32 0,.int .u32 0,.int .u32 0,.int .u32 0,.int .u32 0,.int .u32 0,.int .u32 0,.int .u32 0,.int .u32 0,.int .u32 0,.int .u32 0,.int .u32 0,.int .u32 0,.int .u32 0,.int .u32 0,.int .u32 0],none⟩).set H8.next (some ⟨zau,kc.map w32,none⟩)).next = H8.next + 1:=rfl;have hm9:=hm8.ext s9;have ga9:=(s9.same a (by omega)).trans ga8;generalize hb:H8.next = b at *;generalize Heap.set _ b _ = H9 at *;refine zas (sha1_ok hm9 m8 (by rw [ml]; omega) (by rw [ml]; omega) ga9 g9 (by omega) (by omega) (by omega) (fun i hi e=>by have:=hmp i hi; omega)) ?_
 rintro _ H10 ⟨rfl,g10,s10⟩;have n10:=s10.next;simp (disch:=omega) only [↓RD,RZ];have s11:=Grow.new H10 ⟨zae,[.int .u8 0,.int .u8 0,.int .u8 0,.int .u8 0,.int .u8 0,.int .u8 0,.int .u8 0,.int .u8 0,.int .u8 0,.int .u8 0,.int .u8 0,.int .u8 0,.int .u8 0,.int .u8 0,.int .u8 0,.int .u8 0,.int .u8 0,.int .u8 0,.int .u8 0,.int .u8 0,.int .u8 0,.int .u8 0,.int .u8 0,.int .u8 0,.int .u8 0,.int .u8 0,.int .u8 0,.int .u8 0,.int .u8 0,.int .u8 0,.int .u8 0,.int .u8 0],none⟩;have g11:(H10.new ⟨zae,[.int .u8 0,.int .u8 0,.int .u8 0,.int .u8 0,.int .u8 0,.int .u8 0,.int .u8 0,.int .u8 0,.int .u8 0,.int .u8 0,.int .u8 0,.int .u8 0,.int .u8 0,.int .u8 0,.int .u8 0,.int .u8 0,.int .u8 0,.int .u8 0,.int .u8 0,.int .u8 0,.int .u8 0,.int .u8 0,.int .u8 0,.int .u8 0,.int .u8 0,.int .u8 0,.int .u8 0,.int .u8 0,.int .u8 0,.int .u8 0,.int .u8 0,.int .u8 0],none⟩).get H10.next = some ⟨zae,List.replicate 32 (.int .u8 0),none⟩:=zab _ _;have n11:(H10.new ⟨zae,[.int .u8 0,.int .u8 0,.int .u8 0,.int .u8 0,.int .u8 0,.int .u8 0,.int .u8 0,.int .u8 0,.int .u8 0,.int .u8 0,.int .u8 0,.int .u8 0,.int .u8 0,.int .u8 0,.int .u8 0,.int .u8 0,.int .u8 0,.int .u8 0,.int .u8 0,.int .u8 0,.int .u8 0,.int .u8 0,.int .u8 0,.int .u8 0,.int .u8 0,.int .u8 0,.int .u8 0,.int .u8 0,.int .u8 0,.int .u8 0,.int .u8 0,.int .u8 0],none⟩).next = H10.next + 1:=zaf _ _;have ga11:=(s11.same a (by omega)).trans g10;generalize ho:H10.next = o at *;generalize H10.new _ = H11 at *;refine zas (sha2_ok (zu0 kc m) ga11 g11 (by omega) (by omega)) ?_;rintro _ H12 ⟨rfl,g12,s12⟩;have n12:=s12.next;have es:zbR (hs kc m) = sha kc l:=by unfold sha; rw [hM]
 rw [es] at g12;have sl:=zhB kc l;have l1:=ld32 sl;have l2:=sp32 sl;have l3:((sha kc l).map by8).length = 32:=by rw [List.length_map,sl]
 have gd:H12.get H.next = some ⟨zae,[.int .u8 0,.int .u8 0,.int .u8 0,.int .u8 0,.int .u8 0,.int .u8 0,.int .u8 0,.int .u8 0,.int .u8 0,.int .u8 0,.int .u8 0,.int .u8 0,.int .u8 0,.int .u8 0,.int .u8 0,.int .u8 0,.int .u8 0,.int .u8 0,.int .u8 0,.int .u8 0,.int .u8 0,.int .u8 0,.int .u8 0,.int .u8 0,.int .u8 0,.int .u8 0,.int .u8 0,.int .u8 0,.int .u8 0,.int .u8 0,.int .u8 0,.int .u8 0],none⟩:=by
  rw [s12.same _ (by omega) (by omega),s11.same _ (by omega),s10.same _ (by omega) (by omega),s9.same _ (by omega),s8.same _ (by omega),s7.same _ (by omega),s6.same _ (by omega),s5.same _ (by omega)];exact g1
 simp (disch:=omega) only [↓RD,RZ,eq_self,seval,g12,l1,gd,zaY,zaj,l2,l3];exact ⟨by rw [zan]; omega,fun i hi=>by rw [zai _ _ (by omega),s12.same i (by omega) (by omega),s11.same i (by omega),s10.same i (by omega) (by omega),s9.same i (by omega),s8.same i (by omega),s7.same i (by omega),s6.same i (by omega),s5.same i (by omega),s1.same i hi]⟩
end Go.Ax.SU
/- Re5 -/
namespace Go.Ax.SU
open Go.Ax
theorem kp_get (ks:List UInt32) (key:List Nat) (x i:Nat) (hi:i < 64):(kpad ks key x).getD i 0 = (if i < (zdo ks key).length then (zdo ks key).getD i 0 else 0) ^^^ x:=by
 have hl:=zi8 ks key;unfold kpad;rw [List.getD_eq_getElem?_getD,List.getElem?_map];by_cases h:i < (zdo ks key).length
 ·rw [if_pos h,List.getElem?_append_left h,List.getD_eq_getElem?_getD,List.getElem?_eq_getElem h]; rfl
 ·rw [if_neg h,List.getElem?_append_right (by omega),List.getElem?_replicate,if_pos (by omega)]; rfl
theorem hmac0_ok {a b:Nat} {lo:Nat} {u4 kv:V} {H:Heap} {key:List Nat} (hk:By lo H kv (zdo kc key)) (k8:Ok8 (zdo kc key)) (ha:H.get a = some ⟨zad,List.replicate 64 (.int .u8 0),none⟩) (hb:H.get b = some ⟨zad,List.replicate 64 (.int .u8 0),none⟩) (hab:a ≠ b) (hka:∀ i,kv.pid = some i → i ≠ a ∧ i ≠ b) :
  Ok (M.iter (zcF (sem T) kv (.sl a 0 64 (.fix 64)) (.sl b 0 64 (.fix 64)) u4) [.int .i64 0]) H fun r H'=>r = .ex 0 [] ∧ H'.get a = some ⟨zad,(kpad kc key 54).map by8,none⟩ ∧ H'.get b = some ⟨zad,(kpad kc key 92).map by8,none⟩ ∧ H'.next = H.next ∧ ∀ i,i ≠ a → i ≠ b → H'.get i = H.get i:=by
 have hl:=zi8 kc key;have p1:=zi9 kc (key:=key) 54;have p2:=zi9 kc (key:=key) 92;refine zaE (fun i L H'=>L = [.int .i64 (i:Nat)] ∧ H'.get a = some ⟨zad,((kpad kc key 54).take i).map by8 ++ List.replicate (64 - i) (.int .u8 0),none⟩ ∧ H'.get b = some ⟨zad,((kpad kc key 92).take i).map by8 ++ List.replicate (64 - i) (.int .u8 0),none⟩ ∧ H'.next = H.next ∧ ∀ i,i ≠ a → i ≠ b → H'.get i = H.get i) 64 ?_ ?_ ?_
 ·exact ⟨rfl,by simpa using ha,by simpa using hb,rfl,fun _ _ _=>rfl⟩
 ·rintro i _ H1 hi ⟨rfl,ga,gb,n1,s1⟩;have hk1:By lo H1 kv (zdo kc key):=hk.same (by omega) fun j hj=>s1 j (hka j hj).1 (hka j hj).2;have q1:=kp_get kc key 54 i hi;have q2:=kp_get kc key 92 i hi;have la:(((kpad kc key 54).take i).map by8).length = i:=by rw [List.length_map,List.length_take]; omega
  have lb:(((kpad kc key 92).take i).map by8).length = i:=by rw [List.length_map,List.length_take]; omega
  have xa:=zaZ (z:=.int .u8 0) (x:=by8 ((kpad kc key 54).getD i 0)) la hi;have xb:=zaZ (z:=.int .u8 0) (x:=by8 ((kpad kc key 92).getD i 0)) lb hi;have ma:(((kpad kc key 54).take i).map by8 ++ List.replicate (64 - i) (V.int .u8 0)).length = 64:=by rw [List.length_append,la,List.length_replicate]; omega
  have mb:(((kpad kc key 92).take i).map by8 ++ List.replicate (64 - i) (V.int .u8 0)).length = 64:=by rw [List.length_append,lb,List.length_replicate]; omega
  have ta:((kpad kc key 54).take i).map by8 ++ [by8 ((kpad kc key 54).getD i 0)] = ((kpad kc key 54).take (i + 1)).map by8:=by rw [zbx (by omega)]; simp
  have tb:((kpad kc key 92).take i).map by8 ++ [by8 ((kpad kc key 92).getD i 0)] = ((kpad kc key 92).take (i + 1)).map by8:=by rw [zbx (by omega)]; simp
  rw [ta] at xa;rw [tb] at xb;have rest:∀ x,x < 256 → x ^^^ 54 = (kpad kc key 54).getD i 0 → x ^^^ 92 = (kpad kc key 92).getD i 0 → Ok ((M.lift (Ax.bin .xor (.int .u8 (x:Nat)) (V.int .u8 54))).bind fun t38 =>
    (M.lift (Ax.bin .xor (.int .u8 (x:Nat)) (V.int .u8 92))).bind fun t40 =>
    (M.lift (Ax.iaddr none 1 (.sl a 0 64 (.fix 64)) (.int .i64 (i:Nat)))).bind fun t41 =>
    (mstore 1 t41 t38).bind fun _ =>
    (M.lift (Ax.iaddr none 1 (.sl b 0 64 (.fix 64)) (.int .i64 (i:Nat)))).bind fun t42 =>
    (mstore 1 t42 t40).bind fun _ =>
    M.pure (Res.nrm [])) H1 fun r H'=>r = Res.nrm [] ∧ H' = (H1.set a (some ⟨zad,((kpad kc key 54).take (i + 1)).map by8 ++ List.replicate (64 - (i + 1)) (.int .u8 0),none⟩)).set b (some ⟨zad,((kpad kc key 92).take (i + 1)).map by8 ++ List.replicate (64 - (i + 1)) (.int .u8 0),none⟩):=by
   intro x hx e1 e2;have x1:=zfA hx (show 54 < 256 by decide);have x2:=zfA hx (show 92 < 256 by decide);rw [e1] at x1;rw [e2] at x2;replace x1:Ax.bin .xor (.int .u8 (x:Nat)) (V.int .u8 54) = _:=x1;replace x2:Ax.bin .xor (.int .u8 (x:Nat)) (V.int .u8 92) = _:=x2;simp (disch:=omega) only [↓RD,RZ,x1,x2,ga,xa,ma,gb,xb,mb,zcZ,zaP];omega
  have hkv:=hk1.vlen;unfold zcF uL uT uB uI uIM uc ub ug;simp (disch:=omega) only [↓RD,RZ,hkv];refine zas (α:=Res) (Q:=fun r H'=>∃ x,r = .nrm [.int .u8 (x:Nat)] ∧ H' = H1 ∧ x < 256 ∧ x ^^^ 54 = (kpad kc key 54).getD i 0 ∧ x ^^^ 92 = (kpad kc key 92).getD i 0) ?_ ?_
  ·refine zbw (fun h=>?_) (fun h=>?_)
   ·obtain ⟨p,hp,hld,-⟩:=zfL hk1 (i:=(i:Nat)) (by omega) (by omega);simp only [Int.toNat_natCast] at hld;rw [if_pos (by omega)] at q1 q2;simp (disch:=omega) only [↓RD,RZ,hp,hld];exact ⟨_,rfl,k8.getD i,q1.symm,q2.symm⟩
   ·rw [if_neg (by omega)] at q1 q2;simp (disch:=omega) only [↓RD,RZ];exact ⟨0,rfl,by decide,q1.symm,q2.symm⟩
  ·rintro _ _ ⟨x,rfl,rfl,hx,e1,e2⟩;refine zas (rest x hx e1 e2) ?_;rintro _ _ ⟨rfl,rfl⟩;simp (disch:=omega) only [↓RD,RZ];exact ⟨rfl,n1,fun j h1 h2=>by rw [zai _ _ h2,zai _ _ h1,s1 j h1 h2]⟩
 ·rintro _ H1 ⟨rfl,ga,gb,n1,s1⟩;unfold zcF uL uT uB uI uIM uc ub ug;simp (disch:=omega) only [↓RD,RZ];refine ⟨?_,?_,n1,s1⟩
  ·rw [ga,List.take_of_length_le (by omega)]; simp
  ·rw [gb,List.take_of_length_le (by omega)]; simp
theorem zrp {lo lo':Nat} {H:Heap} {kv bv:V} {key b:List Nat} (hk:By lo H kv key) (k8:Ok8 key) (hkl:key.length ≤ 549755813888) (hb:By lo' H bv b) (b8:Ok8 b) (hbl:b.length ≤ 549755813000) :
  Ok (sem T zbo [kv,bv]) H fun r H'=>r = .agg ((hmac kc key b).map by8) ∧ Grow H H':=by
 refine zix ?_;unfold zfQ uL uS uT uB uO uc ug;refine zao (zaQ (by rfl) ?_);rw [zaj];have s1:=Grow.new H ⟨zae,[.int .u8 0,.int .u8 0,.int .u8 0,.int .u8 0,.int .u8 0,.int .u8 0,.int .u8 0,.int .u8 0,.int .u8 0,.int .u8 0,.int .u8 0,.int .u8 0,.int .u8 0,.int .u8 0,.int .u8 0,.int .u8 0,.int .u8 0,.int .u8 0,.int .u8 0,.int .u8 0,.int .u8 0,.int .u8 0,.int .u8 0,.int .u8 0,.int .u8 0,.int .u8 0,.int .u8 0,.int .u8 0,.int .u8 0,.int .u8 0,.int .u8 0,.int .u8 0],none⟩;have g1:(H.new ⟨zae,[.int .u8 0,.int .u8 0,.int .u8 0,.int .u8 0,.int .u8 0,.int .u8 0,.int .u8 0,.int .u8 0,.int .u8 0,.int .u8 0,.int .u8 0,.int .u8 0,.int .u8 0,.int .u8 0,.int .u8 0,.int .u8 0,.int .u8 0,.int .u8 0,.int .u8 0,.int .u8 0,.int .u8 0,.int .u8 0,.int .u8 0,.int .u8 0,.int .u8 0,.int .u8 0,.int .u8 0,.int .u8 0,.int .u8 0,.int .u8 0,.int .u8 0,.int .u8 0],none⟩).get H.next = some ⟨zae,[.int .u8 0,.int .u8 0,.int .u8 0,.int .u8 0,.int .u8 0,.int .u8 0,.int .u8 0,.int .u8 0,.int .u8 0,.int .u8 0,.int .u8 0,.int .u8 0,.int .u8 0,.int .u8 0,.int .u8 0,.int .u8 0,.int .u8 0,.int .u8 0,.int .u8 0,.int .u8 0,.int .u8 0,.int .u8 0,.int .u8 0,.int .u8 0,.int .u8 0,.int .u8 0,.int .u8 0,.int .u8 0,.int .u8 0,.int .u8 0,.int .u8 0,.int .u8 0],none⟩:=zab _ _;have n1:(H.new ⟨zae,[.int .u8 0,.int .u8 0,.int .u8 0,.int .u8 0,.int .u8 0,.int .u8 0,.int .u8 0,.int .u8 0,.int .u8 0,.int .u8 0,.int .u8 0,.int .u8 0,.int .u8 0,.int .u8 0,.int .u8 0,.int .u8 0,.int .u8 0,.int .u8 0,.int .u8 0,.int .u8 0,.int .u8 0,.int .u8 0,.int .u8 0,.int .u8 0,.int .u8 0,.int .u8 0,.int .u8 0,.int .u8 0,.int .u8 0,.int .u8 0,.int .u8 0,.int .u8 0],none⟩).next = H.next + 1:=zaf _ _;have hk1:=hk.ext s1;generalize H.new _ = H1 at *;simp (disch:=omega) only [↓RD,RZ,hk1.vlen];refine zas (Q:=fun r H'=>∃ x,r = .nrm [x] ∧ By 0 H' x (zdo kc key) ∧ Grow H1 H') ?_ ?_
 ·refine zbw (fun h=>?_) (fun h=>?_)
  ·refine zag (zvW hk1 k8 hkl) ?_;rintro _ H2 ⟨rfl,s2⟩;have sl:=zhB kc key;have l2:=sp32 sl;have l3:((sha kc key).map by8).length = 32:=by rw [List.length_map,sl]
   have vs:=@zg7 32 H2.next;have n2:=s2.next;simp (disch:=omega) only [↓RD,RZ,eq_self,seval,zaY,zaj,l2,l3,vs];have e:zdo kc key = sha kc key:=by unfold zdo; rw [if_pos (by omega)]
   rw [e];exact ⟨_,rfl,ze5 (zal _ _ _) sl (Nat.zero_le _) (by rw [zan,zaf]; omega),(s2.trans (Grow.new _ _)).set n2 _⟩
  ·simp (disch:=omega) only [↓RD,RZ];have e:zdo kc key = key:=by unfold zdo; rw [if_neg (by omega)]
   rw [e];exact ⟨_,rfl,hk1.low (Nat.zero_le _),Grow.refl _⟩
 rintro _ H2 ⟨x,rfl,hx,s2⟩;have n2:=s2.next;have k8':=zl1 kc k8;refine zao (zk7 (l:=64) (c:=64) ⟨by decide,by decide,by decide,by decide⟩ ?_);rw [show (64:Int).toNat = 64 from rfl,zrr];have s3:=Grow.new H2 ⟨zad,List.replicate 64 (.int .u8 0),none⟩;have g3:(H2.new ⟨zad,List.replicate 64 (.int .u8 0),none⟩).get H2.next = _:=zab _ _;have n3:(H2.new ⟨zad,List.replicate 64 (.int .u8 0),none⟩).next = H2.next + 1:=zaf _ _;have hxp:∀ i,x.pid = some i → i < H2.next:=fun i hi=>(hx.own i hi).2;have hx3:=hx.ext s3;generalize ha:H2.next = a at *;generalize H2.new _ = H3 at *;refine zao (zk7 (l:=64) (c:=64) ⟨by decide,by decide,by decide,by decide⟩ ?_);rw [show (64:Int).toNat = 64 from rfl,zrr];have s4:=Grow.new H3 ⟨zad,List.replicate 64 (.int .u8 0),none⟩;have g4:(H3.new ⟨zad,List.replicate 64 (.int .u8 0),none⟩).get H3.next = _:=zab _ _;have n4:(H3.new ⟨zad,List.replicate 64 (.int .u8 0),none⟩).next = H3.next + 1:=zaf _ _;have ga4:=(s4.same a (by omega)).trans g3;have hx4:=hx3.ext s4;generalize hb':H3.next = c at *;generalize H3.new _ = H4 at *;simp (disch:=omega) only [↓RD,RZ];refine zas (hmac0_ok hx4 k8' ga4 g4 (by omega) (fun i hi=>by have:=hxp i hi; omega)) ?_;rintro _ H5 ⟨rfl,ga5,gc5,n5,s5⟩;have s15:Grow H1 H5:=⟨by omega,fun i hi=>by rw [s5 i (by omega) (by omega),s4.same i (by omega),s3.same i (by omega),s2.same i hi]⟩;have s05:=s1.trans s15;have hb5:=hb.ext s05;have p1:=zi9 kc (key:=key) 54;have p2:=zi9 kc (key:=key) 92;have o1:=zrU kc (x:=54) k8 (by decide);have o2:=zrU kc (x:=92) k8 (by decide);have f1:Ab a H5 (.sl a 0 64 (.fix 64)) (kpad kc key 54):=by
  show Apf _ _ _ _ _ _ _;rw [p1];exact .full ga5 (by rw [List.length_map,p1]) (Nat.le_refl _) (by omega)
 simp (disch:=omega) only [↓RD,RZ];rw [zaK];refine zk5 f1 (by omega) hb5.ac (by omega) fun x6 H6 hx6 b6 st6=>?_;have n6:=b6.next;refine zag (zvW hx6.by (o1.app b8) (by rw [List.length_append]; omega)) ?_;rintro _ H7 ⟨rfl,s7⟩;have n7:=s7.next;have gc6:=(st6.same c (by omega) (by simp [V.pid]; omega)).trans gc5;have gc7:=(s7.same c (by omega)).trans gc6;have sl:=zhB kc (kpad kc key 54 ++ b);have l2:=sp32 sl;have l3:((sha kc (kpad kc key 54 ++ b)).map by8).length = 32:=by rw [List.length_map,sl]
 have vs:=@zg7 32 H7.next;simp (disch:=omega) only [↓RD,RZ,eq_self,seval,zaY,zaj,l2,l3,vs];have s8:Grow H7 ((H7.new ⟨zae,[.int .u8 0,.int .u8 0,.int .u8 0,.int .u8 0,.int .u8 0,.int .u8 0,.int .u8 0,.int .u8 0,.int .u8 0,.int .u8 0,.int .u8 0,.int .u8 0,.int .u8 0,.int .u8 0,.int .u8 0,.int .u8 0,.int .u8 0,.int .u8 0,.int .u8 0,.int .u8 0,.int .u8 0,.int .u8 0,.int .u8 0,.int .u8 0,.int .u8 0,.int .u8 0,.int .u8 0,.int .u8 0,.int .u8 0,.int .u8 0,.int .u8 0,.int .u8 0],none⟩).set H7.next (some ⟨zae,(sha kc (kpad kc key 54 ++ b)).map by8,none⟩)):=(Grow.new _ _).set (Nat.le_refl _) _;have g8:((H7.new ⟨zae,[.int .u8 0,.int .u8 0,.int .u8 0,.int .u8 0,.int .u8 0,.int .u8 0,.int .u8 0,.int .u8 0,.int .u8 0,.int .u8 0,.int .u8 0,.int .u8 0,.int .u8 0,.int .u8 0,.int .u8 0,.int .u8 0,.int .u8 0,.int .u8 0,.int .u8 0,.int .u8 0,.int .u8 0,.int .u8 0,.int .u8 0,.int .u8 0,.int .u8 0,.int .u8 0,.int .u8 0,.int .u8 0,.int .u8 0,.int .u8 0,.int .u8 0,.int .u8 0],none⟩).set H7.next (some ⟨zae,(sha kc (kpad kc key 54 ++ b)).map by8,none⟩)).get H7.next = _:=zal _ _ _;have n8:((H7.new ⟨zae,[.int .u8 0,.int .u8 0,.int .u8 0,.int .u8 0,.int .u8 0,.int .u8 0,.int .u8 0,.int .u8 0,.int .u8 0,.int .u8 0,.int .u8 0,.int .u8 0,.int .u8 0,.int .u8 0,.int .u8 0,.int .u8 0,.int .u8 0,.int .u8 0,.int .u8 0,.int .u8 0,.int .u8 0,.int .u8 0,.int .u8 0,.int .u8 0,.int .u8 0,.int .u8 0,.int .u8 0,.int .u8 0,.int .u8 0,.int .u8 0,.int .u8 0,.int .u8 0],none⟩).set H7.next (some ⟨zae,(sha kc (kpad kc key 54 ++ b)).map by8,none⟩)).next = H7.next + 1:=rfl;have gc8:=(s8.same c (by omega)).trans gc7;generalize hd:H7.next = d at *;generalize Heap.set _ d _ = H8 at *;have f2:Ab c H8 (.sl c 0 64 (.fix 64)) (kpad kc key 92):=by
  show Apf _ _ _ _ _ _ _;rw [p2];exact .full gc8 (by rw [List.length_map,p2]) (Nat.le_refl _) (by omega)
 have hy:=ze5 (lo:=0) g8 sl (Nat.zero_le _) (by omega);rw [zaK];refine zk5 f2 (by omega) (by have:=hy.ac; rw [sl] at this ⊢; exact this) (by rw [sl]; omega) fun x9 H9 hx9 b9 st9=>?_;have n9:=b9.next;refine zag (zvW hx9.by (o2.app (zrF _ _)) (by rw [List.length_append,sl]; omega)) ?_;rintro _ H10 ⟨rfl,s10⟩;have n10:=s10.next;have ef:sha kc (kpad kc key 92 ++ sha kc (kpad kc key 54 ++ b)) = hmac kc key b:=rfl;rw [ef];have hl:=zc5 kc key b;have m1:=ld32 hl;have m2:=sp32 hl;have m3:((hmac kc key b).map by8).length = 32:=by rw [List.length_map,hl]
 have all:∀ i,i < a → H10.get i = H5.get i:=fun i hi=>by rw [s10.same i (by omega),b9.same i (by omega),s8.same i (by omega),s7.same i (by omega),b6.same i (by omega)]
 have gd:H10.get H.next = some ⟨zae,[.int .u8 0,.int .u8 0,.int .u8 0,.int .u8 0,.int .u8 0,.int .u8 0,.int .u8 0,.int .u8 0,.int .u8 0,.int .u8 0,.int .u8 0,.int .u8 0,.int .u8 0,.int .u8 0,.int .u8 0,.int .u8 0,.int .u8 0,.int .u8 0,.int .u8 0,.int .u8 0,.int .u8 0,.int .u8 0,.int .u8 0,.int .u8 0,.int .u8 0,.int .u8 0,.int .u8 0,.int .u8 0,.int .u8 0,.int .u8 0,.int .u8 0,.int .u8 0],none⟩:=by
  rw [all _ (by omega),s15.same _ (by omega)];exact g1
 simp (disch:=omega) only [↓RD,RZ,eq_self,seval,gd,zaY,zaj,m1,m2,m3];exact ⟨by rw [zan]; omega,fun i hi=>by rw [zai _ _ (by omega),all i (by omega),s15.same i (by omega),s1.same i hi]⟩
end Go.Ax.SU
/- Re6 -/
namespace Go.Ax.SU
open Go.Ax
theorem zlL {lo lo':Nat} {H:Heap} {kv bv:V} {key b:List Nat} (hk:By lo H kv key) (k8:Ok8 key) (hkl:key.length ≤ 549755813888) (hb:By lo' H bv b) (b8:Ok8 b) (hbl:b.length ≤ 549755813000) :
  Ok (sem T zbp [kv,bv]) H fun r H'=>r = .agg ((hmac kc key b).map by8) ∧ Grow H H':=by
 refine zhe ?_;unfold zeN uS uT uO;refine zao (zaQ (by rfl) ?_);rw [zaj];have s1:=Grow.new H ⟨zae,[.int .u8 0,.int .u8 0,.int .u8 0,.int .u8 0,.int .u8 0,.int .u8 0,.int .u8 0,.int .u8 0,.int .u8 0,.int .u8 0,.int .u8 0,.int .u8 0,.int .u8 0,.int .u8 0,.int .u8 0,.int .u8 0,.int .u8 0,.int .u8 0,.int .u8 0,.int .u8 0,.int .u8 0,.int .u8 0,.int .u8 0,.int .u8 0,.int .u8 0,.int .u8 0,.int .u8 0,.int .u8 0,.int .u8 0,.int .u8 0,.int .u8 0,.int .u8 0],none⟩;have g1:(H.new ⟨zae,[.int .u8 0,.int .u8 0,.int .u8 0,.int .u8 0,.int .u8 0,.int .u8 0,.int .u8 0,.int .u8 0,.int .u8 0,.int .u8 0,.int .u8 0,.int .u8 0,.int .u8 0,.int .u8 0,.int .u8 0,.int .u8 0,.int .u8 0,.int .u8 0,.int .u8 0,.int .u8 0,.int .u8 0,.int .u8 0,.int .u8 0,.int .u8 0,.int .u8 0,.int .u8 0,.int .u8 0,.int .u8 0,.int .u8 0,.int .u8 0,.int .u8 0,.int .u8 0],none⟩).get H.next = some ⟨zae,[.int .u8 0,.int .u8 0,.int .u8 0,.int .u8 0,.int .u8 0,.int .u8 0,.int .u8 0,.int .u8 0,.int .u8 0,.int .u8 0,.int .u8 0,.int .u8 0,.int .u8 0,.int .u8 0,.int .u8 0,.int .u8 0,.int .u8 0,.int .u8 0,.int .u8 0,.int .u8 0,.int .u8 0,.int .u8 0,.int .u8 0,.int .u8 0,.int .u8 0,.int .u8 0,.int .u8 0,.int .u8 0,.int .u8 0,.int .u8 0,.int .u8 0,.int .u8 0],none⟩:=zab _ _;have n1:(H.new ⟨zae,[.int .u8 0,.int .u8 0,.int .u8 0,.int .u8 0,.int .u8 0,.int .u8 0,.int .u8 0,.int .u8 0,.int .u8 0,.int .u8 0,.int .u8 0,.int .u8 0,.int .u8 0,.int .u8 0,.int .u8 0,.int .u8 0,.int .u8 0,.int .u8 0,.int .u8 0,.int .u8 0,.int .u8 0,.int .u8 0,.int .u8 0,.int .u8 0,.int .u8 0,.int .u8 0,.int .u8 0,.int .u8 0,.int .u8 0,.int .u8 0,.int .u8 0,.int .u8 0],none⟩).next = H.next + 1:=zaf _ _;have hk1:=hk.ext s1;have hb1:=hb.ext s1;generalize H.new _ = H1 at *;refine zag (zrp hk1 k8 hkl hb1 b8 hbl) ?_;rintro _ H2 ⟨rfl,s2⟩;have n2:=s2.next;have hl:=zc5 kc key b;have m1:=ld32 hl;have m2:=sp32 hl;have m3:((hmac kc key b).map by8).length = 32:=by rw [List.length_map,hl]
 have gd:=(s2.same H.next (by omega)).trans g1;simp (disch:=omega) only [↓RD,RZ,eq_self,seval,gd,zaY,zaj,m1,m2,m3];exact ⟨by rw [zan]; omega,fun i hi=>by rw [zai _ _ (by omega),s2.same i (by omega),s1.same i hi]⟩
theorem cut_ok {lo n:Nat} {H:Heap} {v:V} {l:List Nat} (h:Ab lo H v l) (hn:n ≤ l.length):∃ v',zaz .sl 1 v none (some (.int .i64 (n:Nat))) (some (.int .i64 (n:Nat))) = some v' ∧ By lo H v' (l.take n):=by
 have hb:=h.by;have hlen:=hb.len;rw [List.length_map,Nat.mul_one] at hlen;have hcp:=hb.cap;rcases hb.cases with ⟨rfl,hc,h0⟩ | ⟨id,off,cap,b,rfl,hg,hle,hc⟩ | ⟨cs,rfl,hle,hc⟩
 ·have hn0:n = 0:=by omega
  subst hn0;exact ⟨.nils,rfl,Lc.nil⟩
 ·have hrc:∀ c,zbn 1 H (.sl id (off + 0) n (.fix c)) = some ((l.take n).map by8,(l.take n).length):=fun c=>by
   simp only [zbn,hg,Option.bind_some];rw [if_pos (by omega),List.map_take,hc,List.take_take,Nat.mul_one,Nat.mul_one,Nat.min_eq_left hn,Nat.add_zero,List.length_take,Nat.min_eq_left hn]
  cases cap with
  | fix c =>
   have hcp:l.length ≤ c:=hcp;refine ⟨.sl id (off + 0) n (.fix n),?_,hrc n,hb.own,Nat.le_refl n⟩;simp only [zaz,zdM,vint,Option.map_some,Option.bind_some,Option.getD_some,Option.getD_none];rw [if_neg (by simp),if_pos (by omega)];simp
  | opn e =>
   refine ⟨.sl id (off + 0) n (.fix n),?_,hrc n,hb.own,Nat.le_refl n⟩;simp only [zaz,zdM,vint,Option.map_some,Option.bind_some,Option.getD_some,Option.getD_none];rw [if_neg (by simp),if_pos (by omega)];simp
 ·cases h with
  | app h=>cases h with
   | opn h ho=>rcases h with ⟨h,_⟩ | ⟨_,h,_⟩ <;> cases h
  
theorem zj9 {lo lo':Nat} {H:Heap} {sv iv:V} {zaI info:List Nat} {n:Nat} (hs:By lo H sv zaI) (hs8:Ok8 zaI) (hsl:zaI.length ≤ 549755813888) (hi:By lo' H iv info) (hi8:Ok8 info) (hil:info.length ≤ 549755800000) (hn:n ≤ 8160) :
  Ok (sem T za8 [sv,iv,.int .i64 (n:Nat)]) H fun r H'=>∃ v,r = .tup [v,.int .i64 0] ∧ By H.next H' v ((hkdf kc zaI info ((n + 31) / 32)).1.take n) ∧ Grow H H':=by
 refine zhE ?_;unfold zeX uL uB uc ub ug;simp (disch:=omega) only [↓RD,RZ,eq_self,seval];have s0:Grow H ((H.new ⟨zad,[],none⟩).new ⟨zad,[],none⟩):=(Grow.new _ _).trans (Grow.new _ _);have ga:((H.new ⟨zad,[],none⟩).new ⟨zad,[],none⟩).get H.next = some ⟨zad,[],none⟩:=by rw [zaX _ _ (by rw [zaf]; omega),zab]
 have gb:((H.new ⟨zad,[],none⟩).new ⟨zad,[],none⟩).get (H.next + 1) = some ⟨zad,[],none⟩:=zab _ _;have n0:((H.new ⟨zad,[],none⟩).new ⟨zad,[],none⟩).next = H.next + 1 + 1:=rfl;generalize Heap.new _ _ = H1 at *;refine zas (Q:=fun r H'=>∃ o,r = .ex 0 [o] ∧ Ab H.next H' o (hkdf kc zaI info ((n + 31) / 32)).1 ∧ Grow H H') ?_ ?_
 ·refine zaE (fun k L H'=>∃ o last,L = [o,last,.int .i64 ((k + 1:Nat):Int)] ∧ Ab H.next H' o (hkdf kc zaI info k).1 ∧ By 0 H' last (hkdf kc zaI info k).2 ∧ Grow H H') ((n + 31) / 32) ?_ ?_ ?_
  ·exact ⟨_,_,rfl,.app (.lit ga (Nat.le_refl _) (by omega)),ze5 gb rfl (Nat.zero_le _) (by omega),s0⟩
  ·rintro k _ H2 hk ⟨o,last,rfl,ho,hla,s2⟩;have n2:=s2.next;have ol:=zf3 kc zaI info k;have hk8:Ok8 (hkdf kc zaI info k).2:=(zlc kc zaI info k).2;have ll:(hkdf kc zaI info k).2.length ≤ 32:=by
    cases k with
    | zero=>exact Nat.zero_le _
    | succ k=>exact Nat.le_of_eq (zc5 _ _ _)
   have hov:=ho.by.vlen;rw [ol] at hov;have hi2:=hi.ext s2;unfold zdc uL uT uB uO uc ug;simp (disch:=omega) only [↓RD,RZ,eq_self,seval,hov];rw [zaK];refine znK hla (by omega) fun x3 H3 hx3 s3=>?_;have n3:=s3.next;have hi3:=hi2.ext s3;refine zeV hx3 (by omega) hi3.ac (by omega) fun x4 H4 hx4 b4=>?_;have n4:=b4.next;have c8:IntKind.u8.wrap ((k + 1:Nat):Int) = ((k + 1:Nat):Int):=by rw [wrap_u8]; omega
   simp (disch:=omega) only [↓RD,RZ,eq_self,seval,c8];have s5:=Grow.new H4 ⟨zad,[.int .u8 ((k + 1:Nat):Int)],none⟩;rw [zaK];refine zeV (m:=[k + 1]) (Apf.keep hx4 (s5.keep _)) (by rw [zaf]; omega) (zbZ rfl) (by rw [List.length_append]; simp; omega) fun x6 H6 hx6 b6=>?_;have n6:=b6.next;rw [zaf] at n6;have s26:Grow H2 H6:=⟨by omega,fun i hi=>by rw [b6.same i hi,s5.same i (by omega),b4.same i hi,s3.same i hi]⟩;have s06:=s2.trans s26;have m8:Ok8 ((hkdf kc zaI info k).2 ++ info ++ [k + 1]):=(hk8.app hi8 |>.app (fun y hy=>by simp at hy; omega));refine zag (zrp (hs.ext s06) hs8 hsl hx6.by m8 (by simp; omega)) ?_;rintro _ H7 ⟨rfl,s7⟩;have n7:=s7.next;have eh:(hkdf kc zaI info (k + 1)).2 = hmac kc zaI ((hkdf kc zaI info k).2 ++ info ++ [k + 1]):=rfl;have eh1:(hkdf kc zaI info (k + 1)).1 = (hkdf kc zaI info k).1 ++ (hkdf kc zaI info (k + 1)).2:=rfl;rw [← eh];have hl:(hkdf kc zaI info (k + 1)).2.length = 32:=zc5 _ _ _;have m2:=sp32 hl;have m3:((hkdf kc zaI info (k + 1)).2.map by8).length = 32:=by rw [List.length_map,hl]
   have vs:=@zg7 32 H7.next;simp (disch:=omega) only [↓RD,RZ,eq_self,seval,zaY,zaj,m2,m3,vs];have s8:Grow H7 ((H7.new ⟨zae,[.int .u8 0,.int .u8 0,.int .u8 0,.int .u8 0,.int .u8 0,.int .u8 0,.int .u8 0,.int .u8 0,.int .u8 0,.int .u8 0,.int .u8 0,.int .u8 0,.int .u8 0,.int .u8 0,.int .u8 0,.int .u8 0,.int .u8 0,.int .u8 0,.int .u8 0,.int .u8 0,.int .u8 0,.int .u8 0,.int .u8 0,.int .u8 0,.int .u8 0,.int .u8 0,.int .u8 0,.int .u8 0,.int .u8 0,.int .u8 0,.int .u8 0,.int .u8 0],none⟩).set H7.next (some ⟨zae,(hkdf kc zaI info (k + 1)).2.map by8,none⟩)):=(Grow.new _ _).set (Nat.le_refl _) _;have g8:((H7.new ⟨zae,[.int .u8 0,.int .u8 0,.int .u8 0,.int .u8 0,.int .u8 0,.int .u8 0,.int .u8 0,.int .u8 0,.int .u8 0,.int .u8 0,.int .u8 0,.int .u8 0,.int .u8 0,.int .u8 0,.int .u8 0,.int .u8 0,.int .u8 0,.int .u8 0,.int .u8 0,.int .u8 0,.int .u8 0,.int .u8 0,.int .u8 0,.int .u8 0,.int .u8 0,.int .u8 0,.int .u8 0,.int .u8 0,.int .u8 0,.int .u8 0,.int .u8 0,.int .u8 0],none⟩).set H7.next (some ⟨zae,(hkdf kc zaI info (k + 1)).2.map by8,none⟩)).get H7.next = _:=zal _ _ _;have n8:((H7.new ⟨zae,[.int .u8 0,.int .u8 0,.int .u8 0,.int .u8 0,.int .u8 0,.int .u8 0,.int .u8 0,.int .u8 0,.int .u8 0,.int .u8 0,.int .u8 0,.int .u8 0,.int .u8 0,.int .u8 0,.int .u8 0,.int .u8 0,.int .u8 0,.int .u8 0,.int .u8 0,.int .u8 0,.int .u8 0,.int .u8 0,.int .u8 0,.int .u8 0,.int .u8 0,.int .u8 0,.int .u8 0,.int .u8 0,.int .u8 0,.int .u8 0,.int .u8 0,.int .u8 0],none⟩).set H7.next (some ⟨zae,(hkdf kc zaI info (k + 1)).2.map by8,none⟩)).next = H7.next + 1:=rfl;generalize hd:H7.next = d at *;generalize Heap.set _ d _ = H8 at *;have s28:Grow H2 H8:=(s26.trans s7).trans s8;have hy:=ze5 (lo:=H2.next) g8 hl (by omega) (by omega);rw [zaK];refine zk5 (Apf.keep ho (s28.keep _)) (by omega) (by have:=hy.ac; rw [hl] at this ⊢; exact this) (by rw [ol,hl]; omega) fun x9 H9 hx9 b9 st9=>?_;have n9:=b9.next;have hdp:d ∉ o.pid.toList:=fun hc=>by
    have:=(ho.by.own d (by simpa [zeF] using hc)).2;omega
   have hy9:=hy.same n9 fun i hi=>by
    simp only [V.pid,Option.some.injEq] at hi;subst hi;exact st9.same d (by omega) hdp
   have ek:((k + 1:Nat):Int) + 1 = ((k + 1 + 1:Nat):Int):=rfl;simp (disch:=omega) only [↓RD,RZ,eq_self,seval,ek];exact ⟨x9,_,rfl,by rw [eh1]; exact hx9,hy9.low (Nat.zero_le _),⟨by omega,fun i hi=>by rw [b9.same i hi,s28.same i (by omega),s2.same i hi]⟩⟩
  ·rintro _ H2 ⟨o,last,rfl,ho,hla,s2⟩;have ol:=zf3 kc zaI info ((n + 31) / 32);have hov:=ho.by.vlen;rw [ol] at hov;unfold zdc uL uT uB uO uc ug;simp (disch:=omega) only [↓RD,RZ,eq_self,seval,hov];exact ⟨o,rfl,ho,s2⟩
 ·rintro _ H2 ⟨o,rfl,ho,s2⟩;obtain ⟨v',hv',hb'⟩:=cut_ok (n:=n) ho (by rw [zf3]; omega);simp (disch:=omega) only [↓RD,RZ,eq_self,seval,hv'];exact ⟨_,rfl,hb',s2⟩
theorem zqi {lo:Nat} {H:Heap} {v:V} {vs:List V} {ps:List (List Nat)} (hv:Lc 1 lo H v vs vs.length) (hp:Pts 0 H vs ps) (hvn:vs.length ≤ 1000) (hlen:ps.flatten.length ≤ 1099511627776) :
  Ok (sem T zbV [v]) H fun r H'=>Ab H.next H' r ps.flatten ∧ Grow H H':=by
 refine ziw ?_;unfold zfP uc ub ug;have hpl:=hp.1;simp (disch:=omega) only [↓RD,RZ,eq_self,seval];refine zaE (fun i L H'=>∃ x,L = [x,.int .i64 (i:Nat)] ∧ Ab H.next H' x (ps.take i).flatten ∧ Grow H H') vs.length ?_ ?_ ?_
 ·exact ⟨_,rfl,.app (.lit (zab _ _) (Nat.le_refl _) (by rw [zaf]; omega)),Grow.new _ _⟩
 ·rintro i _ H1 hi ⟨x,rfl,hx,s1⟩;have n1:=s1.next;have hvx:vs[i]? = some vs[i]:=List.getElem?_eq_getElem hi;have hpx:ps[i]? = some ps[i]:=List.getElem?_eq_getElem (by omega);obtain ⟨hb,hb8⟩:=(hp.grow s1).2 i _ _ hvx hpx;obtain ⟨q,hq,hld⟩:=zta (hv.ext s1) hi hvx;have hf:=zhm hpx;have hl1:=zex ps (i + 1);rw [hf,List.length_append] at hl1;have hvl:=(hv.ext s1).vlen;unfold zdA uL uB uIM uc ug;simp (disch:=omega) only [↓RD,RZ,eq_self,seval,hvl,hq,hld];rw [zaK];refine zeV hx (by omega) hb.ac (by omega) fun x2 H2 hx2 b2=>?_;simp (disch:=omega) only [↓RD,RZ,eq_self,seval];exact ⟨x2,rfl,by rw [hf]; exact hx2,s1.bel' (Nat.le_refl _) b2⟩
 ·rintro _ H1 ⟨x,rfl,hx,s1⟩;have hvl:=(hv.ext s1).vlen;rw [List.take_of_length_le (by omega)] at hx;unfold zdA uL uB uIM uc ug;simp (disch:=omega) only [↓RD,RZ,eq_self,seval,hvl];exact ⟨hx,s1⟩
end Go.Ax.SU
/- Re7 -/
namespace Go.Ax.SU
open Go.Ax
def rchk2 (n:Nat):Bool:=match Cp.cs 3 zax [by8 n,.int .u8 2] with
 | some (.int .u8 v)=>v == (xt n:Int)
 | _=>false
theorem rt2_all:(List.range 256).all rchk2 = true:=by kernel_rfl
theorem rt2 {n:Nat} (h:n < 256):sem T zax [by8 n,.int .u8 2] = M.pure (by8 (xt n)):=by
 have h1:=List.all_eq_true.1 rt2_all n (List.mem_range.2 h);unfold rchk2 at h1;split at h1
 ·rename_i b hb;rw [zj6 hb];simp only [beq_iff_eq] at h1;rw [h1]; rfl
 ·cases h1
def rchk3 (n:Nat):Bool:=match Cp.cs 3 zax [by8 n,.int .u8 3] with
 | some (.int .u8 v)=>v == (t3 n:Int)
 | _=>false
theorem rt3_all:(List.range 256).all rchk3 = true:=by kernel_rfl
theorem rt3 {n:Nat} (h:n < 256):sem T zax [by8 n,.int .u8 3] = M.pure (by8 (t3 n)):=by
 have h1:=List.all_eq_true.1 rt3_all n (List.mem_range.2 h);unfold rchk3 at h1;split at h1
 ·rename_i b hb;rw [zj6 hb];simp only [beq_iff_eq] at h1;rw [h1]; rfl
 ·cases h1
def rchkq (k:Nat):Bool:=match Cp.cs 3 zax [by8 (pwl.getD ((255 - k) % 255) 0),.int .u8 246] with
 | some (.int .u8 v)=>v == (pwl.getD ((255 - (k + 1)) % 255) 0:Int)
 | _=>false
theorem rtq_all:(List.range 255).all rchkq = true:=by kernel_rfl
theorem rtq {k:Nat} (h:k < 255):sem T zax [by8 (pwl.getD ((255 - k) % 255) 0),.int .u8 246] = M.pure (by8 (pwl.getD ((255 - (k + 1)) % 255) 0)):=by
 have h1:=List.all_eq_true.1 rtq_all k (List.mem_range.2 h);unfold rchkq at h1;split at h1
 ·rename_i b hb;rw [zj6 hb];simp only [beq_iff_eq] at h1;rw [h1]; rfl
 ·cases h1
theorem pw_next:((List.range 255).all fun k=>pwl.getD ((k + 1) % 255) 0 == t3 (pwl.getD (k % 255) 0)) = true:=by kernel_rfl
theorem pw_nxt {k:Nat} (h:k < 255):t3 (pwl.getD (k % 255) 0) = pwl.getD ((k + 1) % 255) 0:=by
 have:=List.all_eq_true.1 pw_next k (List.mem_range.2 h);simpa using (by simpa using this:pwl.getD ((k + 1) % 255) 0 = t3 (pwl.getD (k % 255) 0)).symm
theorem left1 {n:Nat} (h:n < 256):sem T zaM [by8 n,.int .u64 1] = M.pure (by8 (rl8 n 1)):=by
 refine zdv fun H=>?_;refine zcN ?_;unfold zb9 by8 uB uq;have e1:n * 2 % 256 < 256:=Nat.mod_lt _ (by decide);simp (disch:=omega) only [↓RD,RZ,eq_self,seval];unfold rl8;rfl
theorem left2 {n:Nat} (h:n < 256):sem T zaM [by8 n,.int .u64 2] = M.pure (by8 (rl8 n 2)):=by
 refine zdv fun H=>?_;refine zcN ?_;unfold zb9 by8 uB uq;have e1:n * 4 % 256 < 256:=Nat.mod_lt _ (by decide);simp (disch:=omega) only [↓RD,RZ,eq_self,seval];unfold rl8;rfl
theorem left3 {n:Nat} (h:n < 256):sem T zaM [by8 n,.int .u64 3] = M.pure (by8 (rl8 n 3)):=by
 refine zdv fun H=>?_;refine zcN ?_;unfold zb9 by8 uB uq;have e1:n * 8 % 256 < 256:=Nat.mod_lt _ (by decide);simp (disch:=omega) only [↓RD,RZ,eq_self,seval];unfold rl8;rfl
theorem left4 {n:Nat} (h:n < 256):sem T zaM [by8 n,.int .u64 4] = M.pure (by8 (rl8 n 4)):=by
 refine zdv fun H=>?_;refine zcN ?_;unfold zb9 by8 uB uq;have e1:n * 16 % 256 < 256:=Nat.mod_lt _ (by decide);simp (disch:=omega) only [↓RD,RZ,eq_self,seval];unfold rl8;rfl
theorem zgF {y i:Nat} (h:y < 256):rl8 y i < 256:=by
 unfold rl8;refine or_lt8 (Nat.mod_lt _ (by decide)) ?_;have:=Nat.div_le_self y (2 ^ (8 - i));omega
def zld:Nat → List Nat
 | 0=>(List.replicate 256 0).set 0 99
 | i + 1=>(zld i).set (pwl.getD ((i + 1) % 255) 0) (bx (pwl.getD ((255 - (i + 1)) % 255) 0))
theorem zve:zld 255 = sbox:=by kernel_rfl
theorem zvd (n:Nat):(zld n).length = 256:=by
 induction n with
 | zero=>rfl
 | succ n ih=>simp [zld,ih]
theorem Box_r_ok {H:Heap}:Ok (sem T zb5 []) H fun r H'=>r = .agg (sbox.map by8) ∧ Grow H H':=by
 refine zjh ?_;unfold zgr uS uT uI uO uc ub;refine zao (zaQ (by kernel_rfl) ?_);have s1:=Grow.new H ⟨zaU,List.replicate 256 (.int .u8 0),none⟩;have g1:(H.new ⟨zaU,List.replicate 256 (.int .u8 0),none⟩).get H.next = some ⟨zaU,List.replicate 256 (.int .u8 0),none⟩:=zab _ _;have n1:(H.new ⟨zaU,List.replicate 256 (.int .u8 0),none⟩).next = H.next + 1:=zaf _ _;show Ok _ (H.new ⟨zaU,List.replicate 256 (.int .u8 0),none⟩) _;generalize ha:H.next = a at *;generalize H.new _ = H1 at *;refine zao (zaQ (by kernel_rfl) ?_);have s2:=Grow.new H1 ⟨zaU,List.replicate 256 (.int .u8 0),none⟩;have g2:(H1.new ⟨zaU,List.replicate 256 (.int .u8 0),none⟩).get H1.next = some ⟨zaU,(List.replicate 256 0).map by8,none⟩:=by rw [zab,List.map_replicate]; rfl
 have n2:(H1.new ⟨zaU,List.replicate 256 (.int .u8 0),none⟩).next = H1.next + 1:=zaf _ _;have ga2:=(s2.same a (by omega)).trans g1;show Ok _ (H1.new ⟨zaU,List.replicate 256 (.int .u8 0),none⟩) _;generalize hb:H1.next = b at *;generalize H1.new _ = H2 at *;have z0:splice ((List.replicate 256 0).map by8) 0 [.int .u8 99] = (zld 0).map by8:=zkr (l:=List.replicate 256 0) (y:=99) (by rw [List.length_replicate]; decide);have zl:((List.replicate 256 0).map by8).length = 256:=by rw [List.length_map,List.length_replicate]
 simp (disch:=first | omega | (simp only [RY] <;> omega) | decide) only [↓RD,RZ,eq_self,Int.reduceToNat,Int.reduceAdd,Nat.reduceAdd,Nat.reduceSub,Nat.reduceMul,Nat.reduceLeDiff,g2,z0,zl];have s3:=At1.set b H2 (some ⟨zaU,(zld 0).map by8,none⟩);have g3:(H2.set b (some ⟨zaU,(zld 0).map by8,none⟩)).get b = _:=zal _ _ _;have n3:(H2.set b (some ⟨zaU,(zld 0).map by8,none⟩)).next = H2.next:=rfl;generalize Heap.set _ b _ = H3 at *;have ga3:=(s3.same a (by omega) (by omega)).trans ga2;refine zas (Q:=fun r H'=>r = .ex 0 [] ∧ H'.get b = some ⟨zaU,sbox.map by8,none⟩ ∧ At1 b H3 H') ?_ ?_
 ·refine zaE (fun i L H'=>L = [by8 (pwl.getD (i % 255) 0),by8 (pwl.getD ((255 - i) % 255) 0),.int .i64 (i:Nat)] ∧ H'.get b = some ⟨zaU,(zld i).map by8,none⟩ ∧ At1 b H3 H') 255 ?_ ?_ ?_
  ·exact ⟨rfl,g3,At1.refl _ _⟩
  ·rintro i _ H4 hi ⟨rfl,g4,s4⟩;have p8:=zpq.getD (i % 255);have q8:=zpq.getD ((255 - i) % 255);have r8:=zpq.getD ((i + 1) % 255);have u8:=zpq.getD ((255 - (i + 1)) % 255);have t1:=rt3 p8;have t2:=rtq hi;rw [pw_nxt hi] at t1;have fl:=zvd i;have ef:zld (i + 1) = (zld i).set (pwl.getD ((i + 1) % 255) 0) (bx (pwl.getD ((255 - (i + 1)) % 255) 0)):=rfl;rw [ef];generalize pwl.getD (i % 255) 0 = p at *;generalize pwl.getD ((255 - i) % 255) 0 = q at *;generalize pwl.getD ((i + 1) % 255) 0 = p' at *;generalize pwl.getD ((255 - (i + 1)) % 255) 0 = q' at *;have l1:=left1 u8;have l2:=left2 u8;have l3:=left3 u8;have l4:=left4 u8;have x1:=zfA u8 (zgF (i:=1) u8);have x2:=zfA (za6 u8 (zgF (i:=1) u8)) (zgF (i:=2) u8);have x3:=zfA (za6 (za6 u8 (zgF (i:=1) u8)) (zgF (i:=2) u8)) (zgF (i:=3) u8);have x4:=zfA (za6 (za6 (za6 u8 (zgF (i:=1) u8)) (zgF (i:=2) u8)) (zgF (i:=3) u8)) (zgF (i:=4) u8);have x5:=zfA (za6 (za6 (za6 (za6 u8 (zgF (i:=1) u8)) (zgF (i:=2) u8)) (zgF (i:=3) u8)) (zgF (i:=4) u8)) (show 99 < 256 by decide);have eb:q' ^^^ rl8 q' 1 ^^^ rl8 q' 2 ^^^ rl8 q' 3 ^^^ rl8 q' 4 ^^^ 99 = bx q':=rfl;rw [eb] at x5;replace x5:Ax.bin .xor (by8 (q' ^^^ rl8 q' 1 ^^^ rl8 q' 2 ^^^ rl8 q' 3 ^^^ rl8 q' 4)) (V.int .u8 99) = _:=x5;have ia:=zll (id:=b) (off:=0) (n:=256) r8;rw [Nat.zero_add] at ia;have ms:=zkr (l:=zld i) (i:=p') (y:=bx q') (by omega);have ml:((zld i).map by8).length = 256:=by rw [List.length_map,fl]
   unfold zdS uT uB uI uc ub uq ug;simp (disch:=first | omega | (simp only [RY] <;> omega) | decide) only [↓RD,RZ,eq_self,Int.reduceToNat,Int.reduceAdd,Nat.reduceAdd,Nat.reduceSub,Nat.reduceMul,Nat.reduceLeDiff,t1,t2,l1,l2,l3,l4,x1,x2,x3,x4,x5,ia,g4,ms,ml,zcZ,zaP];exact ⟨by omega,rfl,s4.trans (At1.set b _ _)⟩
  ·rintro _ H4 ⟨rfl,g4,s4⟩;unfold zdS uT uB uI uc ub uq ug;simp (disch:=first | omega | (simp only [RY] <;> omega) | decide) only [↓RD,RZ,eq_self,Int.reduceToNat,Int.reduceAdd,Nat.reduceAdd,Nat.reduceSub,Nat.reduceMul,Nat.reduceLeDiff];exact ⟨by rw [g4,zve],s4⟩
 ·rintro _ H4 ⟨rfl,g4,s4⟩;have n4:=s4.next;have ga4:=(s4.same a (by omega) (by omega)).trans ga3;have l1:ldc (some 256) (sbox.map by8) 0 = some (.agg (sbox.map by8)):=by
   rw [zdj (by rw [List.length_map,zeC]; decide),List.drop_zero,List.take_of_length_le (by rw [List.length_map,zeC]; decide)]
  have l2:splice (List.replicate 256 (V.int .u8 0)) 0 (sbox.map by8) = sbox.map by8:=by
   unfold splice;rw [List.take_zero,List.nil_append,List.length_map,zeC,List.drop_of_length_le (by rw [List.length_replicate]; decide),List.append_nil]
  have l3:(sbox.map by8).length = 256:=by rw [List.length_map,zeC]
  have l4:(List.replicate 256 (V.int .u8 0)).length = 256:=List.length_replicate ..;simp (disch:=first | omega | (simp only [RY] <;> omega) | decide) only [↓RD,RZ,eq_self,Int.reduceToNat,Int.reduceAdd,Nat.reduceAdd,Nat.reduceSub,Nat.reduceMul,Nat.reduceLeDiff,g4,l1,ga4,zaY,zaj,l2,l3,l4];exact ⟨by rw [zan]; omega,fun i hi=>by rw [zai _ _ (by omega),s4.same i (by omega) (by omega),s3.same i (by omega) (by omega),s2.same i (by omega),s1.same i (by omega)]⟩
end Go.Ax.SU
