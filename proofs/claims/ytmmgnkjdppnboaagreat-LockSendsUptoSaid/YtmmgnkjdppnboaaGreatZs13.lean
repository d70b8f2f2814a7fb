/-
  Texts of mine, put together by program (wip/slim.py), for law_lockSends: part 13.
-/
import Derived.Test.YtmmgnkjdppnboaaGreatZs12
set_option linter.unusedVariables false
set_option linter.unusedSimpArgs false
set_option linter.defProp false
set_option maxRecDepth 100000
/- Lk8 -/
namespace Go.Ax.SU
open Go.Ax
inductive GR
 | err (e:Nat)
 | got (e st sl c:Nat) (p:List Nat)
def grv (H0 H:Heap) (r:V):GR → Prop
 | .err e=>r = .tup [.agg [.int .i64 0, .int .i64 0, .int .i64 0, .int .u64 0, .nils], .int .i64 (e:Nat)]
 | .got e st sl c p=>∃ v,r = .tup [.agg [.int .i64 (e:Nat), .int .i64 (st:Nat), .int .i64 (sl:Nat), .int .u64 (c:Nat),v], .int .i64 0] ∧ By H0.next H v p
def winR (R:Rc) (k:Nat):WS:=(look k R.win).getD (false,0,0)
def zgF (R:Rc) (n t:Nat) (m b:List Nat):Rc × GR :=
 match parse b with
 | .err e=>(R, .err e)
 | .ok k c _ =>
  if 16777216 ≤ k then (R, .err 2) else
  match look (((k / 256:Nat):Int),((k % 8:Nat):Int)) R.ch with
  | none=>(R, .err 10)
  | some (st,base) =>
   if k % 256 / 8 < st then (R, .err 10) else
   if mayW (winR R k) c ≠ 0 then (R, .err (mayW (winR R k) c)) else
   match znD (keyR R n t k (zf4 base (k % 256 / 8 - st))) b m with
   | .err e=>(zjJ R n t k (zf4 base (k % 256 / 8 - st)), .err e)
   | .ok p _=>({ zjJ R n t k (zf4 base (k % 256 / 8 - st)) with win:=putl k (zh6 (winR R k) c) R.win }, .got (k / 256) (k % 256 / 8) (k % 8) c p)
theorem ztG (R:Rc) (n t kid:Nat) (base:List Nat):(zjJ R n t kid base).win = R.win:=by unfold zjJ; split <;> rfl
theorem zqP {α β:Type} [DecidableEq α] {a:α} {b:β}:∀ {l:List (α × β)},look a l = some b → (a,b) ∈ l
 | [],h=>by cases h
 | (k,v) :: l,h=>by
  simp only [look] at h
  split at h
  ·rename_i e
   subst e
   injection h with h
   subst h
   exact List.mem_cons_self
  ·exact List.mem_cons_of_mem _ (zqP h)
theorem zqL {α β:Type} [DecidableEq α] {a:α} {b:β} {p:α × β}:∀ {l:List (α × β)},p ∈ putl a b l → p = (a,b) ∨ p ∈ l
 | [],h=>by simp [putl] at h; exact .inl h
 | (k,v) :: l,h=>by
  simp only [putl] at h
  split at h
  ·rcases List.mem_cons.1 h with h | h
   ·exact .inl h
   ·exact .inr (List.mem_cons_of_mem _ h)
  ·rcases List.mem_cons.1 h with h | h
   ·exact .inr (h ▸ List.mem_cons_self)
   ·rcases zqL h with h | h
    ·exact .inl h
    ·exact .inr (List.mem_cons_of_mem _ h)
theorem winR_r {R:Rc} (h:∀ p ∈ R.win,wsR p.2) (k:Nat):wsR (winR R k):=by
 unfold winR
 cases hl:look k R.win with
 | none=>exact ⟨by decide,by decide⟩
 | some w=>exact h _ (zqP hl)
theorem markW_r {w:WS} {n:Nat} (hw:wsR w) (hn:n < 18446744073709551616) (hm:mayW w n = 0):wsR (zh6 w n):=by
 obtain ⟨a,hi,se⟩:=w
 obtain ⟨h1,h2⟩:=hw
 dsimp only at h1 h2
 unfold zh6
 dsimp only
 split
 ·exact ⟨hn,show (1:Nat) < 18446744073709551616 by decide⟩
 ·rename_i ha
  have ha:a = true:=by simpa using ha
  subst ha
  split
  ·exact ⟨hn,Nat.or_lt_two_pow (n:=64) (Nat.mod_lt _ (by decide)) (by decide)⟩
  ·rename_i h3
   have h4:=zqN hm rfl h3
   dsimp only at h4
   exact ⟨h1,Nat.or_lt_two_pow (n:=64) h2 (Nat.pow_lt_pow_right (by decide) (by omega))⟩
theorem zqG {b:List Nat} {e:Nat} (hp:parse b = .err e):e ≠ 0:=by
 unfold parse at hp
 split at hp
 ·injection hp with hp; omega
 ·dsimp only at hp
  split at hp
  ·injection hp with hp; omega
  ·split at hp
   ·cases hp
   ·injection hp with hp; omega
theorem open_err {K:Ky} {b m:List Nat} {e:Nat} (h:znD K b m = .err e):e ≠ 0:=by
 unfold znD at h
 cases hp:parse b with
 | err e'=>rw [hp] at h; injection h with h; subst h; exact zqG hp
 | ok kid c n =>
  rw [hp] at h
  dsimp only at h
  split at h
  ·injection h with h; omega
  ·split at h
   ·injection h with h; omega
   ·split at h
    ·injection h with h; omega
    ·split at h
     ·cases h
     ·injection h with h; omega
theorem neqz {e:Nat} (h:e ≠ 0):(((e:Nat):Int) == 0) = false:=by
 have:¬ ((e:Nat):Int) = 0:=by omega
 simpa using this
theorem AtS.setn {S:List Nat} {H H':Heap} (h:AtS S H H') {q:Nat} (hq:H.next ≤ q) (b:Option Blk):AtS S H (H'.set q b) :=
 ⟨by rw [zan]; exact h.next,fun i hi hs=>by rw [zak _ _ (by omega)]; exact h.same i hi hs⟩
theorem odd_got {cs:List V} (h:∀ v ∈ cs,∀ n,v ≠ .int .u8 n):OddR ⟨zaI,cs,none⟩ :=
 ⟨⟨show zaI ≠ zaL by decide,show zaI ≠ zaN by decide,show zaI ≠ zas by decide,h⟩,show zaI ≠ zac by decide,show zaI ≠ zaO by decide⟩
theorem zrj {lo1 lo2 c n t:Nat} {H:Heap} {R:Rc} {mv bv:V} {m b:List Nat} (hR:RcM H c R) (hsz:szs R.id = some (n,t)) (hm:By lo1 H mv m) (m8:Ok8 m) (hb:By lo2 H bv b) (b8:Ok8 b) (ml:m.length ≤ 274877906944) (bl:b.length ≤ 1099511627776)
  (hmp:∀ i,mv.pid = some i → i < c ∨ c + 4 ≤ i) (hbp:∀ i,bv.pid = some i → i < c ∨ c + 4 ≤ i) :
  Ok (sem T zbG [.ptr (c + 3) 0,mv,bv]) H fun r H'=>grv H H' r (zgF R n t m b).2 ∧ RcM H' c (zgF R n t m b).1 ∧ AtS [c,c + 1,c + 2] H H':=by
 refine zh1 ?_
 unfold zfq
 have htop:=hR.top
 refine zap (zaU rfl ?_)
 rw [zai]
 have s0:=Grow.new H ⟨zaI,[.int .i64 0, .int .i64 0, .int .i64 0, .int .u64 0, .nils],none⟩
 have g0:(H.new ⟨zaI,[.int .i64 0, .int .i64 0, .int .i64 0, .int .u64 0, .nils],none⟩).get H.next = some ⟨zaI,[.int .i64 0, .int .i64 0, .int .i64 0, .int .u64 0, .nils],none⟩:=zad _ _
 have n0:(H.new ⟨zaI,[.int .i64 0, .int .i64 0, .int .i64 0, .int .u64 0, .nils],none⟩).next = H.next + 1:=zaf _ _
 generalize hq:H.next = q at *
 generalize H.new _ = H0 at *
 have hR0:=hR.grow s0
 have hb0:=hb.ext s0
 have hm0:=hm.ext s0
 have fin:∀ (H1:Heap) (R1:Rc) (cs:List V),RcM H1 c R1 → AtS [c,c + 1,c + 2] H H1 → H1.get q = some ⟨zaI,[.int .i64 0, .int .i64 0, .int .i64 0, .int .u64 0, .nils],none⟩ →
   RcM (H1.set q (some ⟨zaI,cs,none⟩)) c R1 ∧ AtS [c,c + 1,c + 2] H (H1.set q (some ⟨zaI,cs,none⟩)):=fun H1 R1 cs h1 h2 h3 =>
  ⟨h1.atS (AtS.set (S:=[q]) H1 (by simp) _) (fun i hi=>by simp at hi; omega) fun i hi=>by
   simp only [List.mem_singleton] at hi
   subst hi
   exact ⟨_,h3,odd_got (by simp)⟩,h2.setn (by omega) _⟩
 have hpar:=@zca _ _ _ _ (znh hb0 b8 (by omega))
 cases hp:parse b with
 | err e =>
  have eo:zgF R n t m b = (R, .err e):=by unfold zgF; rw [hp]
  rw [hp] at hpar
  have e0:=neqz (zqG hp)
  rw [eo]
  simp (disch:=first | omega | (simp only [RY] <;> omega) | decide) only [↓RD,RZ,eq_self,seval,hpar,phv,e0,Bool.not_false,g0]
  obtain ⟨f1,f2⟩:=fin H0 R [.int .i64 0, .int .i64 0, .int .i64 0, .int .u64 0, .nils] hR0 (Grow.atS s0 _) g0
  exact ⟨rfl,f1,f2⟩
 | ok k ct hl =>
  rw [hp] at hpar
  obtain ⟨p1,p2,p3,p4⟩:=zsY hp b8
  have hpt:=@zca _ _ _ _ (@zoO H0 k p3)
  by_cases h1:16777216 ≤ k
  ·have eo:zgF R n t m b = (R, .err 2):=by unfold zgF; rw [hp]; dsimp only; rw [if_pos h1]
   have ep:zfI k = .tup [.int .i64 0, .int .i64 0, .int .i64 0, .bool false]:=by unfold zfI; rw [if_pos h1]
   rw [ep] at hpt
   rw [eo]
   simp (disch:=first | omega | (simp only [RY] <;> omega) | decide) only [↓RD,RZ,eq_self,seval,hpar,phv,hpt,g0]
   obtain ⟨f1,f2⟩:=fin H0 R [.int .i64 0, .int .i64 0, .int .i64 0, .int .u64 0, .nils] hR0 (Grow.atS s0 _) g0
   exact ⟨rfl,f1,f2⟩
  ·have ep:zfI k = .tup [.int .i64 (k / 256:Nat), .int .i64 (k % 256 / 8:Nat), .int .i64 (k % 8:Nat), .bool true]:=by unfold zfI; rw [if_neg h1]
   rw [ep] at hpt
   have hr0:=hR0.rcd
   obtain ⟨lc,c1,c2⟩:=hR0.ch
   simp (disch:=first | omega | (simp only [RY] <;> omega) | decide) only [↓RD,RZ,eq_self,seval,hpar,phv,hpt,hr0]
   refine zix (ek:=eplc) (a:=(((k / 256:Nat):Int),((k % 8:Nat):Int))) zpR (zpP _) c1 ?_
   rw [zh7]
   rcases Al.look (((k / 256:Nat):Int),((k % 8:Nat):Int)) c2 with ⟨a1,a2⟩ | ⟨y,x,a1,a2,hch⟩
   ·have eo:zgF R n t m b = (R, .err 10):=by unfold zgF; rw [hp]; dsimp only; rw [if_neg h1,a2]
    have e3:((none:Option Nat).map ptrv).getD .nilp = .nilp:=rfl
    rw [eo,a1,e3]
    simp (disch:=first | omega | (simp only [RY] <;> omega) | decide) only [↓RD,RZ,eq_self,seval,g0]
    obtain ⟨f1,f2⟩:=fin H0 R [.int .i64 0, .int .i64 0, .int .i64 0, .int .u64 0, .nils] hR0 (Grow.atS s0 _) g0
    exact ⟨rfl,f1,f2⟩
   ·obtain ⟨st,base⟩:=x
    dsimp only at hch
    have e3:((some y:Option Nat).map ptrv).getD .nilp = .ptr y 0:=rfl
    have hst:=@zca _ _ _ _ (zuF hch)
    rw [a1,e3]
    by_cases h2:k % 256 / 8 < st
    ·have eo:zgF R n t m b = (R, .err 10):=by unfold zgF; rw [hp]; dsimp only; rw [if_neg h1,a2]; dsimp only; rw [if_pos h2]
     have d:decide (((k % 256 / 8:Nat):Int) < ((st:Nat):Int)) = true:=decide_eq_true (by omega)
     have d':decide (k % 256 / 8 < st) = true:=decide_eq_true h2
     rw [eo]
     simp (disch:=first | omega | (simp only [RY] <;> omega) | decide) only [↓RD,RZ,eq_self,seval,hst,d,d',g0]
     obtain ⟨f1,f2⟩:=fin H0 R [.int .i64 0, .int .i64 0, .int .i64 0, .int .u64 0, .nils] hR0 (Grow.atS s0 _) g0
     exact ⟨rfl,f1,f2⟩
    ·have d:decide (((k % 256 / 8:Nat):Int) < ((st:Nat):Int)) = false:=decide_eq_false (by omega)
     have d':decide (k % 256 / 8 < st) = false:=decide_eq_false h2
     simp (disch:=first | omega | (simp only [RY] <;> omega) | decide) only [↓RD,RZ,eq_self,seval,hst,d,d',hr0]
     refine zix (ek:=ekid) (a:=k) znT (znR _) hR0.win ?_
     rw [zh7]
     have ew:((look k R.win).map wsv).getD (.agg [.bool false, .int .u64 0, .int .u64 0]) = wsv (winR R k):=by unfold winR; cases look k R.win <;> rfl
     rw [ew]
     have hwr:=winR_r hR0.wr k
     have gz:=zad H0 ⟨zaq,[.bool false, .int .u64 0, .int .u64 0],none⟩
     have sz:=Grow.new H0 ⟨zaq,[.bool false, .int .u64 0, .int .u64 0],none⟩
     have nz:(H0.new ⟨zaq,[.bool false, .int .u64 0, .int .u64 0],none⟩).next = H0.next + 1:=zaf _ _
     refine zap (zaU rfl ?_)
     rw [zai]
     generalize hqw:H0.next = q1 at *
     generalize H0.new _ = Hz at *
     refine zap (zfu gz (by rfl) (by decide) (by rfl) ?_)
     have s1:Grow H0 (Hz.set q1 (some ⟨zaq,[.bool (winR R k).1, .int .u64 ((winR R k).2.1:Nat), .int .u64 ((winR R k).2.2:Nat)],none⟩)):=sz.set (by omega) _
     have g1:(Hz.set q1 (some ⟨zaq,[.bool (winR R k).1, .int .u64 ((winR R k).2.1:Nat), .int .u64 ((winR R k).2.2:Nat)],none⟩)).get q1 = _:=zaj _ _ _
     have n1:(Hz.set q1 (some ⟨zaq,[.bool (winR R k).1, .int .u64 ((winR R k).2.1:Nat), .int .u64 ((winR R k).2.2:Nat)],none⟩)).next = Hz.next:=rfl
     show Ok _ (Hz.set q1 (some ⟨zaq,[.bool (winR R k).1, .int .u64 ((winR R k).2.1:Nat), .int .u64 ((winR R k).2.2:Nat)],none⟩)) _
     generalize hw:winR R k = W at *
     generalize Heap.set Hz _ _ = H1 at *
     have hmay:=@zqM H1 W ct hwr p4
     obtain ⟨wa,wh,ws⟩:=W
     simp (disch:=first | omega | (simp only [RY] <;> omega) | decide) only [↓RD,RZ,eq_self,seval,g1]
     refine zah hmay ?_
     rintro _ H2 ⟨rfl,s2⟩
     have s12:=s1.trans s2
     have hR2:=hR0.grow s12
     have g2:=(s12.same q (by omega)).trans g0
     have gw2:=(s2.same q1 (by omega)).trans g1
     have a02:=Grow.atS (s0.trans s12) [c,c + 1,c + 2]
     have n2:=s2.next
     by_cases h3:mayW (wa,wh,ws) ct = 0
     ·have e0:(((mayW (wa,wh,ws) ct:Nat):Int) == 0) = true:=by rw [h3]; rfl
      have hst31:k % 256 / 8 ≤ 31:=by omega
      simp (disch:=first | omega | (simp only [RY] <;> omega) | decide) only [↓RD,RZ,eq_self,seval,e0,Bool.not_true]
      refine zah (At_c_ok (hch.grow s12) hst31 (by omega)) ?_
      rintro _ H3 ⟨v3,rfl,hv3,s3⟩
      have n3:=s3.next
      have B8:=zrf hch.b8 (k % 256 / 8 - st)
      have Bl:=znf (m:=1099511627) hch.bl (by decide) (k % 256 / 8 - st)
      generalize hB:zf4 base (k % 256 / 8 - st) = B at *
      simp (disch:=first | omega | (simp only [RY] <;> omega) | decide) only [↓RD,RZ,eq_self,seval]
      refine zah (key_ok (hR2.grow s3) hsz p3 hv3 B8 (by omega)) ?_
      rintro _ H4 ⟨k4,rfl,hk4,hR4,a4⟩
      have n4:=a4.next
      have a04:=(a02.trans (Grow.atS s3 _)).trans a4
      have nS:∀ i,c + 4 ≤ i → i ∉ [c,c + 1,c + 2]:=fun i hi=>by simp; omega
      have bS:∀ {v:V},(∀ i,v.pid = some i → i < c ∨ c + 4 ≤ i) → ∀ i,v.pid = some i → i ∉ [c,c + 1,c + 2]:=fun h i hi=>by have:=h i hi; simp; omega
      have g4:=(a4.same q (by omega) (nS _ (by omega))).trans ((s3.same q (by omega)).trans g2)
      have gw4:=(a4.same q1 (by omega) (nS _ (by omega))).trans ((s3.same q1 (by omega)).trans gw2)
      have hb4:=Lc.atS ((hb0.ext s12).ext s3) a4 (bS hbp)
      have hm4:=Lc.atS ((hm0.ext s12).ext s3) a4 (bS hmp)
      simp (disch:=first | omega | (simp only [RY] <;> omega) | decide) only [↓RD,RZ,eq_self,seval]
      refine zah (Open_ok hk4 hb4 b8 hm4 m8 ml bl) ?_
      rintro _ H5 ⟨s5,h5⟩
      have n5:=s5.next
      have hR5:=hR4.grow s5
      have g5:=(s5.same q (by omega)).trans g4
      have gw5:=(s5.same q1 (by omega)).trans gw4
      have a05:=a04.trans (Grow.atS s5 _)
      have eo0:zgF R n t m b = match znD (keyR R n t k B) b m with
        | .err e=>(zjJ R n t k B, .err e)
        | .ok p _=>({ zjJ R n t k B with win:=putl k (zh6 (wa,wh,ws) ct) R.win }, .got (k / 256) (k % 256 / 8) (k % 8) ct p):=by
       unfold zgF; rw [hp]; dsimp only; rw [if_neg h1,a2]; dsimp only; rw [if_neg h2,hw,hB,if_neg (fun h=>h h3)]
      cases hop:znD (keyR R n t k B) b m with
      | err e =>
       rw [hop] at h5 eo0
       have h5:_ = _:=h5
       subst h5
       have e5:=neqz (open_err hop)
       rw [eo0]
       simp (disch:=first | omega | (simp only [RY] <;> omega) | decide) only [↓RD,RZ,eq_self,seval,e5,Bool.not_false,g5]
       obtain ⟨f1,f2⟩:=fin H5 _ [.int .i64 0, .int .i64 0, .int .i64 0, .int .u64 0, .nils] hR5 a05 g5
       exact ⟨rfl,f1,f2⟩
      | ok p c' =>
       rw [hop] at h5 eo0
       obtain ⟨v5,rfl,hv5⟩:=h5
       have hr5:=hR5.rcd
       have hmk:=@ztx H5 (wa,wh,ws) ct hwr p4
       rw [eo0]
       simp (disch:=first | omega | (simp only [RY] <;> omega) | decide) only [↓RD,RZ,eq_self,seval,hr5,gw5]
       refine zah hmk ?_
       rintro _ H6 ⟨s6,h6,-⟩
       have h6:=h6 h3
       subst h6
       have n6:=s6.next
       have hR6:=hR5.grow s6
       have hr6:=hR6.rcd
       have e6:H6.get (c + 3) = H5.get (c + 3):=s6.same _ (by omega)
       have g6:=(s6.same q (by omega)).trans g5
       have hw6:=hR6.win
       rw [ztG] at hw6
       have m1:=markW_r (n:=ct) hwr p4 h3
       simp (disch:=first | omega | (simp only [RY] <;> omega) | decide) only [↓RD,RZ,eq_self,seval,e6]
       refine zkk (ek:=ekid) (a:=k) (v:=wsv (zh6 (wa,wh,ws) ct)) znT (znR _) hw6 ?_
       rw [zlb]
       have a7:AtS [c,c + 1,c + 2] H6 (H6.set (c + 1) (some ⟨tyW,encM ekid (mapv wsv (putl k (zh6 (wa,wh,ws) ct) R.win)),none⟩)):=AtS.set _ (by simp) _
       have g7:(H6.set (c + 1) (some ⟨tyW,encM ekid (mapv wsv (putl k (zh6 (wa,wh,ws) ct) R.win)),none⟩)).get (c + 1) = _:=zaj _ _ _
       have nn:∀ i,i ≠ c + 1 → (H6.set (c + 1) (some ⟨tyW,encM ekid (mapv wsv (putl k (zh6 (wa,wh,ws) ct) R.win)),none⟩)).get i = H6.get i:=fun i hi=>zak _ _ hi
       have n7:(H6.set (c + 1) (some ⟨tyW,encM ekid (mapv wsv (putl k (zh6 (wa,wh,ws) ct) R.win)),none⟩)).next = H6.next:=rfl
       generalize Heap.set H6 _ _ = H7 at *
       have hS:∀ i ∈ [c,c + 1,c + 2],i < c + 4 ∨ ∃ b,H6.get i = some b ∧ OddR b:=fun i hi=>by simp at hi; omega
       have hO:∀ i ∈ [c,c + 1,c + 2],∃ b,H6.get i = some b ∧ Odd b:=fun i hi=>by
        obtain ⟨b,hb,ho⟩:=hR6.odd i (by simp at hi; omega) (by simp at hi; omega)
        exact ⟨b,hb,ho.1⟩
       obtain ⟨lc',x1,x2⟩:=hR6.ch
       obtain ⟨lk',x3,x4⟩:=hR6.ks
       have hR7:RcM H7 c { zjJ R n t k B with win:=putl k (zh6 (wa,wh,ws) ct) R.win } :=
        ⟨by have:=hR6.top; omega,(nn _ (by omega)).trans hr6,⟨lc',(nn _ (by omega)).trans x1,x2.mono fun _ _ g=>g.atS a7 hS⟩,g7,fun p hp=>by
         rcases zqL hp with rfl | hp
         ·exact m1
         ·exact hR.wr p hp,⟨lk',(nn _ (by omega)).trans x3,x4.mono fun _ _ g=>g.atS a7 hO⟩⟩
       have gq7:=(nn q (by omega)).trans g6
       have a07:=(a05.trans (Grow.atS s6 _)).trans a7
       have hv7:=Lc.atS (hv5.ext s6) a7 fun i hi=>nS i (by have:=(hv5.own i hi).1; omega)
       have vc:=hv7.cells1
       have vo:=hv7.okc
       simp (disch:=first | omega | (simp only [RY] <;> omega) | decide) only [↓RD,RZ,eq_self,seval,gq7,vc,vo]
       obtain ⟨f1,f2⟩:=fin H7 _ [.int .i64 (k / 256:Nat), .int .i64 (k % 256 / 8:Nat), .int .i64 (k % 8:Nat), .int .u64 (ct:Nat),v5] hR7 a07 gq7
       refine ⟨⟨v5,rfl,?_⟩,f1,f2⟩
       exact (Lc.atS hv7 (AtS.set (S:=[q]) H7 (by simp) _) fun i hi e=>by
        simp only [List.mem_singleton] at e
        have:=(hv5.own i hi).1
        omega).low (by omega)
     ·have eo:zgF R n t m b = (R, .err (mayW (wa,wh,ws) ct)):=by
       unfold zgF; rw [hp]; dsimp only; rw [if_neg h1,a2]; dsimp only; rw [if_neg h2,hw,if_pos h3]
      have e0:=neqz h3
      rw [eo]
      simp (disch:=first | omega | (simp only [RY] <;> omega) | decide) only [↓RD,RZ,eq_self,seval,e0,Bool.not_false,g2]
      obtain ⟨f1,f2⟩:=fin H2 R [.int .i64 0, .int .i64 0, .int .i64 0, .int .u64 0, .nils] hR2 a02 g2
      exact ⟨rfl,f1,f2⟩
end Go.Ax.SU
/- Lk9 -/
namespace Go.Ax.SU
open Go.Ax
theorem SndM.odd {H:Heap} {s:Nat} {id slot:Int} {x:SS} (h:SndM 0 H s id slot x):∃ b,H.get s = some b ∧ OddR b:=by
 obtain ⟨h0,h1⟩:=h
 cases x with
 | none=>exact ⟨_,h1,znK _ _ _ _ _ _ (.inl rfl),show zaD ≠ zac by decide,show zaD ≠ zaO by decide⟩
 | some q =>
  obtain ⟨K,e,st,c⟩:=q
  obtain ⟨_,k,h3,_⟩:=h1
  exact ⟨_,h3,znK _ _ _ _ _ _ (.inr ⟨k,rfl⟩),show zaD ≠ zac by decide,show zaD ≠ zaO by decide⟩
theorem RcM.snd {H H':Heap} {s c:Nat} {id slot:Int} {x:SS} {R:Rc} (h:RcM H c R) (hs:SndM 0 H s id slot x) (a:AtS [s] H H') (hsc:s < c):RcM H' c R :=
 h.atS a (fun i hi=>by simp at hi; omega) fun i hi=>by simp only [List.mem_singleton] at hi; subst hi; exact hs.odd
theorem SndM.rcv {H H':Heap} {s c:Nat} {id slot:Int} {x:SS} {R:Rc} (hs:SndM 0 H s id slot x) (h:RcM H c R) (a:AtS [c,c + 1,c + 2] H H') (hsc:s < c):SndM 0 H' s id slot x :=
 hs.atS a (by simp; omega) fun i hi=>by
  obtain ⟨b,hb,ho⟩:=h.odd i (by simp at hi; omega) (by simp at hi; omega)
  exact ⟨b,hb,ho.1⟩
theorem zmv {H:Heap} {id slot n t:Nat} (h:szs id = some (n,t)) (hs:slot < 8):Ok (sem T zb9 [.int .i64 (id:Nat), .int .i64 (slot:Nat)]) H fun r H'=>Grow H H' ∧ ∃ s,r = .tup [.ptr s 0, .int .i64 0] ∧ SndM 0 H' s (id:Nat) (slot:Nat) none ∧ H.next ≤ s:=by
 refine zar (zkZ (id:Nat) (slot:Nat) (by omega)) ?_
 rintro r H' ⟨g,⟨h1 | h1 | h1,_⟩ | ⟨n',t',s,h1,h2,h3,h4,rfl,h5,h6⟩⟩
 ·rw [zjv (by omega) (by rw [Int.toNat_natCast]; exact h)] at h1; cases h1
 ·omega
 ·omega
 ·exact ⟨g,s,rfl,h5 0,h6⟩
theorem zkE {H:Heap} {id n t:Nat} (h:szs id = some (n,t)):Ok (sem T zcg [.int .i64 (id:Nat)]) H fun r H'=>Grow H H' ∧ ∃ c,r = .tup [.ptr (c + 3) 0, .int .i64 0] ∧ RcM H' c ⟨id,[],[],[]⟩ ∧ H.next ≤ c:=by
 refine zar (zmW (id:Nat) (by omega)) ?_
 rintro r H' ⟨g,⟨h1 | h1,_⟩ | ⟨n',t',s,h1,h2,rfl,h5,h6⟩⟩
 ·omega
 ·rw [Int.toNat_natCast,h] at h1; cases h1
 ·rw [Int.toNat_natCast] at h5
  exact ⟨g,s,rfl,h5,h6⟩
theorem zm1 {K:Ky} {c:Nat} {m p:List Nat} (hk:K.kid < 18446744073709551616) (hc:c < 18446744073709551616):parse (zdN K c m p) = .ok K.kid c (hdr K.kid c).length:=by
 unfold zdN
 rw [List.append_assoc]
 exact zow hk hc _
theorem zrE {R:Rc} {n t c st:Nat} {m p base:List Nat} {K:Ky} (hk:K.kid < 16777216) (hc:c < 18446744073709551616) (ht:K.t ≤ 32) (hp:p.length ≤ 1000) (hl:look (((K.kid / 256:Nat):Int),((K.kid % 8:Nat):Int)) R.ch = some (st,base)) (hst:st ≤ K.kid % 256 / 8)
  (hK:keyR R n t K.kid (zf4 base (K.kid % 256 / 8 - st)) = K) (hm:mayW (winR R K.kid) c = 0) :
  zgF R n t m (zdN K c m p) = ({ zjJ R n t K.kid (zf4 base (K.kid % 256 / 8 - st)) with win:=putl K.kid (zh6 (winR R K.kid) c) R.win }, .got (K.kid / 256) (K.kid % 256 / 8) (K.kid % 8) c p):=by
 unfold zgF
 rw [zm1 (by omega) hc]
 dsimp only
 rw [if_neg (by omega),hl]
 dsimp only
 rw [if_neg (by omega),if_neg (fun h=>h hm),hK,zs2 ht (by omega) hc hp]
theorem zs3 {R:Rc} {n t c st:Nat} {m p base:List Nat} {K:Ky} (hk:K.kid < 16777216) (hc:c < 18446744073709551616) (hl:look (((K.kid / 256:Nat):Int),((K.kid % 8:Nat):Int)) R.ch = some (st,base)) (hst:st ≤ K.kid % 256 / 8)
  (hm:mayW (winR R K.kid) c ≠ 0):zgF R n t m (zdN K c m p) = (R, .err (mayW (winR R K.kid) c)):=by
 unfold zgF
 rw [zm1 (by omega) hc]
 dsimp only
 rw [if_neg (by omega),hl]
 dsimp only
 rw [if_neg (by omega),if_pos hm]
theorem ziE {H:Heap}:Ok (sem T zbV []) H fun r H'=>r = .bool true ∧ Grow H H':=by
 refine zhd ?_
 unfold zeD
 refine zah (zmv (id:=1) (slot:=2) rfl (by decide)) ?_
 rintro _ H1 ⟨s1,s,rfl,hs1,l1⟩
 have n1:=s1.next
 simp (disch:=omega) only [↓RD,RZ,eq_self,seval]
 refine zah (zkE (id:=1) rfl) ?_
 rintro _ H2 ⟨s2,c,rfl,hR2,l2⟩
 have n2:=s2.next
 have hsc:s < c:=Nat.lt_of_lt_of_le hs1.1 l2
 have hs2:=hs1.grow s2
 have G2:=s1.trans s2
 simp (disch:=omega) only [↓RD,RZ,eq_self,seval]
 rw [zaK]
 refine zjw (l:=[98,97,115,101]) rfl (by decide) fun bv H3 hb s3=>?_
 have hs3:=hs2.grow s3
 have hR3:=hR2.grow s3
 have G3:=G2.trans s3
 refine zah (Use_ok hs3 (by decide) (show szs ((1:Nat):Int).toNat = some (16,10) from rfl) 0 0 hb (all8 rfl) (by decide)) ?_
 rintro _ H4 ⟨rfl,hs4,a4⟩
 have e4:useS ((1:Nat):Int) ((2:Nat):Int) 16 10 none 0 0 [98,97,115,101] = (some (drv 1 2 16 10 [98,97,115,101],0,0,0),0):=rfl
 rw [e4] at hs4 ⊢
 have hR4:=hR3.snd hs3 a4 hsc
 have G4:=a4.new G3 (by simp; omega)
 simp (disch:=omega) only [↓RD,RZ,eq_self,seval]
 rw [zaK]
 refine zjw (l:=[98,97,115,101]) rfl (by decide) fun bv5 H5 hb5 s5=>?_
 have hs5:=hs4.grow s5
 have hR5:=hR4.grow s5
 have G5:=G4.trans s5
 refine zah (AddR_ok hR5 0 2 0 hb5 (all8 rfl) (by decide)) ?_
 rintro _ H6 ⟨rfl,hR6,a6⟩
 have e6:addR ⟨1,[],[],[]⟩ 0 2 0 [98,97,115,101] = (⟨1,[((0,2),(0,[98,97,115,101]))],[],[]⟩,0):=rfl
 rw [e6] at hR6 ⊢
 have hs6:=hs5.rcv hR5 a6 hsc
 have G6:=a6.new G5 (by simp; omega)
 simp (disch:=omega) only [↓RD,RZ,eq_self,seval]
 rw [zaK]
 refine zjw (l:=[120]) rfl (by decide) fun pv H7 hp7 s7=>?_
 have hs7:=hs6.grow s7
 have hR7:=hR6.grow s7
 have G7:=G6.trans s7
 refine zah (zri hs7 (Lc.nil:By 0 _ .nils []) Ok8.nil hp7 (all8 rfl) (by decide) (by decide)) ?_
 rintro _ H8 ⟨hs8,a8,h8⟩
 dsimp only at h8
 rw [if_neg (by decide)] at h8
 obtain ⟨v,rfl,hv⟩:=h8
 have hR8:=hR7.snd hs7 a8 hsc
 have G8:=a8.new G7 (by simp; omega)
 have n7:=G7.next
 have t7:=hR7.top
 generalize hK:drv 1 2 16 10 [98,97,115,101] = K at *
 have kk:K.kid = 2:=by rw [← hK]; rfl
 have kt:K.t = 10:=by rw [← hK]; rfl
 have kw:∀ w ∈ K.ws,Word w:=by
  have:=(zlj (id:=1) (kid:=2) (n:=16) (t:=10) (base:=[98,97,115,101]) rfl (by decide)).ws
  rw [hK] at this
  exact this
 have B8:Ok8 (zdN K 0 [] [120]):=seal_8 kw (all8 rfl)
 have Bl:=zk8 (k:=K) (by omega) 0 [] [120]
 have Bh:=zpT K.kid 0
 have vp:∀ i,v.pid = some i → i < c ∨ c + 4 ≤ i:=fun i hi=>.inr (by have:=(hv.own i hi).1; omega)
 have o1:zgF ⟨1,[((0,2),(0,[98,97,115,101]))],[],[]⟩ 16 10 [] (zdN K 0 [] [120]) = (⟨1,[((0,2),(0,[98,97,115,101]))],[(2,(true,0,1))],[(2,K)]⟩, .got 0 0 2 0 [120]):=by
  have:=zrE (R:=⟨1,[((0,2),(0,[98,97,115,101]))],[],[]⟩) (n:=16) (t:=10) (c:=0) (st:=0) (m:=[]) (p:=[120]) (base:=[98,97,115,101]) (K:=K) (by omega) (by decide) (by omega) (by decide) (by rw [kk]; rfl) (by omega) (by rw [kk]; exact hK) (by rw [kk]; rfl)
  rw [kk] at this
  rw [this]
  have e:zjJ ⟨1,[((0,2),(0,[98,97,115,101]))],[],[]⟩ 16 10 2 (zf4 [98,97,115,101] (2 % 256 / 8 - 0)) = ⟨1,[((0,2),(0,[98,97,115,101]))],[],[(2,drv 1 2 16 10 [98,97,115,101])]⟩:=rfl
  rw [e,hK]
  rfl
 have o2:zgF ⟨1,[((0,2),(0,[98,97,115,101]))],[(2,(true,0,1))],[(2,K)]⟩ 16 10 [] (zdN K 0 [] [120]) = (⟨1,[((0,2),(0,[98,97,115,101]))],[(2,(true,0,1))],[(2,K)]⟩, .err 9):=by
  have e9:mayW (winR ⟨1,[((0,2),(0,[98,97,115,101]))],[(2,(true,0,1))],[(2,K)]⟩ 2) 0 = 9:=rfl
  have:=zs3 (R:=⟨1,[((0,2),(0,[98,97,115,101]))],[(2,(true,0,1))],[(2,K)]⟩) (n:=16) (t:=10) (c:=0) (st:=0) (m:=[]) (p:=[120]) (base:=[98,97,115,101]) (K:=K) (by omega) (by decide) (by rw [kk]; rfl) (by omega) (by rw [kk,e9]; decide)
  rw [kk,e9] at this
  exact this
 simp (disch:=omega) only [↓RD,RZ,eq_self,seval]
 refine zah (zrj (n:=16) (t:=10) hR8 rfl (Lc.nil:By 0 _ .nils []) Ok8.nil hv B8 (by decide) (by simp at Bl; omega) (fun i hi=>by cases hi) vp) ?_
 rintro _ H9 ⟨h9,hR9,a9⟩
 rw [o1] at h9 hR9
 obtain ⟨v9,rfl,hv9⟩:=h9
 have G9:=a9.new G8 (by simp; omega)
 have hvv9:=Lc.atS hv a9 fun i hi=>by have:=(hv.own i hi).1; simp; omega
 have vc:=hv9.cells1
 have vo:=hv9.okc
 have n8:=a8.next
 have n9:=a9.next
 simp (disch:=omega) only [↓RD,RZ,eq_self,seval,vc,vo]
 have s10:Grow H9 ((H9.new ⟨zaI,[.int .i64 0, .int .i64 0, .int .i64 0, .int .u64 0, .nils],none⟩).set H9.next (some ⟨zaI,[.int .i64 (0:Nat), .int .i64 (0:Nat), .int .i64 (2:Nat), .int .u64 (0:Nat),v9],none⟩)):=(Grow.new _ _).set (Nat.le_refl _) _
 have g10:((H9.new ⟨zaI,[.int .i64 0, .int .i64 0, .int .i64 0, .int .u64 0, .nils],none⟩).set H9.next (some ⟨zaI,[.int .i64 (0:Nat), .int .i64 (0:Nat), .int .i64 (2:Nat), .int .u64 (0:Nat),v9],none⟩)).get H9.next = _:=zaj _ _ _
 have n10:((H9.new ⟨zaI,[.int .i64 0, .int .i64 0, .int .i64 0, .int .u64 0, .nils],none⟩).set H9.next (some ⟨zaI,[.int .i64 (0:Nat), .int .i64 (0:Nat), .int .i64 (2:Nat), .int .u64 (0:Nat),v9],none⟩)).next = H9.next + 1:=rfl
 show Ok _ ((H9.new ⟨zaI,[.int .i64 0, .int .i64 0, .int .i64 0, .int .u64 0, .nils],none⟩).set H9.next (some ⟨zaI,[.int .i64 (0:Nat), .int .i64 (0:Nat), .int .i64 (2:Nat), .int .u64 (0:Nat),v9],none⟩)) _
 generalize hq:H9.next = q at *
 generalize Heap.set _ q _ = H10 at *
 have G10:=G9.trans s10
 refine zah (zrj (n:=16) (t:=10) (hR9.grow s10) rfl (Lc.nil:By 0 _ .nils []) Ok8.nil (hvv9.ext s10) B8 (by decide) (by simp at Bl; omega) (fun i hi=>by cases hi) vp) ?_
 rintro _ H11 ⟨h11,hR11,a11⟩
 rw [o2] at h11
 have h11:_ = _:=h11
 subst h11
 have G11:=a11.new G10 (by simp; omega)
 have g11:=(a11.same q (by omega) (by simp; omega)).trans g10
 have hp11:=Lc.atS (hv9.ext s10) a11 fun i hi=>by have:=(hv9.own i hi).1; simp; omega
 have s12:=Grow.new H11 ⟨zaI,[.int .i64 0, .int .i64 0, .int .i64 0, .int .u64 0, .nils],none⟩
 have n11:=a11.next
 simp (disch:=omega) only [↓RD,RZ,eq_self,seval,g11]
 refine zlH (hp11.ext (s12.set (Nat.le_refl _) _)).rc ?_
 have e12:Ax.bin .eql (.str ⟨(([120]:List Nat).map UInt8.ofNat).toArray⟩) (.str ⟨#[120]⟩) = some (.bool true):=by
  show some (V.bool _) = _
  rw [show (⟨#[120]⟩:ByteArray) = ⟨(([120]:List Nat).map UInt8.ofNat).toArray⟩ from rfl,zq9 (all8 rfl) (all8 rfl)]
  rfl
 simp (disch:=omega) only [↓RD,RZ,eq_self,seval,e12]
 exact G11.trans (s12.set (Nat.le_refl _) _)
end Go.Ax.SU
/- Lk11 -/
namespace Go.Ax.SU
open Go.Ax
end Go.Ax.SU
namespace Go.Ax
open SU
end Go.Ax
/- Lk12 -/
namespace Go.Ax.SU
open Go.Ax
theorem KID_r_ok {H:Heap} (e st sl:Int):Ok (sem T zcB [.int .i64 e, .int .i64 st, .int .i64 sl]) H fun r H'=>r = kidv e st sl ∧ H' = H:=by
 refine zh0 ?_
 unfold zfp
 by_cases h1:e < 0
 ·have b1:decide (e < 0) = true:=decide_eq_true h1
  have hn:¬ zcy e st sl:=by unfold zcy; omega
  simp (disch:=omega) only [↓RD,RZ,b1,kidv,hn]
 have b1:decide (e < 0) = false:=decide_eq_false h1
 by_cases h2:65535 < e
 ·have b2:decide (65535 < e) = true:=decide_eq_true h2
  have hn:¬ zcy e st sl:=by unfold zcy; omega
  simp (disch:=omega) only [↓RD,RZ,b1,b2,kidv,hn]
 have b2:decide (65535 < e) = false:=decide_eq_false h2
 by_cases h3:st < 0
 ·have b3:decide (st < 0) = true:=decide_eq_true h3
  have hn:¬ zcy e st sl:=by unfold zcy; omega
  simp (disch:=omega) only [↓RD,RZ,b1,b2,b3,kidv,hn]
 have b3:decide (st < 0) = false:=decide_eq_false h3
 by_cases h4:31 < st
 ·have b4:decide (31 < st) = true:=decide_eq_true h4
  have hn:¬ zcy e st sl:=by unfold zcy; omega
  simp (disch:=omega) only [↓RD,RZ,b1,b2,b3,b4,kidv,hn]
 have b4:decide (31 < st) = false:=decide_eq_false h4
 by_cases h5:sl < 0
 ·have b5:decide (sl < 0) = true:=decide_eq_true h5
  have hn:¬ zcy e st sl:=by unfold zcy; omega
  simp (disch:=omega) only [↓RD,RZ,b1,b2,b3,b4,b5,kidv,hn]
 have b5:decide (sl < 0) = false:=decide_eq_false h5
 by_cases h6:7 < sl
 ·have b6:decide (7 < sl) = true:=decide_eq_true h6
  have hn:¬ zcy e st sl:=by unfold zcy; omega
  simp (disch:=omega) only [↓RD,RZ,b1,b2,b3,b4,b5,b6,kidv,hn]
 have b6:decide (7 < sl) = false:=decide_eq_false h6
 have hy:zcy e st sl:=by unfold zcy; omega
 obtain ⟨e',rfl⟩:∃ n:Nat,e = (n:Nat):=⟨e.toNat,by omega⟩
 obtain ⟨st',rfl⟩:∃ n:Nat,st = (n:Nat):=⟨st.toNat,by omega⟩
 obtain ⟨sl',rfl⟩:∃ n:Nat,sl = (n:Nat):=⟨sl.toNat,by omega⟩
 have w1:IntKind.u64.wrap ((e':Nat):Int) = ((e':Nat):Int):=by rw [wrap_u64]; omega
 have w2:IntKind.u64.wrap ((st':Nat):Int) = ((st':Nat):Int):=by rw [wrap_u64]; omega
 have w3:IntKind.u64.wrap ((sl':Nat):Int) = ((sl':Nat):Int):=by rw [wrap_u64]; omega
 have s1:Ax.bin .shl (.int .u64 (e':Nat)) (.int .u64 8) = some (.int .u64 (e' * 2 ^ 8:Nat)):=by
  have:=@shl_u64 e' 8
  rw [show min 8 64 = 8 from rfl,Nat.mod_eq_of_lt (show e' * 2 ^ 8 < 18446744073709551616 by omega)] at this
  exact this
 have s2:Ax.bin .shl (.int .u64 (st':Nat)) (.int .u64 3) = some (.int .u64 (st' * 2 ^ 3:Nat)):=by
  have:=@shl_u64 st' 3
  rw [show min 3 64 = 3 from rfl,Nat.mod_eq_of_lt (show st' * 2 ^ 3 < 18446744073709551616 by omega)] at this
  exact this
 have o1:e' * 2 ^ 8 ||| st' * 2 ^ 3 = (e' * 32 + st') * 2 ^ 3:=by rw [ziO _ _ 8 (by omega)]; omega
 have o2:(e' * 32 + st') * 2 ^ 3 ||| sl' = kidN (e':Nat) (st':Nat) (sl':Nat):=by rw [ziO _ _ 3 (by omega)]; unfold kidN; omega
 have l1:e' * 2 ^ 8 < 18446744073709551616:=by omega
 have l2:st' * 2 ^ 3 < 18446744073709551616:=by omega
 have l3:(e' * 32 + st') * 2 ^ 3 < 18446744073709551616:=by omega
 generalize e' * 2 ^ 8 = x1 at *
 generalize st' * 2 ^ 3 = x2 at *
 generalize (e' * 32 + st') * 2 ^ 3 = x3 at *
 simp (disch:=omega) only [↓RD,RZ,b1,b2,b3,b4,b5,b6,kidv,hy,w1,w2,w3,s1,s2,o1,o2]
theorem zuK {H:Heap} {a b:Nat} (ha:a < 18446744073709551616) (hb:b < 18446744073709551616):Ok (sem T zcn [.int .u64 (a:Nat), .int .u64 (b:Nat)]) H fun r H'=>r = .bool (zlZ a b) ∧ H' = H:=by
 refine zhH ?_
 unfold ze5
 by_cases h1:a < 16777216
 ·have b1:decide ((a:Nat) < 16777216) = true:=decide_eq_true h1
  by_cases h2:b < 16777216
  ·have b2:decide ((b:Nat) < 16777216) = true:=decide_eq_true h2
   have dd:decide (((a / 8:Nat):Int) < ((b / 8:Nat):Int)) = decide (a / 8 < b / 8):=decide_eq_decide.2 (by omega)
   simp (disch:=omega) only [↓RD,RZ,eq_self,seval,b1,b2,dd,zlZ,Bool.true_and]
  ·have b2:decide ((b:Nat) < 16777216) = false:=decide_eq_false h2
   simp (disch:=omega) only [↓RD,RZ,eq_self,seval,b1,b2,zlZ,Bool.true_and,Bool.false_and]
 ·have b1:decide ((a:Nat) < 16777216) = false:=decide_eq_false h1
  simp (disch:=omega) only [↓RD,RZ,eq_self,seval,b1,zlZ,Bool.false_and]
theorem zfE {H:Heap} {k:Nat} (hk:k < 18446744073709551616):Ok (sem T zaT [.int .u64 (k:Nat)]) H fun r H'=>r = zfI k ∧ H' = H:=by
 refine zhc ?_
 unfold zeC
 by_cases h1:16777216 ≤ k
 ·have b1:decide ((16777216:Int) ≤ ((k:Nat):Int)) = true:=decide_eq_true (by omega)
  have b1':decide (16777216 ≤ k) = true:=decide_eq_true h1
  simp (disch:=omega) only [↓RD,RZ,eq_self,seval,b1,b1',zfI,h1]
 ·have b1:decide ((16777216:Int) ≤ ((k:Nat):Int)) = false:=decide_eq_false (by omega)
  have b1':decide (16777216 ≤ k) = false:=decide_eq_false h1
  have w1:IntKind.i64.wrap ((k / 256:Nat):Int) = ((k / 256:Nat):Int):=wrap_i64 (by omega) (by omega)
  have w2:IntKind.i64.wrap ((k % 256 / 8:Nat):Int) = ((k % 256 / 8:Nat):Int):=wrap_i64 (by omega) (by omega)
  have w3:IntKind.i64.wrap ((k % 8:Nat):Int) = ((k % 8:Nat):Int):=wrap_i64 (by omega) (by omega)
  have e1:k / 8 &&& 31 = k % 256 / 8:=by rw [show (31:Nat) = 2 ^ 5 - 1 from rfl,Nat.and_two_pow_sub_one_eq_mod]; omega
  have e2:k &&& 7 = k % 8:=by rw [show (7:Nat) = 2 ^ 3 - 1 from rfl,Nat.and_two_pow_sub_one_eq_mod]
  simp (disch:=omega) only [↓RD,RZ,eq_self,seval,b1,b1',zfI,h1,e1,e2,w1,w2,w3]
/-! The document's sender in memory. -/
theorem RKs.atS {S:List Nat} {H H':Heap} {R tv sv:V} {K:Ky} (h:RKs H R tv sv K) (s:AtS S H H') (hp:∀ j,R.pid = some j ∨ tv.pid = some j ∨ sv.pid = some j → j ∉ S):RKs H' R tv sv K :=
 ⟨h.good,Lc.atS h.key s fun j hj=>hp j (.inl hj),Lc.atS h.tag s fun j hj=>hp j (.inr (.inl hj)),Lc.atS h.salt s fun j hj=>hp j (.inr (.inr hj))⟩
def rsC (id slot:Int) (any:Bool) (kid c:Nat) (K:List V):List V:=.int .i64 id :: .int .i64 slot :: .bool any :: .int .u64 (kid:Nat) :: .int .u64 (c:Nat) :: K
abbrev tyRS:=zd8
def RsM (H:Heap) (q:Nat) (id slot:Int) (x:SS):Prop:=q < H.next ∧
 match x with
 | none=>H.get q = some ⟨tyRS,rsC id slot false 0 0 Z261,none⟩
 | some (K,e,st,c)=>c < 18446744073709551616 ∧ ∃ R tv sv,H.get q = some ⟨tyRS,rsC id slot true K.kid c (zcq R tv sv K.kid K.t),none⟩ ∧ RKs H R tv sv K ∧ ∀ j,R.pid = some j ∨ tv.pid = some j ∨ sv.pid = some j → q < j
theorem RsM.atS {S:List Nat} {H H':Heap} {q:Nat} {id slot:Int} {x:SS} (h:RsM H q id slot x) (g:AtS S H H') (hS:∀ i ∈ S,i < q):RsM H' q id slot x:=by
 obtain ⟨h0,h1⟩:=h
 have hq:q ∉ S:=fun e=>by have:=hS q e; omega
 refine ⟨Nat.lt_of_lt_of_le h0 g.next,?_⟩
 cases x with
 | none=>exact (g.same q h0 hq).trans h1
 | some w =>
  obtain ⟨K,e,st,c⟩:=w
  obtain ⟨h2,R,tv,sv,h3,h4,h5⟩:=h1
  exact ⟨h2,R,tv,sv,(g.same q h0 hq).trans h3,h4.atS g fun j hj e=>by have:=hS j e; have:=h5 j hj; omega,h5⟩
theorem RsM.grow {H H':Heap} {q:Nat} {id slot:Int} {x:SS} (h:RsM H q id slot x) (g:Grow H H'):RsM H' q id slot x:=h.atS (Grow.atS g []) fun i hi=>by simp at hi
theorem spl5 {a b c d e:V} {K K':List V} (h:K.length = 261) (h':K'.length = 261):splice (a :: b :: c :: d :: e :: K) 5 K' = a :: b :: c :: d :: e :: K':=by
 unfold splice
 rw [h']
 have:(a :: b :: c :: d :: e :: K).drop (5 + 261) = []:=List.drop_of_length_le (by simp [h])
 rw [this]
 simp
theorem ld5 {a b c d e:V} {K:List V} (h:K.length = 261):ldc (some 261) (a :: b :: c :: d :: e :: K) 5 = some (.agg K):=by
 unfold ldc
 dsimp only
 rw [if_pos (by simp [h])]
 have:(a :: b :: c :: d :: e :: K).drop 5 = K:=rfl
 rw [this,List.take_of_length_le (by omega)]
theorem UseD_ok {lo q n t:Nat} {H:Heap} {id slot:Int} {x:SS} {bv:V} {base:List Nat} (hx:RsM H q id slot x) (h0:0 ≤ id) (hsz:szs id.toNat = some (n,t)) (e st:Int) (hb:By lo H bv base) (b8:Ok8 base) (bl:base.length ≤ 549755813000) :
  Ok (sem T zbg [.ptr q 0, .int .i64 e, .int .i64 st,bv]) H fun r H'=>r = .int .i64 ((useS id slot n t x e st base).2:Nat) ∧ RsM H' q id slot (useS id slot n t x e st base).1 ∧ AtS [q] H H':=by
 refine zfv ?_
 unfold zdv
 have q0:=hx.1
 have key:∀ (any:Bool) (kid0 c0:Nat) (K0:List V),K0.length = 261 → H.get q = some ⟨tyRS,rsC id slot any kid0 c0 K0,none⟩ → zcy e st slot →
   Ok (sem T zbd [.int .i64 id, .int .u64 (kidN e st slot:Nat),bv]) H fun r H1=>∃ R tv sv,r = .tup [.agg (zcq R tv sv (kidN e st slot) t), .int .i64 0] ∧ H1.get q = some ⟨tyRS,rsC id slot any kid0 c0 K0,none⟩ ∧ Grow H H1 ∧
    RsM (H1.set q (some ⟨tyRS,rsC id slot true (kidN e st slot) 0 (zcq R tv sv (kidN e st slot) t),none⟩)) q id slot (some (drv id.toNat (kidN e st slot) n t base,e,st,0)):=by
  intro any kid0 c0 K0 hK0 hg hy
  have kl:=zkr hy
  refine zar (zqm (by omega) (by omega) hb b8 bl) ?_
  rintro r H1 ⟨g,⟨h1 | h1,_⟩ | ⟨n',t',R,tv,sv,h1,h2,rfl,h4,h5⟩⟩
  ·omega
  ·rw [hsz] at h1; cases h1
  ·rw [hsz] at h2
   injection h2 with h2
   injection h2 with e1 e2
   subst e1 e2
   have:=g.next
   have hl:∀ j,R.pid = some j ∨ tv.pid = some j ∨ sv.pid = some j → q < j:=fun j hj=>by have:=h5 j hj; omega
   refine ⟨R,tv,sv,rfl,(g.same q q0).trans hg,g,by rw [zan]; omega,by decide,R,tv,sv,zaj _ _ _,h4.atS (AtS.set (S:=[q]) H1 (by simp) _) fun j hj e=>?_,hl⟩
   simp only [List.mem_singleton] at e
   have:=hl j hj
   omega
 obtain ⟨x0,hx1⟩:=hx
 have hko:=fun H=>@zca _ _ _ _ (@KID_r_ok H e st slot)
 have tail:∀ (any:Bool) (kid0 c0:Nat) (K0 K1:List V) (H1:Heap),K0.length = 261 → K1.length = 261 → H1.get q = some ⟨tyRS,rsC id slot any kid0 c0 K0,none⟩ → ∀ (Q:Res → Heap → Prop),Q (.ret [.int .i64 0]) (H1.set q (some ⟨tyRS,rsC id slot true (kidN e st slot) 0 K1,none⟩)) →
   Ok ((mstore 261 (.ptr q (0 + 5)) (.agg K1)).bind fun _=>(M.lift (nilck (.ptr q 0))).bind fun t54=>(M.lift (Ax.faddr 2 t54)).bind fun t55=>(mstore 1 t55 (.bool true)).bind fun _ =>
    (M.lift (nilck (.ptr q 0))).bind fun t56=>(M.lift (Ax.faddr 3 t56)).bind fun t57=>(mstore 1 t57 (.int .u64 (kidN e st slot:Nat))).bind fun _ =>
    (M.lift (nilck (.ptr q 0))).bind fun t58=>(M.lift (Ax.faddr 4 t58)).bind fun t59=>(mstore 1 t59 (.int .u64 0)).bind fun _=>M.pure (.ret [.int .i64 0])) H1 Q:=by
  intro any kid0 c0 K0 K1 H1 hK0 hK1 g1 Q hQ
  refine zap (zfu g1 (by rw [zai,hK1]) (by unfold rsC; simp [hK0]) rfl ?_)
  rw [zai,Nat.zero_add]
  unfold rsC
  rw [spl5 hK0 hK1]
  have g2:=zaj H1 q (some ⟨tyRS, .int .i64 id :: .int .i64 slot :: .bool any :: .int .u64 (kid0:Nat) :: .int .u64 (c0:Nat) :: K1,none⟩)
  refine zaP rfl ?_
  refine zaP rfl ?_
  refine zap (zfu g2 rfl (by simp) rfl ?_)
  rw [zeX]
  have g3:=zaj H1 q (some ⟨tyRS, .int .i64 id :: .int .i64 slot :: .bool true :: .int .u64 (kid0:Nat) :: .int .u64 (c0:Nat) :: K1,none⟩)
  refine zaP rfl ?_
  refine zaP rfl ?_
  refine zap (zfu g3 rfl (by simp) rfl ?_)
  rw [zeX]
  have g4:=zaj H1 q (some ⟨tyRS, .int .i64 id :: .int .i64 slot :: .bool true :: .int .u64 (kidN e st slot:Nat) :: .int .u64 (c0:Nat) :: K1,none⟩)
  refine zaP rfl ?_
  refine zaP rfl ?_
  refine zap (zfu g4 rfl (by simp) rfl ?_)
  rw [zeX]
  exact zfJ hQ
 by_cases hy:zcy e st slot
 ·have kv:kidv e st slot = .tup [.int .u64 (kidN e st slot:Nat), .int .i64 0]:=by unfold kidv; rw [if_pos hy]
  rw [kv] at hko
  have kl:=zkr hy
  cases x with
  | none =>
   have eu:useS id slot n t none e st base = (some (drv id.toNat (kidN e st slot) n t base,e,st,0),0):=by simp [useS,hy]
   have hx1:H.get q = some ⟨tyRS,rsC id slot false 0 0 Z261,none⟩:=hx1
   rw [eu]
   have hk:=key _ _ _ _ zgo hx1 hy
   unfold rsC at hx1
   simp (disch:=omega) only [↓RD,RZ,hx1,hko]
   rw [zaK]
   refine zah hk ?_
   rintro _ H1 ⟨R,tv,sv,rfl,g1,s1,hs⟩
   refine zaP rfl ?_
   refine zaP rfl ?_
   refine zaP rfl ?_
   refine zaP rfl ?_
   have a1:AtS [q] H (H1.set q (some ⟨tyRS,rsC id slot true (kidN e st slot) 0 (zcq R tv sv (kidN e st slot) t),none⟩)):=(Grow.atS s1 _).trans (AtS.set _ (by simp) _)
   exact tail _ _ _ _ _ H1 zgo (zdP _ _ _ _ _) g1 _ ⟨_,rfl,rfl,hs,a1⟩
  | some w =>
   obtain ⟨K,e0,st0,c0⟩:=w
   obtain ⟨hc,R0,tv0,sv0,hx1,hkm,hl⟩:=hx1
   have hlt:=fun H=>@zca _ _ _ _ (@zuK H K.kid (kidN e st slot) hkm.good.kid (by omega))
   cases hlk:zlZ K.kid (kidN e st slot) with
   | false =>
    have eu:useS id slot n t (some (K,e0,st0,c0)) e st base = (some (K,e0,st0,c0),9):=by simp [useS,hy,hlk]
    rw [hlk] at hlt
    rw [eu]
    have hx2:=hx1
    unfold rsC at hx1
    simp (disch:=omega) only [↓RD,RZ,hx1,hko,hlt]
    exact ⟨rfl,⟨x0,hc,R0,tv0,sv0,hx2,hkm,hl⟩,AtS.refl _ _⟩
   | true =>
    have eu:useS id slot n t (some (K,e0,st0,c0)) e st base = (some (drv id.toNat (kidN e st slot) n t base,e,st,0),0):=by simp [useS,hy,hlk]
    rw [hlk] at hlt
    rw [eu]
    have hk:=key _ _ _ _ (zdP _ _ _ _ _) hx1 hy
    unfold rsC at hx1
    simp (disch:=omega) only [↓RD,RZ,hx1,hko,hlt]
    rw [zaK]
    refine zah hk ?_
    rintro _ H1 ⟨R,tv,sv,rfl,g1,s1,hs⟩
    refine zaP rfl ?_
    refine zaP rfl ?_
    refine zaP rfl ?_
    refine zaP rfl ?_
    have a1:AtS [q] H (H1.set q (some ⟨tyRS,rsC id slot true (kidN e st slot) 0 (zcq R tv sv (kidN e st slot) t),none⟩)):=(Grow.atS s1 _).trans (AtS.set _ (by simp) _)
    exact tail _ _ _ _ _ H1 (zdP _ _ _ _ _) (zdP _ _ _ _ _) g1 _ ⟨_,rfl,rfl,hs,a1⟩
 ·have kv:kidv e st slot = .tup [.int .u64 0, .int .i64 1]:=by unfold kidv; rw [if_neg hy]
  rw [kv] at hko
  have eu:useS id slot n t x e st base = (x,1):=by simp [useS,hy]
  rw [eu]
  cases x with
  | none =>
   have hx1:H.get q = some ⟨tyRS,rsC id slot false 0 0 Z261,none⟩:=hx1
   have hx2:=hx1
   unfold rsC at hx1
   simp (disch:=omega) only [↓RD,RZ,hx1,hko]
   exact ⟨rfl,⟨x0,hx2⟩,AtS.refl _ _⟩
  | some w =>
   obtain ⟨K,e0,st0,c0⟩:=w
   obtain ⟨hc,R,tv,sv,hx1,hkm,hl⟩:=hx1
   have hx2:=hx1
   unfold rsC at hx1
   simp (disch:=omega) only [↓RD,RZ,hx1,hko]
   exact ⟨rfl,⟨x0,hc,R,tv,sv,hx2,hkm,hl⟩,AtS.refl _ _⟩
theorem SealD_ok {lo1 lo2 q:Nat} {H:Heap} {id slot:Int} {x:SS} {mv pv:V} {m p:List Nat} (hx:RsM H q id slot x) (hm:By lo1 H mv m) (m8:Ok8 m) (hp:By lo2 H pv p) (p8:Ok8 p) (hml:m.length ≤ 137438953472) :
  Ok (sem T za8 [.ptr q 0,mv,pv]) H fun r H'=>RsM H' q id slot (znw x p) ∧ AtS [q] H H' ∧
   match x with
   | none=>r = .tup [.nils, .int .i64 10]
   | some (K,e,st,c)=>if 1000 < p.length then r = .tup [.nils, .int .i64 4] else ∃ v,r = .tup [v, .int .i64 0] ∧ By H.next H' v (zdN K c m p):=by
 refine ze9 ?_
 unfold zdm
 obtain ⟨x0,hx1⟩:=hx
 cases x with
 | none =>
  have hx1:H.get q = some ⟨tyRS,rsC id slot false 0 0 Z261,none⟩:=hx1
  have hx2:=hx1
  unfold rsC at hx1
  simp (disch:=omega) only [↓RD,RZ,eq_self,seval,hx1]
  exact ⟨⟨x0,hx2⟩,AtS.refl _ _⟩
 | some w =>
  obtain ⟨K,e0,st0,c0⟩:=w
  obtain ⟨hc,R,tv,sv,hx1,hkm,hl⟩:=hx1
  have hx2:=hx1
  unfold rsC at hx1
  have e5:=@ld5 (.int .i64 id) (.int .i64 slot) (.bool true) (.int .u64 (K.kid:Nat)) (.int .u64 (c0:Nat)) (zcq R tv sv K.kid K.t) (zdP _ _ _ _ _)
  simp (disch:=omega) only [↓RD,RZ,eq_self,seval,hx1,e5]
  refine zah (zuH hkm hc hm m8 hp p8 hml) ?_
  rintro _ H1 ⟨s1,h1⟩
  have g1:=(s1.same q x0).trans hx1
  have g2:=(s1.same q x0).trans hx2
  have n1:=s1.next
  split at h1
  ·rename_i h3
   subst h1
   simp (disch:=omega) only [↓RD,RZ,eq_self,seval]
   refine ⟨?_,Grow.atS s1 _,?_⟩
   ·unfold znw; dsimp only; rw [if_pos h3]; exact ⟨by omega,hc,R,tv,sv,g2,hkm.grow s1,hl⟩
   ·rw [if_pos h3]; trivial
  ·rename_i h3
   obtain ⟨v,rfl,hv⟩:=h1
   have w1:IntKind.u64.wrap (((c0:Nat):Int) + 1) = (((c0 + 1) % 18446744073709551616:Nat):Int):=by rw [wrap_u64]; omega
   simp (disch:=omega) only [↓RD,RZ,eq_self,seval,g1,w1]
   have a1:AtS [q] H (H1.set q (some ⟨tyRS,rsC id slot true K.kid ((c0 + 1) % 18446744073709551616) (zcq R tv sv K.kid K.t),none⟩)):=(Grow.atS s1 _).trans (AtS.set _ (by simp) _)
   refine ⟨?_,a1,?_⟩
   ·unfold znw; dsimp only; rw [if_neg h3]
    exact ⟨by rw [zan]; omega,Nat.mod_lt _ (by decide),R,tv,sv,zaj _ _ _,(hkm.grow s1).atS (AtS.set (S:=[q]) H1 (by simp) _) fun j hj e=>by
     simp only [List.mem_singleton] at e
     have:=hl j hj
     omega,hl⟩
   ·rw [if_neg h3]
    exact ⟨v,rfl,Lc.atS hv (AtS.set (S:=[q]) H1 (by simp) _) fun i hi e=>by
     simp only [List.mem_singleton] at e
     subst e
     have:=(hv.own i hi).1
     omega⟩
end Go.Ax.SU
/- Lk10 -/
namespace Go.Ax.SU
open Go.Ax
theorem ztE {e st sl:Nat} (he:e ≤ 65535) (hst:st ≤ 31) (hsl:sl < 8):kidN e st sl / 256 = e ∧ kidN e st sl % 256 / 8 = st ∧ kidN e st sl % 8 = sl:=by
 have:kidN e st sl = 256 * e + 8 * st + sl:=by unfold kidN; omega
 rw [this]
 omega
end Go.Ax.SU
namespace Go.Ax
open SU
end Go.Ax
/- Lk13 -/
namespace Go.Ax.SU
open Go.Ax
/-! Steps,as data. -/
theorem flat_at {α:Type} {k:Nat}:∀ (es:List (List α)),(∀ x ∈ es,x.length = k) → ∀ (i:Nat) (x:List α),es[i]? = some x → (es.flatten.drop (i * k)).take k = x ∧ i * k + k ≤ es.flatten.length:=by
 intro es
 induction es with
 | nil=>intro _ i x h; simp at h
 | cons y es ih =>
  intro h i x hx
  have hy:=h y List.mem_cons_self
  cases i with
  | zero =>
   simp only [List.getElem?_cons_zero,Option.some.injEq] at hx
   subst hx
   rw [List.flatten_cons,Nat.zero_mul,List.drop_zero,List.take_left' hy,List.length_append]
   exact ⟨rfl,by omega⟩
  | succ i =>
   obtain ⟨h1,h2⟩:=ih (fun z hz=>h z (List.mem_cons_of_mem _ hz)) i x (by simpa using hx)
   have e:(i + 1) * k = k + i * k:=by rw [Nat.succ_mul]; omega
   rw [List.flatten_cons,List.length_append,e,← List.drop_drop,List.drop_left' hy]
   exact ⟨h1,by omega⟩
theorem flat_len {α:Type} {k:Nat} (es:List (List α)) (h:∀ x ∈ es,x.length = k):es.flatten.length = es.length * k:=by
 induction es with
 | nil=>simp
 | cons x es ih=>rw [List.flatten_cons,List.length_append,ih fun y hy=>h y (List.mem_cons_of_mem _ hy),h x (List.mem_cons_self ..),List.length_cons,Nat.succ_mul]; omega
theorem rs_lc {lo e:Nat} {H:Heap} {es:List (List V)} (h:∀ x ∈ es,x.length = e):Lc e lo H (.rs es.flatten es.length) es.flatten es.length:=by
 refine ⟨?_,fun i hi=>(by cases hi),trivial⟩
 have:=flat_len es h
 simp only [zbb]
 rw [if_pos (by omega),List.take_of_length_le (by omega)]
structure Sp where
 op:Int
 e:Int
 st:Int
 m:List Nat
 b:List Nat
def SpR (cells:List V) (x:Sp):Prop:=∃ mv bv,cells = [.int .i64 x.op, .int .i64 x.e, .int .i64 x.st,mv,bv] ∧ (∀ H,By 0 H mv x.m ∧ By 0 H bv x.b) ∧ Ok8 x.m ∧ Ok8 x.b
theorem sh_sp {vs:List V} (h:Sh.Ty (.st [.int .i64, .int .i64, .int .i64, .sl (.int .u8), .sl (.int .u8)]) vs):∃ x,SpR vs x:=by
 obtain ⟨a0,b0,rfl,h0,a1,b1,rfl,h1,a2,b2,rfl,h2,a3,b3,rfl,h3,a4,b4,rfl,h4,hz⟩:=h
 have:b4 = []:=hz
 subst this
 obtain ⟨op,rfl,_⟩:=zom h0
 obtain ⟨e,rfl,_⟩:=zom h1
 obtain ⟨st,rfl,_⟩:=zom h2
 obtain ⟨mv,m,rfl,k3,r3⟩:=sh_u8s h3
 obtain ⟨bv,b,rfl,k4,r4⟩:=sh_u8s h4
 exact ⟨⟨op,e,st,m,b⟩,mv,bv,rfl,fun H=>⟨k3.lc 0,k4.lc 0⟩,r3,r4⟩
theorem sh_sps {vs:List V} (h:Sh.Ty (.sl (.st [.int .i64, .int .i64, .int .i64, .sl (.int .u8), .sl (.int .u8)])) vs):∃ (v:V) (cs:List (List V × Sp)),vs = [v] ∧ (∀ w ∈ cs,SpR w.1 w.2) ∧ ∀ H,Lc 5 0 H v (cs.map (·.1)).flatten cs.length:=by
 rcases h with rfl | ⟨es,rfl,_,hes⟩
 ·exact ⟨.nils,[],rfl,fun w h=>(by cases h),fun H=>Lc.nil⟩
 ·obtain ⟨cs,rfl,hcs⟩:=ztB (f:=fun w:List V × Sp=>w.1) (p:=fun w=>SpR w.1 w.2) es fun x hx=>by
   obtain ⟨m,h1⟩:=sh_sp (hes x hx)
   exact ⟨(x,m),rfl,h1⟩
  refine ⟨_,cs,rfl,hcs,fun H=>?_⟩
  have:=rs_lc (lo:=0) (H:=H) (e:=5) (es:=cs.map (·.1)) fun x hx=>by
   obtain ⟨w,hw,rfl⟩:=List.mem_map.1 hx
   obtain ⟨_,_,e,_⟩:=hcs w hw
   rw [e]; rfl
  rw [List.length_map] at this ⊢
  exact this
theorem sps_at {H:Heap} {v:V} {cs:List (List V × Sp)} (h:Lc 5 0 H v (cs.map (·.1)).flatten cs.length) (hc:∀ w ∈ cs,SpR w.1 w.2) {i:Nat} (hi:i < cs.length):∃ p,(∀ {k:IntKind},Ax.iaddr none 5 v (.int k (i:Nat)) = some p) ∧ LdR (some 5) H p (.agg cs[i].1):=by
 have hlen:∀ x ∈ cs.map (·.1),x.length = 5:=fun x hx=>by
  obtain ⟨w,hw,rfl⟩:=List.mem_map.1 hx
  obtain ⟨_,_,e,_⟩:=hc w hw
  rw [e]; rfl
 obtain ⟨p,hp,hl⟩:=h.at (i:=(i:Nat)) (by omega) (by omega)
 have e:((cs.map (·.1)).flatten.drop ((i:Int).toNat * 5)).take 5 = cs[i].1:=by
  rw [Int.toNat_natCast,(flat_at _ hlen i cs[i].1 (by rw [List.getElem?_map,List.getElem?_eq_getElem hi]; rfl)).1]
 rw [e] at hl
 have h5:cs[i].1.length = 5:=hlen _ (List.mem_map.2 ⟨_,List.getElem_mem hi,rfl⟩)
 have:=hl.all
 rw [h5] at this
 exact ⟨p,hp,this⟩
/-! What is sealed,or the error. -/
def zly (x:SS) (m p:List Nat):List Nat × Nat :=
 match x with
 | none=>([],10)
 | some (K,e,st,c)=>if 1000 < p.length then ([],4) else (zdN K c m p,0)
def sealQ (H0 H:Heap) (r:V) (m p:List Nat):SS → Prop
 | none=>r = .tup [.nils, .int .i64 10]
 | some (K,e,st,c)=>if 1000 < p.length then r = .tup [.nils, .int .i64 4] else ∃ v,r = .tup [v, .int .i64 0] ∧ By H0.next H v (zdN K c m p)
theorem zqA {H0 H:Heap} {r:V} {x:SS} {m p:List Nat} (h:sealQ H0 H r m p x) :
  ∃ v,r = .tup [v, .int .i64 ((zly x m p).2:Nat)] ∧ By 0 H v (zly x m p).1 ∧ ∀ i,v.pid = some i → H0.next ≤ i:=by
 cases x with
 | none=>exact ⟨.nils,h,Lc.nil,fun i hi=>by cases hi⟩
 | some w =>
  obtain ⟨K,e,st,c⟩:=w
  unfold sealQ at h
  dsimp only at h
  by_cases hp:1000 < p.length
  ·rw [if_pos hp] at h
   have:zly (some (K,e,st,c)) m p = ([],4):=by unfold zly; dsimp only; rw [if_pos hp]
   rw [this]
   exact ⟨.nils,h,Lc.nil,fun i hi=>by cases hi⟩
  ·rw [if_neg hp] at h
   have:zly (some (K,e,st,c)) m p = (zdN K c m p,0):=by unfold zly; dsimp only; rw [if_neg hp]
   rw [this]
   obtain ⟨v,rfl,hv⟩:=h
   exact ⟨v,rfl,hv.low (Nat.zero_le _),fun i hi=>(hv.own i hi).1⟩
def SSg (slot:Int) (x:SS):Prop:=∀ K e st c,x = some (K,e,st,c) → K.kid = kidN e st slot ∧ zcy e st slot ∧ ∀ w ∈ K.ws,Word w
theorem sealO_8 {slot:Int} {x:SS} {m p:List Nat} (h:SSg slot x) (p8:Ok8 p):Ok8 (zly x m p).1:=by
 cases x with
 | none=>exact Ok8.nil
 | some w =>
  obtain ⟨K,e,st,c⟩:=w
  unfold zly
  dsimp only
  split
  ·exact Ok8.nil
  ·exact seal_8 (h _ _ _ _ rfl).2.2 p8
theorem SSg.use {id slot:Int} {n t:Nat} {x:SS} {e st:Int} {base:List Nat} (h:SSg slot x) (hs:szs id.toNat = some (n,t)):SSg slot (useS id slot n t x e st base).1:=by
 have key:zcy e st slot → SSg slot (some (drv id.toNat (kidN e st slot) n t base,e,st,0)):=fun hy K e' st' c' hx=>by
  injection hx with hx
  simp only [Prod.mk.injEq] at hx
  obtain ⟨rfl,rfl,rfl,rfl⟩:=hx
  exact ⟨rfl,hy,(zlj hs (by have:=zkr hy; omega)).ws⟩
 unfold useS
 split
 ·exact h
 ·rename_i hy
  have hy:zcy e st slot:=by
   rcases Decidable.em (zcy e st slot) with h | h
   ·exact h
   ·exact absurd h hy
  split
  ·exact key hy
  ·split
   ·exact h
   ·exact key hy
theorem SSg.seal {slot:Int} {x:SS} {p:List Nat} (h:SSg slot x):SSg slot (znw x p):=by
 cases x with
 | none=>exact h
 | some w =>
  obtain ⟨K,e,st,c⟩:=w
  intro K' e' st' c' hx
  unfold znw at hx
  dsimp only at hx
  split at hx <;> (injection hx with hx; simp only [Prod.mk.injEq] at hx; obtain ⟨rfl,rfl,rfl,rfl⟩:=hx; exact h _ _ _ _ rfl)
end Go.Ax.SU
/- Lk14 -/
namespace Go.Ax.SU
open Go.Ax
theorem okb_ldr {n:Option Nat} {H:Heap} {p c:V} {f:V → M Res} {Q:Res → Heap → Prop} (h:LdR n H p c) (k:Ok (f c) H Q):Ok ((mload n p).bind f) H Q:=by
 have:=(h f Q).2 k
 rwa [zaK] at this
theorem zs7 {β:Type} {H:Heap} {ty:TypeId} {n:Nat} {zs cs:List V} {f:V → V → M β} {Q:β → Heap → Prop} (hz:zs.length = n) (hl:cs.length = n) (k:∀ q H',q = H.next → H'.get q = some ⟨ty,cs,none⟩ → Grow H H' → H'.next = H.next + 1 → Ok (f (.ptr q 0) .undef) H' Q) :
  Ok ((mbox ty (.agg zs)).bind fun t=>(mstore n t (.agg cs)).bind fun u=>f t u) H Q:=by
 refine zap (zaU rfl ?_)
 rw [zai]
 have g:=zad H ⟨ty,zs,none⟩
 refine zap (zfu g (by rw [zai]; exact hl) (by show 0 + n ≤ zs.length; omega) rfl ?_)
 refine k _ _ rfl ?_ ((Grow.new _ _).set (Nat.le_refl _) _) rfl
 rw [zaj,zai]
 congr 2
 unfold splice
 rw [List.take_zero,List.nil_append,List.drop_of_length_le (by show zs.length ≤ 0 + cs.length; omega),List.append_nil]
theorem By.free {v:V} {l:List Nat} (h:∀ H,By 0 H v l):∀ i,v.pid ≠ some i:=fun i hi=>by
 have:=((h H0).own i hi).2
 exact absurd this (Nat.not_lt_zero _)
theorem ztj {slot:Int} {x:SS} (hg:SSg slot x) (hs:0 ≤ slot ∧ slot < 8):(x = none ∧ nowv x = .tup [.int .i64 0, .int .i64 0, .int .u64 0, .bool false]) ∨
  ∃ (K:Ky) (e st c:Nat),x = some (K,(e:Int),(st:Int),c) ∧ nowv x = .tup [.int .i64 (e:Nat), .int .i64 (st:Nat), .int .u64 (c:Nat), .bool true] ∧ zfI K.kid = .tup [.int .i64 (e:Nat), .int .i64 (st:Nat), .int .i64 (slot.toNat:Nat), .bool true]:=by
 cases x with
 | none=>exact .inl ⟨rfl,rfl⟩
 | some w =>
  obtain ⟨K,e,st,c⟩:=w
  obtain ⟨h1,h2,_⟩:=hg _ _ _ _ rfl
  obtain ⟨e',rfl⟩:∃ n:Nat,e = (n:Nat):=⟨e.toNat,by have:=h2.1; omega⟩
  obtain ⟨st',rfl⟩:∃ n:Nat,st = (n:Nat):=⟨st.toNat,by have:=h2.2.1; omega⟩
  obtain ⟨sl',rfl⟩:∃ n:Nat,slot = (n:Nat):=⟨slot.toNat,by omega⟩
  obtain ⟨k1,k2,k3⟩:=ztE (e:=e') (st:=st') (sl:=sl') (by have:=h2.1; omega) (by have:=h2.2.1; omega) (by omega)
  refine .inr ⟨K,_,_,c,rfl,rfl,?_⟩
  have:=zkr h2
  unfold zfI
  rw [h1,if_neg (by omega),k1,k2,k3,Int.toNat_natCast]
theorem RsM.ty {H:Heap} {q:Nat} {id slot:Int} {x:SS} (h:RsM H q id slot x):∃ b,H.get q = some b ∧ b.ty ≠ zaL ∧ b.ty ≠ zaN ∧ b.ty ≠ zas:=by
 obtain ⟨h0,h1⟩:=h
 cases x with
 | none=>exact ⟨_,h1,show tyRS ≠ zaL by decide,show tyRS ≠ zaN by decide,show tyRS ≠ zas by decide⟩
 | some w =>
  obtain ⟨K,e,st,c⟩:=w
  obtain ⟨_,R,tv,sv,h3,_⟩:=h1
  exact ⟨_,h3,show tyRS ≠ zaL by decide,show tyRS ≠ zaN by decide,show tyRS ≠ zas by decide⟩
theorem zrv {H:Heap} {s q n t id slot:Nat} {sv:V} {cs:List (List V × Sp)} (hsz:szs id = some (n,t)) (hs8:slot < 8) (hc:∀ w ∈ cs,SpR w.1 w.2) (hv:∀ H,Lc 5 0 H sv (cs.map (·.1)).flatten cs.length) (hx:SndM (q + 1) H s (id:Nat) (slot:Nat) none) (hr:RsM H q (id:Nat) (slot:Nat) none) (hsq:s < q) :
  Ok (M.iter (zbj (sem T) sv (.ptr s 0) (.ptr q 0)) [.int .i64 0]) H fun r H'=>r = .ex 0 [] ∨ r = .ret [.bool true]:=by
 refine zaF (fun i L H'=>L = [.int .i64 (i:Nat)] ∧ ∃ x,SndM (q + 1) H' s (id:Nat) (slot:Nat) x ∧ RsM H' q (id:Nat) (slot:Nat) x ∧ SSg (slot:Nat) x) (min cs.length 16) ?_ ?_ ?_
 ·exact ⟨rfl,none,hx,hr,fun _ _ _ _ h=>by cases h⟩
 ·rintro i _ H1 hi ⟨rfl,x,hx1,hr1,hg1⟩
  have hvl:=(hv H1).vlen
  have hi1:i < cs.length:=by omega
  obtain ⟨p,hp,hl⟩:=sps_at (hv H1) hc hi1
  obtain ⟨mv,bv,ecs,hb,m8,b8⟩:=hc _ (List.getElem_mem hi1)
  rw [ecs] at hl
  generalize cs[i].2 = X at *
  have d1:decide (((i:Nat):Int) < ((cs.length:Nat):Int)) = true:=decide_eq_true (by omega)
  have d2:decide (((i:Nat):Int) < 16) = true:=decide_eq_true (by omega)
  have d2':decide (i < 16) = true:=decide_eq_true (by omega)
  have d1':decide (i < cs.length) = true:=decide_eq_true (by omega)
  unfold zbj
  simp (disch:=omega) only [↓RD,RZ,hvl,d1,d1',d2,d2',hp]
  rw [zaK]
  refine okb_ldr hl ?_
  refine zs7 rfl rfl fun b0 H2 eb g2 s2 n2=>?_
  have hx2:=hx1.grow s2
  have hr2:=hr1.grow s2
  have hx0:=hx1.1
  have hr0:=hr1.1
  have bl:=(hb H2).2.vlen
  have ml:=(hb H2).1.vlen
  simp (disch:=omega) only [↓RD,RZ,g2,bl,ml]
  by_cases h1:1100 < X.b.length
  ·have e1:decide ((1100:Int) < ((X.b.length:Nat):Int)) = true:=decide_eq_true (by omega)
   have e1':decide (1100 < X.b.length) = true:=decide_eq_true h1
   simp (disch:=omega) only [↓RD,RZ,e1,e1']
   exact .inr trivial
  have e1:decide ((1100:Int) < ((X.b.length:Nat):Int)) = false:=decide_eq_false (by omega)
  have e1':decide (1100 < X.b.length) = false:=decide_eq_false h1
  by_cases h2:500 < X.m.length
  ·have e2:decide ((500:Int) < ((X.m.length:Nat):Int)) = true:=decide_eq_true (by omega)
   have e2':decide (500 < X.m.length) = true:=decide_eq_true h2
   simp (disch:=omega) only [↓RD,RZ,e1,e1',g2,ml,e2,e2']
   exact .inr trivial
  have e2:decide ((500:Int) < ((X.m.length:Nat):Int)) = false:=decide_eq_false (by omega)
  have e2':decide (500 < X.m.length) = false:=decide_eq_false h2
  simp (disch:=omega) only [↓RD,RZ,e1,e1',g2,ml,e2,e2']
  have hsz':szs ((id:Nat):Int).toNat = some (n,t):=by rw [Int.toNat_natCast]; exact hsz
  have hb0s:b0 ∉ [s]:=by simp; omega
  have hb0q:b0 ∉ [q]:=by simp; omega
  have hsq':s ∉ [q]:=by simp; omega
  by_cases o0:X.op = 0
  ·have e0:(X.op == 0) = true:=by rw [o0]; rfl
   simp (disch:=omega) only [↓RD,RZ,e0,g2]
   refine zah (Use_ok hx2 (by omega) hsz' X.e X.st (hb _).2 b8 (by omega) (by omega)) ?_
   rintro _ H3 ⟨rfl,hx3,a3⟩
   have hr3:=hr2.atS a3 (fun i hi=>by simp at hi; omega)
   have e3:H3.get b0 = H2.get b0:=a3.same b0 (by omega) hb0s
   have n3:=a3.next
   simp (disch:=omega) only [↓RD,RZ,e3]
   refine zah (UseD_ok hr3 (by omega) hsz' X.e X.st (hb _).2 b8 (by omega)) ?_
   rintro _ H5 ⟨rfl,hr5,a5⟩
   have hx5:=hx3.atL a5 hsq' (fun i hi=>by simp only [List.mem_singleton] at hi; subst hi; exact ⟨by omega,hr3.ty⟩)
   have hg5:=hg1.use (id:=(id:Nat)) (e:=X.e) (st:=X.st) (base:=X.b) hsz'
   have n5:=a5.next
   generalize (useS (id:Nat) (slot:Nat) n t x X.e X.st X.b).1 = x5 at *
   generalize (useS (id:Nat) (slot:Nat) n t x X.e X.st X.b).2 = er at *
   simp (disch:=omega) only [↓RD,RZ,beq_self_eq_true,Bool.not_true]
   have w5:=@zca _ _ _ _ (zuI hx5)
   have q5:=hr5.1
   rcases ztj hg5 ⟨by omega,by omega⟩ with ⟨rfl,en⟩ | ⟨K5,e5,st5,c5,rfl,en,ep⟩
   ·rw [en] at w5
    have gq:H5.get q = some ⟨tyRS, .int .i64 (id:Nat) :: .int .i64 (slot:Nat) :: .bool false :: .int .u64 0 :: .int .u64 0 :: Z261,none⟩:=hr5.2
    have wp:=@zca _ _ _ _ (@zfE H5 0 (by decide))
    have ep0:zfI 0 = .tup [.int .i64 0, .int .i64 0, .int .i64 0, .bool true]:=rfl
    rw [ep0] at wp
    replace wp:∀ {f:V → M Res} {Q:Res → Heap → Prop},@OkB V Res (sem T zaT [.int .u64 0]) H5 ⟨f⟩ ⟨Q⟩ ↔ Ok (f (.tup [.int .i64 0, .int .i64 0, .int .i64 0, .bool true])) H5 Q:=@wp
    simp (disch:=omega) only [↓RD,RZ,w5,gq,wp]
    exact ⟨rfl,none,hx5,hr5,hg5⟩
   ·rw [en] at w5
    have hq5:=hr5.2
    obtain ⟨hc5,R5,tv5,sv5,gq,hk5,hl5⟩:=hq5
    have wp:=@zca _ _ _ _ (@zfE H5 K5.kid hk5.good.kid)
    rw [ep] at wp
    unfold rsC at gq
    simp (disch:=omega) only [↓RD,RZ,w5,gq,wp,beq_self_eq_true,Bool.not_true]
    exact ⟨rfl,_,hx5,hr5,hg5⟩
  have e0:(X.op == 0) = false:=by simpa using o0
  by_cases o1:X.op = 1
  ·have e1o:(X.op == 1) = true:=by rw [o1]; rfl
   simp (disch:=omega) only [↓RD,RZ,e0,e1o,g2]
   refine zah (zri hx2 (hb _).1 m8 (hb _).2 b8 (by omega) (by omega)) ?_
   rintro r3 H3 ⟨hx3,a3,h3⟩
   have h3':sealQ H2 H3 r3 X.m X.b x:=by
    cases x with
    | none=>exact h3
    | some w=>exact h3
   clear h3
   obtain ⟨v,rfl,hv3,hvp⟩:=zqA h3'
   have hr3:=hr2.atS a3 (fun i hi=>by simp at hi; omega)
   have g3:=(a3.same b0 (by omega) hb0s).trans g2
   have n3:=a3.next
   simp (disch:=omega) only [↓RD,RZ,g3]
   refine zah (SealD_ok hr3 (hb _).1 m8 (hb _).2 b8 (by omega)) ?_
   rintro r5 H5 ⟨hr5,a5,h5⟩
   have h5':sealQ H3 H5 r5 X.m X.b x:=by
    cases x with
    | none=>exact h5
    | some w=>exact h5
   clear h5
   obtain ⟨u,rfl,hu5,hup⟩:=zqA h5'
   have hv5:=Lc.atS hv3 a5 fun i hi=>by have:=hvp i hi; simp; omega
   have hx5:=hx3.atL a5 hsq' (fun i hi=>by simp only [List.mem_singleton] at hi; subst hi; exact ⟨by omega,hr3.ty⟩)
   have hg5:=hg1.seal (p:=X.b)
   have n5:=a5.next
   have O8:=sealO_8 (m:=X.m) hg1 b8
   have S1:=@zca _ _ _ _ (same_ok hv5 hu5 O8 O8)
   have ed:decide ((zly x X.m X.b).1 = (zly x X.m X.b).1) = true:=decide_eq_true rfl
   rw [ed] at S1
   generalize znw x X.b = x5 at *
   generalize (zly x X.m X.b).2 = er at *
   simp (disch:=omega) only [↓RD,RZ,beq_self_eq_true,Bool.not_true,S1]
   have w5:=@zca _ _ _ _ (zuI hx5)
   have q5:=hr5.1
   rcases ztj hg5 ⟨by omega,by omega⟩ with ⟨rfl,en⟩ | ⟨K5,e5,st5,c5,rfl,en,ep⟩
   ·rw [en] at w5
    have gq:H5.get q = some ⟨tyRS, .int .i64 (id:Nat) :: .int .i64 (slot:Nat) :: .bool false :: .int .u64 0 :: .int .u64 0 :: Z261,none⟩:=hr5.2
    have wp:=@zca _ _ _ _ (@zfE H5 0 (by decide))
    have ep0:zfI 0 = .tup [.int .i64 0, .int .i64 0, .int .i64 0, .bool true]:=rfl
    rw [ep0] at wp
    replace wp:∀ {f:V → M Res} {Q:Res → Heap → Prop},@OkB V Res (sem T zaT [.int .u64 0]) H5 ⟨f⟩ ⟨Q⟩ ↔ Ok (f (.tup [.int .i64 0, .int .i64 0, .int .i64 0, .bool true])) H5 Q:=@wp
    simp (disch:=omega) only [↓RD,RZ,w5,gq,wp]
    exact ⟨rfl,none,hx5,hr5,hg5⟩
   ·rw [en] at w5
    have hq5:=hr5.2
    obtain ⟨hc5,R5,tv5,sv5,gq,hk5,hl5⟩:=hq5
    have wp:=@zca _ _ _ _ (@zfE H5 K5.kid hk5.good.kid)
    rw [ep] at wp
    unfold rsC at gq
    simp (disch:=omega) only [↓RD,RZ,w5,gq,wp,beq_self_eq_true,Bool.not_true]
    exact ⟨rfl,_,hx5,hr5,hg5⟩
  have e1o:(X.op == 1) = false:=by simpa using o1
  have hx5:=hx2
  have hr5:=hr2
  have hg5:=hg1
  simp (disch:=omega) only [↓RD,RZ,e0,e1o,g2]
  have w5:=@zca _ _ _ _ (zuI hx5)
  have q5:=hr5.1
  rcases ztj hg5 ⟨by omega,by omega⟩ with ⟨rfl,en⟩ | ⟨K5,e5,st5,c5,rfl,en,ep⟩
  ·rw [en] at w5
   have gq:H2.get q = some ⟨tyRS, .int .i64 (id:Nat) :: .int .i64 (slot:Nat) :: .bool false :: .int .u64 0 :: .int .u64 0 :: Z261,none⟩:=hr5.2
   have wp:=@zca _ _ _ _ (@zfE H2 0 (by decide))
   have ep0:zfI 0 = .tup [.int .i64 0, .int .i64 0, .int .i64 0, .bool true]:=rfl
   rw [ep0] at wp
   replace wp:∀ {f:V → M Res} {Q:Res → Heap → Prop},@OkB V Res (sem T zaT [.int .u64 0]) H2 ⟨f⟩ ⟨Q⟩ ↔ Ok (f (.tup [.int .i64 0, .int .i64 0, .int .i64 0, .bool true])) H2 Q:=@wp
   simp (disch:=omega) only [↓RD,RZ,w5,gq,wp]
   exact ⟨rfl,none,hx5,hr5,hg5⟩
  ·rw [en] at w5
   have hq5:=hr5.2
   obtain ⟨hc5,R5,tv5,sv5,gq,hk5,hl5⟩:=hq5
   have wp:=@zca _ _ _ _ (@zfE H2 K5.kid hk5.good.kid)
   rw [ep] at wp
   unfold rsC at gq
   simp (disch:=omega) only [↓RD,RZ,w5,gq,wp,beq_self_eq_true,Bool.not_true]
   exact ⟨rfl,_,hx5,hr5,hg5⟩
 ·rintro _ H1 ⟨rfl,x,hx1,hr1,hg1⟩
  have hvl:=(hv H1).vlen
  unfold zbj
  by_cases h1:cs.length ≤ 16
  ·have d1:decide (((min cs.length 16:Nat):Int) < ((cs.length:Nat):Int)) = false:=decide_eq_false (by omega)
   have d1':decide (min cs.length 16 < cs.length) = false:=decide_eq_false (by omega)
   simp (disch:=omega) only [↓RD,RZ,hvl,d1,d1']
   exact .inl trivial
  ·have d1:decide (((min cs.length 16:Nat):Int) < ((cs.length:Nat):Int)) = true:=decide_eq_true (by omega)
   have d1':decide (min cs.length 16 < cs.length) = true:=decide_eq_true (by omega)
   have d2:decide (((min cs.length 16:Nat):Int) < 16) = false:=decide_eq_false (by omega)
   have d2':decide (min cs.length 16 < 16) = false:=decide_eq_false (by omega)
   simp (disch:=omega) only [↓RD,RZ,hvl,d1,d1',d2,d2']
   exact .inl trivial
end Go.Ax.SU
/- Lk15 -/
namespace Go.Ax.SU
open Go.Ax
theorem e266:([(V.int .i64 0),(V.int .i64 0),(V.bool false),(V.int .u64 0),(V.int .u64 0),(V.int .u8 0),(V.int .u8 0),(V.int .u8 0),(V.int .u8 0),(V.int .u8 0),(V.int .u8 0),(V.int .u8 0),(V.int .u8 0),(V.int .u8 0),(V.int .u8 0),(V.int .u8 0),(V.int .u8 0),(V.int .u8 0),(V.int .u8 0),(V.int .u8 0),(V.int .u8 0),(V.int .u8 0),(V.int .u8 0),(V.int .u8 0),(V.int .u8 0),(V.int .u8 0),(V.int .u8 0),(V.int .u8 0),(V.int .u8 0),(V.int .u8 0),(V.int .u8 0),(V.int .u8 0),(V.int .u8 0),(V.int .u8 0),(V.int .u8 0),(V.int .u8 0),(V.int .u8 0),(V.int .u8 0),(V.int .u8 0),(V.int .u8 0),(V.int .u8 0),(V.int .u8 0),(V.int .u8 0),(V.int .u8 0),(V.int .u8 0),(V.int .u8 0),(V.int .u8 0),(V.int .u8 0),(V.int .u8 0),(V.int .u8 0),(V.int .u8 0),(V.int .u8 0),(V.int .u8 0),(V.int .u8 0),(V.int .u8 0),(V.int .u8 0),(V.int .u8 0),(V.int .u8 0),(V.int .u8 0),(V.int .u8 0),(V.int .u8 0),(V.int .u8 0),(V.int .u8 0),(V.int .u8 0),(V.int .u8 0),(V.int .u8 0),(V.int .u8 0),(V.int .u8 0),(V.int .u8 0),(V.int .u8 0),(V.int .u8 0),(V.int .u8 0),(V.int .u8 0),(V.int .u8 0),(V.int .u8 0),(V.int .u8 0),(V.int .u8 0),(V.int .u8 0),(V.int .u8 0),(V.int .u8 0),(V.int .u8 0),(V.int .u8 0),(V.int .u8 0),(V.int .u8 0),(V.int .u8 0),(V.int .u8 0),(V.int .u8 0),(V.int .u8 0),(V.int .u8 0),(V.int .u8 0),(V.int .u8 0),(V.int .u8 0),(V.int .u8 0),(V.int .u8 0),(V.int .u8 0),(V.int .u8 0),(V.int .u8 0),(V.int .u8 0),(V.int .u8 0),(V.int .u8 0),(V.int .u8 0),(V.int .u8 0),(V.int .u8 0),(V.int .u8 0),(V.int .u8 0),(V.int .u8 0),(V.int .u8 0),(V.int .u8 0),(V.int .u8 0),(V.int .u8 0),(V.int .u8 0),(V.int .u8 0),(V.int .u8 0),(V.int .u8 0),(V.int .u8 0),(V.int .u8 0),(V.int .u8 0),(V.int .u8 0),(V.int .u8 0),(V.int .u8 0),(V.int .u8 0),(V.int .u8 0),(V.int .u8 0),(V.int .u8 0),(V.int .u8 0),(V.int .u8 0),(V.int .u8 0),(V.int .u8 0),(V.int .u8 0),(V.int .u8 0),(V.int .u8 0),(V.int .u8 0),(V.int .u8 0),(V.int .u8 0),(V.int .u8 0),(V.int .u8 0),(V.int .u8 0),(V.int .u8 0),(V.int .u8 0),(V.int .u8 0),(V.int .u8 0),(V.int .u8 0),(V.int .u8 0),(V.int .u8 0),(V.int .u8 0),(V.int .u8 0),(V.int .u8 0),(V.int .u8 0),(V.int .u8 0),(V.int .u8 0),(V.int .u8 0),(V.int .u8 0),(V.int .u8 0),(V.int .u8 0),(V.int .u8 0),(V.int .u8 0),(V.int .u8 0),(V.int .u8 0),(V.int .u8 0),(V.int .u8 0),(V.int .u8 0),(V.int .u8 0),(V.int .u8 0),(V.int .u8 0),(V.int .u8 0),(V.int .u8 0),(V.int .u8 0),(V.int .u8 0),(V.int .u8 0),(V.int .u8 0),(V.int .u8 0),(V.int .u8 0),(V.int .u8 0),(V.int .u8 0),(V.int .u8 0),(V.int .u8 0),(V.int .u8 0),(V.int .u8 0),(V.int .u8 0),(V.int .u8 0),(V.int .u8 0),(V.int .u8 0),(V.int .u8 0),(V.int .u8 0),(V.int .u8 0),(V.int .u8 0),(V.int .u8 0),(V.int .u8 0),(V.int .u8 0),(V.int .u8 0),(V.int .u8 0),(V.int .u8 0),(V.int .u8 0),(V.int .u8 0),(V.int .u8 0),(V.int .u8 0),(V.int .u8 0),(V.int .u8 0),(V.int .u8 0),(V.int .u8 0),(V.int .u8 0),(V.int .u8 0),(V.int .u8 0),(V.int .u8 0),(V.int .u8 0),(V.int .u8 0),(V.int .u8 0),(V.int .u8 0),(V.int .u8 0),(V.int .u8 0),(V.int .u8 0),(V.int .u8 0),(V.int .u8 0),(V.int .u8 0),(V.int .u8 0),(V.int .u8 0),(V.int .u8 0),(V.int .u8 0),(V.int .u8 0),(V.int .u8 0),(V.int .u8 0),(V.int .u8 0),(V.int .u8 0),(V.int .u8 0),(V.int .u8 0),(V.int .u8 0),(V.int .u8 0),(V.int .u8 0),(V.int .u8 0),(V.int .u8 0),(V.int .u8 0),(V.int .u8 0),(V.int .u8 0),(V.int .u8 0),(V.int .u8 0),(V.int .u8 0),(V.int .u8 0),(V.int .u8 0),(V.int .u8 0),(V.int .u8 0),(V.int .u8 0),(V.int .u8 0),(V.int .u8 0),(V.int .u8 0),(V.int .u8 0),(V.int .u8 0),(V.int .u8 0),(V.int .u8 0),(V.int .u8 0),(V.int .u8 0),(V.int .u8 0),(V.int .u8 0),(V.int .u8 0),(V.int .u8 0),(V.int .u8 0),(V.int .u8 0),(V.int .u8 0),(V.int .u8 0),(V.int .u8 0),(V.int .u8 0),(V.int .u8 0),V.nils,V.nils,V.nils,(V.int .u64 0),(V.int .i64 0)]:List V) = .int .i64 0 :: .int .i64 0 :: .bool false :: .int .u64 0 :: .int .u64 0 :: Z261:=by kernel_rfl
theorem sends_ok {H:Heap} {id slot:Int} {sv:V} {cs:List (List V × Sp)} (hid:-9223372036854775808 ≤ id) (hc:∀ w ∈ cs,SpR w.1 w.2) (hv:∀ H,Lc 5 0 H sv (cs.map (·.1)).flatten cs.length) :
  Ok (sem T zbr [.int .i64 id, .int .i64 slot,sv]) H fun r H'=>r = .bool true:=by
 refine zfL ?_
 unfold zdK
 rw [e266]
 have hsr:=fun H=>@zca _ _ _ _ (@zpm H id hid)
 refine zah (zkZ id slot hid) ?_
 rintro _ H1 ⟨s1,⟨hno,rfl⟩ | ⟨n,t,s,h0,hsz,hs0,hs8,rfl,hs,hls⟩⟩
 ·by_cases hz:id < 0 ∨ szs id.toNat = none
  ·rw [znr hz] at hsr
   simp (disch:=omega) only [↓RD,RZ,eq_self,seval,hsr]
   refine zah ziE ?_
   rintro _ H2 ⟨rfl,s2⟩
   have e1:Ax.eqr .ptr true .nilp .nilp = some (.bool false):=rfl
   have e2:Ax.eqr .bool true (.bool false) (.bool false) = some (.bool false):=rfl
   simp (disch:=omega) only [↓RD,RZ,eq_self,seval,e1,e2]
  ·obtain ⟨⟨n,t⟩,hsz⟩:∃ q,szs id.toNat = some q:=by
    cases h:szs id.toNat with
    | none=>exact absurd (.inr h) hz
    | some q=>exact ⟨q,rfl⟩
   have h0:0 ≤ id:=by
    rcases Int.lt_or_le id 0 with h | h
    ·exact absurd (.inl h) hz
    ·exact h
   rw [zjv h0 hsz] at hsr hno
   have hsl:slot < 0 ∨ 8 ≤ slot:=by
    rcases hno with h | h
    ·cases h
    ·exact h
   have e1:Ax.eqr .ptr true .nilp .nilp = some (.bool false):=rfl
   have e2:Ax.eqr .bool true (.bool false) (.bool false) = some (.bool false):=rfl
   by_cases h1:slot < 0
   ·have d1:decide ((0:Int) ≤ slot) = false:=decide_eq_false (by omega)
    simp (disch:=omega) only [↓RD,RZ,eq_self,seval,hsr,d1]
    refine zah ziE ?_
    rintro _ H2 ⟨rfl,s2⟩
    simp (disch:=omega) only [↓RD,RZ,eq_self,seval,e1,e2]
   ·have d1:decide ((0:Int) ≤ slot) = true:=decide_eq_true (by omega)
    have d2:decide (slot < 8) = false:=decide_eq_false (by omega)
    simp (disch:=omega) only [↓RD,RZ,eq_self,seval,hsr,d1,d2]
    refine zah ziE ?_
    rintro _ H2 ⟨rfl,s2⟩
    simp (disch:=omega) only [↓RD,RZ,eq_self,seval,e1,e2]
 ·rw [zjv h0 hsz] at hsr
  have d1:decide ((0:Int) ≤ slot) = true:=decide_eq_true (by omega)
  have d2:decide (slot < 8) = true:=decide_eq_true (by omega)
  have e1:Ax.eqr .ptr true (.ptr s 0) .nilp = some (.bool true):=rfl
  have e2:Ax.eqr .bool true (.bool true) (.bool true) = some (.bool false):=rfl
  simp (disch:=omega) only [↓RD,RZ,eq_self,seval,hsr,d1,d2]
  refine zah ziE ?_
  rintro _ H2 ⟨rfl,s2⟩
  obtain ⟨i,rfl⟩:∃ i:Nat,id = (i:Nat):=⟨id.toNat,by omega⟩
  obtain ⟨sl,rfl⟩:∃ i:Nat,slot = (i:Nat):=⟨slot.toNat,by omega⟩
  rw [Int.toNat_natCast] at hsz
  have hbd:Ax.build (.int .i64 0 :: .int .i64 0 :: .bool false :: .int .u64 0 :: .int .u64 0 :: Z261) [(0,1, .int .i64 (i:Nat)),(1,1, .int .i64 (sl:Nat))] = some (.agg (rsC (i:Nat) (sl:Nat) false 0 0 Z261)):=by
   unfold Ax.build fill fill fill
   rfl
  simp (disch:=omega) only [↓RD,RZ,eq_self,seval,e1,e2,hbd]
  have s3:=Grow.new H2 ⟨tyRS,rsC (i:Nat) (sl:Nat) false 0 0 Z261,none⟩
  have g3:(H2.new ⟨tyRS,rsC (i:Nat) (sl:Nat) false 0 0 Z261,none⟩).get H2.next = some ⟨tyRS,rsC (i:Nat) (sl:Nat) false 0 0 Z261,none⟩:=zad _ _
  have n3:(H2.new ⟨tyRS,rsC (i:Nat) (sl:Nat) false 0 0 Z261,none⟩).next = H2.next + 1:=zaf _ _
  have hs3:=((hs (H2.next + 1)).grow s2).grow s3
  refine zar (zrv hsz (by omega) hc hv hs3 ⟨Nat.lt_succ_self _,g3⟩ (by have:=(hs 0).1; have:=s2.next; omega)) ?_
  rintro _ H4 (rfl | rfl)
  ·simp (disch:=omega) only [↓RD,RZ,eq_self,seval]
  ·simp (disch:=omega) only [↓RD,RZ,eq_self,seval]
end Go.Ax.SU
namespace Go.Ax
open SU
theorem law_lockSends (us:List V) (h:zuE [.int .i64, .int .i64, .sl (.st [.int .i64, .int .i64, .int .i64, .sl (.int .u8), .sl (.int .u8)])] us) (hb:V.blks us ≤ 1048576):∃ H',sem T zbr us H0 = some (.bool true,H'):=by
 obtain ⟨a1,a2,a3,rfl⟩:∃ a1 a2 a3,us = [a1,a2,a3]:=by
  rcases us with _ | ⟨a1,_ | ⟨a2,_ | ⟨a3,_ | ⟨a4,us⟩⟩⟩⟩
  ·cases h
  ·cases h.2
  ·cases h.2.2
  ·exact ⟨a1,a2,a3,rfl⟩
  ·cases h.2.2.2
 obtain ⟨id,hi,hi1,hi2⟩:=zom h.1
 obtain ⟨sl,hs,_,_⟩:=zom h.2.1
 obtain ⟨v,cs,e3,hcs,hv⟩:=sh_sps h.2.2.1
 cases hi; cases hs; cases e3
 obtain ⟨r,H',h1,rfl⟩:=sends_ok (H:=H0) (slot:=sl) hi1 hcs hv
 exact ⟨H',h1⟩
end Go.Ax
