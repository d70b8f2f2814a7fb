/-
  Texts of mine, put together by program (wip/slim.py), for law_lockOnce: part 12.
-/
import Derived.Test.YtmmgnkjdppnboaaGreatZo11
set_option linter.unusedVariables false
set_option linter.unusedSimpArgs false
set_option linter.defProp false
set_option maxRecDepth 100000
/- Lk8 -/
namespace Go.Ax.SU
open Go.Ax
inductive GR
 | err (e:Nat)
 | got (e st sl c:Nat) (p:List Nat)
def grv (H0 H:Heap) (r:V):GR → Prop
 | .err e=>r = .tup [.agg [.int .i64 0, .int .i64 0, .int .i64 0, .int .u64 0, .nils], .int .i64 (e:Nat)]
 | .got e st sl c p=>∃ v,r = .tup [.agg [.int .i64 (e:Nat), .int .i64 (st:Nat), .int .i64 (sl:Nat), .int .u64 (c:Nat),v], .int .i64 0] ∧ By H0.next H v p
def winR (R:Rc) (k:Nat):WS:=(look k R.win).getD (false,0,0)
def zeH (R:Rc) (n t:Nat) (m b:List Nat):Rc × GR :=
 match parse b with
 | .err e=>(R, .err e)
 | .ok k c _ =>
  if 16777216 ≤ k then (R, .err 2) else
  match look (((k / 256:Nat):Int),((k % 8:Nat):Int)) R.ch with
  | none=>(R, .err 10)
  | some (st,base) =>
   if k % 256 / 8 < st then (R, .err 10) else
   if mayW (winR R k) c ≠ 0 then (R, .err (mayW (winR R k) c)) else
   match zlA (keyR R n t k (zdz base (k % 256 / 8 - st))) b m with
   | .err e=>(zgW R n t k (zdz base (k % 256 / 8 - st)), .err e)
   | .ok p _=>({ zgW R n t k (zdz base (k % 256 / 8 - st)) with win:=putl k (zfr (winR R k) c) R.win }, .got (k / 256) (k % 256 / 8) (k % 8) c p)
theorem zrm (R:Rc) (n t kid:Nat) (base:List Nat):(zgW R n t kid base).win = R.win:=by unfold zgW; split <;> rfl
theorem zoz {α β:Type} [DecidableEq α] {a:α} {b:β}:∀ {l:List (α × β)},look a l = some b → (a,b) ∈ l
 | [],h=>by cases h
 | (k,v) :: l,h=>by
  simp only [look] at h
  split at h
  ·rename_i e
   subst e
   injection h with h
   subst h
   exact List.mem_cons_self
  ·exact List.mem_cons_of_mem _ (zoz h)
theorem zov {α β:Type} [DecidableEq α] {a:α} {b:β} {p:α × β}:∀ {l:List (α × β)},p ∈ putl a b l → p = (a,b) ∨ p ∈ l
 | [],h=>by simp [putl] at h; exact .inl h
 | (k,v) :: l,h=>by
  simp only [putl] at h
  split at h
  ·rcases List.mem_cons.1 h with h | h
   ·exact .inl h
   ·exact .inr (List.mem_cons_of_mem _ h)
  ·rcases List.mem_cons.1 h with h | h
   ·exact .inr (h ▸ List.mem_cons_self)
   ·rcases zov h with h | h
    ·exact .inl h
    ·exact .inr (List.mem_cons_of_mem _ h)
theorem winR_r {R:Rc} (h:∀ p ∈ R.win,wsR p.2) (k:Nat):wsR (winR R k):=by
 unfold winR
 cases hl:look k R.win with
 | none=>exact ⟨by decide,by decide⟩
 | some w=>exact h _ (zoz hl)
theorem markW_r {w:WS} {n:Nat} (hw:wsR w) (hn:n < 18446744073709551616) (hm:mayW w n = 0):wsR (zfr w n):=by
 obtain ⟨a,hi,se⟩:=w
 obtain ⟨h1,h2⟩:=hw
 dsimp only at h1 h2
 unfold zfr
 dsimp only
 split
 ·exact ⟨hn,show (1:Nat) < 18446744073709551616 by decide⟩
 ·rename_i ha
  have ha:a = true:=by simpa using ha
  subst ha
  split
  ·exact ⟨hn,Nat.or_lt_two_pow (n:=64) (Nat.mod_lt _ (by decide)) (by decide)⟩
  ·rename_i h3
   have h4:=zox hm rfl h3
   dsimp only at h4
   exact ⟨h1,Nat.or_lt_two_pow (n:=64) h2 (Nat.pow_lt_pow_right (by decide) (by omega))⟩
theorem zon {b:List Nat} {e:Nat} (hp:parse b = .err e):e ≠ 0:=by
 unfold parse at hp
 split at hp
 ·injection hp with hp; omega
 ·dsimp only at hp
  split at hp
  ·injection hp with hp; omega
  ·split at hp
   ·cases hp
   ·injection hp with hp; omega
theorem open_err {K:Ky} {b m:List Nat} {e:Nat} (h:zlA K b m = .err e):e ≠ 0:=by
 unfold zlA at h
 cases hp:parse b with
 | err e'=>rw [hp] at h; injection h with h; subst h; exact zon hp
 | ok kid c n =>
  rw [hp] at h
  dsimp only at h
  split at h
  ·injection h with h; omega
  ·split at h
   ·injection h with h; omega
   ·split at h
    ·injection h with h; omega
    ·split at h
     ·cases h
     ·injection h with h; omega
theorem neqz {e:Nat} (h:e ≠ 0):(((e:Nat):Int) == 0) = false:=by
 have:¬ ((e:Nat):Int) = 0:=by omega
 simpa using this
theorem AtS.setn {S:List Nat} {H H':Heap} (h:AtS S H H') {q:Nat} (hq:H.next ≤ q) (b:Option Blk):AtS S H (H'.set q b) :=
 ⟨by rw [zan]; exact h.next,fun i hi hs=>by rw [zah _ _ (by omega)]; exact h.same i hi hs⟩
theorem odd_got {cs:List V} (h:∀ v ∈ cs,∀ n,v ≠ .int .u8 n):OddR ⟨zay,cs,none⟩ :=
 ⟨⟨show zay ≠ zaC by decide,show zay ≠ zaD by decide,show zay ≠ zaq by decide,h⟩,show zay ≠ zad by decide,show zay ≠ zaB by decide⟩
theorem zl7 {lo1 lo2 c n t:Nat} {H:Heap} {R:Rc} {mv bv:V} {m b:List Nat} (hR:RcM H c R) (hsz:szs R.id = some (n,t)) (hm:By lo1 H mv m) (m8:Ok8 m) (hb:By lo2 H bv b) (b8:Ok8 b) (ml:m.length ≤ 274877906944) (bl:b.length ≤ 1099511627776)
  (hmp:∀ i,mv.pid = some i → i < c ∨ c + 4 ≤ i) (hbp:∀ i,bv.pid = some i → i < c ∨ c + 4 ≤ i) :
  Ok (sem T zaQ [.ptr (c + 3) 0,mv,bv]) H fun r H'=>grv H H' r (zeH R n t m b).2 ∧ RcM H' c (zeH R n t m b).1 ∧ AtS [c,c + 1,c + 2] H H':=by
 refine zf9 ?_
 unfold zdJ
 have htop:=hR.top
 refine zaA (zda rfl ?_)
 rw [zaw]
 have s0:=Grow.new H ⟨zay,[.int .i64 0, .int .i64 0, .int .i64 0, .int .u64 0, .nils],none⟩
 have g0:(H.new ⟨zay,[.int .i64 0, .int .i64 0, .int .i64 0, .int .u64 0, .nils],none⟩).get H.next = some ⟨zay,[.int .i64 0, .int .i64 0, .int .i64 0, .int .u64 0, .nils],none⟩:=zac _ _
 have n0:(H.new ⟨zay,[.int .i64 0, .int .i64 0, .int .i64 0, .int .u64 0, .nils],none⟩).next = H.next + 1:=zae _ _
 generalize hq:H.next = q at *
 generalize H.new _ = H0 at *
 have hR0:=hR.grow s0
 have hb0:=hb.ext s0
 have hm0:=hm.ext s0
 have fin:∀ (H1:Heap) (R1:Rc) (cs:List V),RcM H1 c R1 → AtS [c,c + 1,c + 2] H H1 → H1.get q = some ⟨zay,[.int .i64 0, .int .i64 0, .int .i64 0, .int .u64 0, .nils],none⟩ →
   RcM (H1.set q (some ⟨zay,cs,none⟩)) c R1 ∧ AtS [c,c + 1,c + 2] H (H1.set q (some ⟨zay,cs,none⟩)):=fun H1 R1 cs h1 h2 h3 =>
  ⟨h1.atS (AtS.set (S:=[q]) H1 (by simp) _) (fun i hi=>by simp at hi; omega) fun i hi=>by
   simp only [List.mem_singleton] at hi
   subst hi
   exact ⟨_,h3,odd_got (by simp)⟩,h2.setn (by omega) _⟩
 have hpar:=@zcW _ _ _ _ (zli hb0 b8 (by omega))
 cases hp:parse b with
 | err e =>
  have eo:zeH R n t m b = (R, .err e):=by unfold zeH; rw [hp]
  rw [hp] at hpar
  have e0:=neqz (zon hp)
  rw [eo]
  simp (disch:=first | omega | (simp only [RY] <;> omega) | decide) only [↓RD,RZ,eq_self,seval,hpar,phv,e0,Bool.not_false,g0]
  obtain ⟨f1,f2⟩:=fin H0 R [.int .i64 0, .int .i64 0, .int .i64 0, .int .u64 0, .nils] hR0 (Grow.atS s0 _) g0
  exact ⟨rfl,f1,f2⟩
 | ok k ct hl =>
  rw [hp] at hpar
  obtain ⟨p1,p2,p3,p4⟩:=zqM hp b8
  have hpt:=@zcW _ _ _ _ (@zmJ H0 k p3)
  by_cases h1:16777216 ≤ k
  ·have eo:zeH R n t m b = (R, .err 2):=by unfold zeH; rw [hp]; dsimp only; rw [if_pos h1]
   have ep:zjA k = .tup [.int .i64 0, .int .i64 0, .int .i64 0, .bool false]:=by unfold zjA; rw [if_pos h1]
   rw [ep] at hpt
   rw [eo]
   simp (disch:=first | omega | (simp only [RY] <;> omega) | decide) only [↓RD,RZ,eq_self,seval,hpar,phv,hpt,g0]
   obtain ⟨f1,f2⟩:=fin H0 R [.int .i64 0, .int .i64 0, .int .i64 0, .int .u64 0, .nils] hR0 (Grow.atS s0 _) g0
   exact ⟨rfl,f1,f2⟩
  ·have ep:zjA k = .tup [.int .i64 (k / 256:Nat), .int .i64 (k % 256 / 8:Nat), .int .i64 (k % 8:Nat), .bool true]:=by unfold zjA; rw [if_neg h1]
   rw [ep] at hpt
   have hr0:=hR0.rcd
   obtain ⟨lc,c1,c2⟩:=hR0.ch
   simp (disch:=first | omega | (simp only [RY] <;> omega) | decide) only [↓RD,RZ,eq_self,seval,hpar,phv,hpt,hr0]
   refine zgI (ek:=eplc) (a:=(((k / 256:Nat):Int),((k % 8:Nat):Int))) zlO (znF _) c1 ?_
   rw [zgf]
   rcases Al.look (((k / 256:Nat):Int),((k % 8:Nat):Int)) c2 with ⟨a1,a2⟩ | ⟨y,x,a1,a2,hch⟩
   ·have eo:zeH R n t m b = (R, .err 10):=by unfold zeH; rw [hp]; dsimp only; rw [if_neg h1,a2]
    have e3:((none:Option Nat).map ptrv).getD .nilp = .nilp:=rfl
    rw [eo,a1,e3]
    simp (disch:=first | omega | (simp only [RY] <;> omega) | decide) only [↓RD,RZ,eq_self,seval,g0]
    obtain ⟨f1,f2⟩:=fin H0 R [.int .i64 0, .int .i64 0, .int .i64 0, .int .u64 0, .nils] hR0 (Grow.atS s0 _) g0
    exact ⟨rfl,f1,f2⟩
   ·obtain ⟨st,base⟩:=x
    dsimp only at hch
    have e3:((some y:Option Nat).map ptrv).getD .nilp = .ptr y 0:=rfl
    have hst:=@zcW _ _ _ _ (zsg hch)
    rw [a1,e3]
    by_cases h2:k % 256 / 8 < st
    ·have eo:zeH R n t m b = (R, .err 10):=by unfold zeH; rw [hp]; dsimp only; rw [if_neg h1,a2]; dsimp only; rw [if_pos h2]
     have d:decide (((k % 256 / 8:Nat):Int) < ((st:Nat):Int)) = true:=decide_eq_true (by omega)
     have d':decide (k % 256 / 8 < st) = true:=decide_eq_true h2
     rw [eo]
     simp (disch:=first | omega | (simp only [RY] <;> omega) | decide) only [↓RD,RZ,eq_self,seval,hst,d,d',g0]
     obtain ⟨f1,f2⟩:=fin H0 R [.int .i64 0, .int .i64 0, .int .i64 0, .int .u64 0, .nils] hR0 (Grow.atS s0 _) g0
     exact ⟨rfl,f1,f2⟩
    ·have d:decide (((k % 256 / 8:Nat):Int) < ((st:Nat):Int)) = false:=decide_eq_false (by omega)
     have d':decide (k % 256 / 8 < st) = false:=decide_eq_false h2
     simp (disch:=first | omega | (simp only [RY] <;> omega) | decide) only [↓RD,RZ,eq_self,seval,hst,d,d',hr0]
     refine zgI (ek:=ekid) (a:=k) ziA (zlN _) hR0.win ?_
     rw [zgf]
     have ew:((look k R.win).map wsv).getD (.agg [.bool false, .int .u64 0, .int .u64 0]) = wsv (winR R k):=by unfold winR; cases look k R.win <;> rfl
     rw [ew]
     have hwr:=winR_r hR0.wr k
     have gz:=zac H0 ⟨zaj,[.bool false, .int .u64 0, .int .u64 0],none⟩
     have sz:=Grow.new H0 ⟨zaj,[.bool false, .int .u64 0, .int .u64 0],none⟩
     have nz:(H0.new ⟨zaj,[.bool false, .int .u64 0, .int .u64 0],none⟩).next = H0.next + 1:=zae _ _
     refine zaA (zda rfl ?_)
     rw [zaw]
     generalize hqw:H0.next = q1 at *
     generalize H0.new _ = Hz at *
     refine zaA (zor gz (by rfl) (by decide) (by rfl) ?_)
     have s1:Grow H0 (Hz.set q1 (some ⟨zaj,[.bool (winR R k).1, .int .u64 ((winR R k).2.1:Nat), .int .u64 ((winR R k).2.2:Nat)],none⟩)):=sz.set (by omega) _
     have g1:(Hz.set q1 (some ⟨zaj,[.bool (winR R k).1, .int .u64 ((winR R k).2.1:Nat), .int .u64 ((winR R k).2.2:Nat)],none⟩)).get q1 = _:=zai _ _ _
     have n1:(Hz.set q1 (some ⟨zaj,[.bool (winR R k).1, .int .u64 ((winR R k).2.1:Nat), .int .u64 ((winR R k).2.2:Nat)],none⟩)).next = Hz.next:=rfl
     show Ok _ (Hz.set q1 (some ⟨zaj,[.bool (winR R k).1, .int .u64 ((winR R k).2.1:Nat), .int .u64 ((winR R k).2.2:Nat)],none⟩)) _
     generalize hw:winR R k = W at *
     generalize Heap.set Hz _ _ = H1 at *
     have hmay:=@zow H1 W ct hwr p4
     obtain ⟨wa,wh,ws⟩:=W
     simp (disch:=first | omega | (simp only [RY] <;> omega) | decide) only [↓RD,RZ,eq_self,seval,g1]
     refine zag hmay ?_
     rintro _ H2 ⟨rfl,s2⟩
     have s12:=s1.trans s2
     have hR2:=hR0.grow s12
     have g2:=(s12.same q (by omega)).trans g0
     have gw2:=(s2.same q1 (by omega)).trans g1
     have a02:=Grow.atS (s0.trans s12) [c,c + 1,c + 2]
     have n2:=s2.next
     by_cases h3:mayW (wa,wh,ws) ct = 0
     ·have e0:(((mayW (wa,wh,ws) ct:Nat):Int) == 0) = true:=by rw [h3]; rfl
      have hst31:k % 256 / 8 ≤ 31:=by omega
      simp (disch:=first | omega | (simp only [RY] <;> omega) | decide) only [↓RD,RZ,eq_self,seval,e0,Bool.not_true]
      refine zag (At_c_ok (hch.grow s12) hst31 (by omega)) ?_
      rintro _ H3 ⟨v3,rfl,hv3,s3⟩
      have n3:=s3.next
      have B8:=zo0 hch.b8 (k % 256 / 8 - st)
      have Bl:=zlg (m:=1099511627) hch.bl (by decide) (k % 256 / 8 - st)
      generalize hB:zdz base (k % 256 / 8 - st) = B at *
      simp (disch:=first | omega | (simp only [RY] <;> omega) | decide) only [↓RD,RZ,eq_self,seval]
      refine zag (key_ok (hR2.grow s3) hsz p3 hv3 B8 (by omega)) ?_
      rintro _ H4 ⟨k4,rfl,hk4,hR4,a4⟩
      have n4:=a4.next
      have a04:=(a02.trans (Grow.atS s3 _)).trans a4
      have nS:∀ i,c + 4 ≤ i → i ∉ [c,c + 1,c + 2]:=fun i hi=>by simp; omega
      have bS:∀ {v:V},(∀ i,v.pid = some i → i < c ∨ c + 4 ≤ i) → ∀ i,v.pid = some i → i ∉ [c,c + 1,c + 2]:=fun h i hi=>by have:=h i hi; simp; omega
      have g4:=(a4.same q (by omega) (nS _ (by omega))).trans ((s3.same q (by omega)).trans g2)
      have gw4:=(a4.same q1 (by omega) (nS _ (by omega))).trans ((s3.same q1 (by omega)).trans gw2)
      have hb4:=Lc.atS ((hb0.ext s12).ext s3) a4 (bS hbp)
      have hm4:=Lc.atS ((hm0.ext s12).ext s3) a4 (bS hmp)
      simp (disch:=first | omega | (simp only [RY] <;> omega) | decide) only [↓RD,RZ,eq_self,seval]
      refine zag (Open_ok hk4 hb4 b8 hm4 m8 ml bl) ?_
      rintro _ H5 ⟨s5,h5⟩
      have n5:=s5.next
      have hR5:=hR4.grow s5
      have g5:=(s5.same q (by omega)).trans g4
      have gw5:=(s5.same q1 (by omega)).trans gw4
      have a05:=a04.trans (Grow.atS s5 _)
      have eo0:zeH R n t m b = match zlA (keyR R n t k B) b m with
        | .err e=>(zgW R n t k B, .err e)
        | .ok p _=>({ zgW R n t k B with win:=putl k (zfr (wa,wh,ws) ct) R.win }, .got (k / 256) (k % 256 / 8) (k % 8) ct p):=by
       unfold zeH; rw [hp]; dsimp only; rw [if_neg h1,a2]; dsimp only; rw [if_neg h2,hw,hB,if_neg (fun h=>h h3)]
      cases hop:zlA (keyR R n t k B) b m with
      | err e =>
       rw [hop] at h5 eo0
       have h5:_ = _:=h5
       subst h5
       have e5:=neqz (open_err hop)
       rw [eo0]
       simp (disch:=first | omega | (simp only [RY] <;> omega) | decide) only [↓RD,RZ,eq_self,seval,e5,Bool.not_false,g5]
       obtain ⟨f1,f2⟩:=fin H5 _ [.int .i64 0, .int .i64 0, .int .i64 0, .int .u64 0, .nils] hR5 a05 g5
       exact ⟨rfl,f1,f2⟩
      | ok p c' =>
       rw [hop] at h5 eo0
       obtain ⟨v5,rfl,hv5⟩:=h5
       have hr5:=hR5.rcd
       have hmk:=@zrd H5 (wa,wh,ws) ct hwr p4
       rw [eo0]
       simp (disch:=first | omega | (simp only [RY] <;> omega) | decide) only [↓RD,RZ,eq_self,seval,hr5,gw5]
       refine zag hmk ?_
       rintro _ H6 ⟨s6,h6,-⟩
       have h6:=h6 h3
       subst h6
       have n6:=s6.next
       have hR6:=hR5.grow s6
       have hr6:=hR6.rcd
       have e6:H6.get (c + 3) = H5.get (c + 3):=s6.same _ (by omega)
       have g6:=(s6.same q (by omega)).trans g5
       have hw6:=hR6.win
       rw [zrm] at hw6
       have m1:=markW_r (n:=ct) hwr p4 h3
       simp (disch:=first | omega | (simp only [RY] <;> omega) | decide) only [↓RD,RZ,eq_self,seval,e6]
       refine ziw (ek:=ekid) (a:=k) (v:=wsv (zfr (wa,wh,ws) ct)) ziA (zlN _) hw6 ?_
       rw [zjc]
       have a7:AtS [c,c + 1,c + 2] H6 (H6.set (c + 1) (some ⟨tyW,encM ekid (mapv wsv (putl k (zfr (wa,wh,ws) ct) R.win)),none⟩)):=AtS.set _ (by simp) _
       have g7:(H6.set (c + 1) (some ⟨tyW,encM ekid (mapv wsv (putl k (zfr (wa,wh,ws) ct) R.win)),none⟩)).get (c + 1) = _:=zai _ _ _
       have nn:∀ i,i ≠ c + 1 → (H6.set (c + 1) (some ⟨tyW,encM ekid (mapv wsv (putl k (zfr (wa,wh,ws) ct) R.win)),none⟩)).get i = H6.get i:=fun i hi=>zah _ _ hi
       have n7:(H6.set (c + 1) (some ⟨tyW,encM ekid (mapv wsv (putl k (zfr (wa,wh,ws) ct) R.win)),none⟩)).next = H6.next:=rfl
       generalize Heap.set H6 _ _ = H7 at *
       have hS:∀ i ∈ [c,c + 1,c + 2],i < c + 4 ∨ ∃ b,H6.get i = some b ∧ OddR b:=fun i hi=>by simp at hi; omega
       have hO:∀ i ∈ [c,c + 1,c + 2],∃ b,H6.get i = some b ∧ Odd b:=fun i hi=>by
        obtain ⟨b,hb,ho⟩:=hR6.odd i (by simp at hi; omega) (by simp at hi; omega)
        exact ⟨b,hb,ho.1⟩
       obtain ⟨lc',x1,x2⟩:=hR6.ch
       obtain ⟨lk',x3,x4⟩:=hR6.ks
       have hR7:RcM H7 c { zgW R n t k B with win:=putl k (zfr (wa,wh,ws) ct) R.win } :=
        ⟨by have:=hR6.top; omega,(nn _ (by omega)).trans hr6,⟨lc',(nn _ (by omega)).trans x1,x2.mono fun _ _ g=>g.atS a7 hS⟩,g7,fun p hp=>by
         rcases zov hp with rfl | hp
         ·exact m1
         ·exact hR.wr p hp,⟨lk',(nn _ (by omega)).trans x3,x4.mono fun _ _ g=>g.atS a7 hO⟩⟩
       have gq7:=(nn q (by omega)).trans g6
       have a07:=(a05.trans (Grow.atS s6 _)).trans a7
       have hv7:=Lc.atS (hv5.ext s6) a7 fun i hi=>nS i (by have:=(hv5.own i hi).1; omega)
       have vc:=hv7.cells1
       have vo:=hv7.okc
       simp (disch:=first | omega | (simp only [RY] <;> omega) | decide) only [↓RD,RZ,eq_self,seval,gq7,vc,vo]
       obtain ⟨f1,f2⟩:=fin H7 _ [.int .i64 (k / 256:Nat), .int .i64 (k % 256 / 8:Nat), .int .i64 (k % 8:Nat), .int .u64 (ct:Nat),v5] hR7 a07 gq7
       refine ⟨⟨v5,rfl,?_⟩,f1,f2⟩
       exact (Lc.atS hv7 (AtS.set (S:=[q]) H7 (by simp) _) fun i hi e=>by
        simp only [List.mem_singleton] at e
        have:=(hv5.own i hi).1
        omega).low (by omega)
     ·have eo:zeH R n t m b = (R, .err (mayW (wa,wh,ws) ct)):=by
       unfold zeH; rw [hp]; dsimp only; rw [if_neg h1,a2]; dsimp only; rw [if_neg h2,hw,if_pos h3]
      have e0:=neqz h3
      rw [eo]
      simp (disch:=first | omega | (simp only [RY] <;> omega) | decide) only [↓RD,RZ,eq_self,seval,e0,Bool.not_false,g2]
      obtain ⟨f1,f2⟩:=fin H2 R [.int .i64 0, .int .i64 0, .int .i64 0, .int .u64 0, .nils] hR2 a02 g2
      exact ⟨rfl,f1,f2⟩
end Go.Ax.SU
/- Lk9 -/
namespace Go.Ax.SU
open Go.Ax
theorem SndM.odd {H:Heap} {s:Nat} {id slot:Int} {x:SS} (h:SndM 0 H s id slot x):∃ b,H.get s = some b ∧ OddR b:=by
 obtain ⟨h0,h1⟩:=h
 cases x with
 | none=>exact ⟨_,h1,zlH _ _ _ _ _ _ (.inl rfl),show zau ≠ zad by decide,show zau ≠ zaB by decide⟩
 | some q =>
  obtain ⟨K,e,st,c⟩:=q
  obtain ⟨_,k,h3,_⟩:=h1
  exact ⟨_,h3,zlH _ _ _ _ _ _ (.inr ⟨k,rfl⟩),show zau ≠ zad by decide,show zau ≠ zaB by decide⟩
theorem RcM.snd {H H':Heap} {s c:Nat} {id slot:Int} {x:SS} {R:Rc} (h:RcM H c R) (hs:SndM 0 H s id slot x) (a:AtS [s] H H') (hsc:s < c):RcM H' c R :=
 h.atS a (fun i hi=>by simp at hi; omega) fun i hi=>by simp only [List.mem_singleton] at hi; subst hi; exact hs.odd
theorem SndM.rcv {H H':Heap} {s c:Nat} {id slot:Int} {x:SS} {R:Rc} (hs:SndM 0 H s id slot x) (h:RcM H c R) (a:AtS [c,c + 1,c + 2] H H') (hsc:s < c):SndM 0 H' s id slot x :=
 hs.atS a (by simp; omega) fun i hi=>by
  obtain ⟨b,hb,ho⟩:=h.odd i (by simp at hi; omega) (by simp at hi; omega)
  exact ⟨b,hb,ho.1⟩
theorem zgG {H:Heap} {id slot n t:Nat} (h:szs id = some (n,t)) (hs:slot < 8):Ok (sem T zbj [.int .i64 (id:Nat), .int .i64 (slot:Nat)]) H fun r H'=>Grow H H' ∧ ∃ s,r = .tup [.ptr s 0, .int .i64 0] ∧ SndM 0 H' s (id:Nat) (slot:Nat) none ∧ H.next ≤ s:=by
 refine zax (zm8 (id:Nat) (slot:Nat) (by omega)) ?_
 rintro r H' ⟨g,⟨h1 | h1 | h1,_⟩ | ⟨n',t',s,h1,h2,h3,h4,rfl,h5,h6⟩⟩
 ·rw [zlq (by omega) (by rw [Int.toNat_natCast]; exact h)] at h1; cases h1
 ·omega
 ·omega
 ·exact ⟨g,s,rfl,h5 0,h6⟩
theorem zfl {H:Heap} {id n t:Nat} (h:szs id = some (n,t)):Ok (sem T za3 [.int .i64 (id:Nat)]) H fun r H'=>Grow H H' ∧ ∃ c,r = .tup [.ptr (c + 3) 0, .int .i64 0] ∧ RcM H' c ⟨id,[],[],[]⟩ ∧ H.next ≤ c:=by
 refine zax (zkS (id:Nat) (by omega)) ?_
 rintro r H' ⟨g,⟨h1 | h1,_⟩ | ⟨n',t',s,h1,h2,rfl,h5,h6⟩⟩
 ·omega
 ·rw [Int.toNat_natCast,h] at h1; cases h1
 ·rw [Int.toNat_natCast] at h5
  exact ⟨g,s,rfl,h5,h6⟩
theorem zkX {K:Ky} {c:Nat} {m p:List Nat} (hk:K.kid < 18446744073709551616) (hc:c < 18446744073709551616):parse (zc8 K c m p) = .ok K.kid c (hdr K.kid c).length:=by
 unfold zc8
 rw [List.append_assoc]
 exact zmq hk hc _
theorem zkY {R:Rc} {n t c st:Nat} {m p base:List Nat} {K:Ky} (hk:K.kid < 16777216) (hc:c < 18446744073709551616) (ht:K.t ≤ 32) (hp:p.length ≤ 1000) (hl:look (((K.kid / 256:Nat):Int),((K.kid % 8:Nat):Int)) R.ch = some (st,base)) (hst:st ≤ K.kid % 256 / 8)
  (hK:keyR R n t K.kid (zdz base (K.kid % 256 / 8 - st)) = K) (hm:mayW (winR R K.kid) c = 0) :
  zeH R n t m (zc8 K c m p) = ({ zgW R n t K.kid (zdz base (K.kid % 256 / 8 - st)) with win:=putl K.kid (zfr (winR R K.kid) c) R.win }, .got (K.kid / 256) (K.kid % 256 / 8) (K.kid % 8) c p):=by
 unfold zeH
 rw [zkX (by omega) hc]
 dsimp only
 rw [if_neg (by omega),hl]
 dsimp only
 rw [if_neg (by omega),if_neg (fun h=>h hm),hK,zqQ ht (by omega) hc hp]
theorem zmu {R:Rc} {n t c st:Nat} {m p base:List Nat} {K:Ky} (hk:K.kid < 16777216) (hc:c < 18446744073709551616) (hl:look (((K.kid / 256:Nat):Int),((K.kid % 8:Nat):Int)) R.ch = some (st,base)) (hst:st ≤ K.kid % 256 / 8)
  (hm:mayW (winR R K.kid) c ≠ 0):zeH R n t m (zc8 K c m p) = (R, .err (mayW (winR R K.kid) c)):=by
 unfold zeH
 rw [zkX (by omega) hc]
 dsimp only
 rw [if_neg (by omega),hl]
 dsimp only
 rw [if_neg (by omega),if_pos hm]
theorem zpU {H:Heap}:Ok (sem T zbb []) H fun r H'=>r = .bool true ∧ Grow H H':=by
 refine zfq ?_
 unfold zdb
 refine zag (zgG (id:=1) (slot:=2) rfl (by decide)) ?_
 rintro _ H1 ⟨s1,s,rfl,hs1,l1⟩
 have n1:=s1.next
 simp (disch:=omega) only [↓RD,RZ,eq_self,seval]
 refine zag (zfl (id:=1) rfl) ?_
 rintro _ H2 ⟨s2,c,rfl,hR2,l2⟩
 have n2:=s2.next
 have hsc:s < c:=Nat.lt_of_lt_of_le hs1.1 l2
 have hs2:=hs1.grow s2
 have G2:=s1.trans s2
 simp (disch:=omega) only [↓RD,RZ,eq_self,seval]
 rw [za5]
 refine zeX (l:=[98,97,115,101]) rfl (by decide) fun bv H3 hb s3=>?_
 have hs3:=hs2.grow s3
 have hR3:=hR2.grow s3
 have G3:=G2.trans s3
 refine zag (Use_ok hs3 (by decide) (show szs ((1:Nat):Int).toNat = some (16,10) from rfl) 0 0 hb (all8 rfl) (by decide)) ?_
 rintro _ H4 ⟨rfl,hs4,a4⟩
 have e4:useS ((1:Nat):Int) ((2:Nat):Int) 16 10 none 0 0 [98,97,115,101] = (some (drv 1 2 16 10 [98,97,115,101],0,0,0),0):=rfl
 rw [e4] at hs4 ⊢
 have hR4:=hR3.snd hs3 a4 hsc
 have G4:=a4.new G3 (by simp; omega)
 simp (disch:=omega) only [↓RD,RZ,eq_self,seval]
 rw [za5]
 refine zeX (l:=[98,97,115,101]) rfl (by decide) fun bv5 H5 hb5 s5=>?_
 have hs5:=hs4.grow s5
 have hR5:=hR4.grow s5
 have G5:=G4.trans s5
 refine zag (zn4 hR5 0 2 0 hb5 (all8 rfl) (by decide)) ?_
 rintro _ H6 ⟨rfl,hR6,a6⟩
 have e6:addR ⟨1,[],[],[]⟩ 0 2 0 [98,97,115,101] = (⟨1,[((0,2),(0,[98,97,115,101]))],[],[]⟩,0):=rfl
 rw [e6] at hR6 ⊢
 have hs6:=hs5.rcv hR5 a6 hsc
 have G6:=a6.new G5 (by simp; omega)
 simp (disch:=omega) only [↓RD,RZ,eq_self,seval]
 rw [za5]
 refine zeX (l:=[120]) rfl (by decide) fun pv H7 hp7 s7=>?_
 have hs7:=hs6.grow s7
 have hR7:=hR6.grow s7
 have G7:=G6.trans s7
 refine zag (zo4 hs7 (Lc.nil:By 0 _ .nils []) Ok8.nil hp7 (all8 rfl) (by decide) (by decide)) ?_
 rintro _ H8 ⟨hs8,a8,h8⟩
 dsimp only at h8
 rw [if_neg (by decide)] at h8
 obtain ⟨v,rfl,hv⟩:=h8
 have hR8:=hR7.snd hs7 a8 hsc
 have G8:=a8.new G7 (by simp; omega)
 have n7:=G7.next
 have t7:=hR7.top
 generalize hK:drv 1 2 16 10 [98,97,115,101] = K at *
 have kk:K.kid = 2:=by rw [← hK]; rfl
 have kt:K.t = 10:=by rw [← hK]; rfl
 have kw:∀ w ∈ K.ws,Word w:=by
  have:=(zlZ (id:=1) (kid:=2) (n:=16) (t:=10) (base:=[98,97,115,101]) rfl (by decide)).ws
  rw [hK] at this
  exact this
 have B8:Ok8 (zc8 K 0 [] [120]):=seal_8 kw (all8 rfl)
 have Bl:=zja (k:=K) (by omega) 0 [] [120]
 have Bh:=znH K.kid 0
 have vp:∀ i,v.pid = some i → i < c ∨ c + 4 ≤ i:=fun i hi=>.inr (by have:=(hv.own i hi).1; omega)
 have o1:zeH ⟨1,[((0,2),(0,[98,97,115,101]))],[],[]⟩ 16 10 [] (zc8 K 0 [] [120]) = (⟨1,[((0,2),(0,[98,97,115,101]))],[(2,(true,0,1))],[(2,K)]⟩, .got 0 0 2 0 [120]):=by
  have:=zkY (R:=⟨1,[((0,2),(0,[98,97,115,101]))],[],[]⟩) (n:=16) (t:=10) (c:=0) (st:=0) (m:=[]) (p:=[120]) (base:=[98,97,115,101]) (K:=K) (by omega) (by decide) (by omega) (by decide) (by rw [kk]; rfl) (by omega) (by rw [kk]; exact hK) (by rw [kk]; rfl)
  rw [kk] at this
  rw [this]
  have e:zgW ⟨1,[((0,2),(0,[98,97,115,101]))],[],[]⟩ 16 10 2 (zdz [98,97,115,101] (2 % 256 / 8 - 0)) = ⟨1,[((0,2),(0,[98,97,115,101]))],[],[(2,drv 1 2 16 10 [98,97,115,101])]⟩:=rfl
  rw [e,hK]
  rfl
 have o2:zeH ⟨1,[((0,2),(0,[98,97,115,101]))],[(2,(true,0,1))],[(2,K)]⟩ 16 10 [] (zc8 K 0 [] [120]) = (⟨1,[((0,2),(0,[98,97,115,101]))],[(2,(true,0,1))],[(2,K)]⟩, .err 9):=by
  have e9:mayW (winR ⟨1,[((0,2),(0,[98,97,115,101]))],[(2,(true,0,1))],[(2,K)]⟩ 2) 0 = 9:=rfl
  have:=zmu (R:=⟨1,[((0,2),(0,[98,97,115,101]))],[(2,(true,0,1))],[(2,K)]⟩) (n:=16) (t:=10) (c:=0) (st:=0) (m:=[]) (p:=[120]) (base:=[98,97,115,101]) (K:=K) (by omega) (by decide) (by rw [kk]; rfl) (by omega) (by rw [kk,e9]; decide)
  rw [kk,e9] at this
  exact this
 simp (disch:=omega) only [↓RD,RZ,eq_self,seval]
 refine zag (zl7 (n:=16) (t:=10) hR8 rfl (Lc.nil:By 0 _ .nils []) Ok8.nil hv B8 (by decide) (by simp at Bl; omega) (fun i hi=>by cases hi) vp) ?_
 rintro _ H9 ⟨h9,hR9,a9⟩
 rw [o1] at h9 hR9
 obtain ⟨v9,rfl,hv9⟩:=h9
 have G9:=a9.new G8 (by simp; omega)
 have hvv9:=Lc.atS hv a9 fun i hi=>by have:=(hv.own i hi).1; simp; omega
 have vc:=hv9.cells1
 have vo:=hv9.okc
 have n8:=a8.next
 have n9:=a9.next
 simp (disch:=omega) only [↓RD,RZ,eq_self,seval,vc,vo]
 have s10:Grow H9 ((H9.new ⟨zay,[.int .i64 0, .int .i64 0, .int .i64 0, .int .u64 0, .nils],none⟩).set H9.next (some ⟨zay,[.int .i64 (0:Nat), .int .i64 (0:Nat), .int .i64 (2:Nat), .int .u64 (0:Nat),v9],none⟩)):=(Grow.new _ _).set (Nat.le_refl _) _
 have g10:((H9.new ⟨zay,[.int .i64 0, .int .i64 0, .int .i64 0, .int .u64 0, .nils],none⟩).set H9.next (some ⟨zay,[.int .i64 (0:Nat), .int .i64 (0:Nat), .int .i64 (2:Nat), .int .u64 (0:Nat),v9],none⟩)).get H9.next = _:=zai _ _ _
 have n10:((H9.new ⟨zay,[.int .i64 0, .int .i64 0, .int .i64 0, .int .u64 0, .nils],none⟩).set H9.next (some ⟨zay,[.int .i64 (0:Nat), .int .i64 (0:Nat), .int .i64 (2:Nat), .int .u64 (0:Nat),v9],none⟩)).next = H9.next + 1:=rfl
 show Ok _ ((H9.new ⟨zay,[.int .i64 0, .int .i64 0, .int .i64 0, .int .u64 0, .nils],none⟩).set H9.next (some ⟨zay,[.int .i64 (0:Nat), .int .i64 (0:Nat), .int .i64 (2:Nat), .int .u64 (0:Nat),v9],none⟩)) _
 generalize hq:H9.next = q at *
 generalize Heap.set _ q _ = H10 at *
 have G10:=G9.trans s10
 refine zag (zl7 (n:=16) (t:=10) (hR9.grow s10) rfl (Lc.nil:By 0 _ .nils []) Ok8.nil (hvv9.ext s10) B8 (by decide) (by simp at Bl; omega) (fun i hi=>by cases hi) vp) ?_
 rintro _ H11 ⟨h11,hR11,a11⟩
 rw [o2] at h11
 have h11:_ = _:=h11
 subst h11
 have G11:=a11.new G10 (by simp; omega)
 have g11:=(a11.same q (by omega) (by simp; omega)).trans g10
 have hp11:=Lc.atS (hv9.ext s10) a11 fun i hi=>by have:=(hv9.own i hi).1; simp; omega
 have s12:=Grow.new H11 ⟨zay,[.int .i64 0, .int .i64 0, .int .i64 0, .int .u64 0, .nils],none⟩
 have n11:=a11.next
 simp (disch:=omega) only [↓RD,RZ,eq_self,seval,g11]
 refine zjE (hp11.ext (s12.set (Nat.le_refl _) _)).rc ?_
 have e12:Ax.bin .eql (.str ⟨(([120]:List Nat).map UInt8.ofNat).toArray⟩) (.str ⟨#[120]⟩) = some (.bool true):=by
  show some (V.bool _) = _
  rw [show (⟨#[120]⟩:ByteArray) = ⟨(([120]:List Nat).map UInt8.ofNat).toArray⟩ from rfl,zoW (all8 rfl) (all8 rfl)]
  rfl
 simp (disch:=omega) only [↓RD,RZ,eq_self,seval,e12]
 exact G11.trans (s12.set (Nat.le_refl _) _)
end Go.Ax.SU
/- Lk10 -/
namespace Go.Ax.SU
open Go.Ax
end Go.Ax.SU
namespace Go.Ax
open SU
end Go.Ax
/- Lk16 -/
namespace Go.Ax.SU
open Go.Ax
theorem zk5 {α:Type} [DecidableEq α] {ek:α → V} {mk:MK} (hk:∀ a b,keq mk (ek a) (ek b) = some (decide (a = b))) (a:α):∀ (l:List (α × V)),a ∉ l.map (·.1) → zk6 mk (ek a) (encM ek l) = true
 | [],_=>rfl
 | (k,v) :: l,h=>by
  simp only [List.map_cons,List.mem_cons,not_or] at h
  rw [zgA]
  simp only [zk6,hk,decide_eq_false (fun e:k = a=>h.1 e.symm),zk5 hk a l h.2,Bool.and_self]
theorem zou {α:Type} [DecidableEq α] {ek:α → V} {p:Bool} {n:Int} (hk:∀ a b,keq (zjU p) (ek a) (ek b) = some (decide (a = b))) {kp:α → Bool} (hkp:∀ a,znz p n (ek a) = some (kp a)):∀ (l:List (α × V)),(l.map (·.1)).Nodup →
  mfil p n (encM ek l) = some (encM ek (l.filter fun q=>kp q.1))
 | [],_=>rfl
 | (k,v) :: l,h=>by
  simp only [List.map_cons,List.nodup_cons] at h
  rw [zgA]
  simp only [mfil,zk5 hk k l h.1,if_true,hkp,Option.bind_some,zou hk hkp l h.2,Option.map_some,List.filter_cons]
  cases kp k <;> rfl
theorem zhi {α β:Type} [DecidableEq α] {ek:α → V} {p:Bool} {o id c:Nat} {n:Int} {H:Heap} {ty:TypeId} {op:Option Nat} {b0:Blk} {l:List (α × V)} {f:V → M β} {Q:β → Heap → Prop} (hk:∀ a b,keq (zjU p) (ek a) (ek b) = some (decide (a = b))) {kp:α → Bool} (hkp:∀ a,znz p n (ek a) = some (kp a))
  (h0:H.get id = some b0) (h1:b0.cells[0 + o]? = some (.mp c)) (hg:H.get c = some ⟨ty,encM ek l,op⟩) (hn:(l.map (·.1)).Nodup)
  (k:Ok (f .undef) (H.set c (some ⟨ty,encM ek (l.filter fun q=>kp q.1),op⟩)) Q):Ok ((mmapdrop p o (.ptr id 0) (.int .i64 n)).bind f) H Q:=by
 refine zaA ⟨_,_,(show mmapdrop p o (.ptr id 0) (.int .i64 n) H = some (.undef,H.set c (some ⟨ty,encM ek (l.filter fun q=>kp q.1),op⟩)) from ?_),k⟩
 simp only [mmapdrop,h0,Option.bind_some,h1,hg,zou hk hkp l hn,Option.map_some]
theorem Al.keys {α β γ:Type} {P:β → γ → Prop}:∀ {l:List (α × β)} {m:List (α × γ)},Al P l m → l.map (·.1) = m.map (·.1)
 | [],[],_=>rfl
 | (k,v) :: l,(k',v') :: m,⟨h1,_,h3⟩=>by rw [List.map_cons,List.map_cons,Al.keys h3]; exact congrArg (· :: _) h1
 | [],_ :: _,h=>h.elim
 | _ :: _,[],h=>h.elim
theorem Al.filter {α β γ:Type} {P:β → γ → Prop} (f:α → Bool):∀ {l:List (α × β)} {m:List (α × γ)},Al P l m → Al P (l.filter fun q=>f q.1) (m.filter fun q=>f q.1)
 | [],[],_=>trivial
 | (k,v) :: l,(k',v') :: m,⟨h1,h2,h3⟩=>by
  have h1:k = k':=h1
  subst h1
  rw [List.filter_cons,List.filter_cons]
  cases hf:f k with
  | true=>simp only [hf,if_true]; exact ⟨rfl,h2,Al.filter f h3⟩
  | false=>simp only [hf,Bool.false_eq_true,if_false]; exact Al.filter f h3
 | [],_ :: _,h=>h.elim
 | _ :: _,[],h=>h.elim
theorem zd2 {α β:Type} (g:β → V) (f:α → Bool):∀ l:List (α × β),(mapv g l).filter (fun q=>f q.1) = mapv g (l.filter fun q=>f q.1)
 | []=>rfl
 | (k,v) :: l=>by
  show ((k,g v) :: mapv g l).filter (fun q=>f q.1) = _
  rw [List.filter_cons,List.filter_cons]
  cases hf:f k with
  | true=>simp only [hf,if_true]; rw [zd2 g f l]; rfl
  | false=>simp only [hf,Bool.false_eq_true,if_false]; exact zd2 g f l
theorem zjV {α β:Type} (g:β → V) (l:List (α × β)):(mapv g l).map (·.1) = l.map (·.1):=by
 unfold mapv
 rw [List.map_map]
 rfl
def keepC (e:Int) (p:Int × Int):Bool:=!decide (p.1 < e)
def zpD (e:Int) (k:Nat):Bool:=!decide (ziE (k:Nat) < e)
def dropR (R:Rc) (e:Int):Rc:={ R with ch:=R.ch.filter (fun p=>keepC e p.1),win:=R.win.filter (fun p=>zpD e p.1),ks:=R.ks.filter (fun p=>zpD e p.1) }
theorem zrc (e:Int) (p:Int × Int):znz true e (eplc p) = some (keepC e p):=rfl
theorem zmF (e:Int) (k:Nat):znz false e (ekid k) = some (zpD e k):=rfl
structure RcN (R:Rc):Prop where
 ch:(R.ch.map (·.1)).Nodup
 win:(R.win.map (·.1)).Nodup
 ks:(R.ks.map (·.1)).Nodup
theorem Drop_ok {H:Heap} {c:Nat} {R:Rc} (hR:RcM H c R) (hN:RcN R) (e:Int):Ok (sem T zbD [.ptr (c + 3) 0, .int .i64 e]) H fun r H'=>r = .tup [] ∧ RcM H' c (dropR R e) ∧ AtS [c,c + 1,c + 2] H H':=by
 refine zga ?_
 unfold zdK
 have htop:=hR.top
 obtain ⟨lc,h1,h2⟩:=hR.ch
 obtain ⟨lk,h3,h4⟩:=hR.ks
 have h5:=hR.win
 have hr:=hR.rcd
 refine zhi (ek:=eplc) (p:=true) zlO (zrc e) hr rfl h1 (by rw [zjV,h2.keys]; exact hN.ch) ?_
 rw [zd2]
 generalize hB0:(⟨tyC,encM eplc (mapv ptrv (lc.filter fun q=>keepC e q.1)),none⟩:Blk) = B0
 have g1:∀ i,i ≠ c → (H.set c (some B0)).get i = H.get i:=fun i hi=>zah _ _ hi
 refine zhi (ek:=ekid) (p:=false) ziA (zmF e) ((g1 _ (by omega)).trans hr) rfl ((g1 _ (by omega)).trans h5) (by rw [zjV]; exact hN.win) ?_
 rw [zd2]
 generalize hB1:(⟨tyW,encM ekid (mapv wsv (R.win.filter fun q=>zpD e q.1)),none⟩:Blk) = B1
 have g2:∀ i,i ≠ c → i ≠ c + 1 → ((H.set c (some B0)).set (c + 1) (some B1)).get i = H.get i:=fun i hi hj=>(zah _ _ hj).trans (g1 i hi)
 refine zhi (ek:=ekid) (p:=false) ziA (zmF e) ((g2 _ (by omega) (by omega)).trans hr) rfl ((g2 _ (by omega) (by omega)).trans h3) (by rw [zjV,h4.keys]; exact hN.ks) ?_
 rw [zd2]
 generalize hB2:(⟨tyK,encM ekid (mapv ptrv (lk.filter fun q=>zpD e q.1)),none⟩:Blk) = B2
 have a1:AtS [c,c + 1,c + 2] H (((H.set c (some B0)).set (c + 1) (some B1)).set (c + 2) (some B2)):=((AtS.set _ (by simp) _).trans (AtS.set _ (by simp) _)).trans (AtS.set _ (by simp) _)
 have k0:(((H.set c (some B0)).set (c + 1) (some B1)).set (c + 2) (some B2)).get c = some B0:=by rw [zah _ _ (by omega),zah _ _ (by omega),zai]
 have k1:(((H.set c (some B0)).set (c + 1) (some B1)).set (c + 2) (some B2)).get (c + 1) = some B1:=by rw [zah _ _ (by omega),zai]
 have k2:(((H.set c (some B0)).set (c + 1) (some B1)).set (c + 2) (some B2)).get (c + 2) = some B2:=zai _ _ _
 have k3:(((H.set c (some B0)).set (c + 1) (some B1)).set (c + 2) (some B2)).get (c + 3) = H.get (c + 3):=by rw [zah _ _ (by omega),zah _ _ (by omega),zah _ _ (by omega)]
 have kn:(((H.set c (some B0)).set (c + 1) (some B1)).set (c + 2) (some B2)).next = H.next:=rfl
 generalize ((H.set c (some B0)).set (c + 1) (some B1)).set (c + 2) (some B2) = H3 at *
 have hS:∀ i ∈ [c,c + 1,c + 2],i < c + 4 ∨ ∃ b,H.get i = some b ∧ OddR b:=fun i hi=>by simp at hi; omega
 have hO:∀ i ∈ [c,c + 1,c + 2],∃ b,H.get i = some b ∧ Odd b:=fun i hi=>by
  obtain ⟨b,hb,ho⟩:=hR.odd i (by simp at hi; omega) (by simp at hi; omega)
  exact ⟨b,hb,ho.1⟩
 subst hB0 hB1 hB2
 refine zfp ⟨_,rfl,rfl,⟨by rw [kn]; exact htop,k3.trans hr,⟨_,k0,(h2.mono fun _ _ g=>g.atS a1 hS).filter (keepC e)⟩,k1,fun p hp=>hR.wr p (List.mem_filter.1 hp).1,⟨_,k2,(h4.mono fun _ _ g=>g.atS a1 hO).filter (zpD e)⟩⟩,a1⟩
/-! Windows of few numbers: 'S': those that were had,a bit each. -/
def revb (S:Nat):Nat → Nat
 | 0=>S % 2
 | h + 1=>S / 2 ^ (h + 1) % 2 + 2 * revb S h
def wOf (S:Nat):WS:=if S = 0 then (false,0,0) else (true,S.log2,revb S S.log2)
def wchk (S k:Nat):Bool:=if S / 2 ^ k % 2 = 1 then mayW (wOf S) k == 9 else mayW (wOf S) k == 0 && decide (zfr (wOf S) k = wOf (S + 2 ^ k))
theorem zn6:((List.range 4096).all fun S=>(List.range 12).all fun k=>wchk S k) = true:=by kernel_rfl
theorem w_had {S k:Nat} (hS:S < 4096) (hk:k < 12) (h:S / 2 ^ k % 2 = 1):mayW (wOf S) k = 9:=by
 have h1:=List.all_eq_true.1 zn6 S (List.mem_range.2 hS)
 have h2:=List.all_eq_true.1 h1 k (List.mem_range.2 hk)
 unfold wchk at h2
 rw [if_pos h] at h2
 simpa using h2
theorem w_new {S k:Nat} (hS:S < 4096) (hk:k < 12) (h:¬ S / 2 ^ k % 2 = 1):mayW (wOf S) k = 0 ∧ zfr (wOf S) k = wOf (S + 2 ^ k):=by
 have h1:=List.all_eq_true.1 zn6 S (List.mem_range.2 hS)
 have h2:=List.all_eq_true.1 h1 k (List.mem_range.2 hk)
 unfold wchk at h2
 rw [if_neg h] at h2
 simpa using h2
end Go.Ax.SU
/- Lk11 -/
namespace Go.Ax.SU
open Go.Ax
end Go.Ax.SU
namespace Go.Ax
open SU
end Go.Ax
/- Lk12 -/
namespace Go.Ax.SU
open Go.Ax
/-! The document's sender in memory. -/
theorem RKs.atS {S:List Nat} {H H':Heap} {R tv sv:V} {K:Ky} (h:RKs H R tv sv K) (s:AtS S H H') (hp:∀ j,R.pid = some j ∨ tv.pid = some j ∨ sv.pid = some j → j ∉ S):RKs H' R tv sv K :=
 ⟨h.good,Lc.atS h.key s fun j hj=>hp j (.inl hj),Lc.atS h.tag s fun j hj=>hp j (.inr (.inl hj)),Lc.atS h.salt s fun j hj=>hp j (.inr (.inr hj))⟩
def rsC (id slot:Int) (any:Bool) (kid c:Nat) (K:List V):List V:=.int .i64 id :: .int .i64 slot :: .bool any :: .int .u64 (kid:Nat) :: .int .u64 (c:Nat) :: K
abbrev tyRS:=zeU
def RsM (H:Heap) (q:Nat) (id slot:Int) (x:SS):Prop:=q < H.next ∧
 match x with
 | none=>H.get q = some ⟨tyRS,rsC id slot false 0 0 Z261,none⟩
 | some (K,e,st,c)=>c < 18446744073709551616 ∧ ∃ R tv sv,H.get q = some ⟨tyRS,rsC id slot true K.kid c (kcell R tv sv K.kid K.t),none⟩ ∧ RKs H R tv sv K ∧ ∀ j,R.pid = some j ∨ tv.pid = some j ∨ sv.pid = some j → q < j
theorem RsM.atS {S:List Nat} {H H':Heap} {q:Nat} {id slot:Int} {x:SS} (h:RsM H q id slot x) (g:AtS S H H') (hS:∀ i ∈ S,i < q):RsM H' q id slot x:=by
 obtain ⟨h0,h1⟩:=h
 have hq:q ∉ S:=fun e=>by have:=hS q e; omega
 refine ⟨Nat.lt_of_lt_of_le h0 g.next,?_⟩
 cases x with
 | none=>exact (g.same q h0 hq).trans h1
 | some w =>
  obtain ⟨K,e,st,c⟩:=w
  obtain ⟨h2,R,tv,sv,h3,h4,h5⟩:=h1
  exact ⟨h2,R,tv,sv,(g.same q h0 hq).trans h3,h4.atS g fun j hj e=>by have:=hS j e; have:=h5 j hj; omega,h5⟩
theorem RsM.grow {H H':Heap} {q:Nat} {id slot:Int} {x:SS} (h:RsM H q id slot x) (g:Grow H H'):RsM H' q id slot x:=h.atS (Grow.atS g []) fun i hi=>by simp at hi
end Go.Ax.SU
/- Lk13 -/
namespace Go.Ax.SU
open Go.Ax
/-! Steps,as data. -/
theorem flat_at {α:Type} {k:Nat}:∀ (es:List (List α)),(∀ x ∈ es,x.length = k) → ∀ (i:Nat) (x:List α),es[i]? = some x → (es.flatten.drop (i * k)).take k = x ∧ i * k + k ≤ es.flatten.length:=by
 intro es
 induction es with
 | nil=>intro _ i x h; simp at h
 | cons y es ih =>
  intro h i x hx
  have hy:=h y List.mem_cons_self
  cases i with
  | zero =>
   simp only [List.getElem?_cons_zero,Option.some.injEq] at hx
   subst hx
   rw [List.flatten_cons,Nat.zero_mul,List.drop_zero,List.take_left' hy,List.length_append]
   exact ⟨rfl,by omega⟩
  | succ i =>
   obtain ⟨h1,h2⟩:=ih (fun z hz=>h z (List.mem_cons_of_mem _ hz)) i x (by simpa using hx)
   have e:(i + 1) * k = k + i * k:=by rw [Nat.succ_mul]; omega
   rw [List.flatten_cons,List.length_append,e,← List.drop_drop,List.drop_left' hy]
   exact ⟨h1,by omega⟩
theorem flat_len {α:Type} {k:Nat} (es:List (List α)) (h:∀ x ∈ es,x.length = k):es.flatten.length = es.length * k:=by
 induction es with
 | nil=>simp
 | cons x es ih=>rw [List.flatten_cons,List.length_append,ih fun y hy=>h y (List.mem_cons_of_mem _ hy),h x (List.mem_cons_self ..),List.length_cons,Nat.succ_mul]; omega
theorem rs_lc {lo e:Nat} {H:Heap} {es:List (List V)} (h:∀ x ∈ es,x.length = e):Lc e lo H (.rs es.flatten es.length) es.flatten es.length:=by
 refine ⟨?_,fun i hi=>(by cases hi),trivial⟩
 have:=flat_len es h
 simp only [zaS]
 rw [if_pos (by omega),List.take_of_length_le (by omega)]
structure Sp where
 op:Int
 e:Int
 st:Int
 m:List Nat
 b:List Nat
end Go.Ax.SU
/- Lk17 -/
namespace Go.Ax.SU
open Go.Ax
/-! Lists of bytes,as data. -/
def BsR (cells:List V) (b:List Nat):Prop:=∃ bv,cells = [bv] ∧ (∀ H,By 0 H bv b) ∧ Ok8 b
theorem sh_bss {vs:List V} (h:Sh.Ty (.sl (.sl (.int .u8))) vs):∃ (v:V) (cs:List (List V × List Nat)),vs = [v] ∧ (∀ w ∈ cs,BsR w.1 w.2) ∧ ∀ H,Lc 1 0 H v (cs.map (·.1)).flatten cs.length:=by
 rcases h with rfl | ⟨es,rfl,_,hes⟩
 ·exact ⟨.nils,[],rfl,fun w h=>(by cases h),fun H=>Lc.nil⟩
 ·obtain ⟨cs,rfl,hcs⟩:=zrh (f:=fun w:List V × List Nat=>w.1) (p:=fun w=>BsR w.1 w.2) es fun x hx=>by
   obtain ⟨bv,b,rfl,k,r⟩:=zqs (hes x hx)
   exact ⟨([bv],b),rfl,bv,rfl,fun H=>k.lc 0,r⟩
  refine ⟨_,cs,rfl,hcs,fun H=>?_⟩
  have:=rs_lc (lo:=0) (H:=H) (e:=1) (es:=cs.map (·.1)) fun x hx=>by
   obtain ⟨w,hw,rfl⟩:=List.mem_map.1 hx
   obtain ⟨_,e,_⟩:=hcs w hw
   rw [e]; rfl
  rw [List.length_map] at this ⊢
  exact this
theorem zrU {H:Heap} {v:V} {cs:List (List V × List Nat)} (h:Lc 1 0 H v (cs.map (·.1)).flatten cs.length) (hc:∀ w ∈ cs,BsR w.1 w.2) {i:Nat} (hi:i < cs.length) :
  ∃ p bv,(∀ {k:IntKind},Ax.iaddr none 1 v (.int k (i:Nat)) = some p) ∧ LdR none H p bv ∧ (∀ H,By 0 H bv cs[i].2) ∧ Ok8 cs[i].2:=by
 have hlen:∀ x ∈ cs.map (·.1),x.length = 1:=fun x hx=>by
  obtain ⟨w,hw,rfl⟩:=List.mem_map.1 hx
  obtain ⟨_,e,_⟩:=hc w hw
  rw [e]; rfl
 obtain ⟨p,hp,hl⟩:=h.at (i:=(i:Nat)) (by omega) (by omega)
 have e:((cs.map (·.1)).flatten.drop ((i:Int).toNat * 1)).take 1 = cs[i].1:=by
  rw [Int.toNat_natCast,(flat_at _ hlen i cs[i].1 (by rw [List.getElem?_map,List.getElem?_eq_getElem hi]; rfl)).1]
 rw [e] at hl
 obtain ⟨bv,eb,hb,b8⟩:=hc _ (List.getElem_mem hi)
 refine ⟨p,bv,hp,fun f Q=>?_,hb,b8⟩
 have:=hl.ld0 (by rw [eb]; exact Nat.zero_lt_one) (f:=f) (Q:=Q)
 rw [this,eb]
 exact Iff.rfl
theorem u8_at {lo:Nat} {H:Heap} {v:V} {l:List Nat} (h:By lo H v l) {i:Nat} (hi:i < l.length):∃ p,(∀ {k:IntKind},Ax.iaddr none 1 v (.int k (i:Nat)) = some p) ∧ LdR none H p (by8 l[i]):=by
 obtain ⟨p,hp,hl⟩:=Lc.at h (i:=(i:Nat)) (by omega) (by omega)
 have e:((l.map by8).drop ((i:Int).toNat * 1)).take 1 = [by8 l[i]]:=by
  rw [Int.toNat_natCast,Nat.mul_one,List.drop_eq_getElem_cons (by rw [List.length_map]; exact hi),List.getElem_map]
  rfl
 rw [e] at hl
 refine ⟨p,hp,fun f Q=>?_⟩
 have:=hl.ld0 Nat.zero_lt_one (f:=f) (Q:=Q)
 rw [this]
 exact Iff.rfl
theorem _root_.Go.Ax.App.blk {ty e lo n:Nat} {H:Heap} {v:V} {cells:List V} (h:App ty e lo H v cells n):∀ i,v.pid = some i → ∃ o,H.get i = some ⟨ty,cells,o⟩:=by
 intro i hi
 cases h with
 | opn h ho =>
  rcases h with ⟨rfl,_⟩ | ⟨id,rfl,hg,_⟩
  ·cases hi
  ·simp only [V.pid,Option.some.injEq] at hi
   subst hi
   exact ⟨_,hg⟩
 | lit h h0 h1 =>
  simp only [V.pid,Option.some.injEq] at hi
  subst hi
  exact ⟨_,h⟩
theorem _root_.Go.Ax.App.atS {ty e lo n:Nat} {S:List Nat} {H H':Heap} {v:V} {cells:List V} (h:App ty e lo H v cells n) (s:AtS S H H') (hS:∀ i,v.pid = some i → i ∉ S):App ty e lo H' v cells n:=by
 cases h with
 | opn h ho=>exact .opn (h.to fun i hi=>s.same i (ho i hi).2 (hS i hi)) fun i hi=>⟨(ho i hi).1,Nat.lt_of_lt_of_le (ho i hi).2 s.next⟩
 | lit h h0 h1=>exact .lit ((s.same _ h1 (hS _ rfl)).trans h) h0 (Nat.lt_of_lt_of_le h1 s.next)
theorem _root_.Go.Ax.Step.atS {H H':Heap} {F F':List Nat} (h:Step H H' F F'):AtS F H H':=⟨h.next,h.same⟩
theorem odd_bss {cs:List V} {o:Option Nat} (h:∀ v ∈ cs,∀ n,v ≠ .int .u8 n):OddR ⟨zal,cs,o⟩ :=
 ⟨⟨show zal ≠ zaC by decide,show zal ≠ zaD by decide,show zal ≠ zaq by decide,h⟩,show zal ≠ zad by decide,show zal ≠ zaB by decide⟩
theorem By.nu8 {lo:Nat} {H:Heap} {v:V} {l:List Nat} (h:By lo H v l):∀ n,v ≠ .int .u8 n:=fun n e=>by
 have:=h.rc
 rw [e] at this
 cases this
structure Sl (lo:Nat) (H:Heap) (sv:V) (vs:List V) (K:Ky) (cs:List (List V × List Nat)) (n:Nat):Prop where
 app:App zal 1 lo H sv vs n
 len:vs.length = n
 le:n ≤ cs.length
 each:∀ j (hj:j < n) (hc:j < cs.length),∃ v,vs[j]? = some v ∧ By lo H v (zc8 K j [109] cs[j].2) ∧ ∀ q,v.pid = some q → sv.pid ≠ some q
 short:∀ j (hc:j < cs.length),j < n → cs[j].2.length ≤ 300
theorem Sl.atS {lo n:Nat} {S:List Nat} {H H':Heap} {sv:V} {vs:List V} {K:Ky} {cs:List (List V × List Nat)} (h:Sl lo H sv vs K cs n) (s:AtS S H H') (hS:∀ i ∈ S,i < lo):Sl lo H' sv vs K cs n :=
 ⟨h.app.atS s fun i hi e=>by have:=(h.app.lc.own i hi).1; have:=hS i e; omega,h.len,h.le,fun j hj hc=>by
  obtain ⟨v,h1,h2,h3⟩:=h.each j hj hc
  exact ⟨v,h1,Lc.atS h2 s fun i hi e=>by have:=(h2.own i hi).1; have:=hS i e; omega,h3⟩,h.short⟩
theorem Sl.odd {lo n:Nat} {H:Heap} {sv:V} {vs:List V} {K:Ky} {cs:List (List V × List Nat)} (h:Sl lo H sv vs K cs n):∀ i ∈ sv.pid.toList,∃ b,H.get i = some b ∧ OddR b:=fun i hi=>by
 obtain ⟨o,hb⟩:=h.app.blk i (by simpa [zeJ] using hi)
 refine ⟨_,hb,odd_bss fun v hv=>?_⟩
 obtain ⟨j,hj,rfl⟩:=List.mem_iff_getElem.1 hv
 have hl:=h.len
 have hc:=h.le
 obtain ⟨u,h1,h2,_⟩:=h.each j (by omega) (by omega)
 rw [List.getElem?_eq_getElem hj] at h1
 injection h1 with h1
 rw [h1]
 exact h2.nu8
theorem zqu {H:Heap} {s c id:Nat} {K:Ky} {pv:V} {cs:List (List V × List Nat)} {R:Rc} (hc:∀ w ∈ cs,BsR w.1 w.2) (hv:∀ H,Lc 1 0 H pv (cs.map (·.1)).flatten cs.length) (hl:cs.length ≤ 12) (hx:SndM 0 H s (id:Nat) 5 (some (K,9,3,0))) (hR:RcM H c R) (hsc:s < c) :
  Ok (M.iter (zaW (sem T) (.ptr s 0) pv) [.nils, .int .i64 0]) H fun r H'=>r = .ret [.bool true] ∨ ∃ sv vs,r = .ex 0 [sv] ∧ Sl H.next H' sv vs K cs cs.length ∧ RcM H' c R:=by
 have htop:=hR.top
 refine zaG (fun i L H'=>∃ sv vs,L = [sv, .int .i64 (i:Nat)] ∧ SndM 0 H' s (id:Nat) 5 (some (K,9,3,i)) ∧ RcM H' c R ∧ H.next ≤ H'.next ∧ Sl H.next H' sv vs K cs i) cs.length ?_ ?_ ?_
 ·exact ⟨.nils,[],rfl,hx,hR,Nat.le_refl _, .nil,rfl,Nat.zero_le _,fun j hj=>by omega,fun j _ hj=>by omega⟩
 ·rintro i _ H1 hi ⟨sv,vs,rfl,hx1,hR1,n1,hsl⟩
  have hvl:=(hv H1).vlen
  obtain ⟨p,bv,hp,hld,hb,b8⟩:=zrU (hv H1) hc hi
  have d1:decide (((i:Nat):Int) < ((cs.length:Nat):Int)) = true:=decide_eq_true (by omega)
  have d1':decide (i < cs.length) = true:=decide_eq_true hi
  have bl:=(hb H1).vlen
  unfold zaW
  simp (maxSteps:=1000000) (disch:=first | omega | (simp only [RY] <;> omega) | decide) only [↓RD,RZ,eq_self,Int.reduceToNat,Int.reduceAdd,Int.reduceSub,Int.reduceMul,Nat.reduceAdd,Nat.reduceSub,Nat.reduceMul,Nat.reduceDiv,Nat.reduceMod,Nat.reduceBEq,Nat.reduceLeDiff,hvl,d1,d1',hp,hld,bl]
  by_cases h3:300 < cs[i].2.length
  ·have d3:decide ((300:Int) < ((cs[i].2.length:Nat):Int)) = true:=decide_eq_true (by omega)
   have d3':decide (300 < cs[i].2.length) = true:=decide_eq_true h3
   simp (maxSteps:=1000000) (disch:=first | omega | (simp only [RY] <;> omega) | decide) only [↓RD,RZ,eq_self,Int.reduceToNat,Int.reduceAdd,Int.reduceSub,Int.reduceMul,Nat.reduceAdd,Nat.reduceSub,Nat.reduceMul,Nat.reduceDiv,Nat.reduceMod,Nat.reduceBEq,Nat.reduceLeDiff,d3,d3']
   exact .inl trivial
  have d3:decide ((300:Int) < ((cs[i].2.length:Nat):Int)) = false:=decide_eq_false (by omega)
  have d3':decide (300 < cs[i].2.length) = false:=decide_eq_false h3
  simp (maxSteps:=1000000) (disch:=first | omega | (simp only [RY] <;> omega) | decide) only [↓RD,RZ,eq_self,Int.reduceToNat,Int.reduceAdd,Int.reduceSub,Int.reduceMul,Nat.reduceAdd,Nat.reduceSub,Nat.reduceMul,Nat.reduceDiv,Nat.reduceMod,Nat.reduceBEq,Nat.reduceLeDiff,d3,d3']
  rw [za5]
  refine zeX (l:=[109]) rfl (by decide) fun mv H2 hm s2=>?_
  obtain ⟨p2,bv2,hp2,hld2,hb2,_⟩:=zrU (hv H2) hc hi
  have n2:=s2.next
  simp (maxSteps:=1000000) (disch:=first | omega | (simp only [RY] <;> omega) | decide) only [↓RD,RZ,eq_self,Int.reduceToNat,Int.reduceAdd,Int.reduceSub,Int.reduceMul,Nat.reduceAdd,Nat.reduceSub,Nat.reduceMul,Nat.reduceDiv,Nat.reduceMod,Nat.reduceBEq,Nat.reduceLeDiff,hp2,hld2]
  have hx2:=hx1.grow s2
  have hR2:=hR1.grow s2
  have hsl2:=hsl.atS (Grow.atS s2 []) (by simp)
  refine zag (zo4 hx2 hm (all8 rfl) (hb2 H2) b8 (by decide) (by omega)) ?_
  rintro _ H3 ⟨hx3,a3,h3q⟩
  dsimp only at h3q
  rw [if_neg (by omega)] at h3q
  obtain ⟨v,rfl,hv3⟩:=h3q
  have es:zqv (some (K,9,3,i)) cs[i].2 = some (K,9,3,i + 1):=by
   unfold zqv
   dsimp only
   rw [if_neg (by omega),Nat.mod_eq_of_lt (by omega)]
  rw [es] at hx3
  have hR3:=hR2.snd hx2 a3 hsc
  have n3:=a3.next
  have hsl3:=hsl2.atS a3 fun i hi=>by simp at hi; omega
  have vc:=hv3.cells1
  have vo:=hv3.okc
  simp (maxSteps:=1000000) (disch:=first | omega | (simp only [RY] <;> omega) | decide) only [↓RD,RZ,eq_self,Int.reduceToNat,Int.reduceAdd,Int.reduceSub,Int.reduceMul,Nat.reduceAdd,Nat.reduceSub,Nat.reduceMul,Nat.reduceDiv,Nat.reduceMod,Nat.reduceBEq,Nat.reduceLeDiff,vc,vo,bne_self_eq_false]
  have s4:=Grow.new H3 ⟨zal,[v],none⟩
  have g4:(H3.new ⟨zal,[v],none⟩).get H3.next = some ⟨zal,[v],none⟩:=zac _ _
  have n4:(H3.new ⟨zal,[v],none⟩).next = H3.next + 1:=zae _ _
  generalize hq:H3.next = q at *
  generalize H3.new _ = H4 at *
  have hsl4:=hsl3.atS (Grow.atS s4 []) (by simp)
  have hx4:=hx3.grow s4
  have hR4:=hR3.grow s4
  have hv4:=hv3.ext s4
  have ac:zcw 1 H4 (.sl q 0 1 (.fix 1)) = some ([v],1):=by
   simp only [zcw,zaS,g4,Option.bind_some]
   rfl
  rw [za5]
  refine zlC hsl4.app (by omega) ac rfl (by omega) (by omega) fun x' H5 hx' st=>?_
  have a5:=st.atS
  have n5:=a5.next
  have hpl:∀ i ∈ sv.pid.toList,H.next ≤ i:=fun i hi=>(hsl4.app.lc.own i (by simpa [zeJ] using hi)).1
  have hs0:=hx.1
  have hx5:=hx4.atS a5 (fun e=>by have:=hpl _ e; omega) fun i hi=>by
   obtain ⟨b,hb,ho⟩:=hsl4.odd i hi
   exact ⟨b,hb,ho.1⟩
  have hR5:=hR4.atS a5 (fun i hi=>.inr (by have:=hpl _ hi; omega)) hsl4.odd
  simp (maxSteps:=1000000) (disch:=first | omega | (simp only [RY] <;> omega) | decide) only [↓RD,RZ,eq_self,Int.reduceToNat,Int.reduceAdd,Int.reduceSub,Int.reduceMul,Nat.reduceAdd,Nat.reduceSub,Nat.reduceMul,Nat.reduceDiv,Nat.reduceMod,Nat.reduceBEq,Nat.reduceLeDiff]
  have hvs:∀ q',v.pid = some q' → H2.next ≤ q':=fun q' hq'=>(hv3.own q' hq').1
  refine ⟨x',vs ++ [v],rfl,hx5,hR5,by omega,hx',by simp [hsl4.len],by omega,fun j hj hjc=>?_,fun j hjc hj=>?_⟩
  ·have hxp:∀ q',x'.pid = some q' → q' ∈ sv.pid.toList ∨ H4.next ≤ q':=fun q' hq'=>(st.own q' (by simp [hq'])).imp (fun h=>h) fun h=>h.1
   by_cases hji:j < i
   ·obtain ⟨u,h1,h2,h3'⟩:=hsl4.each j hji hjc
    refine ⟨u,by rw [List.getElem?_append_left (by rw [hsl4.len]; exact hji)]; exact h1,Lc.atS h2 a5 fun i' hi' e=>h3' i' hi' (by simpa [zeJ] using e),fun q' hq' e=>?_⟩
    rcases hxp q' e with h | h
    ·exact h3' q' hq' (by simpa [zeJ] using h)
    ·have:=(h2.own q' hq').2; omega
   ·have hjj:j = i:=by omega
    subst hjj
    refine ⟨v,by rw [List.getElem?_append_right (by rw [hsl4.len]; exact Nat.le_refl _),hsl4.len]; simp,?_,fun q' hq' e=>?_⟩
    ·refine Lc.atS (hv4.low (by omega)) a5 fun i' hi' e=>?_
     have h1:=hvs i' hi'
     have h2:=(hsl2.app.lc.own i' (by simpa [zeJ] using e)).2
     omega
    ·rcases hxp q' e with h | h
     ·have h1:=hvs q' hq'
      have h2:=(hsl2.app.lc.own q' (by simpa [zeJ] using h)).2
      omega
     ·have:=(hv4.own q' hq').2; omega
  ·by_cases hji:j < i
   ·exact hsl4.short j hjc hji
   ·have hjj:j = i:=by omega
    subst hjj
    omega
 ·rintro _ H1 ⟨sv,vs,rfl,hx1,hR1,n1,hsl⟩
  have hvl:=(hv H1).vlen
  have d1:decide (((cs.length:Nat):Int) < ((cs.length:Nat):Int)) = false:=decide_eq_false (by omega)
  have d1':decide (cs.length < cs.length) = false:=decide_eq_false (by omega)
  unfold zaW
  simp (maxSteps:=1000000) (disch:=first | omega | (simp only [RY] <;> omega) | decide) only [↓RD,RZ,eq_self,Int.reduceToNat,Int.reduceAdd,Int.reduceSub,Int.reduceMul,Nat.reduceAdd,Nat.reduceSub,Nat.reduceMul,Nat.reduceDiv,Nat.reduceMod,Nat.reduceBEq,Nat.reduceLeDiff,hvl,d1,d1']
  exact .inr ⟨sv,vs,rfl,hsl,hR1⟩
end Go.Ax.SU
/- Lk14 -/
namespace Go.Ax.SU
open Go.Ax
theorem zmy {β:Type} {H:Heap} {ty:TypeId} {n:Nat} {zs cs:List V} {f:V → V → M β} {Q:β → Heap → Prop} (hz:zs.length = n) (hl:cs.length = n) (k:∀ q H',q = H.next → H'.get q = some ⟨ty,cs,none⟩ → Grow H H' → H'.next = H.next + 1 → Ok (f (.ptr q 0) .undef) H' Q) :
  Ok ((mbox ty (.agg zs)).bind fun t=>(mstore n t (.agg cs)).bind fun u=>f t u) H Q:=by
 refine zaA (zda rfl ?_)
 rw [zaw]
 have g:=zac H ⟨ty,zs,none⟩
 refine zaA (zor g (by rw [zaw]; exact hl) (by show 0 + n ≤ zs.length; omega) rfl ?_)
 refine k _ _ rfl ?_ ((Grow.new _ _).set (Nat.le_refl _) _) rfl
 rw [zai,zaw]
 congr 2
 unfold splice
 rw [List.take_zero,List.nil_append,List.drop_of_length_le (by show zs.length ≤ 0 + cs.length; omega),List.append_nil]
theorem By.free {v:V} {l:List Nat} (h:∀ H,By 0 H v l):∀ i,v.pid ≠ some i:=fun i hi=>by
 have:=((h H0).own i hi).2
 exact absurd this (Nat.not_lt_zero _)
theorem RsM.ty {H:Heap} {q:Nat} {id slot:Int} {x:SS} (h:RsM H q id slot x):∃ b,H.get q = some b ∧ b.ty ≠ zaC ∧ b.ty ≠ zaD ∧ b.ty ≠ zaq:=by
 obtain ⟨h0,h1⟩:=h
 cases x with
 | none=>exact ⟨_,h1,show tyRS ≠ zaC by decide,show tyRS ≠ zaD by decide,show tyRS ≠ zaq by decide⟩
 | some w =>
  obtain ⟨K,e,st,c⟩:=w
  obtain ⟨_,R,tv,sv,h3,_⟩:=h1
  exact ⟨_,h3,show tyRS ≠ zaC by decide,show tyRS ≠ zaD by decide,show tyRS ≠ zaq by decide⟩
end Go.Ax.SU
/- Lk18 -/
namespace Go.Ax.SU
open Go.Ax
def valB:List Bool → Nat
 | []=>0
 | b :: l=>b.toNat + 2 * valB l
theorem zqe:∀ l:List Bool,valB l < 2 ^ l.length
 | []=>by simp [valB]
 | b :: l=>by
  have:=zqe l
  have hb:b.toNat ≤ 1:=by cases b <;> decide
  simp only [valB,List.length_cons,Nat.pow_succ]
  omega
theorem zn8:∀ (l:List Bool) (j:Nat),valB l / 2 ^ j % 2 = (l.getD j false).toNat
 | [],j=>by simp [valB]
 | b :: l,0=>by
  simp only [valB,Nat.pow_zero,Nat.div_one,List.getD_cons_zero]
  cases b <;> simp [Bool.toNat] <;> omega
 | b :: l,j + 1=>by
  have hb:b.toNat ≤ 1:=by cases b <;> decide
  rw [List.getD_cons_succ,← zn8 l j,Nat.pow_succ,Nat.mul_comm (2 ^ j) 2,← Nat.div_div_eq_div_mul]
  simp only [valB]
  rw [show (b.toNat + 2 * valB l) / 2 = valB l by omega]
theorem zn7:∀ (l:List Bool) (k:Nat),l[k]? = some false → valB (l.set k true) = valB l + 2 ^ k
 | [],k,h=>by simp at h
 | b :: l,0,h=>by
  simp only [List.getElem?_cons_zero,Option.some.injEq] at h
  subst h
  simp only [List.set_cons_zero,valB,Bool.toNat_true,Bool.toNat_false,Nat.pow_zero]
  omega
 | b :: l,k + 1,h=>by
  simp only [List.getElem?_cons_succ] at h
  simp only [List.set_cons_succ,valB,zn7 l k h,Nat.pow_succ]
  omega
theorem valB_rep (n:Nat):valB (List.replicate n false) = 0:=by
 induction n with
 | zero=>rfl
 | succ n ih=>rw [List.replicate_succ,valB,ih]; rfl
def Rw (id:Nat) (base:List Nat) (K:Ky) (S:Nat):Rc :=
 if S = 0 then ⟨id,[((9,5),(3,base))],[],[]⟩ else ⟨id,[((9,5),(3,base))],[(2333,wOf S)],[(2333,K)]⟩
theorem open_rw {id n t S k:Nat} {base p:List Nat} {K:Ky} (hK:drv id 2333 n t base = K) (ht:K.t ≤ 32) (hS:S < 4096) (hk:k < 12) (hp:p.length ≤ 1000) :
  zeH (Rw id base K S) n t [109] (zc8 K k [109] p) = if S / 2 ^ k % 2 = 1 then (Rw id base K S, .err 9) else (Rw id base K (S + 2 ^ k), .got 9 3 5 k p):=by
 have kk:K.kid = 2333:=by rw [← hK]; rfl
 have hl:look (((K.kid / 256:Nat):Int),((K.kid % 8:Nat):Int)) (Rw id base K S).ch = some (3,base):=by
  rw [kk]; unfold Rw; split <;> rfl
 have hw:winR (Rw id base K S) K.kid = wOf S:=by
  rw [kk]; unfold Rw
  split
  ·rename_i h; subst h; rfl
  ·rfl
 have a0:zdz base (K.kid % 256 / 8 - 3) = base:=by rw [kk]; rfl
 have hid:(Rw id base K S).id = id:=by unfold Rw; split <;> rfl
 have hk':keyR (Rw id base K S) n t K.kid (zdz base (K.kid % 256 / 8 - 3)) = K:=by
  rw [a0]
  unfold keyR
  rw [hid,kk,hK]
  unfold Rw
  split <;> rfl
 by_cases hb:S / 2 ^ k % 2 = 1
 ·rw [if_pos hb]
  have hm:=w_had hS hk hb
  rw [zmu (by omega) (by omega) hl (by rw [kk]; decide) (by rw [hw,hm]; decide),hw,hm]
 ·rw [if_neg hb]
  obtain ⟨h1,h2⟩:=w_new hS hk hb
  rw [zkY (by omega) (by omega) ht hp hl (by rw [kk]; decide) hk' (by rw [hw]; exact h1),hw,h2,a0,kk]
  have hz:0 < 2 ^ k:=Nat.pow_pos (by decide)
  have hid':(Rw id base K S).id = id:=hid
  refine Prod.ext ?_ rfl
  show ({ zgW (Rw id base K S) n t 2333 base with win:=putl 2333 (wOf (S + 2 ^ k)) (Rw id base K S).win }:Rc) = Rw id base K (S + 2 ^ k)
  unfold zgW
  by_cases h0:S = 0
  ·have e:Rw id base K S = ⟨id,[((9,5),(3,base))],[],[]⟩:=by unfold Rw; rw [if_pos h0]
   have e2:Rw id base K (S + 2 ^ k) = ⟨id,[((9,5),(3,base))],[(2333,wOf (S + 2 ^ k))],[(2333,K)]⟩:=by unfold Rw; rw [if_neg (by omega)]
   rw [e,e2]
   show ({ id:=id,ch:=[((9,5),(3,base))],win:=[(2333,wOf (S + 2 ^ k))],ks:=[(2333,drv id 2333 n t base)] }:Rc) = _
   rw [hK]
  ·have e:Rw id base K S = ⟨id,[((9,5),(3,base))],[(2333,wOf S)],[(2333,K)]⟩:=by unfold Rw; rw [if_neg h0]
   have e2:Rw id base K (S + 2 ^ k) = ⟨id,[((9,5),(3,base))],[(2333,wOf (S + 2 ^ k))],[(2333,K)]⟩:=by unfold Rw; rw [if_neg (by omega)]
   rw [e,e2]
   rfl
theorem set_bool {l:List Bool} {k:Nat} (hk:k < l.length):splice (l.map V.bool) k [.bool true] = (l.set k true).map V.bool:=by
 rw [List.map_set]
 unfold splice
 rw [List.set_eq_take_append_cons_drop,if_pos (by rw [List.length_map]; exact hk)]
 simp
theorem zpe {l:List Bool} {k:Nat} (h:l[k]? = some true):l.set k true = l:=by
 obtain ⟨hk,h⟩:=List.getElem?_eq_some_iff.1 h
 rw [← h]
 exact List.set_getElem_self hk
theorem zqR {H:Heap} {c lo hb id n t m:Nat} {K:Ky} {base os:List Nat} {ov pv sv:V} {vs:List V} {cs:List (List V × List Nat)} (hsz:szs id = some (n,t)) (hK:drv id 2333 n t base = K) (ht:K.t ≤ 32)
  (hm:m = cs.length) (hm0:0 < m) (hm12:m ≤ 12) (hc:∀ w ∈ cs,BsR w.1 w.2) (hv:∀ H,Lc 1 0 H pv (cs.map (·.1)).flatten cs.length) (ho:∀ H,By 0 H ov os) (o8:Ok8 os)
  (hS:Sl lo H sv vs K cs m) (hR:RcM H c (Rw id base K 0)) (hcl:c + 4 ≤ lo) (hg:H.get hb = some ⟨zb6,List.replicate m (.bool false),none⟩) (hbl:hb < H.next) (hbc:c + 4 ≤ hb) (hbs:∀ (j:Nat) (v:V),vs[j]? = some v → v.pid ≠ some hb) (hbv:sv.pid ≠ some hb) (k8:∀ w ∈ K.ws,Word w) :
  Ok (M.iter (zaV (sem T) ov (.ptr (c + 3) 0) sv pv (.sl hb 0 m (.fix m))) [.int .i64 0]) H fun r H'=>r = .ex 2 []:=by
 refine zaG (fun i L H'=>L = [.int .i64 (i:Nat)] ∧ ∃ had:List Bool,had.length = m ∧ RcM H' c (Rw id base K (valB had)) ∧ Sl lo H' sv vs K cs m ∧ H'.get hb = some ⟨zb6,had.map V.bool,none⟩ ∧ hb < H'.next) (min os.length 30) ?_ ?_ ?_
 ·exact ⟨rfl,List.replicate m false,List.length_replicate,by rw [valB_rep]; exact hR,hS,by rw [List.map_replicate]; exact hg,hbl⟩
 ·rintro i _ H1 hi ⟨rfl,had,hhl,hR1,hS1,hg1,hb1⟩
  have hvl:=(ho H1).vlen
  have hi1:i < os.length:=by omega
  obtain ⟨p,hp,hld⟩:=u8_at (ho H1) hi1
  have ho8:=o8 _ (List.getElem_mem hi1)
  generalize os[i] = o at *
  have d1:decide (((i:Nat):Int) < ((os.length:Nat):Int)) = true:=decide_eq_true (by omega)
  have d1':decide (i < os.length) = true:=decide_eq_true hi1
  have d2:decide (((i:Nat):Int) < 30) = true:=decide_eq_true (by omega)
  have d2':decide (i < 30) = true:=decide_eq_true (by omega)
  have pvl:=(hv H1).vlen
  rw [← hm] at pvl
  obtain ⟨k,hk⟩:∃ k,k = o % m:=⟨_,rfl⟩
  have hkm:k < m:=by rw [hk]; exact Nat.mod_lt _ hm0
  have w1:IntKind.i64.wrap ((o:Nat):Int) = ((o:Nat):Int):=wrap_i64 (by omega) (by omega)
  have rm:Ax.bin .rem (.int .i64 (o:Nat)) (.int .i64 (m:Nat)) = some (.int .i64 (k:Nat)):=by rw [znV (by omega),Go.IntWalk.rem_in _ _ (by omega),hk]; rfl
  unfold zaV
  unfold by8 at hld
  simp (maxSteps:=1000000) (disch:=first | omega | (simp only [RY] <;> omega) | decide) only [↓RD,RZ,eq_self,Int.reduceToNat,Int.reduceAdd,Int.reduceSub,Int.reduceMul,Nat.reduceAdd,Nat.reduceSub,Nat.reduceMul,Nat.reduceDiv,Nat.reduceMod,Nat.reduceBEq,Nat.reduceLeDiff,hvl,d1,d1',d2,d2',hp,hld,w1,pvl,rm]
  rw [za5]
  refine zeX (l:=[109]) rfl (by decide) fun mv H2 hmv s2=>?_
  have n2:=s2.next
  have hR2:=hR1.grow s2
  have hS2:=hS1.atS (Grow.atS s2 []) (by simp)
  have hg2:=(s2.same hb hb1).trans hg1
  have top1:=hR1.top
  -- what was sealed
  obtain ⟨v,hvj,hvb,hvp⟩:=hS2.each k hkm (by omega)
  have hsh:=hS2.short k (by omega) hkm
  obtain ⟨ps,hps,hpl⟩:=Lc.at hS2.app.lc (i:=(k:Nat)) (by omega) (by omega)
  have e1:(vs.drop ((k:Int).toNat * 1)).take 1 = [v]:=by
   have hkl:k < vs.length:=by rw [hS2.len]; exact hkm
   rw [Int.toNat_natCast,Nat.mul_one,List.drop_eq_getElem_cons hkl]
   rw [List.getElem?_eq_getElem hkl] at hvj
   injection hvj with hvj
   rw [hvj]; rfl
  rw [e1] at hpl
  have hlds:LdR none H2 ps v:=fun f Q=>by
   have:=hpl.ld0 Nat.zero_lt_one (f:=f) (Q:=Q)
   rw [this]
   exact Iff.rfl
  simp (maxSteps:=1000000) (disch:=first | omega | (simp only [RY] <;> omega) | decide) only [↓RD,RZ,eq_self,Int.reduceToNat,Int.reduceAdd,Int.reduceSub,Int.reduceMul,Nat.reduceAdd,Nat.reduceSub,Nat.reduceMul,Nat.reduceDiv,Nat.reduceMod,Nat.reduceBEq,Nat.reduceLeDiff,hps,hlds]
  have P8:Ok8 cs[k].2:=by
   obtain ⟨_,_,_,h⟩:=hc _ (List.getElem_mem (show k < cs.length by omega))
   exact h
  generalize hpk:cs[k].2 = P at *
  have B8:Ok8 (zc8 K k [109] P):=seal_8 k8 P8
  have Bl:=zja (k:=K) ht k [109] P
  have Bh:=znH K.kid k
  have hmvp:∀ i,mv.pid = some i → i < c ∨ c + 4 ≤ i:=fun i hi=>.inr (by have:=(hmv.own i hi).1; omega)
  have hvvp:∀ i,v.pid = some i → i < c ∨ c + 4 ≤ i:=fun i hi=>.inr (by have:=(hvb.own i hi).1; omega)
  have hidr:(Rw id base K (valB had)).id = id:=by unfold Rw; split <;> rfl
  refine zag (zl7 (n:=n) (t:=t) hR2 (by rw [hidr]; exact hsz) hmv (all8 rfl) hvb B8 (by decide) (by omega) hmvp hvvp) ?_
  rintro r3 H3 ⟨h3,hR3,a3⟩
  have hlt:valB had < 4096:=Nat.lt_of_lt_of_le (zqe had) (by rw [hhl]; exact Nat.pow_le_pow_right (n:=2) (by decide) hm12)
  rw [open_rw hK ht hlt (by omega) (by omega),zn8] at h3 hR3
  have hhk:had[k]? = some (had.getD k false):=by
   rw [List.getD_eq_getElem?_getD,List.getElem?_eq_getElem (by omega)]; rfl
  have n3:=a3.next
  have hg3:=(a3.same hb (by omega) (by simp; omega)).trans hg2
  have hS3:=hS2.atS a3 fun i hi=>by simp at hi; omega
  have ia:∀ {kk:IntKind},Ax.iaddr none 1 (.sl hb 0 m (.fix m)) (.int kk (k:Nat)) = some (.ptr hb k):=fun {kk}=>by
   rw [zjf (by omega) (by omega)]; simp
  have hck:(had.map V.bool)[k]? = some (.bool (had.getD k false)):=by rw [List.getElem?_map,hhk]; rfl
  have fin:∀ (H9:Heap) (had':List Bool),had'.length = m → RcM H9 c (Rw id base K (valB had')) → Sl lo H9 sv vs K cs m → H9.get hb = some ⟨zb6,had.map V.bool,none⟩ → had.set k true = had' → hb < H9.next →
    k + 1 ≤ (had.map V.bool).length ∧ [V.int .i64 (((i:Nat):Int) + 1)] = [V.int .i64 ((i + 1:Nat):Int)] ∧ ∃ had1:List Bool,had1.length = m ∧ RcM (H9.set hb (some ⟨zb6,splice (had.map V.bool) k [.bool true],none⟩)) c (Rw id base K (valB had1)) ∧
     Sl lo (H9.set hb (some ⟨zb6,splice (had.map V.bool) k [.bool true],none⟩)) sv vs K cs m ∧ some (⟨zb6,splice (had.map V.bool) k [.bool true],none⟩:Blk) = some ⟨zb6,had1.map V.bool,none⟩ ∧ hb < H9.next:=by
   rintro H9 had' hl9 hR9 hS9 hg9 rfl hb9
   rw [set_bool (by omega)]
   have a9:AtS [hb] H9 (H9.set hb (some ⟨zb6,(had.set k true).map V.bool,none⟩)):=AtS.set _ (by simp) _
   refine ⟨by rw [List.length_map]; omega,rfl,had.set k true,hl9,hR9.atS a9 (fun i hi=>.inr (by simp at hi; omega)) fun i hi=>?_,?_,rfl,hb9⟩
   ·simp only [List.mem_singleton] at hi
    subst hi
    exact ⟨_,hg9,⟨show zb6 ≠ zaC by decide,show zb6 ≠ zaD by decide,show zb6 ≠ zaq by decide,fun v hv n e=>by
     obtain ⟨b,_,rfl⟩:=List.mem_map.1 hv
     cases e⟩,show zb6 ≠ zad by decide,show zb6 ≠ zaB by decide⟩
   ·exact ⟨hS9.app.atS a9 fun i hi e=>by simp only [List.mem_singleton] at e; subst e; exact hbv hi,hS9.len,hS9.le,fun j hj hjc=>by
     obtain ⟨u,h1,h2,h3⟩:=hS9.each j hj hjc
     exact ⟨u,h1,Lc.atS h2 a9 fun i hi e=>by simp only [List.mem_singleton] at e; subst e; exact hbs _ _ h1 hi,h3⟩,hS9.short⟩
  cases hh:had.getD k false with
  | true =>
   rw [hh] at h3 hR3 hck
   rw [Bool.toNat_true,if_pos rfl] at h3 hR3
   have h3:r3 = _:=h3
   subst h3
   refine zeq rfl ?_
   refine zeq rfl ?_
   refine zmy rfl rfl fun b0 H4 eb g4 s4 n4=>?_
   have hg4:=(s4.same hb (by omega)).trans hg3
   have ea:=@ia .i64
   have q1:Ax.eqr .bool false (.bool false) (.bool true) = some (.bool false):=rfl
   simp (maxSteps:=1000000) (disch:=first | omega | (simp only [RY] <;> omega) | decide) only [↓RD,RZ,eq_self,Int.reduceToNat,Int.reduceAdd,Int.reduceSub,Int.reduceMul,Nat.reduceAdd,Nat.reduceSub,Nat.reduceMul,Nat.reduceDiv,Nat.reduceMod,Nat.reduceBEq,Nat.reduceLeDiff,ea,hg4,hck,q1]
   have hset:had.set k true = had:=by
    have h1:had[k]? = some true:=by rw [hhk,hh]
    exact zpe h1
   exact fin H4 had hhl (hR3.grow s4) (hS3.atS (Grow.atS s4 []) (by simp)) hg4 hset (by have:=s4.next; omega)
  | false =>
   rw [hh] at h3 hR3 hck
   rw [Bool.toNat_false,if_neg (by decide)] at h3 hR3
   obtain ⟨v3,rfl,hv3⟩:=h3
   refine zeq rfl ?_
   refine zeq rfl ?_
   refine zmy rfl rfl fun b0 H4 eb g4 s4 n4=>?_
   have hg4:=(s4.same hb (by omega)).trans hg3
   have ea:=@ia .i64
   have q1:Ax.eqr .bool false (.bool true) (.bool false) = some (.bool false):=rfl
   have wu:IntKind.u64.wrap ((k:Nat):Int) = ((k:Nat):Int):=by rw [wrap_u64]; omega
   obtain ⟨p5,bv5,hp5,hld5,hb5,b58⟩:=zrU (hv H4) hc (i:=k) (by omega)
   rw [hpk] at hb5 b58
   have S1:=@zcW _ _ _ _ (same_ok (hv3.ext s4) (hb5 H4) P8 b58)
   have ed:decide (P = P) = true:=decide_eq_true rfl
   rw [ed] at S1
   simp (maxSteps:=1000000) (disch:=first | omega | (simp only [RY] <;> omega) | decide) only [↓RD,RZ,eq_self,Int.reduceToNat,Int.reduceAdd,Int.reduceSub,Int.reduceMul,Nat.reduceAdd,Nat.reduceSub,Nat.reduceMul,Nat.reduceDiv,Nat.reduceMod,Nat.reduceBEq,Nat.reduceLeDiff,ea,hg4,hck,q1,g4,wu,hp5,hld5,S1]
   rw [← zn7 had k (by rw [hhk,hh])] at hR3
   exact fin H4 (had.set k true) (by rw [List.length_set]; exact hhl) (hR3.grow s4) (hS3.atS (Grow.atS s4 []) (by simp)) hg4 rfl (by have:=s4.next; omega)
 ·rintro _ H1 ⟨rfl,had,hhl,hR1,hS1,hg1,hb1⟩
  have hvl:=(ho H1).vlen
  unfold zaV
  by_cases h1:os.length ≤ 30
  ·have d1:decide (((min os.length 30:Nat):Int) < ((os.length:Nat):Int)) = false:=decide_eq_false (by omega)
   have d1':decide (min os.length 30 < os.length) = false:=decide_eq_false (by omega)
   simp (maxSteps:=1000000) (disch:=first | omega | (simp only [RY] <;> omega) | decide) only [↓RD,RZ,eq_self,Int.reduceToNat,Int.reduceAdd,Int.reduceSub,Int.reduceMul,Nat.reduceAdd,Nat.reduceSub,Nat.reduceMul,Nat.reduceDiv,Nat.reduceMod,Nat.reduceBEq,Nat.reduceLeDiff,hvl,d1,d1']
  ·have d1:decide (((min os.length 30:Nat):Int) < ((os.length:Nat):Int)) = true:=decide_eq_true (by omega)
   have d1':decide (min os.length 30 < os.length) = true:=decide_eq_true (by omega)
   have d2:decide (((min os.length 30:Nat):Int) < 30) = false:=decide_eq_false (by omega)
   have d2':decide (min os.length 30 < 30) = false:=decide_eq_false (by omega)
   simp (maxSteps:=1000000) (disch:=first | omega | (simp only [RY] <;> omega) | decide) only [↓RD,RZ,eq_self,Int.reduceToNat,Int.reduceAdd,Int.reduceSub,Int.reduceMul,Nat.reduceAdd,Nat.reduceSub,Nat.reduceMul,Nat.reduceDiv,Nat.reduceMod,Nat.reduceBEq,Nat.reduceLeDiff,hvl,d1,d1',d2,d2']
end Go.Ax.SU
/- Lk19 -/
namespace Go.Ax.SU
open Go.Ax
theorem which_id (r:Nat) (hr:r < 4):∃ id n t,Ax.index 4 1 none (.agg [.int .i64 1, .int .i64 2, .int .i64 3, .int .i64 16]) (.int .u8 (r:Nat)) = some (.int .i64 (id:Nat)) ∧ szs id = some (n,t) ∧ t ≤ 32:=by
 match r,hr with
 | 0,_=>exact ⟨1,_,_,rfl,rfl,by decide⟩
 | 1,_=>exact ⟨2,_,_,rfl,rfl,by decide⟩
 | 2,_=>exact ⟨3,_,_,rfl,rfl,by decide⟩
 | 3,_=>exact ⟨16,_,_,rfl,rfl,by decide⟩
theorem znE {H:Heap} {w:Nat} {bv pv ov:V} {base os:List Nat} {cs:List (List V × List Nat)} (hw:w < 256) (hb:∀ H',By 0 H' bv base) (b8:Ok8 base) (bl:base.length ≤ 1048576) (hc:∀ w ∈ cs,BsR w.1 w.2) (hv:∀ H,Lc 1 0 H pv (cs.map (·.1)).flatten cs.length)
  (ho:∀ H,By 0 H ov os) (o8:Ok8 os):Ok (sem T za1 [.int .u8 (w:Nat),bv,pv,ov]) H fun r H'=>r = .bool true:=by
 refine zel ?_
 unfold zcG
 obtain ⟨r,hr⟩:∃ r,r = w % 4:=⟨_,rfl⟩
 obtain ⟨id,n,t,hix,hsz,ht⟩:=which_id r (by omega)
 have r1:Ax.bin .rem (.int .u8 (w:Nat)) (.int .u8 4) = some (.int .u8 (r:Nat)):=by rw [znV (by omega),Go.IntWalk.rem_in _ _ (by omega),hr]; rfl
 have hbd:Ax.build [.int .i64 0, .int .i64 0, .int .i64 0, .int .i64 0] [(0,1, .int .i64 1),(1,1, .int .i64 2),(2,1, .int .i64 3),(3,1, .int .i64 16)] = some (.agg [.int .i64 1, .int .i64 2, .int .i64 3, .int .i64 16]):=rfl
 simp (maxSteps:=1000000) (disch:=first | omega | (simp only [RY] <;> omega) | decide) only [↓RD,RZ,eq_self,Int.reduceToNat,Int.reduceAdd,Int.reduceSub,Int.reduceMul,Nat.reduceAdd,Nat.reduceSub,Nat.reduceMul,Nat.reduceDiv,Nat.reduceMod,Nat.reduceBEq,Nat.reduceLeDiff,hbd,r1,hix]
 refine zag (zgG (id:=id) (slot:=5) hsz (by decide)) ?_
 rintro _ H1 ⟨s1,s,rfl,hs1,l1⟩
 simp (maxSteps:=1000000) (disch:=first | omega | (simp only [RY] <;> omega) | decide) only [↓RD,RZ,eq_self,Int.reduceToNat,Int.reduceAdd,Int.reduceSub,Int.reduceMul,Nat.reduceAdd,Nat.reduceSub,Nat.reduceMul,Nat.reduceDiv,Nat.reduceMod,Nat.reduceBEq,Nat.reduceLeDiff]
 refine zag (zfl (id:=id) hsz) ?_
 rintro _ H2 ⟨s2,c,rfl,hR2,l2⟩
 have hsc:s < c:=Nat.lt_of_lt_of_le hs1.1 l2
 have hs2:=hs1.grow s2
 simp (maxSteps:=1000000) (disch:=first | omega | (simp only [RY] <;> omega) | decide) only [↓RD,RZ,eq_self,Int.reduceToNat,Int.reduceAdd,Int.reduceSub,Int.reduceMul,Nat.reduceAdd,Nat.reduceSub,Nat.reduceMul,Nat.reduceDiv,Nat.reduceMod,Nat.reduceBEq,Nat.reduceLeDiff]
 refine zag zpU ?_
 rintro _ H3 ⟨rfl,s3⟩
 have hs3:=hs2.grow s3
 have hR3:=hR2.grow s3
 have n2:=hR2.top
 have n3:=s3.next
 have eu:useS (id:Nat) ((5:Nat):Int) n t none 9 3 base = (some (drv id 2333 n t base,9,3,0),0):=by
  unfold useS
  rw [if_neg (fun hn=>hn (by decide)),Int.toNat_natCast]
  rfl
 simp (maxSteps:=1000000) (disch:=first | omega | (simp only [RY] <;> omega) | decide) only [↓RD,RZ,eq_self,Int.reduceToNat,Int.reduceAdd,Int.reduceSub,Int.reduceMul,Nat.reduceAdd,Nat.reduceSub,Nat.reduceMul,Nat.reduceDiv,Nat.reduceMod,Nat.reduceBEq,Nat.reduceLeDiff]
 refine zag (Use_ok hs3 (by omega) (by rw [Int.toNat_natCast]; exact hsz) 9 3 (hb _) b8 (by omega)) ?_
 rintro _ H4 ⟨rfl,hs4,a4⟩
 rw [eu] at hs4 ⊢
 have hR4:=hR3.snd hs3 a4 hsc
 have n4:=a4.next
 have ea:addR ⟨id,[],[],[]⟩ 9 5 1 [] = (⟨id,[((9,5),(1,[]))],[],[]⟩,0):=by
  unfold addR
  rw [if_neg (fun hn=>hn (by decide))]
  rfl
 simp (maxSteps:=1000000) (disch:=first | omega | (simp only [RY] <;> omega) | decide) only [↓RD,RZ,eq_self,Int.reduceToNat,Int.reduceAdd,Int.reduceSub,Int.reduceMul,Nat.reduceAdd,Nat.reduceSub,Nat.reduceMul,Nat.reduceDiv,Nat.reduceMod,Nat.reduceBEq,Nat.reduceLeDiff]
 refine zag (zn4 hR4 9 5 1 (Lc.nil:By 0 _ .nils []) Ok8.nil (by decide)) ?_
 rintro _ H5 ⟨rfl,hR5,a5⟩
 rw [ea] at hR5 ⊢
 have hs5:=hs4.rcv hR4 a5 hsc
 have n5:=a5.next
 simp (maxSteps:=1000000) (disch:=first | omega | (simp only [RY] <;> omega) | decide) only [↓RD,RZ,eq_self,Int.reduceToNat,Int.reduceAdd,Int.reduceSub,Int.reduceMul,Nat.reduceAdd,Nat.reduceSub,Nat.reduceMul,Nat.reduceDiv,Nat.reduceMod,Nat.reduceBEq,Nat.reduceLeDiff]
 refine zag (Drop_ok hR5 ⟨by simp,by simp,by simp⟩ 10) ?_
 rintro _ H6 ⟨rfl,hR6,a6⟩
 have ed:dropR ⟨id,[((9,5),(1,[]))],[],[]⟩ 10 = ⟨id,[],[],[]⟩:=rfl
 rw [ed] at hR6
 have hs6:=hs5.rcv hR5 a6 hsc
 have n6:=a6.next
 have pvl:=(hv H6).vlen
 by_cases h0:cs.length = 0
 ·have d0:(((cs.length:Nat):Int) == 0) = true:=by rw [h0]; rfl
  have d0':(cs.length == 0) = true:=by rw [h0]; rfl
  simp (maxSteps:=1000000) (disch:=first | omega | (simp only [RY] <;> omega) | decide) only [↓RD,RZ,eq_self,Int.reduceToNat,Int.reduceAdd,Int.reduceSub,Int.reduceMul,Nat.reduceAdd,Nat.reduceSub,Nat.reduceMul,Nat.reduceDiv,Nat.reduceMod,Nat.reduceBEq,Nat.reduceLeDiff,pvl,d0,d0']
 have d0:(((cs.length:Nat):Int) == 0) = false:=neqz h0
 have d0':(cs.length == 0) = false:=by simpa using h0
 by_cases h12:12 < cs.length
 ·have d1:decide ((12:Int) < ((cs.length:Nat):Int)) = true:=decide_eq_true (by omega)
  have d1':decide (12 < cs.length) = true:=decide_eq_true h12
  simp (maxSteps:=1000000) (disch:=first | omega | (simp only [RY] <;> omega) | decide) only [↓RD,RZ,eq_self,Int.reduceToNat,Int.reduceAdd,Int.reduceSub,Int.reduceMul,Nat.reduceAdd,Nat.reduceSub,Nat.reduceMul,Nat.reduceDiv,Nat.reduceMod,Nat.reduceBEq,Nat.reduceLeDiff,pvl,d0,d0',d1,d1']
 have d1:decide ((12:Int) < ((cs.length:Nat):Int)) = false:=decide_eq_false (by omega)
 have d1':decide (12 < cs.length) = false:=decide_eq_false h12
 simp (maxSteps:=1000000) (disch:=first | omega | (simp only [RY] <;> omega) | decide) only [↓RD,RZ,eq_self,Int.reduceToNat,Int.reduceAdd,Int.reduceSub,Int.reduceMul,Nat.reduceAdd,Nat.reduceSub,Nat.reduceMul,Nat.reduceDiv,Nat.reduceMod,Nat.reduceBEq,Nat.reduceLeDiff,pvl,d0,d0',d1,d1']
 refine zag (zn4 hR6 9 5 3 (hb _) b8 (by omega)) ?_
 rintro _ H7 ⟨rfl,hR7,a7⟩
 have ea7:addR ⟨id,[],[],[]⟩ 9 5 3 base = (⟨id,[((9,5),(3,base))],[],[]⟩,0):=by
  unfold addR
  rw [if_neg (fun hn=>hn (by decide))]
  rfl
 rw [ea7] at hR7 ⊢
 have hs7:=hs6.rcv hR6 a7 hsc
 have n7:=a7.next
 have dg:=zlZ (id:=id) (kid:=2333) (n:=n) (t:=t) (base:=base) hsz (by decide)
 generalize hK:drv id 2333 n t base = K at *
 have kt:K.t = t:=by rw [← hK]; rfl
 simp (maxSteps:=1000000) (disch:=first | omega | (simp only [RY] <;> omega) | decide) only [↓RD,RZ,eq_self,Int.reduceToNat,Int.reduceAdd,Int.reduceSub,Int.reduceMul,Nat.reduceAdd,Nat.reduceSub,Nat.reduceMul,Nat.reduceDiv,Nat.reduceMod,Nat.reduceBEq,Nat.reduceLeDiff]
 have top7:=hR7.top
 refine zax (zqu hc hv (by omega) hs7 hR7 hsc) ?_
 rintro _ H8 (rfl | ⟨sv,vs,rfl,hS8,hR8⟩)
 ·simp (maxSteps:=1000000) (disch:=first | omega | (simp only [RY] <;> omega) | decide) only [↓RD,RZ,eq_self,Int.reduceToNat,Int.reduceAdd,Int.reduceSub,Int.reduceMul,Nat.reduceAdd,Nat.reduceSub,Nat.reduceMul,Nat.reduceDiv,Nat.reduceMod,Nat.reduceBEq,Nat.reduceLeDiff]
 have pvl8:=(hv H8).vlen
 simp (maxSteps:=1000000) (disch:=first | omega | (simp only [RY] <;> omega) | decide) only [↓RD,RZ,eq_self,Int.reduceToNat,Int.reduceAdd,Int.reduceSub,Int.reduceMul,Nat.reduceAdd,Nat.reduceSub,Nat.reduceMul,Nat.reduceDiv,Nat.reduceMod,Nat.reduceBEq,Nat.reduceLeDiff,pvl8]
 refine ⟨⟨by omega,by omega,by omega,by omega⟩,?_⟩
 have hz:zeros [.bool false] cs.length = List.replicate cs.length (.bool false):=by
  generalize cs.length = q
  induction q with
  | zero=>rfl
  | succ q ih=>rw [List.replicate_succ,← ih]; rfl
 rw [hz]
 have s9:=Grow.new H8 ⟨zb6,List.replicate cs.length (.bool false),none⟩
 have g9:(H8.new ⟨zb6,List.replicate cs.length (.bool false),none⟩).get H8.next = some ⟨zb6,List.replicate cs.length (.bool false),none⟩:=zac _ _
 have n9:(H8.new ⟨zb6,List.replicate cs.length (.bool false),none⟩).next = H8.next + 1:=zae _ _
 have hrw:(⟨id,[((9,5),(3,base))],[],[]⟩:Rc) = Rw id base K 0:=rfl
 rw [hrw] at hR8
 have top8:=hR8.top
 refine zax (zqR (K:=K) (base:=base) (lo:=H7.next) hsz hK (by omega) rfl (by omega) (by omega) hc hv ho o8 (hS8.atS (Grow.atS s9 []) (by simp)) (hR8.grow s9) (by omega) g9 (by omega) (by omega) (fun j v hj e=>?_) (fun e=>?_) dg.ws) ?_
 ·have hjl:=(List.getElem?_eq_some_iff.1 hj).1
  have hl:=hS8.len
  obtain ⟨u,h1,h2,_⟩:=hS8.each j (by omega) (by omega)
  rw [hj] at h1
  injection h1 with h1
  subst h1
  have:=(h2.own _ e).2
  omega
 ·have:=(hS8.app.lc.own _ e).2
  omega
 ·rintro _ H9 rfl
  simp (maxSteps:=1000000) (disch:=first | omega | (simp only [RY] <;> omega) | decide) only [↓RD,RZ,eq_self,Int.reduceToNat,Int.reduceAdd,Int.reduceSub,Int.reduceMul,Nat.reduceAdd,Nat.reduceSub,Nat.reduceMul,Nat.reduceDiv,Nat.reduceMod,Nat.reduceBEq,Nat.reduceLeDiff]
end Go.Ax.SU
namespace Go.Ax
open SU
theorem law_lockOnce (us:List V) (h:zsf [.int .u8, .sl (.int .u8), .sl (.sl (.int .u8)), .sl (.int .u8)] us) (hb:V.blks us ≤ 1048576):∃ H',sem T za1 us H0 = some (.bool true,H'):=by
 obtain ⟨a1,a2,a3,a4,rfl⟩:∃ a1 a2 a3 a4,us = [a1,a2,a3,a4]:=by
  rcases us with _ | ⟨a1,_ | ⟨a2,_ | ⟨a3,_ | ⟨a4,_ | ⟨a5,us⟩⟩⟩⟩⟩
  ·cases h
  ·cases h.2
  ·cases h.2.2
  ·cases h.2.2.2
  ·exact ⟨a1,a2,a3,a4,rfl⟩
  ·cases h.2.2.2.2
 simp only [V.blks] at hb
 obtain ⟨x1,hx1,hx1'⟩:=sh_u8 h.1
 obtain ⟨v2,l2,e2,g2,h2⟩:=zqs h.2.1
 obtain ⟨v3,cs,e3,hcs,hv3⟩:=sh_bss h.2.2.1
 obtain ⟨v4,l4,e4,g4,h4⟩:=zqs h.2.2.2.1
 cases hx1; cases e2; cases e3; cases e4
 have b2:=g2.blk (fun x=>by simp [by8,V.blk])
 obtain ⟨r,H',h1,rfl⟩:=znE (H:=H0) hx1' (fun H=>g2.lc 0) h2 (by omega) hcs hv3 (fun H=>g4.lc 0) h4
 exact ⟨H',h1⟩
end Go.Ax
