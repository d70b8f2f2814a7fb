/-
  The functions of this seat as plain texts: printed by program (wip/gen/Emit.lean): part 2.
-/
import Derived.Test.YtmiafikogmhckaaFnR0
set_option maxRecDepth 100000
set_option linter.unusedVariables false
namespace Go.Ax
open Go.Proofs

/-- palanquin/palanquinlaw7.heavy. -/
def loop_palanquinlaw7_heavy_0 : C :=
  .ops [⟨(some 13), none, .mv (.s 4)⟩,
    ⟨(some 14), none, .faddr 7 (.s 1)⟩,
    ⟨(some 15), none, .load none (.s 14)⟩,
    ⟨(some 16), none, .len (.s 15)⟩,
    ⟨(some 17), none, .bin .lss (.s 13) (.s 16)⟩,
    ⟨(some 18), none, .mv (.s 17)⟩,
    ⟨(some 19), (some (18, true)), .mv (.s 4)⟩,
    ⟨(some 20), (some (18, true)), .bin .lss (.s 19) (.c (V.int .i64 2000))⟩,
    ⟨(some 21), none, .pick (.s 18) (.s 20) (.c (V.bool false))⟩]
  (.cond (.s 21)
  (.blk 1
   (.ops [⟨(some 24), none, .mv (.s 3)⟩,
      ⟨(some 25), none, .faddr 7 (.s 1)⟩,
      ⟨(some 26), none, .load none (.s 25)⟩,
      ⟨(some 27), none, .mv (.s 4)⟩,
      ⟨(some 28), none, .iaddr none 2 (.s 26) (.s 27)⟩,
      ⟨(some 29), none, .faddr 1 (.s 28)⟩,
      ⟨(some 30), none, .load none (.s 29)⟩,
      ⟨(some 31), none, .len (.s 30)⟩,
      ⟨(some 32), none, .bin .add (.s 24) (.s 31)⟩,
      ⟨(some 33), none, .bin .add (.s 32) (.c (V.int .i64 2))⟩,
      ⟨(some 3), none, .mv (.s 33)⟩]
    (.done)) [3] [24, 25, 26, 27, 28, 29, 30, 31, 32, 33, 3]
   (.ops [⟨(some 22), none, .mv (.s 4)⟩,
     ⟨(some 23), none, .bin .add (.s 22) (.c (V.int .i64 1))⟩,
     ⟨(some 4), none, .mv (.s 23)⟩]
   (.done)))
  (.exit 0))

def ir_palanquinlaw7_heavy : Fn' := ⟨42, [.tmp 2],
  .ops [⟨(some 1), none, .box ty_rtp_Packet (.s 0)⟩,
    ⟨(some 2), none, .mv (.c (V.bool false))⟩]
  (.ops [⟨(some 5), none, .faddr 9 (.s 1)⟩,
    ⟨(some 6), none, .load none (.s 5)⟩,
    ⟨(some 7), none, .len (.s 6)⟩,
    ⟨(some 8), none, .faddr 5 (.s 1)⟩,
    ⟨(some 9), none, .load none (.s 8)⟩,
    ⟨(some 10), none, .len (.s 9)⟩,
    ⟨(some 11), none, .bin .mul (.c (V.int .i64 4)) (.s 10)⟩,
    ⟨(some 12), none, .bin .add (.s 7) (.s 11)⟩,
    ⟨(some 3), none, .mv (.s 12)⟩]
  (.ops [⟨(some 4), none, .mv (.c (V.int .i64 0))⟩]
  (.blk 0
  (.loop loop_palanquinlaw7_heavy_0 [3, 4] [13, 14, 15, 16, 17, 18, 19, 20, 21, 24, 25, 26, 27, 28, 29, 30, 31, 32, 33, 3, 22, 23, 4]) [3] [13, 14, 15, 16, 17, 18, 19, 20, 21, 24, 25, 26, 27, 28, 29, 30, 31, 32, 33, 3, 22, 23, 4]
  (.ops [⟨(some 34), none, .mv (.s 3)⟩,
    ⟨(some 35), none, .bin .gtr (.s 34) (.c (V.int .i64 3000))⟩,
    ⟨(some 36), none, .mv (.s 35)⟩,
    ⟨(some 37), (some (36, false)), .faddr 7 (.s 1)⟩,
    ⟨(some 38), (some (36, false)), .load none (.s 37)⟩,
    ⟨(some 39), (some (36, false)), .len (.s 38)⟩,
    ⟨(some 40), (some (36, false)), .bin .gtr (.s 39) (.c (V.int .i64 1500))⟩,
    ⟨(some 41), none, .pick (.s 36) (.c (V.bool true)) (.s 40)⟩,
    ⟨(some 2), none, .mv (.s 41)⟩]
  (.ret)))))⟩

noncomputable def f_palanquinlaw7_heavy_0 (G : Sem') (t1 t2 : V) (L : List V) : M Res :=
  (M.lift (Ax.faddr 7 t1)).bind fun t14 =>
  (mload none t14).bind fun t15 =>
  (M.lift (vlen t15)).bind fun t16 =>
  (M.lift (Ax.bin .lss (L.getD 1 .undef) t16)).bind fun t17 =>
  (guarded [(0, t17)] (some (0, true)) (M.pure (L.getD 1 .undef))).bind fun t19 =>
  (guarded [(0, t17)] (some (0, true)) (M.lift (Ax.bin .lss t19 (V.int .i64 2000)))).bind fun t20 =>
  (M.lift (Ax.pick t17 t20 (V.bool false))).bind fun t21 =>
  M.ite t21
    (M.blk 1 (
      (M.lift (Ax.faddr 7 t1)).bind fun t25 =>
      (mload none t25).bind fun t26 =>
      (M.lift (Ax.iaddr none 2 t26 (L.getD 1 .undef))).bind fun t28 =>
      (M.lift (Ax.faddr 1 t28)).bind fun t29 =>
      (mload none t29).bind fun t30 =>
      (M.lift (vlen t30)).bind fun t31 =>
      (M.lift (Ax.bin .add (L.getD 0 .undef) t31)).bind fun t32 =>
      (M.lift (Ax.bin .add t32 (V.int .i64 2))).bind fun t33 =>
      M.pure (.nrm [t33])) fun L0 =>
    (M.lift (Ax.bin .add (L.getD 1 .undef) (V.int .i64 1))).bind fun t23 =>
    M.pure (.nrm [(L0.getD 0 .undef), t23]))
    (M.pure (.ex 0 [(L.getD 0 .undef)]))

noncomputable def f_palanquinlaw7_heavy (G : Sem') (t0 : V) : M Res :=
  (mbox ty_rtp_Packet t0).bind fun t1 =>
  (M.lift (Ax.faddr 9 t1)).bind fun t5 =>
  (mload none t5).bind fun t6 =>
  (M.lift (vlen t6)).bind fun t7 =>
  (M.lift (Ax.faddr 5 t1)).bind fun t8 =>
  (mload none t8).bind fun t9 =>
  (M.lift (vlen t9)).bind fun t10 =>
  (M.lift (Ax.bin .mul (V.int .i64 4) t10)).bind fun t11 =>
  (M.lift (Ax.bin .add t7 t11)).bind fun t12 =>
  M.blk 0 (
    M.iter (f_palanquinlaw7_heavy_0 G t1 (V.bool false)) [t12, (V.int .i64 0)]) fun L1 =>
  (M.lift (Ax.bin .gtr (L1.getD 0 .undef) (V.int .i64 3000))).bind fun t35 =>
  (guarded [(0, t35)] (some (0, false)) (M.lift (Ax.faddr 7 t1))).bind fun t37 =>
  (guarded [(0, t35)] (some (0, false)) (mload none t37)).bind fun t38 =>
  (guarded [(0, t35)] (some (0, false)) (M.lift (vlen t38))).bind fun t39 =>
  (guarded [(0, t35)] (some (0, false)) (M.lift (Ax.bin .gtr t39 (V.int .i64 1500)))).bind fun t40 =>
  (M.lift (Ax.pick t35 (V.bool true) t40)).bind fun t41 =>
  M.pure (.ret [t41])

theorem eq_palanquinlaw7_heavy (G : Sem') (t0 : V) : execK G ir_palanquinlaw7_heavy.rv ir_palanquinlaw7_heavy.body [] [] (params 0 [t0]) = f_palanquinlaw7_heavy G t0 := by kernel_rfl

theorem tb_palanquinlaw7_heavy : T fn_palanquinlaw7_heavy = some ir_palanquinlaw7_heavy := by kernel_rfl

theorem ok_palanquinlaw7_heavy {t0 : V} {H : Heap} {Q : V → Heap → Prop} (h : Ok (f_palanquinlaw7_heavy (sem T) t0) H fun r H' => ∃ L, r = .ret L ∧ Q (tupled L) H') : Ok (sem T fn_palanquinlaw7_heavy [t0]) H Q :=
  ok_sem tb_palanquinlaw7_heavy (Nat.le_of_ble_eq_true rfl) (eq_palanquinlaw7_heavy (sem T) t0) h

/-- palanquin/rtp.Find. -/
def ir_rtp_Find : Fn' := ⟨19, [.tmp 4, .tmp 5],
  .ops [⟨(some 2), none, .box ty_rtp_Packet (.s 0)⟩,
    ⟨(some 4), none, .mv (.c V.nils)⟩,
    ⟨(some 5), none, .mv (.c (V.bool false))⟩]
  (.ops [⟨(some 7), none, .load (some 10) (.s 2)⟩,
    ⟨(some 8), none, .mv (.s 1)⟩,
    ⟨(some 9), none, .call fn_rtp_at [(.s 7), (.s 8)]⟩,
    ⟨(some 6), none, .mv (.s 9)⟩]
  (.ops [⟨(some 10), none, .mv (.s 6)⟩,
    ⟨(some 11), none, .bin .lss (.s 10) (.c (V.int .i64 0))⟩]
  (.cond (.s 11)
  (.ops [⟨(some 4), none, .mv (.c V.nils)⟩,
     ⟨(some 5), none, .mv (.c (V.bool false))⟩]
   (.ret))
  (.ops [⟨(some 12), none, .faddr 7 (.s 2)⟩,
     ⟨(some 13), none, .load none (.s 12)⟩,
     ⟨(some 14), none, .mv (.s 6)⟩,
     ⟨(some 15), none, .iaddr none 2 (.s 13) (.s 14)⟩,
     ⟨(some 16), none, .faddr 1 (.s 15)⟩,
     ⟨(some 17), none, .load none (.s 16)⟩,
     ⟨(some 18), none, .call fn_bytes_Clone [(.s 17)]⟩,
     ⟨(some 4), none, .mv (.s 18)⟩,
     ⟨(some 5), none, .mv (.c (V.bool true))⟩]
   (.ret)))))⟩

noncomputable def f_rtp_Find (G : Sem') (t0 t1 : V) : M Res :=
  (mbox ty_rtp_Packet t0).bind fun t2 =>
  (mload (some 10) t2).bind fun t7 =>
  (G fn_rtp_at [t7, t1]).bind fun t9 =>
  (M.lift (Ax.bin .lss t9 (V.int .i64 0))).bind fun t11 =>
  M.ite t11
    (M.pure (.ret [V.nils, (V.bool false)]))
    ((M.lift (Ax.faddr 7 t2)).bind fun t12 =>
    (mload none t12).bind fun t13 =>
    (M.lift (Ax.iaddr none 2 t13 t9)).bind fun t15 =>
    (M.lift (Ax.faddr 1 t15)).bind fun t16 =>
    (mload none t16).bind fun t17 =>
    (G fn_bytes_Clone [t17]).bind fun t18 =>
    M.pure (.ret [t18, (V.bool true)]))

theorem eq_rtp_Find (G : Sem') (t0 t1 : V) : execK G ir_rtp_Find.rv ir_rtp_Find.body [] [] (params 0 [t0, t1]) = f_rtp_Find G t0 t1 := by kernel_rfl

theorem tb_rtp_Find : T fn_rtp_Find = some ir_rtp_Find := by kernel_rfl

theorem ok_rtp_Find {t0 t1 : V} {H : Heap} {Q : V → Heap → Prop} (h : Ok (f_rtp_Find (sem T) t0 t1) H fun r H' => ∃ L, r = .ret L ∧ Q (tupled L) H') : Ok (sem T fn_rtp_Find [t0, t1]) H Q :=
  ok_sem tb_rtp_Find (Nat.le_of_ble_eq_true rfl) (eq_rtp_Find (sem T) t0 t1) h

/-- palanquin/rtp.at. -/
def ir_rtp_at : Fn' := ⟨9, [.tmp 4],
  .ops [⟨(some 2), none, .box ty_rtp_Packet (.s 0)⟩,
    ⟨(some 3), none, .box ty_int (.s 1)⟩,
    ⟨(some 4), none, .mv (.c (V.int .i64 0))⟩]
  (.ops [⟨(some 5), none, .faddr 7 (.s 2)⟩,
    ⟨(some 6), none, .load none (.s 5)⟩,
    ⟨(some 7), none, .mkfn fn_rtp_at_1 [(.s 3)]⟩,
    ⟨(some 8), none, .call fn_slices_IndexFunc_rtp_Ext_rtp_Ext [(.s 6), (.s 7)]⟩,
    ⟨(some 4), none, .mv (.s 8)⟩]
  (.ret))⟩

noncomputable def f_rtp_at (G : Sem') (t0 t1 : V) : M Res :=
  (mbox ty_rtp_Packet t0).bind fun t2 =>
  (mbox ty_int t1).bind fun t3 =>
  (M.lift (Ax.faddr 7 t2)).bind fun t5 =>
  (mload none t5).bind fun t6 =>
  (M.pure (.fn fn_rtp_at_1 [t3])).bind fun t7 =>
  (G fn_slices_IndexFunc_rtp_Ext_rtp_Ext [t6, t7]).bind fun t8 =>
  M.pure (.ret [t8])

theorem eq_rtp_at (G : Sem') (t0 t1 : V) : execK G ir_rtp_at.rv ir_rtp_at.body [] [] (params 0 [t0, t1]) = f_rtp_at G t0 t1 := by kernel_rfl

theorem tb_rtp_at : T fn_rtp_at = some ir_rtp_at := by kernel_rfl

theorem ok_rtp_at {t0 t1 : V} {H : Heap} {Q : V → Heap → Prop} (h : Ok (f_rtp_at (sem T) t0 t1) H fun r H' => ∃ L, r = .ret L ∧ Q (tupled L) H') : Ok (sem T fn_rtp_at [t0, t1]) H Q :=
  ok_sem tb_rtp_at (Nat.le_of_ble_eq_true rfl) (eq_rtp_at (sem T) t0 t1) h

/-- palanquin/rtp.at$1. -/
def ir_rtp_at_1 : Fn' := ⟨8, [.tmp 3],
  .ops [⟨(some 2), none, .box ty_rtp_Ext (.s 0)⟩,
    ⟨(some 3), none, .mv (.c (V.bool false))⟩]
  (.ops [⟨(some 4), none, .faddr 0 (.s 2)⟩,
    ⟨(some 5), none, .load none (.s 4)⟩,
    ⟨(some 6), none, .load none (.s 1)⟩,
    ⟨(some 7), none, .bin .eql (.s 5) (.s 6)⟩,
    ⟨(some 3), none, .mv (.s 7)⟩]
  (.ret))⟩

noncomputable def f_rtp_at_1 (G : Sem') (t0 t1 : V) : M Res :=
  (mbox ty_rtp_Ext t0).bind fun t2 =>
  (M.lift (Ax.faddr 0 t2)).bind fun t4 =>
  (mload none t4).bind fun t5 =>
  (mload none t1).bind fun t6 =>
  (M.lift (Ax.bin .eql t5 t6)).bind fun t7 =>
  M.pure (.ret [t7])

theorem eq_rtp_at_1 (G : Sem') (t0 t1 : V) : execK G ir_rtp_at_1.rv ir_rtp_at_1.body [] [] (params 0 [t0, t1]) = f_rtp_at_1 G t0 t1 := by kernel_rfl

theorem tb_rtp_at_1 : T fn_rtp_at_1 = some ir_rtp_at_1 := by kernel_rfl

theorem ok_rtp_at_1 {t0 t1 : V} {H : Heap} {Q : V → Heap → Prop} (h : Ok (f_rtp_at_1 (sem T) t0 t1) H fun r H' => ∃ L, r = .ret L ∧ Q (tupled L) H') : Ok (sem T fn_rtp_at_1 [t0, t1]) H Q :=
  ok_sem tb_rtp_at_1 (Nat.le_of_ble_eq_true rfl) (eq_rtp_at_1 (sem T) t0 t1) h

/-- palanquin/palanquinref7.Find. -/
def loop_palanquinref7_Find_0 : C :=
  .ops [⟨(some 7), none, .mv (.s 6)⟩,
    ⟨(some 8), none, .faddr 7 (.s 2)⟩,
    ⟨(some 9), none, .load none (.s 8)⟩,
    ⟨(some 10), none, .len (.s 9)⟩,
    ⟨(some 11), none, .bin .lss (.s 7) (.s 10)⟩]
  (.cond (.s 11)
  (.blk 1
   (.ops [⟨(some 14), none, .faddr 7 (.s 2)⟩,
      ⟨(some 15), none, .load none (.s 14)⟩,
      ⟨(some 16), none, .mv (.s 6)⟩,
      ⟨(some 17), none, .iaddr none 2 (.s 15) (.s 16)⟩,
      ⟨(some 18), none, .faddr 0 (.s 17)⟩,
      ⟨(some 19), none, .load none (.s 18)⟩,
      ⟨(some 20), none, .mv (.s 1)⟩,
      ⟨(some 21), none, .bin .eql (.s 19) (.s 20)⟩]
    (.cond (.s 21)
    (.ops [⟨(some 22), none, .faddr 7 (.s 2)⟩,
       ⟨(some 23), none, .load none (.s 22)⟩,
       ⟨(some 24), none, .mv (.s 6)⟩,
       ⟨(some 25), none, .iaddr none 2 (.s 23) (.s 24)⟩,
       ⟨(some 26), none, .faddr 1 (.s 25)⟩,
       ⟨(some 27), none, .load none (.s 26)⟩,
       ⟨(some 4), none, .mv (.s 27)⟩,
       ⟨(some 5), none, .mv (.c (V.bool true))⟩]
     (.ret))
    (.done))) [] [14, 15, 16, 17, 18, 19, 20, 21, 22, 23, 24, 25, 26, 27, 4, 5]
   (.ops [⟨(some 12), none, .mv (.s 6)⟩,
     ⟨(some 13), none, .bin .add (.s 12) (.c (V.int .i64 1))⟩,
     ⟨(some 6), none, .mv (.s 13)⟩]
   (.done)))
  (.exit 0))

def ir_palanquinref7_Find : Fn' := ⟨28, [.tmp 4, .tmp 5],
  .ops [⟨(some 2), none, .box ty_palanquinref7_Packet (.s 0)⟩,
    ⟨(some 4), none, .mv (.c V.nils)⟩,
    ⟨(some 5), none, .mv (.c (V.bool false))⟩]
  (.ops [⟨(some 6), none, .mv (.c (V.int .i64 0))⟩]
  (.blk 0
  (.loop loop_palanquinref7_Find_0 [6] [7, 8, 9, 10, 11, 14, 15, 16, 17, 18, 19, 20, 21, 22, 23, 24, 25, 26, 27, 4, 5, 12, 13, 6]) [] [7, 8, 9, 10, 11, 14, 15, 16, 17, 18, 19, 20, 21, 22, 23, 24, 25, 26, 27, 4, 5, 12, 13, 6]
  (.ops [⟨(some 4), none, .mv (.c V.nils)⟩,
    ⟨(some 5), none, .mv (.c (V.bool false))⟩]
  (.ret))))⟩

noncomputable def f_palanquinref7_Find_0 (G : Sem') (t1 t2 : V) (L : List V) : M Res :=
  (M.lift (Ax.faddr 7 t2)).bind fun t8 =>
  (mload none t8).bind fun t9 =>
  (M.lift (vlen t9)).bind fun t10 =>
  (M.lift (Ax.bin .lss (L.getD 0 .undef) t10)).bind fun t11 =>
  M.ite t11
    (M.blk 1 (
      (M.lift (Ax.faddr 7 t2)).bind fun t14 =>
      (mload none t14).bind fun t15 =>
      (M.lift (Ax.iaddr none 2 t15 (L.getD 0 .undef))).bind fun t17 =>
      (M.lift (Ax.faddr 0 t17)).bind fun t18 =>
      (mload none t18).bind fun t19 =>
      (M.lift (Ax.bin .eql t19 t1)).bind fun t21 =>
      M.ite t21
        ((M.lift (Ax.faddr 7 t2)).bind fun t22 =>
        (mload none t22).bind fun t23 =>
        (M.lift (Ax.iaddr none 2 t23 (L.getD 0 .undef))).bind fun t25 =>
        (M.lift (Ax.faddr 1 t25)).bind fun t26 =>
        (mload none t26).bind fun t27 =>
        M.pure (.ret [t27, (V.bool true)]))
        (M.pure (.nrm []))) fun _ =>
    (M.lift (Ax.bin .add (L.getD 0 .undef) (V.int .i64 1))).bind fun t13 =>
    M.pure (.nrm [t13]))
    (M.pure (.ex 0 []))

noncomputable def f_palanquinref7_Find (G : Sem') (t0 t1 : V) : M Res :=
  (mbox ty_palanquinref7_Packet t0).bind fun t2 =>
  M.blk 0 (
    M.iter (f_palanquinref7_Find_0 G t1 t2) [(V.int .i64 0)]) fun _ =>
  M.pure (.ret [V.nils, (V.bool false)])

theorem eq_palanquinref7_Find (G : Sem') (t0 t1 : V) : execK G ir_palanquinref7_Find.rv ir_palanquinref7_Find.body [] [] (params 0 [t0, t1]) = f_palanquinref7_Find G t0 t1 := by kernel_rfl

theorem tb_palanquinref7_Find : T fn_palanquinref7_Find = some ir_palanquinref7_Find := by kernel_rfl

theorem ok_palanquinref7_Find {t0 t1 : V} {H : Heap} {Q : V → Heap → Prop} (h : Ok (f_palanquinref7_Find (sem T) t0 t1) H fun r H' => ∃ L, r = .ret L ∧ Q (tupled L) H') : Ok (sem T fn_palanquinref7_Find [t0, t1]) H Q :=
  ok_sem tb_palanquinref7_Find (Nat.le_of_ble_eq_true rfl) (eq_palanquinref7_Find (sem T) t0 t1) h

/-- palanquin/rtp.Set. -/
def ir_rtp_Set : Fn' := ⟨25, [.cell 6 (some 10), .tmp 7],
  .ops [⟨(some 3), none, .box ty_rtp_Packet (.s 0)⟩,
    ⟨(some 6), none, .box ty_rtp_Packet (.c (V.agg [(V.bool false), (V.int .i64 0), (V.int .u16 0), (V.int .u32 0), (V.int .u32 0), V.nils, (V.int .i64 0), V.nils, (V.int .i64 0), V.nils]))⟩,
    ⟨(some 7), none, .mv (.c (V.bool false))⟩]
  (.ops [⟨(some 9), none, .load (some 10) (.s 3)⟩,
    ⟨(some 10), none, .call fn_rtp_copied [(.s 9)]⟩,
    ⟨none, none, .store 10 (.s 3) (.s 10)⟩]
  (.ops [⟨(some 11), none, .load (some 10) (.s 3)⟩,
    ⟨(some 12), none, .mv (.s 1)⟩,
    ⟨(some 13), none, .call fn_rtp_at [(.s 11), (.s 12)]⟩,
    ⟨(some 8), none, .mv (.s 13)⟩]
  (.ops [⟨(some 14), none, .mv (.s 8)⟩,
    ⟨(some 15), none, .bin .lss (.s 14) (.c (V.int .i64 0))⟩]
  (.cond (.s 15)
  (.ops [⟨(some 16), none, .load (some 10) (.s 3)⟩,
     ⟨none, none, .store 10 (.s 6) (.s 16)⟩,
     ⟨(some 7), none, .mv (.c (V.bool false))⟩]
   (.ret))
  (.draw [⟨(some 17), none, .faddr 7 (.s 3)⟩,
     ⟨(some 18), none, .load none (.s 17)⟩,
     ⟨(some 19), none, .mv (.s 8)⟩,
     ⟨(some 20), none, .mv (.s 2)⟩,
     ⟨(some 21), none, .call fn_bytes_Clone [(.s 20)]⟩,
     ⟨(some 22), none, .iaddr none 2 (.s 18) (.s 19)⟩,
     ⟨(some 23), none, .faddr 1 (.s 22)⟩,
     ⟨none, none, .store 1 (.s 23) (.s 21)⟩] [(1, 4)]
   (.ops [⟨(some 24), none, .load (some 10) (.s 3)⟩,
     ⟨none, none, .store 10 (.s 6) (.s 24)⟩,
     ⟨(some 7), none, .mv (.c (V.bool true))⟩]
   (.ret)))))))⟩

noncomputable def f_rtp_Set (G : Sem') (t0 t1 t2 : V) : M Res :=
  (mbox ty_rtp_Packet t0).bind fun t3 =>
  (mbox ty_rtp_Packet (V.agg [(V.bool false), (V.int .i64 0), (V.int .u16 0), (V.int .u32 0), (V.int .u32 0), V.nils, (V.int .i64 0), V.nils, (V.int .i64 0), V.nils])).bind fun t6 =>
  (mload (some 10) t3).bind fun t9 =>
  (G fn_rtp_copied [t9]).bind fun t10 =>
  (mstore 10 t3 t10).bind fun _ =>
  (mload (some 10) t3).bind fun t11 =>
  (G fn_rtp_at [t11, t1]).bind fun t13 =>
  (M.lift (Ax.bin .lss t13 (V.int .i64 0))).bind fun t15 =>
  M.ite t15
    ((mload (some 10) t3).bind fun t16 =>
    (mstore 10 t6 t16).bind fun _ =>
    (mload (some 10) t6).bind fun r0 =>
    M.pure (.ret [r0, (V.bool false)]))
    ((M.lift (Ax.faddr 7 t3)).bind fun t17 =>
    (mload none t17).bind fun t18 =>
    M.getH.bind fun h0 =>
    (G fn_bytes_Clone [t2]).bind fun t21 =>
    M.getH.bind fun h0' =>
    (M.unch t17 h0 h0').bind fun _ =>
    (M.lift (Ax.iaddr none 2 t18 t13)).bind fun t22 =>
    (M.lift (Ax.faddr 1 t22)).bind fun t23 =>
    (mstore 1 t23 t21).bind fun _ =>
    (mload (some 10) t3).bind fun t24 =>
    (mstore 10 t6 t24).bind fun _ =>
    (mload (some 10) t6).bind fun r0 =>
    M.pure (.ret [r0, (V.bool true)]))

theorem eq_rtp_Set (G : Sem') (t0 t1 t2 : V) : execK G ir_rtp_Set.rv ir_rtp_Set.body [] [] (params 0 [t0, t1, t2]) = f_rtp_Set G t0 t1 t2 := by kernel_rfl

theorem tb_rtp_Set : T fn_rtp_Set = some ir_rtp_Set := by kernel_rfl

theorem ok_rtp_Set {t0 t1 t2 : V} {H : Heap} {Q : V → Heap → Prop} (h : Ok (f_rtp_Set (sem T) t0 t1 t2) H fun r H' => ∃ L, r = .ret L ∧ Q (tupled L) H') : Ok (sem T fn_rtp_Set [t0, t1, t2]) H Q :=
  ok_sem tb_rtp_Set (Nat.le_of_ble_eq_true rfl) (eq_rtp_Set (sem T) t0 t1 t2) h

/-- palanquin/rtp.copied. -/
def loop_rtp_copied_0 : C :=
  .ops [⟨(some 20), none, .bin .lss (.s 19) (.s 18)⟩]
  (.cond (.s 20)
  (.blk 1
   (.ops [⟨(some 21), none, .mv (.s 19)⟩,
      ⟨(some 3), none, .mv (.s 21)⟩]
    (.draw [⟨(some 22), none, .faddr 7 (.s 1)⟩,
      ⟨(some 23), none, .load none (.s 22)⟩,
      ⟨(some 24), none, .mv (.s 3)⟩,
      ⟨(some 25), none, .faddr 7 (.s 1)⟩,
      ⟨(some 26), none, .load none (.s 25)⟩,
      ⟨(some 27), none, .mv (.s 3)⟩,
      ⟨(some 28), none, .iaddr none 2 (.s 26) (.s 27)⟩,
      ⟨(some 29), none, .faddr 1 (.s 28)⟩,
      ⟨(some 30), none, .load none (.s 29)⟩,
      ⟨(some 31), none, .call fn_bytes_Clone [(.s 30)]⟩,
      ⟨(some 32), none, .iaddr none 2 (.s 23) (.s 24)⟩,
      ⟨(some 33), none, .faddr 1 (.s 32)⟩,
      ⟨none, none, .store 1 (.s 33) (.s 31)⟩] [(1, 9)]
    (.done))) [] [21, 3, 22, 23, 24, 25, 26, 27, 28, 29, 30, 31, 32, 33]
   (.ops [⟨(some 34), none, .bin .add (.s 19) (.c (V.int .i64 1))⟩,
     ⟨(some 19), none, .mv (.s 34)⟩]
   (.done)))
  (.exit 0))

def ir_rtp_copied : Fn' := ⟨36, [.cell 2 (some 10)],
  .ops [⟨(some 1), none, .box ty_rtp_Packet (.s 0)⟩,
    ⟨(some 2), none, .box ty_rtp_Packet (.c (V.agg [(V.bool false), (V.int .i64 0), (V.int .u16 0), (V.int .u32 0), (V.int .u32 0), V.nils, (V.int .i64 0), V.nils, (V.int .i64 0), V.nils]))⟩]
  (.draw [⟨(some 4), none, .faddr 5 (.s 1)⟩,
    ⟨(some 5), none, .load none (.s 4)⟩,
    ⟨(some 7), none, .faddr 9 (.s 1)⟩,
    ⟨(some 8), none, .load none (.s 7)⟩,
    ⟨(some 10), none, .faddr 7 (.s 1)⟩,
    ⟨(some 11), none, .load none (.s 10)⟩,
    ⟨(some 6), none, .call fn_slices_Clone_uint32_uint32 [(.s 5)]⟩,
    ⟨(some 9), none, .call fn_bytes_Clone [(.s 8)]⟩,
    ⟨(some 12), none, .call fn_slices_Clone_rtp_Ext_rtp_Ext [(.s 11)]⟩,
    ⟨(some 13), none, .faddr 5 (.s 1)⟩,
    ⟨none, none, .store 1 (.s 13) (.s 6)⟩,
    ⟨(some 14), none, .faddr 9 (.s 1)⟩,
    ⟨none, none, .store 1 (.s 14) (.s 9)⟩,
    ⟨(some 15), none, .faddr 7 (.s 1)⟩,
    ⟨none, none, .store 1 (.s 15) (.s 12)⟩] [(3, 6), (5, 6), (5, 7)]
  (.ops [⟨(some 16), none, .faddr 7 (.s 1)⟩,
    ⟨(some 17), none, .load none (.s 16)⟩,
    ⟨(some 18), none, .len (.s 17)⟩,
    ⟨(some 19), none, .mv (.c (V.int .i64 0))⟩]
  (.blk 0
  (.loop loop_rtp_copied_0 [19] [20, 21, 3, 22, 23, 24, 25, 26, 27, 28, 29, 30, 31, 32, 33, 34, 19]) [] [20, 21, 3, 22, 23, 24, 25, 26, 27, 28, 29, 30, 31, 32, 33, 34, 19]
  (.ops [⟨(some 35), none, .load (some 10) (.s 1)⟩,
    ⟨none, none, .store 10 (.s 2) (.s 35)⟩]
  (.ret)))))⟩

noncomputable def f_rtp_copied_0 (G : Sem') (t18 t1 t2 : V) (L : List V) : M Res :=
  (M.lift (Ax.bin .lss (L.getD 0 .undef) t18)).bind fun t20 =>
  M.ite t20
    (M.blk 1 (
      (M.lift (Ax.faddr 7 t1)).bind fun t22 =>
      (mload none t22).bind fun t23 =>
      (M.lift (Ax.faddr 7 t1)).bind fun t25 =>
      (mload none t25).bind fun t26 =>
      (M.lift (Ax.iaddr none 2 t26 (L.getD 0 .undef))).bind fun t28 =>
      (M.lift (Ax.faddr 1 t28)).bind fun t29 =>
      (mload none t29).bind fun t30 =>
      M.getH.bind fun h2 =>
      (G fn_bytes_Clone [t30]).bind fun t31 =>
      M.getH.bind fun h2' =>
      (M.unch t22 h2 h2').bind fun _ =>
      (M.lift (Ax.iaddr none 2 t23 (L.getD 0 .undef))).bind fun t32 =>
      (M.lift (Ax.faddr 1 t32)).bind fun t33 =>
      (mstore 1 t33 t31).bind fun _ =>
      M.pure (.nrm [])) fun _ =>
    (M.lift (Ax.bin .add (L.getD 0 .undef) (V.int .i64 1))).bind fun t34 =>
    M.pure (.nrm [t34]))
    (M.pure (.ex 0 []))

noncomputable def f_rtp_copied (G : Sem') (t0 : V) : M Res :=
  (mbox ty_rtp_Packet t0).bind fun t1 =>
  (mbox ty_rtp_Packet (V.agg [(V.bool false), (V.int .i64 0), (V.int .u16 0), (V.int .u32 0), (V.int .u32 0), V.nils, (V.int .i64 0), V.nils, (V.int .i64 0), V.nils])).bind fun t2 =>
  (M.lift (Ax.faddr 5 t1)).bind fun t4 =>
  (mload none t4).bind fun t5 =>
  (M.lift (Ax.faddr 9 t1)).bind fun t7 =>
  (mload none t7).bind fun t8 =>
  (M.lift (Ax.faddr 7 t1)).bind fun t10 =>
  (mload none t10).bind fun t11 =>
  M.getH.bind fun h0 =>
  (G fn_slices_Clone_uint32_uint32 [t5]).bind fun t6 =>
  M.getH.bind fun h0' =>
  (M.unch t10 h0 h0').bind fun _ =>
  (M.unch t7 h0 h0').bind fun _ =>
  M.getH.bind fun h1 =>
  (G fn_bytes_Clone [t8]).bind fun t9 =>
  M.getH.bind fun h1' =>
  (M.unch t10 h1 h1').bind fun _ =>
  (G fn_slices_Clone_rtp_Ext_rtp_Ext [t11]).bind fun t12 =>
  (M.lift (Ax.faddr 5 t1)).bind fun t13 =>
  (mstore 1 t13 t6).bind fun _ =>
  (M.lift (Ax.faddr 9 t1)).bind fun t14 =>
  (mstore 1 t14 t9).bind fun _ =>
  (M.lift (Ax.faddr 7 t1)).bind fun t15 =>
  (mstore 1 t15 t12).bind fun _ =>
  (M.lift (Ax.faddr 7 t1)).bind fun t16 =>
  (mload none t16).bind fun t17 =>
  (M.lift (vlen t17)).bind fun t18 =>
  M.blk 0 (
    M.iter (f_rtp_copied_0 G t18 t1 t2) [(V.int .i64 0)]) fun _ =>
  (mload (some 10) t1).bind fun t35 =>
  (mstore 10 t2 t35).bind fun _ =>
  (mload (some 10) t2).bind fun r0 =>
  M.pure (.ret [r0])

theorem eq_rtp_copied (G : Sem') (t0 : V) : execK G ir_rtp_copied.rv ir_rtp_copied.body [] [] (params 0 [t0]) = f_rtp_copied G t0 := by kernel_rfl

theorem tb_rtp_copied : T fn_rtp_copied = some ir_rtp_copied := by kernel_rfl

theorem ok_rtp_copied {t0 : V} {H : Heap} {Q : V → Heap → Prop} (h : Ok (f_rtp_copied (sem T) t0) H fun r H' => ∃ L, r = .ret L ∧ Q (tupled L) H') : Ok (sem T fn_rtp_copied [t0]) H Q :=
  ok_sem tb_rtp_copied (Nat.le_of_ble_eq_true rfl) (eq_rtp_copied (sem T) t0) h

/-- slices.Clone[[]uint32,uint32]. -/
def ir_slices_Clone_uint32_uint32 : Fn' := ⟨8, [.tmp 2],
  .ops [⟨(some 2), none, .mv (.c V.nils)⟩]
  (.ops [⟨(some 3), none, .mv (.s 0)⟩,
    ⟨(some 4), none, .eq .sl false (.s 3) (.c V.nils)⟩]
  (.cond (.s 4)
  (.ops [⟨(some 2), none, .mv (.c V.nils)⟩]
   (.ret))
  (.ops [⟨(some 5), none, .slit ty_uint32 0 [(V.int .u32 0)] []⟩,
     ⟨(some 6), none, .mv (.s 0)⟩,
     ⟨(some 7), none, .append ty_uint32 1 4 (.s 5) (.s 6)⟩,
     ⟨(some 2), none, .mv (.s 7)⟩]
   (.ret))))⟩

noncomputable def f_slices_Clone_uint32_uint32 (G : Sem') (t0 : V) : M Res :=
  (M.lift (eqr .sl false t0 V.nils)).bind fun t4 =>
  M.ite t4
    (M.pure (.ret [V.nils]))
    ((mslit ty_uint32 0 [(V.int .u32 0)] []).bind fun t5 =>
    (mappend ty_uint32 1 4 t5 t0).bind fun t7 =>
    M.pure (.ret [t7]))

theorem eq_slices_Clone_uint32_uint32 (G : Sem') (t0 : V) : execK G ir_slices_Clone_uint32_uint32.rv ir_slices_Clone_uint32_uint32.body [] [] (params 0 [t0]) = f_slices_Clone_uint32_uint32 G t0 := by kernel_rfl

theorem tb_slices_Clone_uint32_uint32 : T fn_slices_Clone_uint32_uint32 = some ir_slices_Clone_uint32_uint32 := by kernel_rfl

theorem ok_slices_Clone_uint32_uint32 {t0 : V} {H : Heap} {Q : V → Heap → Prop} (h : Ok (f_slices_Clone_uint32_uint32 (sem T) t0) H fun r H' => ∃ L, r = .ret L ∧ Q (tupled L) H') : Ok (sem T fn_slices_Clone_uint32_uint32 [t0]) H Q :=
  ok_sem tb_slices_Clone_uint32_uint32 (Nat.le_of_ble_eq_true rfl) (eq_slices_Clone_uint32_uint32 (sem T) t0) h

/-- slices.Clone[[]palanquin/rtp.Ext,palanquin/rtp.Ext]. -/
def ir_slices_Clone_rtp_Ext_rtp_Ext : Fn' := ⟨8, [.tmp 2],
  .ops [⟨(some 2), none, .mv (.c V.nils)⟩]
  (.ops [⟨(some 3), none, .mv (.s 0)⟩,
    ⟨(some 4), none, .eq .sl false (.s 3) (.c V.nils)⟩]
  (.cond (.s 4)
  (.ops [⟨(some 2), none, .mv (.c V.nils)⟩]
   (.ret))
  (.ops [⟨(some 5), none, .slit ty_rtp_Ext 0 [(V.int .i64 0), V.nils] []⟩,
     ⟨(some 6), none, .mv (.s 0)⟩,
     ⟨(some 7), none, .append ty_rtp_Ext 2 32 (.s 5) (.s 6)⟩,
     ⟨(some 2), none, .mv (.s 7)⟩]
   (.ret))))⟩

noncomputable def f_slices_Clone_rtp_Ext_rtp_Ext (G : Sem') (t0 : V) : M Res :=
  (M.lift (eqr .sl false t0 V.nils)).bind fun t4 =>
  M.ite t4
    (M.pure (.ret [V.nils]))
    ((mslit ty_rtp_Ext 0 [(V.int .i64 0), V.nils] []).bind fun t5 =>
    (mappend ty_rtp_Ext 2 32 t5 t0).bind fun t7 =>
    M.pure (.ret [t7]))

theorem eq_slices_Clone_rtp_Ext_rtp_Ext (G : Sem') (t0 : V) : execK G ir_slices_Clone_rtp_Ext_rtp_Ext.rv ir_slices_Clone_rtp_Ext_rtp_Ext.body [] [] (params 0 [t0]) = f_slices_Clone_rtp_Ext_rtp_Ext G t0 := by kernel_rfl

theorem tb_slices_Clone_rtp_Ext_rtp_Ext : T fn_slices_Clone_rtp_Ext_rtp_Ext = some ir_slices_Clone_rtp_Ext_rtp_Ext := by kernel_rfl

theorem ok_slices_Clone_rtp_Ext_rtp_Ext {t0 : V} {H : Heap} {Q : V → Heap → Prop} (h : Ok (f_slices_Clone_rtp_Ext_rtp_Ext (sem T) t0) H fun r H' => ∃ L, r = .ret L ∧ Q (tupled L) H') : Ok (sem T fn_slices_Clone_rtp_Ext_rtp_Ext [t0]) H Q :=
  ok_sem tb_slices_Clone_rtp_Ext_rtp_Ext (Nat.le_of_ble_eq_true rfl) (eq_slices_Clone_rtp_Ext_rtp_Ext (sem T) t0) h

/-- palanquin/palanquinref7.Set. -/
def loop_palanquinref7_Set_0 : C :=
  .ops [⟨(some 10), none, .mv (.s 8)⟩,
    ⟨(some 11), none, .faddr 7 (.s 3)⟩,
    ⟨(some 12), none, .load none (.s 11)⟩,
    ⟨(some 13), none, .len (.s 12)⟩,
    ⟨(some 14), none, .bin .lss (.s 10) (.s 13)⟩]
  (.cond (.s 14)
  (.blk 1
   (.ops [⟨(some 17), none, .faddr 7 (.s 3)⟩,
      ⟨(some 18), none, .load none (.s 17)⟩,
      ⟨(some 19), none, .mv (.s 8)⟩,
      ⟨(some 20), none, .iaddr none 2 (.s 18) (.s 19)⟩,
      ⟨(some 21), none, .faddr 0 (.s 20)⟩,
      ⟨(some 22), none, .load none (.s 21)⟩,
      ⟨(some 23), none, .mv (.s 1)⟩,
      ⟨(some 24), none, .bin .eql (.s 22) (.s 23)⟩]
    (.cond (.s 24)
    (.ops [⟨(some 25), none, .slit ty_palanquinref7_Ext 0 [(V.int .i64 0), V.nils] []⟩,
       ⟨(some 26), none, .faddr 7 (.s 3)⟩,
       ⟨(some 27), none, .load none (.s 26)⟩,
       ⟨(some 28), none, .append ty_palanquinref7_Ext 2 32 (.s 25) (.s 27)⟩,
       ⟨(some 9), none, .mv (.s 28)⟩]
     (.ops [⟨(some 29), none, .mv (.s 9)⟩,
       ⟨(some 30), none, .mv (.s 8)⟩,
       ⟨(some 31), none, .mv (.s 1)⟩,
       ⟨(some 32), none, .slit ty_uint8 0 [(V.int .u8 0)] []⟩,
       ⟨(some 33), none, .mv (.s 2)⟩,
       ⟨(some 34), none, .append ty_uint8 1 1 (.s 32) (.s 33)⟩,
       ⟨(some 35), none, .build [(V.int .i64 0), V.nils] [(0, 1, (.s 31)), (1, 1, (.s 34))]⟩,
       ⟨(some 36), none, .iaddr none 2 (.s 29) (.s 30)⟩,
       ⟨none, none, .store 2 (.s 36) (.s 35)⟩]
     (.ops [⟨(some 37), none, .mv (.s 9)⟩,
       ⟨(some 38), none, .faddr 7 (.s 3)⟩,
       ⟨none, none, .store 1 (.s 38) (.s 37)⟩]
     (.ops [⟨(some 39), none, .load (some 10) (.s 3)⟩,
       ⟨none, none, .store 10 (.s 6) (.s 39)⟩,
       ⟨(some 7), none, .mv (.c (V.bool true))⟩]
     (.ret)))))
    (.done))) [] [17, 18, 19, 20, 21, 22, 23, 24, 25, 26, 27, 28, 9, 29, 30, 31, 32, 33, 34, 35, 36, 37, 38, 39, 7]
   (.ops [⟨(some 15), none, .mv (.s 8)⟩,
     ⟨(some 16), none, .bin .add (.s 15) (.c (V.int .i64 1))⟩,
     ⟨(some 8), none, .mv (.s 16)⟩]
   (.done)))
  (.exit 0))

def ir_palanquinref7_Set : Fn' := ⟨41, [.cell 6 (some 10), .tmp 7],
  .ops [⟨(some 3), none, .box ty_palanquinref7_Packet (.s 0)⟩,
    ⟨(some 6), none, .box ty_palanquinref7_Packet (.c (V.agg [(V.bool false), (V.int .i64 0), (V.int .u16 0), (V.int .u32 0), (V.int .u32 0), V.nils, (V.int .i64 0), V.nils, (V.int .i64 0), V.nils]))⟩,
    ⟨(some 7), none, .mv (.c (V.bool false))⟩]
  (.ops [⟨(some 8), none, .mv (.c (V.int .i64 0))⟩]
  (.blk 0
  (.loop loop_palanquinref7_Set_0 [8] [10, 11, 12, 13, 14, 17, 18, 19, 20, 21, 22, 23, 24, 25, 26, 27, 28, 9, 29, 30, 31, 32, 33, 34, 35, 36, 37, 38, 39, 7, 15, 16, 8]) [] [10, 11, 12, 13, 14, 17, 18, 19, 20, 21, 22, 23, 24, 25, 26, 27, 28, 9, 29, 30, 31, 32, 33, 34, 35, 36, 37, 38, 39, 7, 15, 16, 8]
  (.ops [⟨(some 40), none, .load (some 10) (.s 3)⟩,
    ⟨none, none, .store 10 (.s 6) (.s 40)⟩,
    ⟨(some 7), none, .mv (.c (V.bool false))⟩]
  (.ret))))⟩

noncomputable def f_palanquinref7_Set_0 (G : Sem') (t1 t2 t3 t6 : V) (L : List V) : M Res :=
  (M.lift (Ax.faddr 7 t3)).bind fun t11 =>
  (mload none t11).bind fun t12 =>
  (M.lift (vlen t12)).bind fun t13 =>
  (M.lift (Ax.bin .lss (L.getD 0 .undef) t13)).bind fun t14 =>
  M.ite t14
    (M.blk 1 (
      (M.lift (Ax.faddr 7 t3)).bind fun t17 =>
      (mload none t17).bind fun t18 =>
      (M.lift (Ax.iaddr none 2 t18 (L.getD 0 .undef))).bind fun t20 =>
      (M.lift (Ax.faddr 0 t20)).bind fun t21 =>
      (mload none t21).bind fun t22 =>
      (M.lift (Ax.bin .eql t22 t1)).bind fun t24 =>
      M.ite t24
        ((mslit ty_palanquinref7_Ext 0 [(V.int .i64 0), V.nils] []).bind fun t25 =>
        (M.lift (Ax.faddr 7 t3)).bind fun t26 =>
        (mload none t26).bind fun t27 =>
        (mappend ty_palanquinref7_Ext 2 32 t25 t27).bind fun t28 =>
        (mslit ty_uint8 0 [(V.int .u8 0)] []).bind fun t32 =>
        (mappend ty_uint8 1 1 t32 t2).bind fun t34 =>
        (M.lift (Ax.build [(V.int .i64 0), V.nils] [(0, 1, t1), (1, 1, t34)])).bind fun t35 =>
        (M.lift (Ax.iaddr none 2 t28 (L.getD 0 .undef))).bind fun t36 =>
        (mstore 2 t36 t35).bind fun _ =>
        (M.lift (Ax.faddr 7 t3)).bind fun t38 =>
        (mstore 1 t38 t28).bind fun _ =>
        (mload (some 10) t3).bind fun t39 =>
        (mstore 10 t6 t39).bind fun _ =>
        (mload (some 10) t6).bind fun r0 =>
        M.pure (.ret [r0, (V.bool true)]))
        (M.pure (.nrm []))) fun _ =>
    (M.lift (Ax.bin .add (L.getD 0 .undef) (V.int .i64 1))).bind fun t16 =>
    M.pure (.nrm [t16]))
    (M.pure (.ex 0 []))

noncomputable def f_palanquinref7_Set (G : Sem') (t0 t1 t2 : V) : M Res :=
  (mbox ty_palanquinref7_Packet t0).bind fun t3 =>
  (mbox ty_palanquinref7_Packet (V.agg [(V.bool false), (V.int .i64 0), (V.int .u16 0), (V.int .u32 0), (V.int .u32 0), V.nils, (V.int .i64 0), V.nils, (V.int .i64 0), V.nils])).bind fun t6 =>
  M.blk 0 (
    M.iter (f_palanquinref7_Set_0 G t1 t2 t3 t6) [(V.int .i64 0)]) fun _ =>
  (mload (some 10) t3).bind fun t40 =>
  (mstore 10 t6 t40).bind fun _ =>
  (mload (some 10) t6).bind fun r0 =>
  M.pure (.ret [r0, (V.bool false)])

theorem eq_palanquinref7_Set (G : Sem') (t0 t1 t2 : V) : execK G ir_palanquinref7_Set.rv ir_palanquinref7_Set.body [] [] (params 0 [t0, t1, t2]) = f_palanquinref7_Set G t0 t1 t2 := by kernel_rfl

theorem tb_palanquinref7_Set : T fn_palanquinref7_Set = some ir_palanquinref7_Set := by kernel_rfl

theorem ok_palanquinref7_Set {t0 t1 t2 : V} {H : Heap} {Q : V → Heap → Prop} (h : Ok (f_palanquinref7_Set (sem T) t0 t1 t2) H fun r H' => ∃ L, r = .ret L ∧ Q (tupled L) H') : Ok (sem T fn_palanquinref7_Set [t0, t1, t2]) H Q :=
  ok_sem tb_palanquinref7_Set (Nat.le_of_ble_eq_true rfl) (eq_palanquinref7_Set (sem T) t0 t1 t2) h

/-- palanquin/palanquinlaw7.RtpSays. -/
def ir_palanquinlaw7_RtpSays : Fn' := ⟨39, [.tmp 2],
  .ops [⟨(some 1), none, .box ty_rtp_Packet (.s 0)⟩,
    ⟨(some 2), none, .mv (.c (V.bool false))⟩]
  (.ops [⟨(some 8), none, .call fn_palanquinlaw7_awake []⟩,
    ⟨(some 9), none, .un .not (.s 8)⟩]
  (.cond (.s 9)
  (.ops [⟨(some 2), none, .mv (.c (V.bool false))⟩]
   (.ret))
  (.ops [⟨(some 10), none, .load (some 10) (.s 1)⟩,
     ⟨(some 11), none, .call fn_palanquinlaw7_heavy [(.s 10)]⟩]
   (.cond (.s 11)
   (.ops [⟨(some 2), none, .mv (.c (V.bool true))⟩]
    (.ret))
   (.ops [⟨(some 12), none, .load (some 10) (.s 1)⟩,
      ⟨(some 13), none, .call fn_palanquinhelp_Packet [(.s 12)]⟩,
      ⟨(some 3), none, .box ty_palanquinref7_Packet (.c (V.agg [(V.bool false), (V.int .i64 0), (V.int .u16 0), (V.int .u32 0), (V.int .u32 0), V.nils, (V.int .i64 0), V.nils, (V.int .i64 0), V.nils]))⟩,
      ⟨none, none, .store 10 (.s 3) (.s 13)⟩]
    (.ops [⟨(some 15), none, .load (some 10) (.s 1)⟩,
      ⟨(some 16), none, .call fn_rtp_Bytes [(.s 15)]⟩,
      ⟨(some 14), none, .mv (.s 16)⟩,
      ⟨(some 17), none, .ext 0 (.s 14)⟩,
      ⟨(some 18), none, .ext 1 (.s 14)⟩,
      ⟨(some 4), none, .mv (.s 17)⟩,
      ⟨(some 5), none, .mv (.s 18)⟩]
    (.ops [⟨(some 20), none, .load (some 10) (.s 3)⟩,
      ⟨(some 21), none, .call fn_palanquinref7_Bytes [(.s 20)]⟩,
      ⟨(some 19), none, .mv (.s 21)⟩,
      ⟨(some 22), none, .ext 0 (.s 19)⟩,
      ⟨(some 23), none, .ext 1 (.s 19)⟩,
      ⟨(some 6), none, .mv (.s 22)⟩,
      ⟨(some 7), none, .mv (.s 23)⟩]
    (.draw [⟨(some 24), none, .load (some 10) (.s 1)⟩,
      ⟨(some 26), none, .load (some 10) (.s 3)⟩,
      ⟨(some 25), none, .call fn_rtp_Good [(.s 24)]⟩,
      ⟨(some 27), none, .call fn_palanquinref7_Good [(.s 26)]⟩,
      ⟨(some 28), none, .eq .bool false (.s 25) (.s 27)⟩,
      ⟨(some 29), none, .mv (.s 28)⟩,
      ⟨(some 30), (some (29, true)), .mv (.s 5)⟩,
      ⟨(some 31), (some (29, true)), .mv (.s 7)⟩,
      ⟨(some 32), (some (29, true)), .bin .eql (.s 30) (.s 31)⟩,
      ⟨(some 33), none, .pick (.s 29) (.s 32) (.c (V.bool false))⟩,
      ⟨(some 34), none, .mv (.s 33)⟩,
      ⟨(some 35), (some (34, true)), .mv (.s 4)⟩,
      ⟨(some 36), (some (34, true)), .mv (.s 6)⟩,
      ⟨(some 37), (some (34, true)), .call fn_palanquinref1_Same [(.s 35), (.s 36)]⟩,
      ⟨(some 38), none, .pick (.s 34) (.s 37) (.c (V.bool false))⟩,
      ⟨(some 2), none, .mv (.s 38)⟩] [(1, 2)]
    (.ret)))))))))⟩

noncomputable def f_palanquinlaw7_RtpSays (G : Sem') (t0 : V) : M Res :=
  (mbox ty_rtp_Packet t0).bind fun t1 =>
  (G fn_palanquinlaw7_awake []).bind fun t8 =>
  (M.lift (Ax.un .not t8)).bind fun t9 =>
  M.ite t9
    (M.pure (.ret [(V.bool false)]))
    ((mload (some 10) t1).bind fun t10 =>
    (G fn_palanquinlaw7_heavy [t10]).bind fun t11 =>
    M.ite t11
      (M.pure (.ret [(V.bool true)]))
      ((mload (some 10) t1).bind fun t12 =>
      (G fn_palanquinhelp_Packet [t12]).bind fun t13 =>
      (mbox ty_palanquinref7_Packet (V.agg [(V.bool false), (V.int .i64 0), (V.int .u16 0), (V.int .u32 0), (V.int .u32 0), V.nils, (V.int .i64 0), V.nils, (V.int .i64 0), V.nils])).bind fun t3 =>
      (mstore 10 t3 t13).bind fun _ =>
      (mload (some 10) t1).bind fun t15 =>
      (G fn_rtp_Bytes [t15]).bind fun t16 =>
      (M.lift (Ax.ext 0 t16)).bind fun t17 =>
      (M.lift (Ax.ext 1 t16)).bind fun t18 =>
      (mload (some 10) t3).bind fun t20 =>
      (G fn_palanquinref7_Bytes [t20]).bind fun t21 =>
      (M.lift (Ax.ext 0 t21)).bind fun t22 =>
      (M.lift (Ax.ext 1 t21)).bind fun t23 =>
      (mload (some 10) t1).bind fun t24 =>
      (mload (some 10) t3).bind fun t26 =>
      M.getH.bind fun h0 =>
      (G fn_rtp_Good [t24]).bind fun t25 =>
      M.getH.bind fun h0' =>
      (M.unch t3 h0 h0').bind fun _ =>
      (G fn_palanquinref7_Good [t26]).bind fun t27 =>
      (M.lift (eqr .bool false t25 t27)).bind fun t28 =>
      (guarded [(0, t28)] (some (0, true)) (M.pure t18)).bind fun t30 =>
      (guarded [(0, t28)] (some (0, true)) (M.pure t23)).bind fun t31 =>
      (guarded [(0, t28)] (some (0, true)) (M.lift (Ax.bin .eql t30 t31))).bind fun t32 =>
      (M.lift (Ax.pick t28 t32 (V.bool false))).bind fun t33 =>
      (guarded [(0, t33)] (some (0, true)) (M.pure t17)).bind fun t35 =>
      (guarded [(0, t33)] (some (0, true)) (M.pure t22)).bind fun t36 =>
      (guarded [(0, t33)] (some (0, true)) (G fn_palanquinref1_Same [t35, t36])).bind fun t37 =>
      (M.lift (Ax.pick t33 t37 (V.bool false))).bind fun t38 =>
      M.pure (.ret [t38])))

theorem eq_palanquinlaw7_RtpSays (G : Sem') (t0 : V) : execK G ir_palanquinlaw7_RtpSays.rv ir_palanquinlaw7_RtpSays.body [] [] (params 0 [t0]) = f_palanquinlaw7_RtpSays G t0 := by kernel_rfl

theorem tb_palanquinlaw7_RtpSays : T fn_palanquinlaw7_RtpSays = some ir_palanquinlaw7_RtpSays := by kernel_rfl

theorem ok_palanquinlaw7_RtpSays {t0 : V} {H : Heap} {Q : V → Heap → Prop} (h : Ok (f_palanquinlaw7_RtpSays (sem T) t0) H fun r H' => ∃ L, r = .ret L ∧ Q (tupled L) H') : Ok (sem T fn_palanquinlaw7_RtpSays [t0]) H Q :=
  ok_sem tb_palanquinlaw7_RtpSays (Nat.le_of_ble_eq_true rfl) (eq_palanquinlaw7_RtpSays (sem T) t0) h

/-- palanquin/rtp.Bytes. -/
def loop_rtp_Bytes_0 : C :=
  .ops [⟨(some 28), none, .bin .lss (.s 27) (.s 26)⟩]
  (.cond (.s 28)
  (.blk 1
   (.ops [⟨(some 29), none, .iaddr none 1 (.s 25) (.s 27)⟩,
      ⟨(some 30), none, .load none (.s 29)⟩,
      ⟨(some 6), none, .mv (.s 30)⟩]
    (.ops [⟨(some 31), none, .mv (.s 4)⟩,
      ⟨(some 32), none, .mv (.s 6)⟩,
      ⟨(some 33), none, .call fn_rtp_put [(.s 31), (.s 32), (.c (V.int .i64 4))]⟩,
      ⟨(some 4), none, .mv (.s 33)⟩]
    (.done))) [4] [29, 30, 6, 31, 32, 33, 4]
   (.ops [⟨(some 34), none, .bin .add (.s 27) (.c (V.int .i64 1))⟩,
     ⟨(some 27), none, .mv (.s 34)⟩]
   (.done)))
  (.exit 0))

def ir_rtp_Bytes : Fn' := ⟨83, [.tmp 2, .tmp 3],
  .ops [⟨(some 1), none, .box ty_rtp_Packet (.s 0)⟩,
    ⟨(some 2), none, .mv (.c V.nils)⟩,
    ⟨(some 3), none, .mv (.c (V.int .i64 0))⟩]
  (.ops [⟨(some 8), none, .load (some 10) (.s 1)⟩,
    ⟨(some 9), none, .call fn_rtp_Good [(.s 8)]⟩,
    ⟨(some 10), none, .un .not (.s 9)⟩]
  (.cond (.s 10)
  (.ops [⟨(some 2), none, .mv (.c V.nils)⟩,
     ⟨(some 3), none, .mv (.c (V.int .i64 1))⟩]
   (.ret))
  (.draw [⟨(some 11), none, .load (some 10) (.s 1)⟩,
     ⟨(some 13), none, .faddr 2 (.s 1)⟩,
     ⟨(some 14), none, .load none (.s 13)⟩,
     ⟨(some 15), none, .cint .u32 (.s 14)⟩,
     ⟨(some 12), none, .call fn_rtp_first [(.s 11)]⟩,
     ⟨(some 16), none, .call fn_rtp_put [(.s 12), (.s 15), (.c (V.int .i64 2))]⟩,
     ⟨(some 4), none, .mv (.s 16)⟩] [(2, 4)]
   (.draw [⟨(some 17), none, .mv (.s 4)⟩,
     ⟨(some 18), none, .faddr 3 (.s 1)⟩,
     ⟨(some 19), none, .load none (.s 18)⟩,
     ⟨(some 21), none, .faddr 4 (.s 1)⟩,
     ⟨(some 22), none, .load none (.s 21)⟩,
     ⟨(some 20), none, .call fn_rtp_put [(.s 17), (.s 19), (.c (V.int .i64 4))]⟩,
     ⟨(some 23), none, .call fn_rtp_put [(.s 20), (.s 22), (.c (V.int .i64 4))]⟩,
     ⟨(some 4), none, .mv (.s 23)⟩] [(4, 5)]
   (.ops [⟨(some 24), none, .faddr 5 (.s 1)⟩,
     ⟨(some 25), none, .load none (.s 24)⟩,
     ⟨(some 26), none, .len (.s 25)⟩,
     ⟨(some 27), none, .mv (.c (V.int .i64 0))⟩]
   (.blk 0
   (.loop loop_rtp_Bytes_0 [4, 27] [28, 29, 30, 6, 31, 32, 33, 4, 34, 27]) [4] [28, 29, 30, 6, 31, 32, 33, 4, 34, 27]
   (.ops [⟨(some 35), none, .faddr 6 (.s 1)⟩,
     ⟨(some 36), none, .load none (.s 35)⟩,
     ⟨(some 37), none, .bin .neq (.s 36) (.c (V.int .i64 0))⟩]
   (.condJ (.s 37)
   (.ops [⟨(some 38), none, .load (some 10) (.s 1)⟩,
      ⟨(some 39), none, .call fn_rtp_elements [(.s 38)]⟩,
      ⟨(some 7), none, .mv (.s 39)⟩]
    (.ops [⟨(some 40), none, .mv (.s 4)⟩,
      ⟨(some 41), none, .faddr 6 (.s 1)⟩,
      ⟨(some 42), none, .load none (.s 41)⟩,
      ⟨(some 43), none, .cint .u32 (.s 42)⟩,
      ⟨(some 44), none, .call fn_rtp_put [(.s 40), (.s 43), (.c (V.int .i64 2))]⟩,
      ⟨(some 45), none, .mv (.s 7)⟩,
      ⟨(some 46), none, .len (.s 45)⟩,
      ⟨(some 47), none, .bin .quo (.s 46) (.c (V.int .i64 4))⟩,
      ⟨(some 48), none, .cint .u32 (.s 47)⟩,
      ⟨(some 49), none, .call fn_rtp_put [(.s 44), (.s 48), (.c (V.int .i64 2))]⟩,
      ⟨(some 4), none, .mv (.s 49)⟩]
    (.ops [⟨(some 50), none, .mv (.s 4)⟩,
      ⟨(some 51), none, .mv (.s 7)⟩,
      ⟨(some 52), none, .append ty_uint8 1 1 (.s 50) (.s 51)⟩,
      ⟨(some 4), none, .mv (.s 52)⟩]
    (.done))))
   (.done) [4] [38, 39, 7, 40, 41, 42, 43, 44, 45, 46, 47, 48, 49, 4, 50, 51, 52, 4]
   (.ops [⟨(some 53), none, .mv (.s 4)⟩,
     ⟨(some 54), none, .len (.s 53)⟩,
     ⟨(some 55), none, .faddr 9 (.s 1)⟩,
     ⟨(some 56), none, .load none (.s 55)⟩,
     ⟨(some 57), none, .len (.s 56)⟩,
     ⟨(some 58), none, .bin .add (.s 54) (.s 57)⟩,
     ⟨(some 59), none, .faddr 8 (.s 1)⟩,
     ⟨(some 60), none, .load none (.s 59)⟩,
     ⟨(some 61), none, .bin .add (.s 58) (.s 60)⟩,
     ⟨(some 62), none, .bin .gtr (.s 61) (.c (V.int .i64 1200))⟩]
   (.cond (.s 62)
   (.ops [⟨(some 2), none, .mv (.c V.nils)⟩,
      ⟨(some 3), none, .mv (.c (V.int .i64 4))⟩]
    (.ret))
   (.ops [⟨(some 63), none, .mv (.s 4)⟩,
      ⟨(some 64), none, .faddr 9 (.s 1)⟩,
      ⟨(some 65), none, .load none (.s 64)⟩,
      ⟨(some 66), none, .append ty_uint8 1 1 (.s 63) (.s 65)⟩,
      ⟨(some 4), none, .mv (.s 66)⟩]
    (.ops [⟨(some 67), none, .faddr 8 (.s 1)⟩,
      ⟨(some 68), none, .load none (.s 67)⟩,
      ⟨(some 69), none, .bin .gtr (.s 68) (.c (V.int .i64 0))⟩]
    (.condJ (.s 69)
    (.ops [⟨(some 70), none, .mv (.s 4)⟩,
       ⟨(some 71), none, .faddr 8 (.s 1)⟩,
       ⟨(some 72), none, .load none (.s 71)⟩,
       ⟨(some 73), none, .appendz ty_uint8 1 [(V.int .u8 0)] (.s 70) (.s 72)⟩,
       ⟨(some 4), none, .mv (.s 73)⟩]
     (.ops [⟨(some 74), none, .mv (.s 4)⟩,
       ⟨(some 75), none, .mv (.s 4)⟩,
       ⟨(some 76), none, .len (.s 75)⟩,
       ⟨(some 77), none, .bin .sub (.s 76) (.c (V.int .i64 1))⟩,
       ⟨(some 78), none, .faddr 8 (.s 1)⟩,
       ⟨(some 79), none, .load none (.s 78)⟩,
       ⟨(some 80), none, .cint .u8 (.s 79)⟩,
       ⟨(some 81), none, .iaddr none 1 (.s 74) (.s 77)⟩,
       ⟨none, none, .store 1 (.s 81) (.s 80)⟩]
     (.done)))
    (.done) [4] [70, 71, 72, 73, 4, 74, 75, 76, 77, 78, 79, 80, 81]
    (.ops [⟨(some 82), none, .mv (.s 4)⟩,
      ⟨(some 2), none, .mv (.s 82)⟩,
      ⟨(some 3), none, .mv (.c (V.int .i64 0))⟩]
    (.ret)))))))))))))))⟩

noncomputable def f_rtp_Bytes_0 (G : Sem') (t26 t25 t2 t3 : V) (L : List V) : M Res :=
  (M.lift (Ax.bin .lss (L.getD 1 .undef) t26)).bind fun t28 =>
  M.ite t28
    (M.blk 1 (
      (M.lift (Ax.iaddr none 1 t25 (L.getD 1 .undef))).bind fun t29 =>
      (mload none t29).bind fun t30 =>
      (G fn_rtp_put [(L.getD 0 .undef), t30, (V.int .i64 4)]).bind fun t33 =>
      M.pure (.nrm [t33])) fun L0 =>
    (M.lift (Ax.bin .add (L.getD 1 .undef) (V.int .i64 1))).bind fun t34 =>
    M.pure (.nrm [(L0.getD 0 .undef), t34]))
    (M.pure (.ex 0 [(L.getD 0 .undef)]))

noncomputable def f_rtp_Bytes (G : Sem') (t0 : V) : M Res :=
  (mbox ty_rtp_Packet t0).bind fun t1 =>
  (mload (some 10) t1).bind fun t8 =>
  (G fn_rtp_Good [t8]).bind fun t9 =>
  (M.lift (Ax.un .not t9)).bind fun t10 =>
  M.ite t10
    (M.pure (.ret [V.nils, (V.int .i64 1)]))
    ((mload (some 10) t1).bind fun t11 =>
    (M.lift (Ax.faddr 2 t1)).bind fun t13 =>
    (mload none t13).bind fun t14 =>
    (M.lift (Ax.cint .u32 t14)).bind fun t15 =>
    M.getH.bind fun h0 =>
    (G fn_rtp_first [t11]).bind fun t12 =>
    M.getH.bind fun h0' =>
    (M.unch t13 h0 h0').bind fun _ =>
    (G fn_rtp_put [t12, t15, (V.int .i64 2)]).bind fun t16 =>
    (M.lift (Ax.faddr 3 t1)).bind fun t18 =>
    (mload none t18).bind fun t19 =>
    (M.lift (Ax.faddr 4 t1)).bind fun t21 =>
    (mload none t21).bind fun t22 =>
    M.getH.bind fun h1 =>
    (G fn_rtp_put [t16, t19, (V.int .i64 4)]).bind fun t20 =>
    M.getH.bind fun h1' =>
    (M.unch t21 h1 h1').bind fun _ =>
    (G fn_rtp_put [t20, t22, (V.int .i64 4)]).bind fun t23 =>
    (M.lift (Ax.faddr 5 t1)).bind fun t24 =>
    (mload none t24).bind fun t25 =>
    (M.lift (vlen t25)).bind fun t26 =>
    M.blk 0 (
      M.iter (f_rtp_Bytes_0 G t26 t25 V.nils (V.int .i64 0)) [t23, (V.int .i64 0)]) fun L1 =>
    (M.lift (Ax.faddr 6 t1)).bind fun t35 =>
    (mload none t35).bind fun t36 =>
    (M.lift (Ax.bin .neq t36 (V.int .i64 0))).bind fun t37 =>
    M.join (M.ite t37
      ((mload (some 10) t1).bind fun t38 =>
      (G fn_rtp_elements [t38]).bind fun t39 =>
      (M.lift (Ax.faddr 6 t1)).bind fun t41 =>
      (mload none t41).bind fun t42 =>
      (M.lift (Ax.cint .u32 t42)).bind fun t43 =>
      (G fn_rtp_put [(L1.getD 0 .undef), t43, (V.int .i64 2)]).bind fun t44 =>
      (M.lift (vlen t39)).bind fun t46 =>
      (M.lift (Ax.bin .quo t46 (V.int .i64 4))).bind fun t47 =>
      (M.lift (Ax.cint .u32 t47)).bind fun t48 =>
      (G fn_rtp_put [t44, t48, (V.int .i64 2)]).bind fun t49 =>
      (mappend ty_uint8 1 1 t49 t39).bind fun t52 =>
      M.pure (.nrm [t52]))
      (M.pure (.nrm [(L1.getD 0 .undef)]))) fun L2 =>
    (M.lift (vlen (L2.getD 0 .undef))).bind fun t54 =>
    (M.lift (Ax.faddr 9 t1)).bind fun t55 =>
    (mload none t55).bind fun t56 =>
    (M.lift (vlen t56)).bind fun t57 =>
    (M.lift (Ax.bin .add t54 t57)).bind fun t58 =>
    (M.lift (Ax.faddr 8 t1)).bind fun t59 =>
    (mload none t59).bind fun t60 =>
    (M.lift (Ax.bin .add t58 t60)).bind fun t61 =>
    (M.lift (Ax.bin .gtr t61 (V.int .i64 1200))).bind fun t62 =>
    M.ite t62
      (M.pure (.ret [V.nils, (V.int .i64 4)]))
      ((M.lift (Ax.faddr 9 t1)).bind fun t64 =>
      (mload none t64).bind fun t65 =>
      (mappend ty_uint8 1 1 (L2.getD 0 .undef) t65).bind fun t66 =>
      (M.lift (Ax.faddr 8 t1)).bind fun t67 =>
      (mload none t67).bind fun t68 =>
      (M.lift (Ax.bin .gtr t68 (V.int .i64 0))).bind fun t69 =>
      M.join (M.ite t69
        ((M.lift (Ax.faddr 8 t1)).bind fun t71 =>
        (mload none t71).bind fun t72 =>
        (mappendz ty_uint8 1 [(V.int .u8 0)] t66 t72).bind fun t73 =>
        (M.lift (vlen t73)).bind fun t76 =>
        (M.lift (Ax.bin .sub t76 (V.int .i64 1))).bind fun t77 =>
        (M.lift (Ax.faddr 8 t1)).bind fun t78 =>
        (mload none t78).bind fun t79 =>
        (M.lift (Ax.cint .u8 t79)).bind fun t80 =>
        (M.lift (Ax.iaddr none 1 t73 t77)).bind fun t81 =>
        (mstore 1 t81 t80).bind fun _ =>
        M.pure (.nrm [t73]))
        (M.pure (.nrm [t66]))) fun L3 =>
      M.pure (.ret [(L3.getD 0 .undef), (V.int .i64 0)])))

theorem eq_rtp_Bytes (G : Sem') (t0 : V) : execK G ir_rtp_Bytes.rv ir_rtp_Bytes.body [] [] (params 0 [t0]) = f_rtp_Bytes G t0 := by kernel_rfl

theorem tb_rtp_Bytes : T fn_rtp_Bytes = some ir_rtp_Bytes := by kernel_rfl

theorem ok_rtp_Bytes {t0 : V} {H : Heap} {Q : V → Heap → Prop} (h : Ok (f_rtp_Bytes (sem T) t0) H fun r H' => ∃ L, r = .ret L ∧ Q (tupled L) H') : Ok (sem T fn_rtp_Bytes [t0]) H Q :=
  ok_sem tb_rtp_Bytes (Nat.le_of_ble_eq_true rfl) (eq_rtp_Bytes (sem T) t0) h

/-- palanquin/rtp.first. -/
def ir_rtp_first : Fn' := ⟨30, [.tmp 2],
  .ops [⟨(some 1), none, .box ty_rtp_Packet (.s 0)⟩,
    ⟨(some 2), none, .mv (.c V.nils)⟩]
  (.draw [⟨(some 5), none, .faddr 5 (.s 1)⟩,
    ⟨(some 6), none, .load none (.s 5)⟩,
    ⟨(some 7), none, .len (.s 6)⟩,
    ⟨(some 8), none, .bin .or (.c (V.int .i64 128)) (.s 7)⟩,
    ⟨(some 9), none, .cint .u8 (.s 8)⟩,
    ⟨(some 10), none, .faddr 1 (.s 1)⟩,
    ⟨(some 11), none, .load none (.s 10)⟩,
    ⟨(some 12), none, .cint .u8 (.s 11)⟩,
    ⟨(some 3), none, .mv (.s 9)⟩,
    ⟨(some 4), none, .mv (.s 12)⟩] []
  (.ops [⟨(some 13), none, .faddr 8 (.s 1)⟩,
    ⟨(some 14), none, .load none (.s 13)⟩,
    ⟨(some 15), none, .bin .gtr (.s 14) (.c (V.int .i64 0))⟩]
  (.condJ (.s 15)
  (.ops [⟨(some 16), none, .mv (.s 3)⟩,
     ⟨(some 17), none, .bin .or (.s 16) (.c (V.int .u8 32))⟩,
     ⟨(some 3), none, .mv (.s 17)⟩]
   (.done))
  (.done) [3] [16, 17, 3]
  (.ops [⟨(some 18), none, .faddr 6 (.s 1)⟩,
    ⟨(some 19), none, .load none (.s 18)⟩,
    ⟨(some 20), none, .bin .neq (.s 19) (.c (V.int .i64 0))⟩]
  (.condJ (.s 20)
  (.ops [⟨(some 21), none, .mv (.s 3)⟩,
     ⟨(some 22), none, .bin .or (.s 21) (.c (V.int .u8 16))⟩,
     ⟨(some 3), none, .mv (.s 22)⟩]
   (.done))
  (.done) [3] [21, 22, 3]
  (.ops [⟨(some 23), none, .faddr 0 (.s 1)⟩,
    ⟨(some 24), none, .load none (.s 23)⟩]
  (.condJ (.s 24)
  (.ops [⟨(some 25), none, .mv (.s 4)⟩,
     ⟨(some 26), none, .bin .or (.s 25) (.c (V.int .u8 128))⟩,
     ⟨(some 4), none, .mv (.s 26)⟩]
   (.done))
  (.done) [4] [25, 26, 4]
  (.ops [⟨(some 27), none, .mv (.s 3)⟩,
    ⟨(some 28), none, .mv (.s 4)⟩,
    ⟨(some 29), none, .slit ty_uint8 2 [(V.int .u8 0)] [(0, 1, (.s 27)), (1, 1, (.s 28))]⟩,
    ⟨(some 2), none, .mv (.s 29)⟩]
  (.ret)))))))))⟩

noncomputable def f_rtp_first (G : Sem') (t0 : V) : M Res :=
  (mbox ty_rtp_Packet t0).bind fun t1 =>
  (M.lift (Ax.faddr 5 t1)).bind fun t5 =>
  (mload none t5).bind fun t6 =>
  (M.lift (vlen t6)).bind fun t7 =>
  (M.lift (Ax.bin .or (V.int .i64 128) t7)).bind fun t8 =>
  (M.lift (Ax.cint .u8 t8)).bind fun t9 =>
  (M.lift (Ax.faddr 1 t1)).bind fun t10 =>
  (mload none t10).bind fun t11 =>
  (M.lift (Ax.cint .u8 t11)).bind fun t12 =>
  (M.lift (Ax.faddr 8 t1)).bind fun t13 =>
  (mload none t13).bind fun t14 =>
  (M.lift (Ax.bin .gtr t14 (V.int .i64 0))).bind fun t15 =>
  M.join (M.ite t15
    ((M.lift (Ax.bin .or t9 (V.int .u8 32))).bind fun t17 =>
    M.pure (.nrm [t17]))
    (M.pure (.nrm [t9]))) fun L0 =>
  (M.lift (Ax.faddr 6 t1)).bind fun t18 =>
  (mload none t18).bind fun t19 =>
  (M.lift (Ax.bin .neq t19 (V.int .i64 0))).bind fun t20 =>
  M.join (M.ite t20
    ((M.lift (Ax.bin .or (L0.getD 0 .undef) (V.int .u8 16))).bind fun t22 =>
    M.pure (.nrm [t22]))
    (M.pure (.nrm [(L0.getD 0 .undef)]))) fun L1 =>
  (M.lift (Ax.faddr 0 t1)).bind fun t23 =>
  (mload none t23).bind fun t24 =>
  M.join (M.ite t24
    ((M.lift (Ax.bin .or t12 (V.int .u8 128))).bind fun t26 =>
    M.pure (.nrm [t26]))
    (M.pure (.nrm [t12]))) fun L2 =>
  (mslit ty_uint8 2 [(V.int .u8 0)] [(0, 1, (L1.getD 0 .undef)), (1, 1, (L2.getD 0 .undef))]).bind fun t29 =>
  M.pure (.ret [t29])

theorem eq_rtp_first (G : Sem') (t0 : V) : execK G ir_rtp_first.rv ir_rtp_first.body [] [] (params 0 [t0]) = f_rtp_first G t0 := by kernel_rfl

theorem tb_rtp_first : T fn_rtp_first = some ir_rtp_first := by kernel_rfl

theorem ok_rtp_first {t0 : V} {H : Heap} {Q : V → Heap → Prop} (h : Ok (f_rtp_first (sem T) t0) H fun r H' => ∃ L, r = .ret L ∧ Q (tupled L) H') : Ok (sem T fn_rtp_first [t0]) H Q :=
  ok_sem tb_rtp_first (Nat.le_of_ble_eq_true rfl) (eq_rtp_first (sem T) t0) h

/-- palanquin/rtp.put. -/
def loop_rtp_put_0 : C :=
  .ops [⟨(some 10), none, .mv (.s 7)⟩,
    ⟨(some 11), none, .bin .geq (.s 10) (.c (V.int .i64 0))⟩]
  (.cond (.s 11)
  (.blk 1
   (.ops [⟨(some 14), none, .mv (.s 0)⟩,
      ⟨(some 15), none, .mv (.s 1)⟩,
      ⟨(some 16), none, .mv (.s 7)⟩,
      ⟨(some 17), none, .bin .mul (.c (V.int .i64 8)) (.s 16)⟩,
      ⟨(some 18), none, .bin .shr (.s 15) (.s 17)⟩,
      ⟨(some 19), none, .cint .u8 (.s 18)⟩,
      ⟨(some 20), none, .slit ty_uint8 1 [(V.int .u8 0)] [(0, 1, (.s 19))]⟩,
      ⟨(some 21), none, .append ty_uint8 1 1 (.s 14) (.s 20)⟩,
      ⟨(some 0), none, .mv (.s 21)⟩]
    (.done)) [0] [14, 15, 16, 17, 18, 19, 20, 21, 0]
   (.ops [⟨(some 12), none, .mv (.s 7)⟩,
     ⟨(some 13), none, .bin .sub (.s 12) (.c (V.int .i64 1))⟩,
     ⟨(some 7), none, .mv (.s 13)⟩]
   (.done)))
  (.exit 0))

def ir_rtp_put : Fn' := ⟨23, [.tmp 6],
  .ops [⟨(some 6), none, .mv (.c V.nils)⟩]
  (.ops [⟨(some 8), none, .mv (.s 2)⟩,
    ⟨(some 9), none, .bin .sub (.s 8) (.c (V.int .i64 1))⟩,
    ⟨(some 7), none, .mv (.s 9)⟩]
  (.blk 0
  (.loop loop_rtp_put_0 [0, 7] [10, 11, 14, 15, 16, 17, 18, 19, 20, 21, 0, 12, 13, 7]) [0] [10, 11, 14, 15, 16, 17, 18, 19, 20, 21, 0, 12, 13, 7]
  (.ops [⟨(some 22), none, .mv (.s 0)⟩,
    ⟨(some 6), none, .mv (.s 22)⟩]
  (.ret))))⟩

noncomputable def f_rtp_put_0 (G : Sem') (t1 t6 : V) (L : List V) : M Res :=
  (M.lift (Ax.bin .geq (L.getD 1 .undef) (V.int .i64 0))).bind fun t11 =>
  M.ite t11
    (M.blk 1 (
      (M.lift (Ax.bin .mul (V.int .i64 8) (L.getD 1 .undef))).bind fun t17 =>
      (M.lift (Ax.bin .shr t1 t17)).bind fun t18 =>
      (M.lift (Ax.cint .u8 t18)).bind fun t19 =>
      (mslit ty_uint8 1 [(V.int .u8 0)] [(0, 1, t19)]).bind fun t20 =>
      (mappend ty_uint8 1 1 (L.getD 0 .undef) t20).bind fun t21 =>
      M.pure (.nrm [t21])) fun L0 =>
    (M.lift (Ax.bin .sub (L.getD 1 .undef) (V.int .i64 1))).bind fun t13 =>
    M.pure (.nrm [(L0.getD 0 .undef), t13]))
    (M.pure (.ex 0 [(L.getD 0 .undef)]))

noncomputable def f_rtp_put (G : Sem') (t0 t1 t2 : V) : M Res :=
  (M.lift (Ax.bin .sub t2 (V.int .i64 1))).bind fun t9 =>
  M.blk 0 (
    M.iter (f_rtp_put_0 G t1 V.nils) [t0, t9]) fun L1 =>
  M.pure (.ret [(L1.getD 0 .undef)])

theorem eq_rtp_put (G : Sem') (t0 t1 t2 : V) : execK G ir_rtp_put.rv ir_rtp_put.body [] [] (params 0 [t0, t1, t2]) = f_rtp_put G t0 t1 t2 := by kernel_rfl

theorem tb_rtp_put : T fn_rtp_put = some ir_rtp_put := by kernel_rfl

theorem ok_rtp_put {t0 t1 t2 : V} {H : Heap} {Q : V → Heap → Prop} (h : Ok (f_rtp_put (sem T) t0 t1 t2) H fun r H' => ∃ L, r = .ret L ∧ Q (tupled L) H') : Ok (sem T fn_rtp_put [t0, t1, t2]) H Q :=
  ok_sem tb_rtp_put (Nat.le_of_ble_eq_true rfl) (eq_rtp_put (sem T) t0 t1 t2) h

/-- palanquin/rtp.elements. -/
def loop_rtp_elements_0 : C :=
  .ops [⟨(some 10), none, .bin .lss (.s 9) (.s 8)⟩]
  (.cond (.s 10)
  (.blk 1
   (.ops [⟨(some 11), none, .iaddr none 2 (.s 7) (.s 9)⟩,
      ⟨(some 12), none, .load (some 2) (.s 11)⟩,
      ⟨(some 5), none, .box ty_rtp_Ext (.c (V.agg [(V.int .i64 0), V.nils]))⟩,
      ⟨none, none, .store 2 (.s 5) (.s 12)⟩]
    (.ops [⟨(some 13), none, .faddr 6 (.s 1)⟩,
      ⟨(some 14), none, .load none (.s 13)⟩,
      ⟨(some 15), none, .bin .eql (.s 14) (.c (V.int .i64 48862))⟩]
    (.condJ (.s 15)
    (.ops [⟨(some 16), none, .mv (.s 3)⟩,
       ⟨(some 17), none, .faddr 0 (.s 5)⟩,
       ⟨(some 18), none, .load none (.s 17)⟩,
       ⟨(some 19), none, .bin .shl (.s 18) (.c (V.int .u64 4))⟩,
       ⟨(some 20), none, .faddr 1 (.s 5)⟩,
       ⟨(some 21), none, .load none (.s 20)⟩,
       ⟨(some 22), none, .len (.s 21)⟩,
       ⟨(some 23), none, .bin .sub (.s 22) (.c (V.int .i64 1))⟩,
       ⟨(some 24), none, .bin .or (.s 19) (.s 23)⟩,
       ⟨(some 25), none, .cint .u8 (.s 24)⟩,
       ⟨(some 26), none, .slit ty_uint8 1 [(V.int .u8 0)] [(0, 1, (.s 25))]⟩,
       ⟨(some 27), none, .append ty_uint8 1 1 (.s 16) (.s 26)⟩,
       ⟨(some 3), none, .mv (.s 27)⟩]
     (.done))
    (.ops [⟨(some 28), none, .mv (.s 3)⟩,
       ⟨(some 29), none, .faddr 0 (.s 5)⟩,
       ⟨(some 30), none, .load none (.s 29)⟩,
       ⟨(some 31), none, .cint .u8 (.s 30)⟩,
       ⟨(some 32), none, .faddr 1 (.s 5)⟩,
       ⟨(some 33), none, .load none (.s 32)⟩,
       ⟨(some 34), none, .len (.s 33)⟩,
       ⟨(some 35), none, .cint .u8 (.s 34)⟩,
       ⟨(some 36), none, .slit ty_uint8 2 [(V.int .u8 0)] [(0, 1, (.s 31)), (1, 1, (.s 35))]⟩,
       ⟨(some 37), none, .append ty_uint8 1 1 (.s 28) (.s 36)⟩,
       ⟨(some 3), none, .mv (.s 37)⟩]
     (.done)) [3] [16, 17, 18, 19, 20, 21, 22, 23, 24, 25, 26, 27, 3, 28, 29, 30, 31, 32, 33, 34, 35, 36, 37, 3]
    (.ops [⟨(some 38), none, .mv (.s 3)⟩,
      ⟨(some 39), none, .faddr 1 (.s 5)⟩,
      ⟨(some 40), none, .load none (.s 39)⟩,
      ⟨(some 41), none, .append ty_uint8 1 1 (.s 38) (.s 40)⟩,
      ⟨(some 3), none, .mv (.s 41)⟩]
    (.done))))) [3] [11, 12, 5, 13, 14, 15, 16, 17, 18, 19, 20, 21, 22, 23, 24, 25, 26, 27, 3, 28, 29, 30, 31, 32, 33, 34, 35, 36, 37, 3, 38, 39, 40, 41, 3]
   (.ops [⟨(some 42), none, .bin .add (.s 9) (.c (V.int .i64 1))⟩,
     ⟨(some 9), none, .mv (.s 42)⟩]
   (.done)))
  (.exit 0))

def loop_rtp_elements_1 : C :=
  .ops [⟨(some 43), none, .mv (.s 3)⟩,
    ⟨(some 44), none, .len (.s 43)⟩,
    ⟨(some 45), none, .bin .rem (.s 44) (.c (V.int .i64 4))⟩,
    ⟨(some 46), none, .bin .neq (.s 45) (.c (V.int .i64 0))⟩]
  (.cond (.s 46)
  (.blk 3
   (.ops [⟨(some 47), none, .mv (.s 3)⟩,
      ⟨(some 48), none, .slit ty_uint8 1 [(V.int .u8 0)] [(0, 1, (.c (V.int .u8 0)))]⟩,
      ⟨(some 49), none, .append ty_uint8 1 1 (.s 47) (.s 48)⟩,
      ⟨(some 3), none, .mv (.s 49)⟩]
    (.done)) [3] [47, 48, 49, 3]
   (.done))
  (.exit 2))

def ir_rtp_elements : Fn' := ⟨51, [.tmp 2],
  .ops [⟨(some 1), none, .box ty_rtp_Packet (.s 0)⟩,
    ⟨(some 2), none, .mv (.c V.nils)⟩]
  (.ops [⟨(some 3), none, .mv (.c V.nils)⟩]
  (.ops [⟨(some 6), none, .faddr 7 (.s 1)⟩,
    ⟨(some 7), none, .load none (.s 6)⟩,
    ⟨(some 8), none, .len (.s 7)⟩,
    ⟨(some 9), none, .mv (.c (V.int .i64 0))⟩]
  (.blk 0
  (.loop loop_rtp_elements_0 [3, 9] [10, 11, 12, 5, 13, 14, 15, 16, 17, 18, 19, 20, 21, 22, 23, 24, 25, 26, 27, 3, 28, 29, 30, 31, 32, 33, 34, 35, 36, 37, 3, 38, 39, 40, 41, 3, 42, 9]) [3] [10, 11, 12, 5, 13, 14, 15, 16, 17, 18, 19, 20, 21, 22, 23, 24, 25, 26, 27, 3, 28, 29, 30, 31, 32, 33, 34, 35, 36, 37, 3, 38, 39, 40, 41, 3, 42, 9]
  (.blk 2
  (.loop loop_rtp_elements_1 [3] [43, 44, 45, 46, 47, 48, 49, 3]) [3] [43, 44, 45, 46, 47, 48, 49, 3]
  (.ops [⟨(some 50), none, .mv (.s 3)⟩,
    ⟨(some 2), none, .mv (.s 50)⟩]
  (.ret))))))⟩

noncomputable def f_rtp_elements_0 (G : Sem') (t8 t7 t1 t2 : V) (L : List V) : M Res :=
  (M.lift (Ax.bin .lss (L.getD 1 .undef) t8)).bind fun t10 =>
  M.ite t10
    (M.blk 1 (
      (M.lift (Ax.iaddr none 2 t7 (L.getD 1 .undef))).bind fun t11 =>
      (mload (some 2) t11).bind fun t12 =>
      (mbox ty_rtp_Ext (V.agg [(V.int .i64 0), V.nils])).bind fun t5 =>
      (mstore 2 t5 t12).bind fun _ =>
      (M.lift (Ax.faddr 6 t1)).bind fun t13 =>
      (mload none t13).bind fun t14 =>
      (M.lift (Ax.bin .eql t14 (V.int .i64 48862))).bind fun t15 =>
      M.join (M.ite t15
        ((M.lift (Ax.faddr 0 t5)).bind fun t17 =>
        (mload none t17).bind fun t18 =>
        (M.lift (Ax.bin .shl t18 (V.int .u64 4))).bind fun t19 =>
        (M.lift (Ax.faddr 1 t5)).bind fun t20 =>
        (mload none t20).bind fun t21 =>
        (M.lift (vlen t21)).bind fun t22 =>
        (M.lift (Ax.bin .sub t22 (V.int .i64 1))).bind fun t23 =>
        (M.lift (Ax.bin .or t19 t23)).bind fun t24 =>
        (M.lift (Ax.cint .u8 t24)).bind fun t25 =>
        (mslit ty_uint8 1 [(V.int .u8 0)] [(0, 1, t25)]).bind fun t26 =>
        (mappend ty_uint8 1 1 (L.getD 0 .undef) t26).bind fun t27 =>
        M.pure (.nrm [t27]))
        ((M.lift (Ax.faddr 0 t5)).bind fun t29 =>
        (mload none t29).bind fun t30 =>
        (M.lift (Ax.cint .u8 t30)).bind fun t31 =>
        (M.lift (Ax.faddr 1 t5)).bind fun t32 =>
        (mload none t32).bind fun t33 =>
        (M.lift (vlen t33)).bind fun t34 =>
        (M.lift (Ax.cint .u8 t34)).bind fun t35 =>
        (mslit ty_uint8 2 [(V.int .u8 0)] [(0, 1, t31), (1, 1, t35)]).bind fun t36 =>
        (mappend ty_uint8 1 1 (L.getD 0 .undef) t36).bind fun t37 =>
        M.pure (.nrm [t37]))) fun L0 =>
      (M.lift (Ax.faddr 1 t5)).bind fun t39 =>
      (mload none t39).bind fun t40 =>
      (mappend ty_uint8 1 1 (L0.getD 0 .undef) t40).bind fun t41 =>
      M.pure (.nrm [t41])) fun L1 =>
    (M.lift (Ax.bin .add (L.getD 1 .undef) (V.int .i64 1))).bind fun t42 =>
    M.pure (.nrm [(L1.getD 0 .undef), t42]))
    (M.pure (.ex 0 [(L.getD 0 .undef)]))

noncomputable def f_rtp_elements_1 (G : Sem') (t2 : V) (L : List V) : M Res :=
  (M.lift (vlen (L.getD 0 .undef))).bind fun t44 =>
  (M.lift (Ax.bin .rem t44 (V.int .i64 4))).bind fun t45 =>
  (M.lift (Ax.bin .neq t45 (V.int .i64 0))).bind fun t46 =>
  M.ite t46
    (M.blk 3 (
      (mslit ty_uint8 1 [(V.int .u8 0)] [(0, 1, (V.int .u8 0))]).bind fun t48 =>
      (mappend ty_uint8 1 1 (L.getD 0 .undef) t48).bind fun t49 =>
      M.pure (.nrm [t49])) fun L3 =>
    M.pure (.nrm [(L3.getD 0 .undef)]))
    (M.pure (.ex 2 [(L.getD 0 .undef)]))

noncomputable def f_rtp_elements (G : Sem') (t0 : V) : M Res :=
  (mbox ty_rtp_Packet t0).bind fun t1 =>
  (M.lift (Ax.faddr 7 t1)).bind fun t6 =>
  (mload none t6).bind fun t7 =>
  (M.lift (vlen t7)).bind fun t8 =>
  M.blk 0 (
    M.iter (f_rtp_elements_0 G t8 t7 t1 V.nils) [V.nils, (V.int .i64 0)]) fun L2 =>
  M.blk 2 (
    M.iter (f_rtp_elements_1 G V.nils) [(L2.getD 0 .undef)]) fun L4 =>
  M.pure (.ret [(L4.getD 0 .undef)])

theorem eq_rtp_elements (G : Sem') (t0 : V) : execK G ir_rtp_elements.rv ir_rtp_elements.body [] [] (params 0 [t0]) = f_rtp_elements G t0 := by kernel_rfl

theorem tb_rtp_elements : T fn_rtp_elements = some ir_rtp_elements := by kernel_rfl

theorem ok_rtp_elements {t0 : V} {H : Heap} {Q : V → Heap → Prop} (h : Ok (f_rtp_elements (sem T) t0) H fun r H' => ∃ L, r = .ret L ∧ Q (tupled L) H') : Ok (sem T fn_rtp_elements [t0]) H Q :=
  ok_sem tb_rtp_elements (Nat.le_of_ble_eq_true rfl) (eq_rtp_elements (sem T) t0) h

/-- palanquin/palanquinref7.Bytes. -/
def loop_palanquinref7_Bytes_0 : C :=
  .ops [⟨(some 53), none, .mv (.s 5)⟩,
    ⟨(some 54), none, .faddr 5 (.s 1)⟩,
    ⟨(some 55), none, .load none (.s 54)⟩,
    ⟨(some 56), none, .len (.s 55)⟩,
    ⟨(some 57), none, .bin .lss (.s 53) (.s 56)⟩]
  (.cond (.s 57)
  (.blk 1
   (.ops [⟨(some 60), none, .mv (.s 4)⟩,
      ⟨(some 61), none, .faddr 5 (.s 1)⟩,
      ⟨(some 62), none, .load none (.s 61)⟩,
      ⟨(some 63), none, .mv (.s 5)⟩,
      ⟨(some 64), none, .iaddr none 1 (.s 62) (.s 63)⟩,
      ⟨(some 65), none, .load none (.s 64)⟩,
      ⟨(some 66), none, .cint .u64 (.s 65)⟩,
      ⟨(some 67), none, .call fn_palanquinref1_U [(.s 60), (.s 66), (.c (V.int .i64 4))]⟩,
      ⟨(some 4), none, .mv (.s 67)⟩]
    (.done)) [4] [60, 61, 62, 63, 64, 65, 66, 67, 4]
   (.ops [⟨(some 58), none, .mv (.s 5)⟩,
     ⟨(some 59), none, .bin .add (.s 58) (.c (V.int .i64 1))⟩,
     ⟨(some 5), none, .mv (.s 59)⟩]
   (.done)))
  (.exit 0))

def loop_palanquinref7_Bytes_1 : C :=
  .ops [⟨(some 72), none, .mv (.s 7)⟩,
    ⟨(some 73), none, .faddr 7 (.s 1)⟩,
    ⟨(some 74), none, .load none (.s 73)⟩,
    ⟨(some 75), none, .len (.s 74)⟩,
    ⟨(some 76), none, .bin .lss (.s 72) (.s 75)⟩]
  (.cond (.s 76)
  (.blk 3
   (.ops [⟨(some 79), none, .faddr 7 (.s 1)⟩,
      ⟨(some 80), none, .load none (.s 79)⟩,
      ⟨(some 81), none, .mv (.s 7)⟩,
      ⟨(some 82), none, .iaddr none 2 (.s 80) (.s 81)⟩,
      ⟨(some 83), none, .faddr 1 (.s 82)⟩,
      ⟨(some 84), none, .load none (.s 83)⟩,
      ⟨(some 85), none, .len (.s 84)⟩,
      ⟨(some 8), none, .mv (.s 85)⟩]
    (.ops [⟨(some 86), none, .faddr 6 (.s 1)⟩,
      ⟨(some 87), none, .load none (.s 86)⟩,
      ⟨(some 88), none, .bin .eql (.s 87) (.c (V.int .i64 48862))⟩]
    (.condJ (.s 88)
    (.ops [⟨(some 89), none, .mv (.s 6)⟩,
       ⟨(some 90), none, .faddr 7 (.s 1)⟩,
       ⟨(some 91), none, .load none (.s 90)⟩,
       ⟨(some 92), none, .mv (.s 7)⟩,
       ⟨(some 93), none, .iaddr none 2 (.s 91) (.s 92)⟩,
       ⟨(some 94), none, .faddr 0 (.s 93)⟩,
       ⟨(some 95), none, .load none (.s 94)⟩,
       ⟨(some 96), none, .bin .mul (.c (V.int .i64 16)) (.s 95)⟩,
       ⟨(some 97), none, .mv (.s 8)⟩,
       ⟨(some 98), none, .bin .add (.s 96) (.s 97)⟩,
       ⟨(some 99), none, .bin .sub (.s 98) (.c (V.int .i64 1))⟩,
       ⟨(some 100), none, .cint .u8 (.s 99)⟩,
       ⟨(some 101), none, .slit ty_uint8 1 [(V.int .u8 0)] [(0, 1, (.s 100))]⟩,
       ⟨(some 102), none, .append ty_uint8 1 1 (.s 89) (.s 101)⟩,
       ⟨(some 6), none, .mv (.s 102)⟩]
     (.done))
    (.ops [⟨(some 103), none, .mv (.s 6)⟩,
       ⟨(some 104), none, .faddr 7 (.s 1)⟩,
       ⟨(some 105), none, .load none (.s 104)⟩,
       ⟨(some 106), none, .mv (.s 7)⟩,
       ⟨(some 107), none, .iaddr none 2 (.s 105) (.s 106)⟩,
       ⟨(some 108), none, .faddr 0 (.s 107)⟩,
       ⟨(some 109), none, .load none (.s 108)⟩,
       ⟨(some 110), none, .cint .u8 (.s 109)⟩,
       ⟨(some 111), none, .mv (.s 8)⟩,
       ⟨(some 112), none, .cint .u8 (.s 111)⟩,
       ⟨(some 113), none, .slit ty_uint8 2 [(V.int .u8 0)] [(0, 1, (.s 110)), (1, 1, (.s 112))]⟩,
       ⟨(some 114), none, .append ty_uint8 1 1 (.s 103) (.s 113)⟩,
       ⟨(some 6), none, .mv (.s 114)⟩]
     (.done)) [6] [89, 90, 91, 92, 93, 94, 95, 96, 97, 98, 99, 100, 101, 102, 6, 103, 104, 105, 106, 107, 108, 109, 110, 111, 112, 113, 114, 6]
    (.ops [⟨(some 115), none, .mv (.s 6)⟩,
      ⟨(some 116), none, .faddr 7 (.s 1)⟩,
      ⟨(some 117), none, .load none (.s 116)⟩,
      ⟨(some 118), none, .mv (.s 7)⟩,
      ⟨(some 119), none, .iaddr none 2 (.s 117) (.s 118)⟩,
      ⟨(some 120), none, .faddr 1 (.s 119)⟩,
      ⟨(some 121), none, .load none (.s 120)⟩,
      ⟨(some 122), none, .append ty_uint8 1 1 (.s 115) (.s 121)⟩,
      ⟨(some 6), none, .mv (.s 122)⟩]
    (.done))))) [6] [79, 80, 81, 82, 83, 84, 85, 8, 86, 87, 88, 89, 90, 91, 92, 93, 94, 95, 96, 97, 98, 99, 100, 101, 102, 6, 103, 104, 105, 106, 107, 108, 109, 110, 111, 112, 113, 114, 6, 115, 116, 117, 118, 119, 120, 121, 122, 6]
   (.ops [⟨(some 77), none, .mv (.s 7)⟩,
     ⟨(some 78), none, .bin .add (.s 77) (.c (V.int .i64 1))⟩,
     ⟨(some 7), none, .mv (.s 78)⟩]
   (.done)))
  (.exit 2))

def loop_palanquinref7_Bytes_2 : C :=
  .ops [⟨(some 123), none, .mv (.s 6)⟩,
    ⟨(some 124), none, .len (.s 123)⟩,
    ⟨(some 125), none, .bin .rem (.s 124) (.c (V.int .i64 4))⟩,
    ⟨(some 126), none, .bin .neq (.s 125) (.c (V.int .i64 0))⟩]
  (.cond (.s 126)
  (.blk 5
   (.ops [⟨(some 127), none, .mv (.s 6)⟩,
      ⟨(some 128), none, .slit ty_uint8 1 [(V.int .u8 0)] [(0, 1, (.c (V.int .u8 0)))]⟩,
      ⟨(some 129), none, .append ty_uint8 1 1 (.s 127) (.s 128)⟩,
      ⟨(some 6), none, .mv (.s 129)⟩]
    (.done)) [6] [127, 128, 129, 6]
   (.done))
  (.exit 4))

def ir_palanquinref7_Bytes : Fn' := ⟨167, [.tmp 2, .tmp 3],
  .ops [⟨(some 1), none, .box ty_palanquinref7_Packet (.s 0)⟩,
    ⟨(some 2), none, .mv (.c V.nils)⟩,
    ⟨(some 3), none, .mv (.c (V.int .i64 0))⟩]
  (.ops [⟨(some 9), none, .load (some 10) (.s 1)⟩,
    ⟨(some 10), none, .call fn_palanquinref7_Good [(.s 9)]⟩,
    ⟨(some 11), none, .un .not (.s 10)⟩]
  (.cond (.s 11)
  (.ops [⟨(some 2), none, .mv (.c V.nils)⟩,
     ⟨(some 3), none, .mv (.c (V.int .i64 1))⟩]
   (.ret))
  (.draw [⟨(some 12), none, .faddr 8 (.s 1)⟩,
     ⟨(some 13), none, .load none (.s 12)⟩,
     ⟨(some 14), none, .bin .gtr (.s 13) (.c (V.int .i64 0))⟩,
     ⟨(some 18), none, .faddr 6 (.s 1)⟩,
     ⟨(some 19), none, .load none (.s 18)⟩,
     ⟨(some 20), none, .bin .neq (.s 19) (.c (V.int .i64 0))⟩,
     ⟨(some 24), none, .faddr 5 (.s 1)⟩,
     ⟨(some 25), none, .load none (.s 24)⟩,
     ⟨(some 26), none, .len (.s 25)⟩,
     ⟨(some 29), none, .faddr 0 (.s 1)⟩,
     ⟨(some 30), none, .load none (.s 29)⟩,
     ⟨(some 33), none, .faddr 1 (.s 1)⟩,
     ⟨(some 34), none, .load none (.s 33)⟩,
     ⟨(some 15), none, .call fn_palanquinref7_one [(.s 14)]⟩,
     ⟨(some 21), none, .call fn_palanquinref7_one [(.s 20)]⟩,
     ⟨(some 31), none, .call fn_palanquinref7_one [(.s 30)]⟩,
     ⟨(some 16), none, .bin .mul (.c (V.int .i64 32)) (.s 15)⟩,
     ⟨(some 17), none, .bin .add (.c (V.int .i64 128)) (.s 16)⟩,
     ⟨(some 22), none, .bin .mul (.c (V.int .i64 16)) (.s 21)⟩,
     ⟨(some 23), none, .bin .add (.s 17) (.s 22)⟩,
     ⟨(some 27), none, .bin .add (.s 23) (.s 26)⟩,
     ⟨(some 28), none, .cint .u8 (.s 27)⟩,
     ⟨(some 32), none, .bin .mul (.c (V.int .i64 128)) (.s 31)⟩,
     ⟨(some 35), none, .bin .add (.s 32) (.s 34)⟩,
     ⟨(some 36), none, .cint .u8 (.s 35)⟩,
     ⟨(some 37), none, .slit ty_uint8 2 [(V.int .u8 0)] [(0, 1, (.s 28)), (1, 1, (.s 36))]⟩,
     ⟨(some 4), none, .mv (.s 37)⟩] [(4, 13), (7, 13), (7, 14), (7, 15), (10, 13), (10, 14), (12, 13), (12, 14), (12, 15)]
   (.ops [⟨(some 38), none, .mv (.s 4)⟩,
     ⟨(some 39), none, .faddr 2 (.s 1)⟩,
     ⟨(some 40), none, .load none (.s 39)⟩,
     ⟨(some 41), none, .cint .u64 (.s 40)⟩,
     ⟨(some 42), none, .call fn_palanquinref1_U [(.s 38), (.s 41), (.c (V.int .i64 2))]⟩,
     ⟨(some 4), none, .mv (.s 42)⟩]
   (.ops [⟨(some 43), none, .mv (.s 4)⟩,
     ⟨(some 44), none, .faddr 3 (.s 1)⟩,
     ⟨(some 45), none, .load none (.s 44)⟩,
     ⟨(some 46), none, .cint .u64 (.s 45)⟩,
     ⟨(some 47), none, .call fn_palanquinref1_U [(.s 43), (.s 46), (.c (V.int .i64 4))]⟩,
     ⟨(some 4), none, .mv (.s 47)⟩]
   (.ops [⟨(some 48), none, .mv (.s 4)⟩,
     ⟨(some 49), none, .faddr 4 (.s 1)⟩,
     ⟨(some 50), none, .load none (.s 49)⟩,
     ⟨(some 51), none, .cint .u64 (.s 50)⟩,
     ⟨(some 52), none, .call fn_palanquinref1_U [(.s 48), (.s 51), (.c (V.int .i64 4))]⟩,
     ⟨(some 4), none, .mv (.s 52)⟩]
   (.ops [⟨(some 5), none, .mv (.c (V.int .i64 0))⟩]
   (.blk 0
   (.loop loop_palanquinref7_Bytes_0 [4, 5] [53, 54, 55, 56, 57, 60, 61, 62, 63, 64, 65, 66, 67, 4, 58, 59, 5]) [4] [53, 54, 55, 56, 57, 60, 61, 62, 63, 64, 65, 66, 67, 4, 58, 59, 5]
   (.ops [⟨(some 68), none, .faddr 6 (.s 1)⟩,
     ⟨(some 69), none, .load none (.s 68)⟩,
     ⟨(some 70), none, .bin .neq (.s 69) (.c (V.int .i64 0))⟩]
   (.condJ (.s 70)
   (.ops [⟨(some 71), none, .slit ty_uint8 0 [(V.int .u8 0)] []⟩,
      ⟨(some 6), none, .mv (.s 71)⟩]
    (.ops [⟨(some 7), none, .mv (.c (V.int .i64 0))⟩]
    (.blk 2
    (.loop loop_palanquinref7_Bytes_1 [6, 7] [72, 73, 74, 75, 76, 79, 80, 81, 82, 83, 84, 85, 8, 86, 87, 88, 89, 90, 91, 92, 93, 94, 95, 96, 97, 98, 99, 100, 101, 102, 6, 103, 104, 105, 106, 107, 108, 109, 110, 111, 112, 113, 114, 6, 115, 116, 117, 118, 119, 120, 121, 122, 6, 77, 78, 7]) [6] [72, 73, 74, 75, 76, 79, 80, 81, 82, 83, 84, 85, 8, 86, 87, 88, 89, 90, 91, 92, 93, 94, 95, 96, 97, 98, 99, 100, 101, 102, 6, 103, 104, 105, 106, 107, 108, 109, 110, 111, 112, 113, 114, 6, 115, 116, 117, 118, 119, 120, 121, 122, 6, 77, 78, 7]
    (.blk 4
    (.loop loop_palanquinref7_Bytes_2 [6] [123, 124, 125, 126, 127, 128, 129, 6]) [6] [123, 124, 125, 126, 127, 128, 129, 6]
    (.ops [⟨(some 130), none, .mv (.s 6)⟩,
      ⟨(some 131), none, .len (.s 130)⟩,
      ⟨(some 132), none, .bin .gtr (.s 131) (.c (V.int .i64 1200))⟩]
    (.cond (.s 132)
    (.ops [⟨(some 2), none, .mv (.c V.nils)⟩,
       ⟨(some 3), none, .mv (.c (V.int .i64 4))⟩]
     (.ret))
    (.ops [⟨(some 133), none, .mv (.s 4)⟩,
       ⟨(some 134), none, .faddr 6 (.s 1)⟩,
       ⟨(some 135), none, .load none (.s 134)⟩,
       ⟨(some 136), none, .cint .u64 (.s 135)⟩,
       ⟨(some 137), none, .call fn_palanquinref1_U [(.s 133), (.s 136), (.c (V.int .i64 2))]⟩,
       ⟨(some 138), none, .mv (.s 6)⟩,
       ⟨(some 139), none, .len (.s 138)⟩,
       ⟨(some 140), none, .bin .quo (.s 139) (.c (V.int .i64 4))⟩,
       ⟨(some 141), none, .cint .u64 (.s 140)⟩,
       ⟨(some 142), none, .call fn_palanquinref1_U [(.s 137), (.s 141), (.c (V.int .i64 2))]⟩,
       ⟨(some 4), none, .mv (.s 142)⟩]
     (.ops [⟨(some 143), none, .mv (.s 4)⟩,
       ⟨(some 144), none, .mv (.s 6)⟩,
       ⟨(some 145), none, .append ty_uint8 1 1 (.s 143) (.s 144)⟩,
       ⟨(some 4), none, .mv (.s 145)⟩]
     (.done)))))))))
   (.done) [4] [71, 6, 7, 72, 73, 74, 75, 76, 79, 80, 81, 82, 83, 84, 85, 8, 86, 87, 88, 89, 90, 91, 92, 93, 94, 95, 96, 97, 98, 99, 100, 101, 102, 6, 103, 104, 105, 106, 107, 108, 109, 110, 111, 112, 113, 114, 6, 115, 116, 117, 118, 119, 120, 121, 122, 6, 77, 78, 7, 123, 124, 125, 126, 127, 128, 129, 6, 130, 131, 132, 2, 3, 133, 134, 135, 136, 137, 138, 139, 140, 141, 142, 4, 143, 144, 145, 4]
   (.ops [⟨(some 146), none, .mv (.s 4)⟩,
     ⟨(some 147), none, .faddr 9 (.s 1)⟩,
     ⟨(some 148), none, .load none (.s 147)⟩,
     ⟨(some 149), none, .append ty_uint8 1 1 (.s 146) (.s 148)⟩,
     ⟨(some 4), none, .mv (.s 149)⟩]
   (.ops [⟨(some 150), none, .faddr 8 (.s 1)⟩,
     ⟨(some 151), none, .load none (.s 150)⟩,
     ⟨(some 152), none, .bin .gtr (.s 151) (.c (V.int .i64 0))⟩]
   (.condJ (.s 152)
   (.draw [⟨(some 153), none, .mv (.s 4)⟩,
      ⟨(some 154), none, .faddr 8 (.s 1)⟩,
      ⟨(some 155), none, .load none (.s 154)⟩,
      ⟨(some 156), none, .bin .sub (.s 155) (.c (V.int .i64 1))⟩,
      ⟨(some 158), none, .faddr 8 (.s 1)⟩,
      ⟨(some 159), none, .load none (.s 158)⟩,
      ⟨(some 160), none, .cint .u8 (.s 159)⟩,
      ⟨(some 157), none, .appendz ty_uint8 1 [(V.int .u8 0)] (.s 153) (.s 156)⟩,
      ⟨(some 161), none, .slit ty_uint8 1 [(V.int .u8 0)] [(0, 1, (.s 160))]⟩,
      ⟨(some 162), none, .append ty_uint8 1 1 (.s 157) (.s 161)⟩,
      ⟨(some 4), none, .mv (.s 162)⟩] [(5, 7)]
    (.done))
   (.done) [4] [153, 154, 155, 156, 157, 158, 159, 160, 161, 162, 4]
   (.ops [⟨(some 163), none, .mv (.s 4)⟩,
     ⟨(some 164), none, .len (.s 163)⟩,
     ⟨(some 165), none, .bin .gtr (.s 164) (.c (V.int .i64 1200))⟩]
   (.cond (.s 165)
   (.ops [⟨(some 2), none, .mv (.c V.nils)⟩,
      ⟨(some 3), none, .mv (.c (V.int .i64 4))⟩]
    (.ret))
   (.ops [⟨(some 166), none, .mv (.s 4)⟩,
      ⟨(some 2), none, .mv (.s 166)⟩,
      ⟨(some 3), none, .mv (.c (V.int .i64 0))⟩]
    (.ret)))))))))))))))))⟩

noncomputable def f_palanquinref7_Bytes_0 (G : Sem') (t1 t2 t3 : V) (L : List V) : M Res :=
  (M.lift (Ax.faddr 5 t1)).bind fun t54 =>
  (mload none t54).bind fun t55 =>
  (M.lift (vlen t55)).bind fun t56 =>
  (M.lift (Ax.bin .lss (L.getD 1 .undef) t56)).bind fun t57 =>
  M.ite t57
    (M.blk 1 (
      (M.lift (Ax.faddr 5 t1)).bind fun t61 =>
      (mload none t61).bind fun t62 =>
      (M.lift (Ax.iaddr none 1 t62 (L.getD 1 .undef))).bind fun t64 =>
      (mload none t64).bind fun t65 =>
      (M.lift (Ax.cint .u64 t65)).bind fun t66 =>
      (G fn_palanquinref1_U [(L.getD 0 .undef), t66, (V.int .i64 4)]).bind fun t67 =>
      M.pure (.nrm [t67])) fun L0 =>
    (M.lift (Ax.bin .add (L.getD 1 .undef) (V.int .i64 1))).bind fun t59 =>
    M.pure (.nrm [(L0.getD 0 .undef), t59]))
    (M.pure (.ex 0 [(L.getD 0 .undef)]))

noncomputable def f_palanquinref7_Bytes_1 (G : Sem') (t1 t2 t3 : V) (L : List V) : M Res :=
  (M.lift (Ax.faddr 7 t1)).bind fun t73 =>
  (mload none t73).bind fun t74 =>
  (M.lift (vlen t74)).bind fun t75 =>
  (M.lift (Ax.bin .lss (L.getD 1 .undef) t75)).bind fun t76 =>
  M.ite t76
    (M.blk 3 (
      (M.lift (Ax.faddr 7 t1)).bind fun t79 =>
      (mload none t79).bind fun t80 =>
      (M.lift (Ax.iaddr none 2 t80 (L.getD 1 .undef))).bind fun t82 =>
      (M.lift (Ax.faddr 1 t82)).bind fun t83 =>
      (mload none t83).bind fun t84 =>
      (M.lift (vlen t84)).bind fun t85 =>
      (M.lift (Ax.faddr 6 t1)).bind fun t86 =>
      (mload none t86).bind fun t87 =>
      (M.lift (Ax.bin .eql t87 (V.int .i64 48862))).bind fun t88 =>
      M.join (M.ite t88
        ((M.lift (Ax.faddr 7 t1)).bind fun t90 =>
        (mload none t90).bind fun t91 =>
        (M.lift (Ax.iaddr none 2 t91 (L.getD 1 .undef))).bind fun t93 =>
        (M.lift (Ax.faddr 0 t93)).bind fun t94 =>
        (mload none t94).bind fun t95 =>
        (M.lift (Ax.bin .mul (V.int .i64 16) t95)).bind fun t96 =>
        (M.lift (Ax.bin .add t96 t85)).bind fun t98 =>
        (M.lift (Ax.bin .sub t98 (V.int .i64 1))).bind fun t99 =>
        (M.lift (Ax.cint .u8 t99)).bind fun t100 =>
        (mslit ty_uint8 1 [(V.int .u8 0)] [(0, 1, t100)]).bind fun t101 =>
        (mappend ty_uint8 1 1 (L.getD 0 .undef) t101).bind fun t102 =>
        M.pure (.nrm [t102]))
        ((M.lift (Ax.faddr 7 t1)).bind fun t104 =>
        (mload none t104).bind fun t105 =>
        (M.lift (Ax.iaddr none 2 t105 (L.getD 1 .undef))).bind fun t107 =>
        (M.lift (Ax.faddr 0 t107)).bind fun t108 =>
        (mload none t108).bind fun t109 =>
        (M.lift (Ax.cint .u8 t109)).bind fun t110 =>
        (M.lift (Ax.cint .u8 t85)).bind fun t112 =>
        (mslit ty_uint8 2 [(V.int .u8 0)] [(0, 1, t110), (1, 1, t112)]).bind fun t113 =>
        (mappend ty_uint8 1 1 (L.getD 0 .undef) t113).bind fun t114 =>
        M.pure (.nrm [t114]))) fun L2 =>
      (M.lift (Ax.faddr 7 t1)).bind fun t116 =>
      (mload none t116).bind fun t117 =>
      (M.lift (Ax.iaddr none 2 t117 (L.getD 1 .undef))).bind fun t119 =>
      (M.lift (Ax.faddr 1 t119)).bind fun t120 =>
      (mload none t120).bind fun t121 =>
      (mappend ty_uint8 1 1 (L2.getD 0 .undef) t121).bind fun t122 =>
      M.pure (.nrm [t122])) fun L3 =>
    (M.lift (Ax.bin .add (L.getD 1 .undef) (V.int .i64 1))).bind fun t78 =>
    M.pure (.nrm [(L3.getD 0 .undef), t78]))
    (M.pure (.ex 2 [(L.getD 0 .undef)]))

noncomputable def f_palanquinref7_Bytes_2 (G : Sem') (t2 t3 : V) (L : List V) : M Res :=
  (M.lift (vlen (L.getD 0 .undef))).bind fun t124 =>
  (M.lift (Ax.bin .rem t124 (V.int .i64 4))).bind fun t125 =>
  (M.lift (Ax.bin .neq t125 (V.int .i64 0))).bind fun t126 =>
  M.ite t126
    (M.blk 5 (
      (mslit ty_uint8 1 [(V.int .u8 0)] [(0, 1, (V.int .u8 0))]).bind fun t128 =>
      (mappend ty_uint8 1 1 (L.getD 0 .undef) t128).bind fun t129 =>
      M.pure (.nrm [t129])) fun L5 =>
    M.pure (.nrm [(L5.getD 0 .undef)]))
    (M.pure (.ex 4 [(L.getD 0 .undef)]))

noncomputable def f_palanquinref7_Bytes (G : Sem') (t0 : V) : M Res :=
  (mbox ty_palanquinref7_Packet t0).bind fun t1 =>
  (mload (some 10) t1).bind fun t9 =>
  (G fn_palanquinref7_Good [t9]).bind fun t10 =>
  (M.lift (Ax.un .not t10)).bind fun t11 =>
  M.ite t11
    (M.pure (.ret [V.nils, (V.int .i64 1)]))
    ((M.lift (Ax.faddr 8 t1)).bind fun t12 =>
    (mload none t12).bind fun t13 =>
    (M.lift (Ax.bin .gtr t13 (V.int .i64 0))).bind fun t14 =>
    (M.lift (Ax.faddr 6 t1)).bind fun t18 =>
    (mload none t18).bind fun t19 =>
    (M.lift (Ax.bin .neq t19 (V.int .i64 0))).bind fun t20 =>
    (M.lift (Ax.faddr 5 t1)).bind fun t24 =>
    (mload none t24).bind fun t25 =>
    (M.lift (vlen t25)).bind fun t26 =>
    (M.lift (Ax.faddr 0 t1)).bind fun t29 =>
    (mload none t29).bind fun t30 =>
    (M.lift (Ax.faddr 1 t1)).bind fun t33 =>
    (mload none t33).bind fun t34 =>
    M.getH.bind fun h0 =>
    (G fn_palanquinref7_one [t14]).bind fun t15 =>
    M.getH.bind fun h0' =>
    (M.unch t33 h0 h0').bind fun _ =>
    (M.unch t29 h0 h0').bind fun _ =>
    (M.unch t24 h0 h0').bind fun _ =>
    (M.unch t18 h0 h0').bind fun _ =>
    M.getH.bind fun h1 =>
    (G fn_palanquinref7_one [t20]).bind fun t21 =>
    M.getH.bind fun h1' =>
    (M.unch t33 h1 h1').bind fun _ =>
    (M.unch t29 h1 h1').bind fun _ =>
    (M.unch t24 h1 h1').bind fun _ =>
    M.getH.bind fun h2 =>
    (G fn_palanquinref7_one [t30]).bind fun t31 =>
    M.getH.bind fun h2' =>
    (M.unch t33 h2 h2').bind fun _ =>
    (M.unch t24 h2 h2').bind fun _ =>
    (M.lift (Ax.bin .mul (V.int .i64 32) t15)).bind fun t16 =>
    (M.lift (Ax.bin .add (V.int .i64 128) t16)).bind fun t17 =>
    (M.lift (Ax.bin .mul (V.int .i64 16) t21)).bind fun t22 =>
    (M.lift (Ax.bin .add t17 t22)).bind fun t23 =>
    (M.lift (Ax.bin .add t23 t26)).bind fun t27 =>
    (M.lift (Ax.cint .u8 t27)).bind fun t28 =>
    (M.lift (Ax.bin .mul (V.int .i64 128) t31)).bind fun t32 =>
    (M.lift (Ax.bin .add t32 t34)).bind fun t35 =>
    (M.lift (Ax.cint .u8 t35)).bind fun t36 =>
    (mslit ty_uint8 2 [(V.int .u8 0)] [(0, 1, t28), (1, 1, t36)]).bind fun t37 =>
    (M.lift (Ax.faddr 2 t1)).bind fun t39 =>
    (mload none t39).bind fun t40 =>
    (M.lift (Ax.cint .u64 t40)).bind fun t41 =>
    (G fn_palanquinref1_U [t37, t41, (V.int .i64 2)]).bind fun t42 =>
    (M.lift (Ax.faddr 3 t1)).bind fun t44 =>
    (mload none t44).bind fun t45 =>
    (M.lift (Ax.cint .u64 t45)).bind fun t46 =>
    (G fn_palanquinref1_U [t42, t46, (V.int .i64 4)]).bind fun t47 =>
    (M.lift (Ax.faddr 4 t1)).bind fun t49 =>
    (mload none t49).bind fun t50 =>
    (M.lift (Ax.cint .u64 t50)).bind fun t51 =>
    (G fn_palanquinref1_U [t47, t51, (V.int .i64 4)]).bind fun t52 =>
    M.blk 0 (
      M.iter (f_palanquinref7_Bytes_0 G t1 V.nils (V.int .i64 0)) [t52, (V.int .i64 0)]) fun L1 =>
    (M.lift (Ax.faddr 6 t1)).bind fun t68 =>
    (mload none t68).bind fun t69 =>
    (M.lift (Ax.bin .neq t69 (V.int .i64 0))).bind fun t70 =>
    M.join (M.ite t70
      ((mslit ty_uint8 0 [(V.int .u8 0)] []).bind fun t71 =>
      M.blk 2 (
        M.iter (f_palanquinref7_Bytes_1 G t1 V.nils (V.int .i64 0)) [t71, (V.int .i64 0)]) fun L4 =>
      M.blk 4 (
        M.iter (f_palanquinref7_Bytes_2 G V.nils (V.int .i64 0)) [(L4.getD 0 .undef)]) fun L6 =>
      (M.lift (vlen (L6.getD 0 .undef))).bind fun t131 =>
      (M.lift (Ax.bin .gtr t131 (V.int .i64 1200))).bind fun t132 =>
      M.ite t132
        (M.pure (.ret [V.nils, (V.int .i64 4)]))
        ((M.lift (Ax.faddr 6 t1)).bind fun t134 =>
        (mload none t134).bind fun t135 =>
        (M.lift (Ax.cint .u64 t135)).bind fun t136 =>
        (G fn_palanquinref1_U [(L1.getD 0 .undef), t136, (V.int .i64 2)]).bind fun t137 =>
        (M.lift (vlen (L6.getD 0 .undef))).bind fun t139 =>
        (M.lift (Ax.bin .quo t139 (V.int .i64 4))).bind fun t140 =>
        (M.lift (Ax.cint .u64 t140)).bind fun t141 =>
        (G fn_palanquinref1_U [t137, t141, (V.int .i64 2)]).bind fun t142 =>
        (mappend ty_uint8 1 1 t142 (L6.getD 0 .undef)).bind fun t145 =>
        M.pure (.nrm [t145])))
      (M.pure (.nrm [(L1.getD 0 .undef)]))) fun L7 =>
    (M.lift (Ax.faddr 9 t1)).bind fun t147 =>
    (mload none t147).bind fun t148 =>
    (mappend ty_uint8 1 1 (L7.getD 0 .undef) t148).bind fun t149 =>
    (M.lift (Ax.faddr 8 t1)).bind fun t150 =>
    (mload none t150).bind fun t151 =>
    (M.lift (Ax.bin .gtr t151 (V.int .i64 0))).bind fun t152 =>
    M.join (M.ite t152
      ((M.lift (Ax.faddr 8 t1)).bind fun t154 =>
      (mload none t154).bind fun t155 =>
      (M.lift (Ax.bin .sub t155 (V.int .i64 1))).bind fun t156 =>
      (M.lift (Ax.faddr 8 t1)).bind fun t158 =>
      (mload none t158).bind fun t159 =>
      (M.lift (Ax.cint .u8 t159)).bind fun t160 =>
      M.getH.bind fun h3 =>
      (mappendz ty_uint8 1 [(V.int .u8 0)] t149 t156).bind fun t157 =>
      M.getH.bind fun h3' =>
      (M.unch t158 h3 h3').bind fun _ =>
      (mslit ty_uint8 1 [(V.int .u8 0)] [(0, 1, t160)]).bind fun t161 =>
      (mappend ty_uint8 1 1 t157 t161).bind fun t162 =>
      M.pure (.nrm [t162]))
      (M.pure (.nrm [t149]))) fun L8 =>
    (M.lift (vlen (L8.getD 0 .undef))).bind fun t164 =>
    (M.lift (Ax.bin .gtr t164 (V.int .i64 1200))).bind fun t165 =>
    M.ite t165
      (M.pure (.ret [V.nils, (V.int .i64 4)]))
      (M.pure (.ret [(L8.getD 0 .undef), (V.int .i64 0)])))

theorem eq_palanquinref7_Bytes (G : Sem') (t0 : V) : execK G ir_palanquinref7_Bytes.rv ir_palanquinref7_Bytes.body [] [] (params 0 [t0]) = f_palanquinref7_Bytes G t0 := by kernel_rfl

theorem tb_palanquinref7_Bytes : T fn_palanquinref7_Bytes = some ir_palanquinref7_Bytes := by kernel_rfl

theorem ok_palanquinref7_Bytes {t0 : V} {H : Heap} {Q : V → Heap → Prop} (h : Ok (f_palanquinref7_Bytes (sem T) t0) H fun r H' => ∃ L, r = .ret L ∧ Q (tupled L) H') : Ok (sem T fn_palanquinref7_Bytes [t0]) H Q :=
  ok_sem tb_palanquinref7_Bytes (Nat.le_of_ble_eq_true rfl) (eq_palanquinref7_Bytes (sem T) t0) h

/-- palanquin/palanquinref7.Good. -/
def loop_palanquinref7_Good_0 : C :=
  .ops [⟨(some 53), none, .mv (.s 3)⟩,
    ⟨(some 54), none, .faddr 7 (.s 1)⟩,
    ⟨(some 55), none, .load none (.s 54)⟩,
    ⟨(some 56), none, .len (.s 55)⟩,
    ⟨(some 57), none, .bin .lss (.s 53) (.s 56)⟩]
  (.cond (.s 57)
  (.blk 1
   (.ops [⟨(some 60), none, .faddr 7 (.s 1)⟩,
      ⟨(some 61), none, .load none (.s 60)⟩,
      ⟨(some 62), none, .mv (.s 3)⟩,
      ⟨(some 63), none, .iaddr none 2 (.s 61) (.s 62)⟩,
      ⟨(some 64), none, .load (some 2) (.s 63)⟩,
      ⟨(some 4), none, .box ty_palanquinref7_Ext (.c (V.agg [(V.int .i64 0), V.nils]))⟩,
      ⟨none, none, .store 2 (.s 4) (.s 64)⟩]
    (.ops [⟨(some 65), none, .faddr 6 (.s 1)⟩,
      ⟨(some 66), none, .load none (.s 65)⟩,
      ⟨(some 67), none, .bin .eql (.s 66) (.c (V.int .i64 48862))⟩,
      ⟨(some 68), none, .mv (.s 67)⟩,
      ⟨(some 69), (some (68, true)), .faddr 0 (.s 4)⟩,
      ⟨(some 70), (some (68, true)), .load none (.s 69)⟩,
      ⟨(some 71), (some (68, true)), .bin .lss (.s 70) (.c (V.int .i64 1))⟩,
      ⟨(some 72), (some (68, true)), .mv (.s 71)⟩,
      ⟨(some 73), (some (72, false)), .faddr 0 (.s 4)⟩,
      ⟨(some 74), (some (72, false)), .load none (.s 73)⟩,
      ⟨(some 75), (some (72, false)), .bin .gtr (.s 74) (.c (V.int .i64 14))⟩,
      ⟨(some 76), (some (68, true)), .pick (.s 72) (.c (V.bool true)) (.s 75)⟩,
      ⟨(some 77), (some (68, true)), .mv (.s 76)⟩,
      ⟨(some 78), (some (77, false)), .faddr 1 (.s 4)⟩,
      ⟨(some 79), (some (77, false)), .load none (.s 78)⟩,
      ⟨(some 80), (some (77, false)), .len (.s 79)⟩,
      ⟨(some 81), (some (77, false)), .bin .lss (.s 80) (.c (V.int .i64 1))⟩,
      ⟨(some 82), (some (68, true)), .pick (.s 77) (.c (V.bool true)) (.s 81)⟩,
      ⟨(some 83), (some (68, true)), .mv (.s 82)⟩,
      ⟨(some 84), (some (83, false)), .faddr 1 (.s 4)⟩,
      ⟨(some 85), (some (83, false)), .load none (.s 84)⟩,
      ⟨(some 86), (some (83, false)), .len (.s 85)⟩,
      ⟨(some 87), (some (83, false)), .bin .gtr (.s 86) (.c (V.int .i64 16))⟩,
      ⟨(some 88), (some (68, true)), .pick (.s 83) (.c (V.bool true)) (.s 87)⟩,
      ⟨(some 89), none, .pick (.s 68) (.s 88) (.c (V.bool false))⟩,
      ⟨(some 90), none, .mv (.s 89)⟩,
      ⟨(some 91), (some (90, false)), .faddr 6 (.s 1)⟩,
      ⟨(some 92), (some (90, false)), .load none (.s 91)⟩,
      ⟨(some 93), (some (90, false)), .bin .eql (.s 92) (.c (V.int .i64 4096))⟩,
      ⟨(some 94), (some (90, false)), .mv (.s 93)⟩,
      ⟨(some 95), (some (94, true)), .faddr 0 (.s 4)⟩,
      ⟨(some 96), (some (94, true)), .load none (.s 95)⟩,
      ⟨(some 97), (some (94, true)), .bin .lss (.s 96) (.c (V.int .i64 1))⟩,
      ⟨(some 98), (some (94, true)), .mv (.s 97)⟩,
      ⟨(some 99), (some (98, false)), .faddr 0 (.s 4)⟩,
      ⟨(some 100), (some (98, false)), .load none (.s 99)⟩,
      ⟨(some 101), (some (98, false)), .bin .gtr (.s 100) (.c (V.int .i64 255))⟩,
      ⟨(some 102), (some (94, true)), .pick (.s 98) (.c (V.bool true)) (.s 101)⟩,
      ⟨(some 103), (some (94, true)), .mv (.s 102)⟩,
      ⟨(some 104), (some (103, false)), .faddr 1 (.s 4)⟩,
      ⟨(some 105), (some (103, false)), .load none (.s 104)⟩,
      ⟨(some 106), (some (103, false)), .len (.s 105)⟩,
      ⟨(some 107), (some (103, false)), .bin .gtr (.s 106) (.c (V.int .i64 255))⟩,
      ⟨(some 108), (some (94, true)), .pick (.s 103) (.c (V.bool true)) (.s 107)⟩,
      ⟨(some 109), (some (90, false)), .pick (.s 94) (.s 108) (.c (V.bool false))⟩,
      ⟨(some 110), none, .pick (.s 90) (.c (V.bool true)) (.s 109)⟩]
    (.cond (.s 110)
    (.ops [⟨(some 2), none, .mv (.c (V.bool false))⟩]
     (.ret))
    (.done)))) [] [60, 61, 62, 63, 64, 4, 65, 66, 67, 68, 69, 70, 71, 72, 73, 74, 75, 76, 77, 78, 79, 80, 81, 82, 83, 84, 85, 86, 87, 88, 89, 90, 91, 92, 93, 94, 95, 96, 97, 98, 99, 100, 101, 102, 103, 104, 105, 106, 107, 108, 109, 110, 2]
   (.ops [⟨(some 58), none, .mv (.s 3)⟩,
     ⟨(some 59), none, .bin .add (.s 58) (.c (V.int .i64 1))⟩,
     ⟨(some 3), none, .mv (.s 59)⟩]
   (.done)))
  (.exit 0))

def ir_palanquinref7_Good : Fn' := ⟨111, [.tmp 2],
  .ops [⟨(some 1), none, .box ty_palanquinref7_Packet (.s 0)⟩,
    ⟨(some 2), none, .mv (.c (V.bool false))⟩]
  (.ops [⟨(some 5), none, .faddr 1 (.s 1)⟩,
    ⟨(some 6), none, .load none (.s 5)⟩,
    ⟨(some 7), none, .bin .lss (.s 6) (.c (V.int .i64 0))⟩,
    ⟨(some 8), none, .mv (.s 7)⟩,
    ⟨(some 9), (some (8, false)), .faddr 1 (.s 1)⟩,
    ⟨(some 10), (some (8, false)), .load none (.s 9)⟩,
    ⟨(some 11), (some (8, false)), .bin .gtr (.s 10) (.c (V.int .i64 127))⟩,
    ⟨(some 12), none, .pick (.s 8) (.c (V.bool true)) (.s 11)⟩,
    ⟨(some 13), none, .mv (.s 12)⟩,
    ⟨(some 14), (some (13, false)), .faddr 5 (.s 1)⟩,
    ⟨(some 15), (some (13, false)), .load none (.s 14)⟩,
    ⟨(some 16), (some (13, false)), .len (.s 15)⟩,
    ⟨(some 17), (some (13, false)), .bin .gtr (.s 16) (.c (V.int .i64 15))⟩,
    ⟨(some 18), none, .pick (.s 13) (.c (V.bool true)) (.s 17)⟩,
    ⟨(some 19), none, .mv (.s 18)⟩,
    ⟨(some 20), (some (19, false)), .faddr 8 (.s 1)⟩,
    ⟨(some 21), (some (19, false)), .load none (.s 20)⟩,
    ⟨(some 22), (some (19, false)), .bin .lss (.s 21) (.c (V.int .i64 0))⟩,
    ⟨(some 23), none, .pick (.s 19) (.c (V.bool true)) (.s 22)⟩,
    ⟨(some 24), none, .mv (.s 23)⟩,
    ⟨(some 25), (some (24, false)), .faddr 8 (.s 1)⟩,
    ⟨(some 26), (some (24, false)), .load none (.s 25)⟩,
    ⟨(some 27), (some (24, false)), .bin .gtr (.s 26) (.c (V.int .i64 255))⟩,
    ⟨(some 28), none, .pick (.s 24) (.c (V.bool true)) (.s 27)⟩]
  (.cond (.s 28)
  (.ops [⟨(some 2), none, .mv (.c (V.bool false))⟩]
   (.ret))
  (.ops [⟨(some 29), none, .faddr 6 (.s 1)⟩,
     ⟨(some 30), none, .load none (.s 29)⟩,
     ⟨(some 31), none, .bin .neq (.s 30) (.c (V.int .i64 0))⟩,
     ⟨(some 32), none, .mv (.s 31)⟩,
     ⟨(some 33), (some (32, true)), .faddr 6 (.s 1)⟩,
     ⟨(some 34), (some (32, true)), .load none (.s 33)⟩,
     ⟨(some 35), (some (32, true)), .bin .neq (.s 34) (.c (V.int .i64 48862))⟩,
     ⟨(some 36), none, .pick (.s 32) (.s 35) (.c (V.bool false))⟩,
     ⟨(some 37), none, .mv (.s 36)⟩,
     ⟨(some 38), (some (37, true)), .faddr 6 (.s 1)⟩,
     ⟨(some 39), (some (37, true)), .load none (.s 38)⟩,
     ⟨(some 40), (some (37, true)), .bin .neq (.s 39) (.c (V.int .i64 4096))⟩,
     ⟨(some 41), none, .pick (.s 37) (.s 40) (.c (V.bool false))⟩,
     ⟨(some 42), none, .mv (.s 41)⟩,
     ⟨(some 43), (some (42, false)), .faddr 6 (.s 1)⟩,
     ⟨(some 44), (some (42, false)), .load none (.s 43)⟩,
     ⟨(some 45), (some (42, false)), .bin .eql (.s 44) (.c (V.int .i64 0))⟩,
     ⟨(some 46), (some (42, false)), .mv (.s 45)⟩,
     ⟨(some 47), (some (46, true)), .faddr 7 (.s 1)⟩,
     ⟨(some 48), (some (46, true)), .load none (.s 47)⟩,
     ⟨(some 49), (some (46, true)), .len (.s 48)⟩,
     ⟨(some 50), (some (46, true)), .bin .gtr (.s 49) (.c (V.int .i64 0))⟩,
     ⟨(some 51), (some (42, false)), .pick (.s 46) (.s 50) (.c (V.bool false))⟩,
     ⟨(some 52), none, .pick (.s 42) (.c (V.bool true)) (.s 51)⟩]
   (.cond (.s 52)
   (.ops [⟨(some 2), none, .mv (.c (V.bool false))⟩]
    (.ret))
   (.ops [⟨(some 3), none, .mv (.c (V.int .i64 0))⟩]
    (.blk 0
    (.loop loop_palanquinref7_Good_0 [3] [53, 54, 55, 56, 57, 60, 61, 62, 63, 64, 4, 65, 66, 67, 68, 69, 70, 71, 72, 73, 74, 75, 76, 77, 78, 79, 80, 81, 82, 83, 84, 85, 86, 87, 88, 89, 90, 91, 92, 93, 94, 95, 96, 97, 98, 99, 100, 101, 102, 103, 104, 105, 106, 107, 108, 109, 110, 2, 58, 59, 3]) [] [53, 54, 55, 56, 57, 60, 61, 62, 63, 64, 4, 65, 66, 67, 68, 69, 70, 71, 72, 73, 74, 75, 76, 77, 78, 79, 80, 81, 82, 83, 84, 85, 86, 87, 88, 89, 90, 91, 92, 93, 94, 95, 96, 97, 98, 99, 100, 101, 102, 103, 104, 105, 106, 107, 108, 109, 110, 2, 58, 59, 3]
    (.ops [⟨(some 2), none, .mv (.c (V.bool true))⟩]
    (.ret))))))))⟩

noncomputable def f_palanquinref7_Good_0 (G : Sem') (t1 : V) (L : List V) : M Res :=
  (M.lift (Ax.faddr 7 t1)).bind fun t54 =>
  (mload none t54).bind fun t55 =>
  (M.lift (vlen t55)).bind fun t56 =>
  (M.lift (Ax.bin .lss (L.getD 0 .undef) t56)).bind fun t57 =>
  M.ite t57
    (M.blk 1 (
      (M.lift (Ax.faddr 7 t1)).bind fun t60 =>
      (mload none t60).bind fun t61 =>
      (M.lift (Ax.iaddr none 2 t61 (L.getD 0 .undef))).bind fun t63 =>
      (mload (some 2) t63).bind fun t64 =>
      (mbox ty_palanquinref7_Ext (V.agg [(V.int .i64 0), V.nils])).bind fun t4 =>
      (mstore 2 t4 t64).bind fun _ =>
      (M.lift (Ax.faddr 6 t1)).bind fun t65 =>
      (mload none t65).bind fun t66 =>
      (M.lift (Ax.bin .eql t66 (V.int .i64 48862))).bind fun t67 =>
      (guarded [(0, t67)] (some (0, true)) (M.lift (Ax.faddr 0 t4))).bind fun t69 =>
      (guarded [(0, t67)] (some (0, true)) (mload none t69)).bind fun t70 =>
      (guarded [(0, t67)] (some (0, true)) (M.lift (Ax.bin .lss t70 (V.int .i64 1)))).bind fun t71 =>
      (guarded [(0, t67)] (some (0, true)) (M.pure t71)).bind fun t72 =>
      (guarded [(0, t72)] (some (0, false)) (M.lift (Ax.faddr 0 t4))).bind fun t73 =>
      (guarded [(0, t72)] (some (0, false)) (mload none t73)).bind fun t74 =>
      (guarded [(0, t72)] (some (0, false)) (M.lift (Ax.bin .gtr t74 (V.int .i64 14)))).bind fun t75 =>
      (guarded [(0, t67)] (some (0, true)) (M.lift (Ax.pick t72 (V.bool true) t75))).bind fun t76 =>
      (guarded [(0, t67)] (some (0, true)) (M.pure t76)).bind fun t77 =>
      (guarded [(0, t77)] (some (0, false)) (M.lift (Ax.faddr 1 t4))).bind fun t78 =>
      (guarded [(0, t77)] (some (0, false)) (mload none t78)).bind fun t79 =>
      (guarded [(0, t77)] (some (0, false)) (M.lift (vlen t79))).bind fun t80 =>
      (guarded [(0, t77)] (some (0, false)) (M.lift (Ax.bin .lss t80 (V.int .i64 1)))).bind fun t81 =>
      (guarded [(0, t67)] (some (0, true)) (M.lift (Ax.pick t77 (V.bool true) t81))).bind fun t82 =>
      (guarded [(0, t67)] (some (0, true)) (M.pure t82)).bind fun t83 =>
      (guarded [(0, t83)] (some (0, false)) (M.lift (Ax.faddr 1 t4))).bind fun t84 =>
      (guarded [(0, t83)] (some (0, false)) (mload none t84)).bind fun t85 =>
      (guarded [(0, t83)] (some (0, false)) (M.lift (vlen t85))).bind fun t86 =>
      (guarded [(0, t83)] (some (0, false)) (M.lift (Ax.bin .gtr t86 (V.int .i64 16)))).bind fun t87 =>
      (guarded [(0, t67)] (some (0, true)) (M.lift (Ax.pick t83 (V.bool true) t87))).bind fun t88 =>
      (M.lift (Ax.pick t67 t88 (V.bool false))).bind fun t89 =>
      (guarded [(0, t89)] (some (0, false)) (M.lift (Ax.faddr 6 t1))).bind fun t91 =>
      (guarded [(0, t89)] (some (0, false)) (mload none t91)).bind fun t92 =>
      (guarded [(0, t89)] (some (0, false)) (M.lift (Ax.bin .eql t92 (V.int .i64 4096)))).bind fun t93 =>
      (guarded [(0, t89)] (some (0, false)) (M.pure t93)).bind fun t94 =>
      (guarded [(0, t94)] (some (0, true)) (M.lift (Ax.faddr 0 t4))).bind fun t95 =>
      (guarded [(0, t94)] (some (0, true)) (mload none t95)).bind fun t96 =>
      (guarded [(0, t94)] (some (0, true)) (M.lift (Ax.bin .lss t96 (V.int .i64 1)))).bind fun t97 =>
      (guarded [(0, t94)] (some (0, true)) (M.pure t97)).bind fun t98 =>
      (guarded [(0, t98)] (some (0, false)) (M.lift (Ax.faddr 0 t4))).bind fun t99 =>
      (guarded [(0, t98)] (some (0, false)) (mload none t99)).bind fun t100 =>
      (guarded [(0, t98)] (some (0, false)) (M.lift (Ax.bin .gtr t100 (V.int .i64 255)))).bind fun t101 =>
      (guarded [(0, t94)] (some (0, true)) (M.lift (Ax.pick t98 (V.bool true) t101))).bind fun t102 =>
      (guarded [(0, t94)] (some (0, true)) (M.pure t102)).bind fun t103 =>
      (guarded [(0, t103)] (some (0, false)) (M.lift (Ax.faddr 1 t4))).bind fun t104 =>
      (guarded [(0, t103)] (some (0, false)) (mload none t104)).bind fun t105 =>
      (guarded [(0, t103)] (some (0, false)) (M.lift (vlen t105))).bind fun t106 =>
      (guarded [(0, t103)] (some (0, false)) (M.lift (Ax.bin .gtr t106 (V.int .i64 255)))).bind fun t107 =>
      (guarded [(0, t94)] (some (0, true)) (M.lift (Ax.pick t103 (V.bool true) t107))).bind fun t108 =>
      (guarded [(0, t89)] (some (0, false)) (M.lift (Ax.pick t94 t108 (V.bool false)))).bind fun t109 =>
      (M.lift (Ax.pick t89 (V.bool true) t109)).bind fun t110 =>
      M.ite t110
        (M.pure (.ret [(V.bool false)]))
        (M.pure (.nrm []))) fun _ =>
    (M.lift (Ax.bin .add (L.getD 0 .undef) (V.int .i64 1))).bind fun t59 =>
    M.pure (.nrm [t59]))
    (M.pure (.ex 0 []))

noncomputable def f_palanquinref7_Good (G : Sem') (t0 : V) : M Res :=
  (mbox ty_palanquinref7_Packet t0).bind fun t1 =>
  (M.lift (Ax.faddr 1 t1)).bind fun t5 =>
  (mload none t5).bind fun t6 =>
  (M.lift (Ax.bin .lss t6 (V.int .i64 0))).bind fun t7 =>
  (guarded [(0, t7)] (some (0, false)) (M.lift (Ax.faddr 1 t1))).bind fun t9 =>
  (guarded [(0, t7)] (some (0, false)) (mload none t9)).bind fun t10 =>
  (guarded [(0, t7)] (some (0, false)) (M.lift (Ax.bin .gtr t10 (V.int .i64 127)))).bind fun t11 =>
  (M.lift (Ax.pick t7 (V.bool true) t11)).bind fun t12 =>
  (guarded [(0, t12)] (some (0, false)) (M.lift (Ax.faddr 5 t1))).bind fun t14 =>
  (guarded [(0, t12)] (some (0, false)) (mload none t14)).bind fun t15 =>
  (guarded [(0, t12)] (some (0, false)) (M.lift (vlen t15))).bind fun t16 =>
  (guarded [(0, t12)] (some (0, false)) (M.lift (Ax.bin .gtr t16 (V.int .i64 15)))).bind fun t17 =>
  (M.lift (Ax.pick t12 (V.bool true) t17)).bind fun t18 =>
  (guarded [(0, t18)] (some (0, false)) (M.lift (Ax.faddr 8 t1))).bind fun t20 =>
  (guarded [(0, t18)] (some (0, false)) (mload none t20)).bind fun t21 =>
  (guarded [(0, t18)] (some (0, false)) (M.lift (Ax.bin .lss t21 (V.int .i64 0)))).bind fun t22 =>
  (M.lift (Ax.pick t18 (V.bool true) t22)).bind fun t23 =>
  (guarded [(0, t23)] (some (0, false)) (M.lift (Ax.faddr 8 t1))).bind fun t25 =>
  (guarded [(0, t23)] (some (0, false)) (mload none t25)).bind fun t26 =>
  (guarded [(0, t23)] (some (0, false)) (M.lift (Ax.bin .gtr t26 (V.int .i64 255)))).bind fun t27 =>
  (M.lift (Ax.pick t23 (V.bool true) t27)).bind fun t28 =>
  M.ite t28
    (M.pure (.ret [(V.bool false)]))
    ((M.lift (Ax.faddr 6 t1)).bind fun t29 =>
    (mload none t29).bind fun t30 =>
    (M.lift (Ax.bin .neq t30 (V.int .i64 0))).bind fun t31 =>
    (guarded [(0, t31)] (some (0, true)) (M.lift (Ax.faddr 6 t1))).bind fun t33 =>
    (guarded [(0, t31)] (some (0, true)) (mload none t33)).bind fun t34 =>
    (guarded [(0, t31)] (some (0, true)) (M.lift (Ax.bin .neq t34 (V.int .i64 48862)))).bind fun t35 =>
    (M.lift (Ax.pick t31 t35 (V.bool false))).bind fun t36 =>
    (guarded [(0, t36)] (some (0, true)) (M.lift (Ax.faddr 6 t1))).bind fun t38 =>
    (guarded [(0, t36)] (some (0, true)) (mload none t38)).bind fun t39 =>
    (guarded [(0, t36)] (some (0, true)) (M.lift (Ax.bin .neq t39 (V.int .i64 4096)))).bind fun t40 =>
    (M.lift (Ax.pick t36 t40 (V.bool false))).bind fun t41 =>
    (guarded [(0, t41)] (some (0, false)) (M.lift (Ax.faddr 6 t1))).bind fun t43 =>
    (guarded [(0, t41)] (some (0, false)) (mload none t43)).bind fun t44 =>
    (guarded [(0, t41)] (some (0, false)) (M.lift (Ax.bin .eql t44 (V.int .i64 0)))).bind fun t45 =>
    (guarded [(0, t41)] (some (0, false)) (M.pure t45)).bind fun t46 =>
    (guarded [(0, t46)] (some (0, true)) (M.lift (Ax.faddr 7 t1))).bind fun t47 =>
    (guarded [(0, t46)] (some (0, true)) (mload none t47)).bind fun t48 =>
    (guarded [(0, t46)] (some (0, true)) (M.lift (vlen t48))).bind fun t49 =>
    (guarded [(0, t46)] (some (0, true)) (M.lift (Ax.bin .gtr t49 (V.int .i64 0)))).bind fun t50 =>
    (guarded [(0, t41)] (some (0, false)) (M.lift (Ax.pick t46 t50 (V.bool false)))).bind fun t51 =>
    (M.lift (Ax.pick t41 (V.bool true) t51)).bind fun t52 =>
    M.ite t52
      (M.pure (.ret [(V.bool false)]))
      (M.blk 0 (
        M.iter (f_palanquinref7_Good_0 G t1) [(V.int .i64 0)]) fun _ =>
      M.pure (.ret [(V.bool true)])))

theorem eq_palanquinref7_Good (G : Sem') (t0 : V) : execK G ir_palanquinref7_Good.rv ir_palanquinref7_Good.body [] [] (params 0 [t0]) = f_palanquinref7_Good G t0 := by kernel_rfl

theorem tb_palanquinref7_Good : T fn_palanquinref7_Good = some ir_palanquinref7_Good := by kernel_rfl

theorem ok_palanquinref7_Good {t0 : V} {H : Heap} {Q : V → Heap → Prop} (h : Ok (f_palanquinref7_Good (sem T) t0) H fun r H' => ∃ L, r = .ret L ∧ Q (tupled L) H') : Ok (sem T fn_palanquinref7_Good [t0]) H Q :=
  ok_sem tb_palanquinref7_Good (Nat.le_of_ble_eq_true rfl) (eq_palanquinref7_Good (sem T) t0) h

/-- palanquin/palanquinref7.one. -/
def ir_palanquinref7_one : Fn' := ⟨4, [.tmp 2],
  .ops [⟨(some 2), none, .mv (.c (V.int .i64 0))⟩]
  (.ops [⟨(some 3), none, .mv (.s 0)⟩]
  (.cond (.s 3)
  (.ops [⟨(some 2), none, .mv (.c (V.int .i64 1))⟩]
   (.ret))
  (.ops [⟨(some 2), none, .mv (.c (V.int .i64 0))⟩]
   (.ret))))⟩

noncomputable def f_palanquinref7_one (G : Sem') (t0 : V) : M Res :=
  M.ite t0
    (M.pure (.ret [(V.int .i64 1)]))
    (M.pure (.ret [(V.int .i64 0)]))

theorem eq_palanquinref7_one (G : Sem') (t0 : V) : execK G ir_palanquinref7_one.rv ir_palanquinref7_one.body [] [] (params 0 [t0]) = f_palanquinref7_one G t0 := by kernel_rfl

theorem tb_palanquinref7_one : T fn_palanquinref7_one = some ir_palanquinref7_one := by kernel_rfl

theorem ok_palanquinref7_one {t0 : V} {H : Heap} {Q : V → Heap → Prop} (h : Ok (f_palanquinref7_one (sem T) t0) H fun r H' => ∃ L, r = .ret L ∧ Q (tupled L) H') : Ok (sem T fn_palanquinref7_one [t0]) H Q :=
  ok_sem tb_palanquinref7_one (Nat.le_of_ble_eq_true rfl) (eq_palanquinref7_one (sem T) t0) h

/-- palanquin/palanquinref1.U. -/
def loop_palanquinref1_U_0 : C :=
  .ops [⟨(some 14), none, .mv (.s 8)⟩,
    ⟨(some 15), none, .bin .geq (.s 14) (.c (V.int .i64 0))⟩]
  (.cond (.s 15)
  (.blk 1
   (.ops [⟨(some 18), none, .mv (.s 7)⟩,
      ⟨(some 19), none, .mv (.s 1)⟩,
      ⟨(some 20), none, .mv (.s 8)⟩,
      ⟨(some 21), none, .bin .mul (.c (V.int .i64 8)) (.s 20)⟩,
      ⟨(some 22), none, .cint .u64 (.s 21)⟩,
      ⟨(some 23), none, .bin .shr (.s 19) (.s 22)⟩,
      ⟨(some 24), none, .cint .u8 (.s 23)⟩,
      ⟨(some 25), none, .slit ty_uint8 1 [(V.int .u8 0)] [(0, 1, (.s 24))]⟩,
      ⟨(some 26), none, .append ty_uint8 1 1 (.s 18) (.s 25)⟩,
      ⟨(some 7), none, .mv (.s 26)⟩]
    (.done)) [7] [18, 19, 20, 21, 22, 23, 24, 25, 26, 7]
   (.ops [⟨(some 16), none, .mv (.s 8)⟩,
     ⟨(some 17), none, .bin .sub (.s 16) (.c (V.int .i64 1))⟩,
     ⟨(some 8), none, .mv (.s 17)⟩]
   (.done)))
  (.exit 0))

def ir_palanquinref1_U : Fn' := ⟨28, [.tmp 6],
  .ops [⟨(some 6), none, .mv (.c V.nils)⟩]
  (.ops [⟨(some 9), none, .slit ty_uint8 0 [(V.int .u8 0)] []⟩,
    ⟨(some 10), none, .mv (.s 0)⟩,
    ⟨(some 11), none, .append ty_uint8 1 1 (.s 9) (.s 10)⟩,
    ⟨(some 7), none, .mv (.s 11)⟩]
  (.ops [⟨(some 12), none, .mv (.s 2)⟩,
    ⟨(some 13), none, .bin .sub (.s 12) (.c (V.int .i64 1))⟩,
    ⟨(some 8), none, .mv (.s 13)⟩]
  (.blk 0
  (.loop loop_palanquinref1_U_0 [7, 8] [14, 15, 18, 19, 20, 21, 22, 23, 24, 25, 26, 7, 16, 17, 8]) [7] [14, 15, 18, 19, 20, 21, 22, 23, 24, 25, 26, 7, 16, 17, 8]
  (.ops [⟨(some 27), none, .mv (.s 7)⟩,
    ⟨(some 6), none, .mv (.s 27)⟩]
  (.ret)))))⟩

noncomputable def f_palanquinref1_U_0 (G : Sem') (t1 t6 : V) (L : List V) : M Res :=
  (M.lift (Ax.bin .geq (L.getD 1 .undef) (V.int .i64 0))).bind fun t15 =>
  M.ite t15
    (M.blk 1 (
      (M.lift (Ax.bin .mul (V.int .i64 8) (L.getD 1 .undef))).bind fun t21 =>
      (M.lift (Ax.cint .u64 t21)).bind fun t22 =>
      (M.lift (Ax.bin .shr t1 t22)).bind fun t23 =>
      (M.lift (Ax.cint .u8 t23)).bind fun t24 =>
      (mslit ty_uint8 1 [(V.int .u8 0)] [(0, 1, t24)]).bind fun t25 =>
      (mappend ty_uint8 1 1 (L.getD 0 .undef) t25).bind fun t26 =>
      M.pure (.nrm [t26])) fun L0 =>
    (M.lift (Ax.bin .sub (L.getD 1 .undef) (V.int .i64 1))).bind fun t17 =>
    M.pure (.nrm [(L0.getD 0 .undef), t17]))
    (M.pure (.ex 0 [(L.getD 0 .undef)]))

noncomputable def f_palanquinref1_U (G : Sem') (t0 t1 t2 : V) : M Res :=
  (mslit ty_uint8 0 [(V.int .u8 0)] []).bind fun t9 =>
  (mappend ty_uint8 1 1 t9 t0).bind fun t11 =>
  (M.lift (Ax.bin .sub t2 (V.int .i64 1))).bind fun t13 =>
  M.blk 0 (
    M.iter (f_palanquinref1_U_0 G t1 V.nils) [t11, t13]) fun L1 =>
  M.pure (.ret [(L1.getD 0 .undef)])

theorem eq_palanquinref1_U (G : Sem') (t0 t1 t2 : V) : execK G ir_palanquinref1_U.rv ir_palanquinref1_U.body [] [] (params 0 [t0, t1, t2]) = f_palanquinref1_U G t0 t1 t2 := by kernel_rfl

theorem tb_palanquinref1_U : T fn_palanquinref1_U = some ir_palanquinref1_U := by kernel_rfl

theorem ok_palanquinref1_U {t0 t1 t2 : V} {H : Heap} {Q : V → Heap → Prop} (h : Ok (f_palanquinref1_U (sem T) t0 t1 t2) H fun r H' => ∃ L, r = .ret L ∧ Q (tupled L) H') : Ok (sem T fn_palanquinref1_U [t0, t1, t2]) H Q :=
  ok_sem tb_palanquinref1_U (Nat.le_of_ble_eq_true rfl) (eq_palanquinref1_U (sem T) t0 t1 t2) h

/-- palanquin/palanquinlaw7.RtpBack. -/
def ir_palanquinlaw7_RtpBack : Fn' := ⟨82, [.tmp 4],
  .ops [⟨(some 2), none, .box ty_rtp_Packet (.s 0)⟩,
    ⟨(some 4), none, .mv (.c (V.bool false))⟩]
  (.ops [⟨(some 15), none, .call fn_palanquinlaw7_awake []⟩,
    ⟨(some 16), none, .un .not (.s 15)⟩]
  (.cond (.s 16)
  (.ops [⟨(some 4), none, .mv (.c (V.bool false))⟩]
   (.ret))
  (.ops [⟨(some 17), none, .load (some 10) (.s 2)⟩,
     ⟨(some 18), none, .call fn_palanquinlaw7_heavy [(.s 17)]⟩]
   (.cond (.s 18)
   (.ops [⟨(some 4), none, .mv (.c (V.bool true))⟩]
    (.ret))
   (.ops [⟨(some 20), none, .load (some 10) (.s 2)⟩,
      ⟨(some 21), none, .call fn_rtp_Bytes [(.s 20)]⟩,
      ⟨(some 19), none, .mv (.s 21)⟩,
      ⟨(some 22), none, .ext 0 (.s 19)⟩,
      ⟨(some 23), none, .ext 1 (.s 19)⟩,
      ⟨(some 5), none, .mv (.s 22)⟩,
      ⟨(some 6), none, .mv (.s 23)⟩]
    (.ops [⟨(some 24), none, .mv (.s 6)⟩,
      ⟨(some 25), none, .bin .eql (.s 24) (.c (V.int .i64 0))⟩]
    (.condJ (.s 25)
    (.ops [⟨(some 27), none, .mv (.s 5)⟩,
       ⟨(some 28), none, .call fn_rtp_Parse [(.s 27)]⟩,
       ⟨(some 26), none, .mv (.s 28)⟩,
       ⟨(some 29), none, .ext 0 (.s 26)⟩,
       ⟨(some 30), none, .ext 1 (.s 26)⟩,
       ⟨(some 7), none, .box ty_rtp_Packet (.c (V.agg [(V.bool false), (V.int .i64 0), (V.int .u16 0), (V.int .u32 0), (V.int .u32 0), V.nils, (V.int .i64 0), V.nils, (V.int .i64 0), V.nils]))⟩,
       ⟨none, none, .store 10 (.s 7) (.s 29)⟩,
       ⟨(some 8), none, .mv (.s 30)⟩]
     (.draw [⟨(some 31), none, .mv (.s 8)⟩,
       ⟨(some 32), none, .bin .neq (.s 31) (.c (V.int .i64 0))⟩,
       ⟨(some 33), none, .mv (.s 32)⟩,
       ⟨(some 34), (some (33, false)), .load (some 10) (.s 7)⟩,
       ⟨(some 36), (some (33, false)), .load (some 10) (.s 2)⟩,
       ⟨(some 35), (some (33, false)), .call fn_palanquinhelp_Packet [(.s 34)]⟩,
       ⟨(some 37), (some (33, false)), .call fn_palanquinhelp_Packet [(.s 36)]⟩,
       ⟨(some 38), (some (33, false)), .call fn_palanquinref7_SamePacket [(.s 35), (.s 37)]⟩,
       ⟨(some 39), (some (33, false)), .un .not (.s 38)⟩,
       ⟨(some 40), none, .pick (.s 33) (.c (V.bool true)) (.s 39)⟩] [(4, 5)]
     (.cond (.s 40)
     (.ops [⟨(some 4), none, .mv (.c (V.bool false))⟩]
      (.ret))
     (.done))))
    (.done) [] [27, 28, 26, 29, 30, 7, 8, 31, 32, 33, 34, 35, 36, 37, 38, 39, 40, 4]
    (.ops [⟨(some 42), none, .mv (.s 1)⟩,
      ⟨(some 43), none, .call fn_rtp_Parse [(.s 42)]⟩,
      ⟨(some 41), none, .mv (.s 43)⟩,
      ⟨(some 44), none, .ext 0 (.s 41)⟩,
      ⟨(some 45), none, .ext 1 (.s 41)⟩,
      ⟨(some 9), none, .box ty_rtp_Packet (.c (V.agg [(V.bool false), (V.int .i64 0), (V.int .u16 0), (V.int .u32 0), (V.int .u32 0), V.nils, (V.int .i64 0), V.nils, (V.int .i64 0), V.nils]))⟩,
      ⟨none, none, .store 10 (.s 9) (.s 44)⟩,
      ⟨(some 10), none, .mv (.s 45)⟩]
    (.ops [⟨(some 46), none, .mv (.s 10)⟩,
      ⟨(some 47), none, .bin .neq (.s 46) (.c (V.int .i64 0))⟩]
    (.cond (.s 47)
    (.ops [⟨(some 4), none, .mv (.c (V.bool true))⟩]
     (.ret))
    (.ops [⟨(some 49), none, .load (some 10) (.s 9)⟩,
       ⟨(some 50), none, .call fn_rtp_Bytes [(.s 49)]⟩,
       ⟨(some 48), none, .mv (.s 50)⟩,
       ⟨(some 51), none, .ext 0 (.s 48)⟩,
       ⟨(some 52), none, .ext 1 (.s 48)⟩,
       ⟨(some 11), none, .mv (.s 51)⟩,
       ⟨(some 12), none, .mv (.s 52)⟩]
     (.ops [⟨(some 54), none, .mv (.s 11)⟩,
       ⟨(some 55), none, .call fn_rtp_Parse [(.s 54)]⟩,
       ⟨(some 53), none, .mv (.s 55)⟩,
       ⟨(some 56), none, .ext 0 (.s 53)⟩,
       ⟨(some 57), none, .ext 1 (.s 53)⟩,
       ⟨(some 13), none, .box ty_rtp_Packet (.c (V.agg [(V.bool false), (V.int .i64 0), (V.int .u16 0), (V.int .u32 0), (V.int .u32 0), V.nils, (V.int .i64 0), V.nils, (V.int .i64 0), V.nils]))⟩,
       ⟨none, none, .store 10 (.s 13) (.s 56)⟩,
       ⟨(some 14), none, .mv (.s 57)⟩]
     (.draw [⟨(some 58), none, .load (some 10) (.s 9)⟩,
       ⟨(some 59), none, .call fn_rtp_Good [(.s 58)]⟩,
       ⟨(some 60), none, .mv (.s 59)⟩,
       ⟨(some 61), (some (60, true)), .mv (.s 12)⟩,
       ⟨(some 62), (some (60, true)), .bin .eql (.s 61) (.c (V.int .i64 0))⟩,
       ⟨(some 63), none, .pick (.s 60) (.s 62) (.c (V.bool false))⟩,
       ⟨(some 64), none, .mv (.s 63)⟩,
       ⟨(some 65), (some (64, true)), .mv (.s 11)⟩,
       ⟨(some 66), (some (64, true)), .len (.s 65)⟩,
       ⟨(some 67), (some (64, true)), .mv (.s 1)⟩,
       ⟨(some 68), (some (64, true)), .len (.s 67)⟩,
       ⟨(some 69), (some (64, true)), .bin .leq (.s 66) (.s 68)⟩,
       ⟨(some 70), none, .pick (.s 64) (.s 69) (.c (V.bool false))⟩,
       ⟨(some 71), none, .mv (.s 70)⟩,
       ⟨(some 72), (some (71, true)), .mv (.s 14)⟩,
       ⟨(some 73), (some (71, true)), .bin .eql (.s 72) (.c (V.int .i64 0))⟩,
       ⟨(some 74), none, .pick (.s 71) (.s 73) (.c (V.bool false))⟩,
       ⟨(some 75), none, .mv (.s 74)⟩,
       ⟨(some 76), (some (75, true)), .load (some 10) (.s 9)⟩,
       ⟨(some 77), (some (75, true)), .call fn_palanquinhelp_Packet [(.s 76)]⟩,
       ⟨(some 78), (some (75, true)), .load (some 10) (.s 13)⟩,
       ⟨(some 79), (some (75, true)), .call fn_palanquinhelp_Packet [(.s 78)]⟩,
       ⟨(some 80), (some (75, true)), .call fn_palanquinref7_SamePacket [(.s 77), (.s 79)]⟩,
       ⟨(some 81), none, .pick (.s 75) (.s 80) (.c (V.bool false))⟩,
       ⟨(some 4), none, .mv (.s 81)⟩] [(20, 19)]
     (.ret))))))))))))))⟩

noncomputable def f_palanquinlaw7_RtpBack (G : Sem') (t0 t1 : V) : M Res :=
  (mbox ty_rtp_Packet t0).bind fun t2 =>
  (G fn_palanquinlaw7_awake []).bind fun t15 =>
  (M.lift (Ax.un .not t15)).bind fun t16 =>
  M.ite t16
    (M.pure (.ret [(V.bool false)]))
    ((mload (some 10) t2).bind fun t17 =>
    (G fn_palanquinlaw7_heavy [t17]).bind fun t18 =>
    M.ite t18
      (M.pure (.ret [(V.bool true)]))
      ((mload (some 10) t2).bind fun t20 =>
      (G fn_rtp_Bytes [t20]).bind fun t21 =>
      (M.lift (Ax.ext 0 t21)).bind fun t22 =>
      (M.lift (Ax.ext 1 t21)).bind fun t23 =>
      (M.lift (Ax.bin .eql t23 (V.int .i64 0))).bind fun t25 =>
      M.join (M.ite t25
        ((G fn_rtp_Parse [t22]).bind fun t28 =>
        (M.lift (Ax.ext 0 t28)).bind fun t29 =>
        (M.lift (Ax.ext 1 t28)).bind fun t30 =>
        (mbox ty_rtp_Packet (V.agg [(V.bool false), (V.int .i64 0), (V.int .u16 0), (V.int .u32 0), (V.int .u32 0), V.nils, (V.int .i64 0), V.nils, (V.int .i64 0), V.nils])).bind fun t7 =>
        (mstore 10 t7 t29).bind fun _ =>
        (M.lift (Ax.bin .neq t30 (V.int .i64 0))).bind fun t32 =>
        (guarded [(0, t32)] (some (0, false)) (mload (some 10) t7)).bind fun t34 =>
        (guarded [(0, t32)] (some (0, false)) (mload (some 10) t2)).bind fun t36 =>
        M.getH.bind fun h0 =>
        (guarded [(0, t32)] (some (0, false)) (G fn_palanquinhelp_Packet [t34])).bind fun t35 =>
        M.getH.bind fun h0' =>
        (M.unch t2 h0 h0').bind fun _ =>
        (guarded [(0, t32)] (some (0, false)) (G fn_palanquinhelp_Packet [t36])).bind fun t37 =>
        (guarded [(0, t32)] (some (0, false)) (G fn_palanquinref7_SamePacket [t35, t37])).bind fun t38 =>
        (guarded [(0, t32)] (some (0, false)) (M.lift (Ax.un .not t38))).bind fun t39 =>
        (M.lift (Ax.pick t32 (V.bool true) t39)).bind fun t40 =>
        M.ite t40
          (M.pure (.ret [(V.bool false)]))
          (M.pure (.nrm [])))
        (M.pure (.nrm []))) fun _ =>
      (G fn_rtp_Parse [t1]).bind fun t43 =>
      (M.lift (Ax.ext 0 t43)).bind fun t44 =>
      (M.lift (Ax.ext 1 t43)).bind fun t45 =>
      (mbox ty_rtp_Packet (V.agg [(V.bool false), (V.int .i64 0), (V.int .u16 0), (V.int .u32 0), (V.int .u32 0), V.nils, (V.int .i64 0), V.nils, (V.int .i64 0), V.nils])).bind fun t9 =>
      (mstore 10 t9 t44).bind fun _ =>
      (M.lift (Ax.bin .neq t45 (V.int .i64 0))).bind fun t47 =>
      M.ite t47
        (M.pure (.ret [(V.bool true)]))
        ((mload (some 10) t9).bind fun t49 =>
        (G fn_rtp_Bytes [t49]).bind fun t50 =>
        (M.lift (Ax.ext 0 t50)).bind fun t51 =>
        (M.lift (Ax.ext 1 t50)).bind fun t52 =>
        (G fn_rtp_Parse [t51]).bind fun t55 =>
        (M.lift (Ax.ext 0 t55)).bind fun t56 =>
        (M.lift (Ax.ext 1 t55)).bind fun t57 =>
        (mbox ty_rtp_Packet (V.agg [(V.bool false), (V.int .i64 0), (V.int .u16 0), (V.int .u32 0), (V.int .u32 0), V.nils, (V.int .i64 0), V.nils, (V.int .i64 0), V.nils])).bind fun t13 =>
        (mstore 10 t13 t56).bind fun _ =>
        (mload (some 10) t9).bind fun t58 =>
        (G fn_rtp_Good [t58]).bind fun t59 =>
        (guarded [(0, t59)] (some (0, true)) (M.pure t52)).bind fun t61 =>
        (guarded [(0, t59)] (some (0, true)) (M.lift (Ax.bin .eql t61 (V.int .i64 0)))).bind fun t62 =>
        (M.lift (Ax.pick t59 t62 (V.bool false))).bind fun t63 =>
        (guarded [(0, t63)] (some (0, true)) (M.pure t51)).bind fun t65 =>
        (guarded [(0, t63)] (some (0, true)) (M.lift (vlen t65))).bind fun t66 =>
        (guarded [(0, t63)] (some (0, true)) (M.pure t1)).bind fun t67 =>
        (guarded [(0, t63)] (some (0, true)) (M.lift (vlen t67))).bind fun t68 =>
        (guarded [(0, t63)] (some (0, true)) (M.lift (Ax.bin .leq t66 t68))).bind fun t69 =>
        (M.lift (Ax.pick t63 t69 (V.bool false))).bind fun t70 =>
        (guarded [(0, t70)] (some (0, true)) (M.pure t57)).bind fun t72 =>
        (guarded [(0, t70)] (some (0, true)) (M.lift (Ax.bin .eql t72 (V.int .i64 0)))).bind fun t73 =>
        (M.lift (Ax.pick t70 t73 (V.bool false))).bind fun t74 =>
        (guarded [(0, t74)] (some (0, true)) (mload (some 10) t9)).bind fun t76 =>
        M.getH.bind fun h1 =>
        (guarded [(0, t74)] (some (0, true)) (G fn_palanquinhelp_Packet [t76])).bind fun t77 =>
        M.getH.bind fun h1' =>
        (guarded [(0, t74)] (some (0, true)) (mload (some 10) t13)).bind fun t78 =>
        (M.unch t13 h1 h1').bind fun _ =>
        (guarded [(0, t74)] (some (0, true)) (G fn_palanquinhelp_Packet [t78])).bind fun t79 =>
        (guarded [(0, t74)] (some (0, true)) (G fn_palanquinref7_SamePacket [t77, t79])).bind fun t80 =>
        (M.lift (Ax.pick t74 t80 (V.bool false))).bind fun t81 =>
        M.pure (.ret [t81]))))

theorem eq_palanquinlaw7_RtpBack (G : Sem') (t0 t1 : V) : execK G ir_palanquinlaw7_RtpBack.rv ir_palanquinlaw7_RtpBack.body [] [] (params 0 [t0, t1]) = f_palanquinlaw7_RtpBack G t0 t1 := by kernel_rfl

theorem tb_palanquinlaw7_RtpBack : T fn_palanquinlaw7_RtpBack = some ir_palanquinlaw7_RtpBack := by kernel_rfl

theorem ok_palanquinlaw7_RtpBack {t0 t1 : V} {H : Heap} {Q : V → Heap → Prop} (h : Ok (f_palanquinlaw7_RtpBack (sem T) t0 t1) H fun r H' => ∃ L, r = .ret L ∧ Q (tupled L) H') : Ok (sem T fn_palanquinlaw7_RtpBack [t0, t1]) H Q :=
  ok_sem tb_palanquinlaw7_RtpBack (Nat.le_of_ble_eq_true rfl) (eq_palanquinlaw7_RtpBack (sem T) t0 t1) h

/-- palanquin/palanquinlaw7.RtpHead. -/
def ir_palanquinlaw7_RtpHead : Fn' := ⟨95, [.tmp 4],
  .ops [⟨(some 2), none, .box ty_rtp_Packet (.s 0)⟩,
    ⟨(some 4), none, .mv (.c (V.bool false))⟩]
  (.ops [⟨(some 11), none, .call fn_palanquinlaw7_awake []⟩,
    ⟨(some 12), none, .un .not (.s 11)⟩]
  (.cond (.s 12)
  (.ops [⟨(some 4), none, .mv (.c (V.bool false))⟩]
   (.ret))
  (.ops [⟨(some 13), none, .load (some 10) (.s 2)⟩,
     ⟨(some 14), none, .call fn_palanquinlaw7_heavy [(.s 13)]⟩,
     ⟨(some 15), none, .mv (.s 14)⟩,
     ⟨(some 16), (some (15, false)), .mv (.s 1)⟩,
     ⟨(some 17), (some (15, false)), .len (.s 16)⟩,
     ⟨(some 18), (some (15, false)), .bin .gtr (.s 17) (.c (V.int .i64 1500))⟩,
     ⟨(some 19), none, .pick (.s 15) (.c (V.bool true)) (.s 18)⟩]
   (.cond (.s 19)
   (.ops [⟨(some 4), none, .mv (.c (V.bool true))⟩]
    (.ret))
   (.ops [⟨(some 20), none, .load (some 10) (.s 2)⟩,
      ⟨(some 5), none, .box ty_rtp_Packet (.c (V.agg [(V.bool false), (V.int .i64 0), (V.int .u16 0), (V.int .u32 0), (V.int .u32 0), V.nils, (V.int .i64 0), V.nils, (V.int .i64 0), V.nils]))⟩,
      ⟨none, none, .store 10 (.s 5) (.s 20)⟩]
    (.ops [⟨(some 21), none, .mv (.s 1)⟩,
      ⟨(some 22), none, .faddr 9 (.s 5)⟩,
      ⟨none, none, .store 1 (.s 22) (.s 21)⟩]
    (.ops [⟨(some 24), none, .load (some 10) (.s 2)⟩,
      ⟨(some 25), none, .call fn_rtp_Bytes [(.s 24)]⟩,
      ⟨(some 23), none, .mv (.s 25)⟩,
      ⟨(some 26), none, .ext 0 (.s 23)⟩,
      ⟨(some 27), none, .ext 1 (.s 23)⟩,
      ⟨(some 6), none, .mv (.s 26)⟩,
      ⟨(some 7), none, .mv (.s 27)⟩]
    (.ops [⟨(some 29), none, .load (some 10) (.s 5)⟩,
      ⟨(some 30), none, .call fn_rtp_Bytes [(.s 29)]⟩,
      ⟨(some 28), none, .mv (.s 30)⟩,
      ⟨(some 31), none, .ext 0 (.s 28)⟩,
      ⟨(some 32), none, .ext 1 (.s 28)⟩,
      ⟨(some 8), none, .mv (.s 31)⟩,
      ⟨(some 9), none, .mv (.s 32)⟩]
    (.ops [⟨(some 33), none, .mv (.s 7)⟩,
      ⟨(some 34), none, .bin .neq (.s 33) (.c (V.int .i64 0))⟩,
      ⟨(some 35), none, .mv (.s 34)⟩,
      ⟨(some 36), (some (35, false)), .mv (.s 9)⟩,
      ⟨(some 37), (some (35, false)), .bin .neq (.s 36) (.c (V.int .i64 0))⟩,
      ⟨(some 38), none, .pick (.s 35) (.c (V.bool true)) (.s 37)⟩]
    (.cond (.s 38)
    (.ops [⟨(some 4), none, .mv (.c (V.bool true))⟩]
     (.ret))
    (.ops [⟨(some 39), none, .mv (.s 6)⟩,
       ⟨(some 40), none, .len (.s 39)⟩,
       ⟨(some 41), none, .faddr 9 (.s 2)⟩,
       ⟨(some 42), none, .load none (.s 41)⟩,
       ⟨(some 43), none, .len (.s 42)⟩,
       ⟨(some 44), none, .bin .sub (.s 40) (.s 43)⟩,
       ⟨(some 45), none, .faddr 8 (.s 2)⟩,
       ⟨(some 46), none, .load none (.s 45)⟩,
       ⟨(some 47), none, .bin .sub (.s 44) (.s 46)⟩,
       ⟨(some 10), none, .mv (.s 47)⟩]
     (.draw [⟨(some 48), none, .mv (.s 10)⟩,
       ⟨(some 49), none, .bin .geq (.s 48) (.c (V.int .i64 12))⟩,
       ⟨(some 50), none, .mv (.s 49)⟩,
       ⟨(some 51), (some (50, true)), .mv (.s 8)⟩,
       ⟨(some 52), (some (50, true)), .len (.s 51)⟩,
       ⟨(some 53), (some (50, true)), .mv (.s 10)⟩,
       ⟨(some 54), (some (50, true)), .mv (.s 1)⟩,
       ⟨(some 55), (some (50, true)), .len (.s 54)⟩,
       ⟨(some 56), (some (50, true)), .bin .add (.s 53) (.s 55)⟩,
       ⟨(some 57), (some (50, true)), .faddr 8 (.s 2)⟩,
       ⟨(some 58), (some (50, true)), .load none (.s 57)⟩,
       ⟨(some 59), (some (50, true)), .bin .add (.s 56) (.s 58)⟩,
       ⟨(some 60), (some (50, true)), .bin .eql (.s 52) (.s 59)⟩,
       ⟨(some 61), none, .pick (.s 50) (.s 60) (.c (V.bool false))⟩,
       ⟨(some 62), none, .mv (.s 61)⟩,
       ⟨(some 63), (some (62, true)), .mv (.s 6)⟩,
       ⟨(some 64), (some (62, true)), .mv (.s 10)⟩,
       ⟨(some 65), (some (62, true)), .slice .sl 1 (.s 63) none (some (.s 64)) none⟩,
       ⟨(some 66), (some (62, true)), .mv (.s 8)⟩,
       ⟨(some 67), (some (62, true)), .mv (.s 10)⟩,
       ⟨(some 68), (some (62, true)), .slice .sl 1 (.s 66) none (some (.s 67)) none⟩,
       ⟨(some 69), (some (62, true)), .call fn_palanquinref1_Same [(.s 65), (.s 68)]⟩,
       ⟨(some 70), none, .pick (.s 62) (.s 69) (.c (V.bool false))⟩,
       ⟨(some 71), none, .mv (.s 70)⟩,
       ⟨(some 72), (some (71, true)), .mv (.s 6)⟩,
       ⟨(some 73), (some (71, true)), .mv (.s 10)⟩,
       ⟨(some 74), (some (71, true)), .mv (.s 10)⟩,
       ⟨(some 75), (some (71, true)), .faddr 9 (.s 2)⟩,
       ⟨(some 76), (some (71, true)), .load none (.s 75)⟩,
       ⟨(some 77), (some (71, true)), .len (.s 76)⟩,
       ⟨(some 78), (some (71, true)), .bin .add (.s 74) (.s 77)⟩,
       ⟨(some 79), (some (71, true)), .slice .sl 1 (.s 72) (some (.s 73)) (some (.s 78)) none⟩,
       ⟨(some 80), (some (71, true)), .faddr 9 (.s 2)⟩,
       ⟨(some 81), (some (71, true)), .load none (.s 80)⟩,
       ⟨(some 82), (some (71, true)), .call fn_palanquinref1_Same [(.s 79), (.s 81)]⟩,
       ⟨(some 83), none, .pick (.s 71) (.s 82) (.c (V.bool false))⟩,
       ⟨(some 84), none, .mv (.s 83)⟩,
       ⟨(some 85), (some (84, true)), .mv (.s 8)⟩,
       ⟨(some 86), (some (84, true)), .mv (.s 10)⟩,
       ⟨(some 87), (some (84, true)), .mv (.s 10)⟩,
       ⟨(some 88), (some (84, true)), .mv (.s 1)⟩,
       ⟨(some 89), (some (84, true)), .len (.s 88)⟩,
       ⟨(some 90), (some (84, true)), .bin .add (.s 87) (.s 89)⟩,
       ⟨(some 91), (some (84, true)), .slice .sl 1 (.s 85) (some (.s 86)) (some (.s 90)) none⟩,
       ⟨(some 92), (some (84, true)), .mv (.s 1)⟩,
       ⟨(some 93), (some (84, true)), .call fn_palanquinref1_Same [(.s 91), (.s 92)]⟩,
       ⟨(some 94), none, .pick (.s 84) (.s 93) (.c (V.bool false))⟩,
       ⟨(some 4), none, .mv (.s 94)⟩] []
     (.ret)))))))))))))⟩

noncomputable def f_palanquinlaw7_RtpHead (G : Sem') (t0 t1 : V) : M Res :=
  (mbox ty_rtp_Packet t0).bind fun t2 =>
  (G fn_palanquinlaw7_awake []).bind fun t11 =>
  (M.lift (Ax.un .not t11)).bind fun t12 =>
  M.ite t12
    (M.pure (.ret [(V.bool false)]))
    ((mload (some 10) t2).bind fun t13 =>
    (G fn_palanquinlaw7_heavy [t13]).bind fun t14 =>
    (guarded [(0, t14)] (some (0, false)) (M.pure t1)).bind fun t16 =>
    (guarded [(0, t14)] (some (0, false)) (M.lift (vlen t16))).bind fun t17 =>
    (guarded [(0, t14)] (some (0, false)) (M.lift (Ax.bin .gtr t17 (V.int .i64 1500)))).bind fun t18 =>
    (M.lift (Ax.pick t14 (V.bool true) t18)).bind fun t19 =>
    M.ite t19
      (M.pure (.ret [(V.bool true)]))
      ((mload (some 10) t2).bind fun t20 =>
      (mbox ty_rtp_Packet (V.agg [(V.bool false), (V.int .i64 0), (V.int .u16 0), (V.int .u32 0), (V.int .u32 0), V.nils, (V.int .i64 0), V.nils, (V.int .i64 0), V.nils])).bind fun t5 =>
      (mstore 10 t5 t20).bind fun _ =>
      (M.lift (Ax.faddr 9 t5)).bind fun t22 =>
      (mstore 1 t22 t1).bind fun _ =>
      (mload (some 10) t2).bind fun t24 =>
      (G fn_rtp_Bytes [t24]).bind fun t25 =>
      (M.lift (Ax.ext 0 t25)).bind fun t26 =>
      (M.lift (Ax.ext 1 t25)).bind fun t27 =>
      (mload (some 10) t5).bind fun t29 =>
      (G fn_rtp_Bytes [t29]).bind fun t30 =>
      (M.lift (Ax.ext 0 t30)).bind fun t31 =>
      (M.lift (Ax.ext 1 t30)).bind fun t32 =>
      (M.lift (Ax.bin .neq t27 (V.int .i64 0))).bind fun t34 =>
      (guarded [(0, t34)] (some (0, false)) (M.pure t32)).bind fun t36 =>
      (guarded [(0, t34)] (some (0, false)) (M.lift (Ax.bin .neq t36 (V.int .i64 0)))).bind fun t37 =>
      (M.lift (Ax.pick t34 (V.bool true) t37)).bind fun t38 =>
      M.ite t38
        (M.pure (.ret [(V.bool true)]))
        ((M.lift (vlen t26)).bind fun t40 =>
        (M.lift (Ax.faddr 9 t2)).bind fun t41 =>
        (mload none t41).bind fun t42 =>
        (M.lift (vlen t42)).bind fun t43 =>
        (M.lift (Ax.bin .sub t40 t43)).bind fun t44 =>
        (M.lift (Ax.faddr 8 t2)).bind fun t45 =>
        (mload none t45).bind fun t46 =>
        (M.lift (Ax.bin .sub t44 t46)).bind fun t47 =>
        (M.lift (Ax.bin .geq t47 (V.int .i64 12))).bind fun t49 =>
        (guarded [(0, t49)] (some (0, true)) (M.pure t31)).bind fun t51 =>
        (guarded [(0, t49)] (some (0, true)) (M.lift (vlen t51))).bind fun t52 =>
        (guarded [(0, t49)] (some (0, true)) (M.pure t47)).bind fun t53 =>
        (guarded [(0, t49)] (some (0, true)) (M.pure t1)).bind fun t54 =>
        (guarded [(0, t49)] (some (0, true)) (M.lift (vlen t54))).bind fun t55 =>
        (guarded [(0, t49)] (some (0, true)) (M.lift (Ax.bin .add t53 t55))).bind fun t56 =>
        (guarded [(0, t49)] (some (0, true)) (M.lift (Ax.faddr 8 t2))).bind fun t57 =>
        (guarded [(0, t49)] (some (0, true)) (mload none t57)).bind fun t58 =>
        (guarded [(0, t49)] (some (0, true)) (M.lift (Ax.bin .add t56 t58))).bind fun t59 =>
        (guarded [(0, t49)] (some (0, true)) (M.lift (Ax.bin .eql t52 t59))).bind fun t60 =>
        (M.lift (Ax.pick t49 t60 (V.bool false))).bind fun t61 =>
        (guarded [(0, t61)] (some (0, true)) (M.pure t26)).bind fun t63 =>
        (guarded [(0, t61)] (some (0, true)) (M.pure t47)).bind fun t64 =>
        (guarded [(0, t61)] (some (0, true)) (M.lift (vslice .sl 1 t63 none (some t64) none))).bind fun t65 =>
        (guarded [(0, t61)] (some (0, true)) (M.pure t31)).bind fun t66 =>
        (guarded [(0, t61)] (some (0, true)) (M.pure t47)).bind fun t67 =>
        (guarded [(0, t61)] (some (0, true)) (M.lift (vslice .sl 1 t66 none (some t67) none))).bind fun t68 =>
        (guarded [(0, t61)] (some (0, true)) (G fn_palanquinref1_Same [t65, t68])).bind fun t69 =>
        (M.lift (Ax.pick t61 t69 (V.bool false))).bind fun t70 =>
        (guarded [(0, t70)] (some (0, true)) (M.pure t26)).bind fun t72 =>
        (guarded [(0, t70)] (some (0, true)) (M.pure t47)).bind fun t73 =>
        (guarded [(0, t70)] (some (0, true)) (M.pure t47)).bind fun t74 =>
        (guarded [(0, t70)] (some (0, true)) (M.lift (Ax.faddr 9 t2))).bind fun t75 =>
        (guarded [(0, t70)] (some (0, true)) (mload none t75)).bind fun t76 =>
        (guarded [(0, t70)] (some (0, true)) (M.lift (vlen t76))).bind fun t77 =>
        (guarded [(0, t70)] (some (0, true)) (M.lift (Ax.bin .add t74 t77))).bind fun t78 =>
        (guarded [(0, t70)] (some (0, true)) (M.lift (vslice .sl 1 t72 (some t73) (some t78) none))).bind fun t79 =>
        (guarded [(0, t70)] (some (0, true)) (M.lift (Ax.faddr 9 t2))).bind fun t80 =>
        (guarded [(0, t70)] (some (0, true)) (mload none t80)).bind fun t81 =>
        (guarded [(0, t70)] (some (0, true)) (G fn_palanquinref1_Same [t79, t81])).bind fun t82 =>
        (M.lift (Ax.pick t70 t82 (V.bool false))).bind fun t83 =>
        (guarded [(0, t83)] (some (0, true)) (M.pure t31)).bind fun t85 =>
        (guarded [(0, t83)] (some (0, true)) (M.pure t47)).bind fun t86 =>
        (guarded [(0, t83)] (some (0, true)) (M.pure t47)).bind fun t87 =>
        (guarded [(0, t83)] (some (0, true)) (M.pure t1)).bind fun t88 =>
        (guarded [(0, t83)] (some (0, true)) (M.lift (vlen t88))).bind fun t89 =>
        (guarded [(0, t83)] (some (0, true)) (M.lift (Ax.bin .add t87 t89))).bind fun t90 =>
        (guarded [(0, t83)] (some (0, true)) (M.lift (vslice .sl 1 t85 (some t86) (some t90) none))).bind fun t91 =>
        (guarded [(0, t83)] (some (0, true)) (M.pure t1)).bind fun t92 =>
        (guarded [(0, t83)] (some (0, true)) (G fn_palanquinref1_Same [t91, t92])).bind fun t93 =>
        (M.lift (Ax.pick t83 t93 (V.bool false))).bind fun t94 =>
        M.pure (.ret [t94]))))

theorem eq_palanquinlaw7_RtpHead (G : Sem') (t0 t1 : V) : execK G ir_palanquinlaw7_RtpHead.rv ir_palanquinlaw7_RtpHead.body [] [] (params 0 [t0, t1]) = f_palanquinlaw7_RtpHead G t0 t1 := by kernel_rfl

theorem tb_palanquinlaw7_RtpHead : T fn_palanquinlaw7_RtpHead = some ir_palanquinlaw7_RtpHead := by kernel_rfl

theorem ok_palanquinlaw7_RtpHead {t0 t1 : V} {H : Heap} {Q : V → Heap → Prop} (h : Ok (f_palanquinlaw7_RtpHead (sem T) t0 t1) H fun r H' => ∃ L, r = .ret L ∧ Q (tupled L) H') : Ok (sem T fn_palanquinlaw7_RtpHead [t0, t1]) H Q :=
  ok_sem tb_palanquinlaw7_RtpHead (Nat.le_of_ble_eq_true rfl) (eq_palanquinlaw7_RtpHead (sem T) t0 t1) h

end Go.Ax
