/-
  The functions of this seat as plain texts: printed by program (wip/gen/Emit.lean): part 2.
-/
import Derived.Test.YtecklladobbpbaaFnP0
set_option maxRecDepth 100000
set_option linter.unusedVariables false
namespace Go.Ax
open Go.Proofs

/-- palanquin/palanquinref9.step. -/
def ir_palanquinref9_step : Fn' := ⟨44, [.tmp 4],
  .ops [⟨(some 2), none, .box ty_palanquinref9_Template (.s 0)⟩,
    ⟨(some 3), none, .box ty_palanquinref9_Template (.s 1)⟩,
    ⟨(some 4), none, .mv (.c (V.int .i64 0))⟩]
  (.blk 0
  (.ops [⟨(some 6), none, .faddr 0 (.s 2)⟩,
     ⟨(some 7), none, .load none (.s 6)⟩,
     ⟨(some 8), none, .faddr 0 (.s 3)⟩,
     ⟨(some 9), none, .load none (.s 8)⟩,
     ⟨(some 10), none, .bin .eql (.s 7) (.s 9)⟩,
     ⟨(some 11), none, .mv (.s 10)⟩,
     ⟨(some 12), (some (11, true)), .faddr 1 (.s 2)⟩,
     ⟨(some 13), (some (11, true)), .load none (.s 12)⟩,
     ⟨(some 14), (some (11, true)), .faddr 1 (.s 3)⟩,
     ⟨(some 15), (some (11, true)), .load none (.s 14)⟩,
     ⟨(some 16), (some (11, true)), .bin .eql (.s 13) (.s 15)⟩,
     ⟨(some 17), none, .pick (.s 11) (.s 16) (.c (V.bool false))⟩,
     ⟨(some 5), none, .mv (.s 17)⟩]
   (.cond (.s 5)
   (.ops [⟨(some 4), none, .mv (.c (V.int .i64 0))⟩]
    (.ret))
   (.ops [⟨(some 19), none, .faddr 0 (.s 2)⟩,
      ⟨(some 20), none, .load none (.s 19)⟩,
      ⟨(some 21), none, .faddr 0 (.s 3)⟩,
      ⟨(some 22), none, .load none (.s 21)⟩,
      ⟨(some 23), none, .bin .eql (.s 20) (.s 22)⟩,
      ⟨(some 24), none, .mv (.s 23)⟩,
      ⟨(some 25), (some (24, true)), .faddr 1 (.s 2)⟩,
      ⟨(some 26), (some (24, true)), .load none (.s 25)⟩,
      ⟨(some 27), (some (24, true)), .bin .add (.s 26) (.c (V.int .i64 1))⟩,
      ⟨(some 28), (some (24, true)), .faddr 1 (.s 3)⟩,
      ⟨(some 29), (some (24, true)), .load none (.s 28)⟩,
      ⟨(some 30), (some (24, true)), .bin .eql (.s 27) (.s 29)⟩,
      ⟨(some 31), none, .pick (.s 24) (.s 30) (.c (V.bool false))⟩,
      ⟨(some 18), none, .mv (.s 31)⟩]
    (.cond (.s 18)
    (.ops [⟨(some 4), none, .mv (.c (V.int .i64 1))⟩]
     (.ret))
    (.ops [⟨(some 33), none, .faddr 0 (.s 2)⟩,
       ⟨(some 34), none, .load none (.s 33)⟩,
       ⟨(some 35), none, .bin .add (.s 34) (.c (V.int .i64 1))⟩,
       ⟨(some 36), none, .faddr 0 (.s 3)⟩,
       ⟨(some 37), none, .load none (.s 36)⟩,
       ⟨(some 38), none, .bin .eql (.s 35) (.s 37)⟩,
       ⟨(some 39), none, .mv (.s 38)⟩,
       ⟨(some 40), (some (39, true)), .faddr 1 (.s 3)⟩,
       ⟨(some 41), (some (39, true)), .load none (.s 40)⟩,
       ⟨(some 42), (some (39, true)), .bin .eql (.s 41) (.c (V.int .i64 0))⟩,
       ⟨(some 43), none, .pick (.s 39) (.s 42) (.c (V.bool false))⟩,
       ⟨(some 32), none, .mv (.s 43)⟩]
     (.cond (.s 32)
     (.ops [⟨(some 4), none, .mv (.c (V.int .i64 2))⟩]
      (.ret))
     (.done))))))) [] [6, 7, 8, 9, 10, 11, 12, 13, 14, 15, 16, 17, 5, 4, 19, 20, 21, 22, 23, 24, 25, 26, 27, 28, 29, 30, 31, 18, 4, 33, 34, 35, 36, 37, 38, 39, 40, 41, 42, 43, 32, 4]
  (.ops [⟨(some 4), none, .mv (.c (V.int .i64 3))⟩]
  (.ret)))⟩

noncomputable def f_palanquinref9_step (G : Sem') (t0 t1 : V) : M Res :=
  (mbox ty_palanquinref9_Template t0).bind fun t2 =>
  (mbox ty_palanquinref9_Template t1).bind fun t3 =>
  M.blk 0 (
    (M.lift (Ax.faddr 0 t2)).bind fun t6 =>
    (mload none t6).bind fun t7 =>
    (M.lift (Ax.faddr 0 t3)).bind fun t8 =>
    (mload none t8).bind fun t9 =>
    (M.lift (Ax.bin .eql t7 t9)).bind fun t10 =>
    (guarded [(0, t10)] (some (0, true)) (M.lift (Ax.faddr 1 t2))).bind fun t12 =>
    (guarded [(0, t10)] (some (0, true)) (mload none t12)).bind fun t13 =>
    (guarded [(0, t10)] (some (0, true)) (M.lift (Ax.faddr 1 t3))).bind fun t14 =>
    (guarded [(0, t10)] (some (0, true)) (mload none t14)).bind fun t15 =>
    (guarded [(0, t10)] (some (0, true)) (M.lift (Ax.bin .eql t13 t15))).bind fun t16 =>
    (M.lift (Ax.pick t10 t16 (V.bool false))).bind fun t17 =>
    M.ite t17
      (M.pure (.ret [(V.int .i64 0)]))
      ((M.lift (Ax.faddr 0 t2)).bind fun t19 =>
      (mload none t19).bind fun t20 =>
      (M.lift (Ax.faddr 0 t3)).bind fun t21 =>
      (mload none t21).bind fun t22 =>
      (M.lift (Ax.bin .eql t20 t22)).bind fun t23 =>
      (guarded [(0, t23)] (some (0, true)) (M.lift (Ax.faddr 1 t2))).bind fun t25 =>
      (guarded [(0, t23)] (some (0, true)) (mload none t25)).bind fun t26 =>
      (guarded [(0, t23)] (some (0, true)) (M.lift (Ax.bin .add t26 (V.int .i64 1)))).bind fun t27 =>
      (guarded [(0, t23)] (some (0, true)) (M.lift (Ax.faddr 1 t3))).bind fun t28 =>
      (guarded [(0, t23)] (some (0, true)) (mload none t28)).bind fun t29 =>
      (guarded [(0, t23)] (some (0, true)) (M.lift (Ax.bin .eql t27 t29))).bind fun t30 =>
      (M.lift (Ax.pick t23 t30 (V.bool false))).bind fun t31 =>
      M.ite t31
        (M.pure (.ret [(V.int .i64 1)]))
        ((M.lift (Ax.faddr 0 t2)).bind fun t33 =>
        (mload none t33).bind fun t34 =>
        (M.lift (Ax.bin .add t34 (V.int .i64 1))).bind fun t35 =>
        (M.lift (Ax.faddr 0 t3)).bind fun t36 =>
        (mload none t36).bind fun t37 =>
        (M.lift (Ax.bin .eql t35 t37)).bind fun t38 =>
        (guarded [(0, t38)] (some (0, true)) (M.lift (Ax.faddr 1 t3))).bind fun t40 =>
        (guarded [(0, t38)] (some (0, true)) (mload none t40)).bind fun t41 =>
        (guarded [(0, t38)] (some (0, true)) (M.lift (Ax.bin .eql t41 (V.int .i64 0)))).bind fun t42 =>
        (M.lift (Ax.pick t38 t42 (V.bool false))).bind fun t43 =>
        M.ite t43
          (M.pure (.ret [(V.int .i64 2)]))
          (M.pure (.nrm []))))) fun _ =>
  M.pure (.ret [(V.int .i64 3)])

theorem eq_palanquinref9_step (G : Sem') (t0 t1 : V) : execK G ir_palanquinref9_step.rv ir_palanquinref9_step.body [] [] (params 0 [t0, t1]) = f_palanquinref9_step G t0 t1 := by kernel_rfl

theorem tb_palanquinref9_step : T fn_palanquinref9_step = some ir_palanquinref9_step := by kernel_rfl

theorem ok_palanquinref9_step {t0 t1 : V} {H : Heap} {Q : V → Heap → Prop} (h : Ok (f_palanquinref9_step (sem T) t0 t1) H fun r H' => ∃ L, r = .ret L ∧ Q (tupled L) H') : Ok (sem T fn_palanquinref9_step [t0, t1]) H Q :=
  ok_sem tb_palanquinref9_step (Nat.le_of_ble_eq_true rfl) (eq_palanquinref9_step (sem T) t0 t1) h

/-- palanquin/palanquinref9.within. -/
def loop_palanquinref9_within_0 : C :=
  .ops [⟨(some 18), none, .mv (.s 9)⟩,
    ⟨(some 19), none, .mv (.s 0)⟩,
    ⟨(some 20), none, .len (.s 19)⟩,
    ⟨(some 21), none, .bin .lss (.s 18) (.s 20)⟩]
  (.cond (.s 21)
  (.blk 1
   (.ops [⟨(some 24), none, .mv (.s 0)⟩,
      ⟨(some 25), none, .mv (.s 9)⟩,
      ⟨(some 26), none, .iaddr none 1 (.s 24) (.s 25)⟩,
      ⟨(some 27), none, .load none (.s 26)⟩,
      ⟨(some 28), none, .mv (.s 2)⟩,
      ⟨(some 29), none, .bin .lss (.s 27) (.s 28)⟩,
      ⟨(some 30), none, .mv (.s 29)⟩,
      ⟨(some 31), (some (30, false)), .mv (.s 0)⟩,
      ⟨(some 32), (some (30, false)), .mv (.s 9)⟩,
      ⟨(some 33), (some (30, false)), .iaddr none 1 (.s 31) (.s 32)⟩,
      ⟨(some 34), (some (30, false)), .load none (.s 33)⟩,
      ⟨(some 35), (some (30, false)), .mv (.s 3)⟩,
      ⟨(some 36), (some (30, false)), .bin .gtr (.s 34) (.s 35)⟩,
      ⟨(some 37), none, .pick (.s 30) (.c (V.bool true)) (.s 36)⟩]
    (.cond (.s 37)
    (.ops [⟨(some 8), none, .mv (.c (V.bool false))⟩]
     (.ret))
    (.done))) [] [24, 25, 26, 27, 28, 29, 30, 31, 32, 33, 34, 35, 36, 37, 8]
   (.ops [⟨(some 22), none, .mv (.s 9)⟩,
     ⟨(some 23), none, .bin .add (.s 22) (.c (V.int .i64 1))⟩,
     ⟨(some 9), none, .mv (.s 23)⟩]
   (.done)))
  (.exit 0))

def ir_palanquinref9_within : Fn' := ⟨38, [.tmp 8],
  .ops [⟨(some 8), none, .mv (.c (V.bool false))⟩]
  (.ops [⟨(some 10), none, .mv (.s 1)⟩,
    ⟨(some 11), none, .bin .geq (.s 10) (.c (V.int .i64 0))⟩,
    ⟨(some 12), none, .mv (.s 11)⟩,
    ⟨(some 13), (some (12, true)), .mv (.s 0)⟩,
    ⟨(some 14), (some (12, true)), .len (.s 13)⟩,
    ⟨(some 15), (some (12, true)), .mv (.s 1)⟩,
    ⟨(some 16), (some (12, true)), .bin .neq (.s 14) (.s 15)⟩,
    ⟨(some 17), none, .pick (.s 12) (.s 16) (.c (V.bool false))⟩]
  (.cond (.s 17)
  (.ops [⟨(some 8), none, .mv (.c (V.bool false))⟩]
   (.ret))
  (.ops [⟨(some 9), none, .mv (.c (V.int .i64 0))⟩]
   (.blk 0
   (.loop loop_palanquinref9_within_0 [9] [18, 19, 20, 21, 24, 25, 26, 27, 28, 29, 30, 31, 32, 33, 34, 35, 36, 37, 8, 22, 23, 9]) [] [18, 19, 20, 21, 24, 25, 26, 27, 28, 29, 30, 31, 32, 33, 34, 35, 36, 37, 8, 22, 23, 9]
   (.ops [⟨(some 8), none, .mv (.c (V.bool true))⟩]
   (.ret))))))⟩

noncomputable def f_palanquinref9_within_0 (G : Sem') (t2 t0 t3 : V) (L : List V) : M Res :=
  (M.lift (vlen t0)).bind fun t20 =>
  (M.lift (Ax.bin .lss (L.getD 0 .undef) t20)).bind fun t21 =>
  M.ite t21
    (M.blk 1 (
      (M.lift (Ax.iaddr none 1 t0 (L.getD 0 .undef))).bind fun t26 =>
      (mload none t26).bind fun t27 =>
      (M.lift (Ax.bin .lss t27 t2)).bind fun t29 =>
      (guarded [(0, t29)] (some (0, false)) (M.pure t0)).bind fun t31 =>
      (guarded [(0, t29)] (some (0, false)) (M.pure (L.getD 0 .undef))).bind fun t32 =>
      (guarded [(0, t29)] (some (0, false)) (M.lift (Ax.iaddr none 1 t31 t32))).bind fun t33 =>
      (guarded [(0, t29)] (some (0, false)) (mload none t33)).bind fun t34 =>
      (guarded [(0, t29)] (some (0, false)) (M.pure t3)).bind fun t35 =>
      (guarded [(0, t29)] (some (0, false)) (M.lift (Ax.bin .gtr t34 t35))).bind fun t36 =>
      (M.lift (Ax.pick t29 (V.bool true) t36)).bind fun t37 =>
      M.ite t37
        (M.pure (.ret [(V.bool false)]))
        (M.pure (.nrm []))) fun _ =>
    (M.lift (Ax.bin .add (L.getD 0 .undef) (V.int .i64 1))).bind fun t23 =>
    M.pure (.nrm [t23]))
    (M.pure (.ex 0 []))

noncomputable def f_palanquinref9_within (G : Sem') (t0 t1 t2 t3 : V) : M Res :=
  (M.lift (Ax.bin .geq t1 (V.int .i64 0))).bind fun t11 =>
  (guarded [(0, t11)] (some (0, true)) (M.pure t0)).bind fun t13 =>
  (guarded [(0, t11)] (some (0, true)) (M.lift (vlen t13))).bind fun t14 =>
  (guarded [(0, t11)] (some (0, true)) (M.pure t1)).bind fun t15 =>
  (guarded [(0, t11)] (some (0, true)) (M.lift (Ax.bin .neq t14 t15))).bind fun t16 =>
  (M.lift (Ax.pick t11 t16 (V.bool false))).bind fun t17 =>
  M.ite t17
    (M.pure (.ret [(V.bool false)]))
    (M.blk 0 (
      M.iter (f_palanquinref9_within_0 G t2 t0 t3) [(V.int .i64 0)]) fun _ =>
    M.pure (.ret [(V.bool true)]))

theorem eq_palanquinref9_within (G : Sem') (t0 t1 t2 t3 : V) : execK G ir_palanquinref9_within.rv ir_palanquinref9_within.body [] [] (params 0 [t0, t1, t2, t3]) = f_palanquinref9_within G t0 t1 t2 t3 := by kernel_rfl

theorem tb_palanquinref9_within : T fn_palanquinref9_within = some ir_palanquinref9_within := by kernel_rfl

theorem ok_palanquinref9_within {t0 t1 t2 t3 : V} {H : Heap} {Q : V → Heap → Prop} (h : Ok (f_palanquinref9_within (sem T) t0 t1 t2 t3) H fun r H' => ∃ L, r = .ret L ∧ Q (tupled L) H') : Ok (sem T fn_palanquinref9_within [t0, t1, t2, t3]) H Q :=
  ok_sem tb_palanquinref9_within (Nat.le_of_ble_eq_true rfl) (eq_palanquinref9_within (sem T) t0 t1 t2 t3) h

/-- palanquin/palanquinref9.top. -/
def loop_palanquinref9_top_0 : C :=
  .ops [⟨(some 5), none, .mv (.s 4)⟩,
    ⟨(some 6), none, .faddr 2 (.s 1)⟩,
    ⟨(some 7), none, .load none (.s 6)⟩,
    ⟨(some 8), none, .len (.s 7)⟩,
    ⟨(some 9), none, .bin .lss (.s 5) (.s 8)⟩]
  (.cond (.s 9)
  (.blk 1
   (.ops [⟨(some 12), none, .mv (.s 3)⟩,
      ⟨(some 13), none, .faddr 2 (.s 1)⟩,
      ⟨(some 14), none, .load none (.s 13)⟩,
      ⟨(some 15), none, .mv (.s 4)⟩,
      ⟨(some 16), none, .iaddr none 5 (.s 14) (.s 15)⟩,
      ⟨(some 17), none, .faddr 0 (.s 16)⟩,
      ⟨(some 18), none, .load none (.s 17)⟩,
      ⟨(some 19), none, .minmax true (.s 12) [(.s 18)]⟩,
      ⟨(some 3), none, .mv (.s 19)⟩]
    (.done)) [3] [12, 13, 14, 15, 16, 17, 18, 19, 3]
   (.ops [⟨(some 10), none, .mv (.s 4)⟩,
     ⟨(some 11), none, .bin .add (.s 10) (.c (V.int .i64 1))⟩,
     ⟨(some 4), none, .mv (.s 11)⟩]
   (.done)))
  (.exit 0))

def ir_palanquinref9_top : Fn' := ⟨21, [.tmp 2],
  .ops [⟨(some 1), none, .box ty_palanquinref9_Structure (.s 0)⟩,
    ⟨(some 2), none, .mv (.c (V.int .i64 0))⟩]
  (.ops [⟨(some 3), none, .mv (.c (V.int .i64 0))⟩]
  (.ops [⟨(some 4), none, .mv (.c (V.int .i64 0))⟩]
  (.blk 0
  (.loop loop_palanquinref9_top_0 [3, 4] [5, 6, 7, 8, 9, 12, 13, 14, 15, 16, 17, 18, 19, 3, 10, 11, 4]) [3] [5, 6, 7, 8, 9, 12, 13, 14, 15, 16, 17, 18, 19, 3, 10, 11, 4]
  (.ops [⟨(some 20), none, .mv (.s 3)⟩,
    ⟨(some 2), none, .mv (.s 20)⟩]
  (.ret)))))⟩

noncomputable def f_palanquinref9_top_0 (G : Sem') (t1 t2 : V) (L : List V) : M Res :=
  (M.lift (Ax.faddr 2 t1)).bind fun t6 =>
  (mload none t6).bind fun t7 =>
  (M.lift (vlen t7)).bind fun t8 =>
  (M.lift (Ax.bin .lss (L.getD 1 .undef) t8)).bind fun t9 =>
  M.ite t9
    (M.blk 1 (
      (M.lift (Ax.faddr 2 t1)).bind fun t13 =>
      (mload none t13).bind fun t14 =>
      (M.lift (Ax.iaddr none 5 t14 (L.getD 1 .undef))).bind fun t16 =>
      (M.lift (Ax.faddr 0 t16)).bind fun t17 =>
      (mload none t17).bind fun t18 =>
      (M.lift (Ax.minmax true (L.getD 0 .undef) [t18])).bind fun t19 =>
      M.pure (.nrm [t19])) fun L0 =>
    (M.lift (Ax.bin .add (L.getD 1 .undef) (V.int .i64 1))).bind fun t11 =>
    M.pure (.nrm [(L0.getD 0 .undef), t11]))
    (M.pure (.ex 0 [(L.getD 0 .undef)]))

noncomputable def f_palanquinref9_top (G : Sem') (t0 : V) : M Res :=
  (mbox ty_palanquinref9_Structure t0).bind fun t1 =>
  M.blk 0 (
    M.iter (f_palanquinref9_top_0 G t1 (V.int .i64 0)) [(V.int .i64 0), (V.int .i64 0)]) fun L1 =>
  M.pure (.ret [(L1.getD 0 .undef)])

theorem eq_palanquinref9_top (G : Sem') (t0 : V) : execK G ir_palanquinref9_top.rv ir_palanquinref9_top.body [] [] (params 0 [t0]) = f_palanquinref9_top G t0 := by kernel_rfl

theorem tb_palanquinref9_top : T fn_palanquinref9_top = some ir_palanquinref9_top := by kernel_rfl

theorem ok_palanquinref9_top {t0 : V} {H : Heap} {Q : V → Heap → Prop} (h : Ok (f_palanquinref9_top (sem T) t0) H fun r H' => ∃ L, r = .ret L ∧ Q (tupled L) H') : Ok (sem T fn_palanquinref9_top [t0]) H Q :=
  ok_sem tb_palanquinref9_top (Nat.le_of_ble_eq_true rfl) (eq_palanquinref9_top (sem T) t0) h

/-- palanquin/palanquinref20.In. -/
def ir_palanquinref20_In : Fn' := ⟨22, [.tmp 4],
  .ops [⟨(some 2), none, .box ty_palanquinref9_Frame (.s 0)⟩,
    ⟨(some 4), none, .mv (.c (V.bool false))⟩]
  (.ops [⟨(some 5), none, .mv (.s 1)⟩,
    ⟨(some 6), none, .bin .geq (.s 5) (.c (V.int .i64 0))⟩,
    ⟨(some 7), none, .mv (.s 6)⟩,
    ⟨(some 8), (some (7, true)), .mv (.s 1)⟩,
    ⟨(some 9), (some (7, true)), .faddr 16 (.s 2)⟩,
    ⟨(some 10), (some (7, true)), .load none (.s 9)⟩,
    ⟨(some 11), (some (7, true)), .len (.s 10)⟩,
    ⟨(some 12), (some (7, true)), .bin .lss (.s 8) (.s 11)⟩,
    ⟨(some 13), none, .pick (.s 7) (.s 12) (.c (V.bool false))⟩,
    ⟨(some 14), none, .mv (.s 13)⟩,
    ⟨(some 15), (some (14, true)), .faddr 16 (.s 2)⟩,
    ⟨(some 16), (some (14, true)), .load none (.s 15)⟩,
    ⟨(some 17), (some (14, true)), .mv (.s 1)⟩,
    ⟨(some 18), (some (14, true)), .iaddr none 1 (.s 16) (.s 17)⟩,
    ⟨(some 19), (some (14, true)), .load none (.s 18)⟩,
    ⟨(some 20), (some (14, true)), .bin .neq (.s 19) (.c (V.int .i64 0))⟩,
    ⟨(some 21), none, .pick (.s 14) (.s 20) (.c (V.bool false))⟩,
    ⟨(some 4), none, .mv (.s 21)⟩]
  (.ret))⟩

noncomputable def f_palanquinref20_In (G : Sem') (t0 t1 : V) : M Res :=
  (mbox ty_palanquinref9_Frame t0).bind fun t2 =>
  (M.lift (Ax.bin .geq t1 (V.int .i64 0))).bind fun t6 =>
  (guarded [(0, t6)] (some (0, true)) (M.pure t1)).bind fun t8 =>
  (guarded [(0, t6)] (some (0, true)) (M.lift (Ax.faddr 16 t2))).bind fun t9 =>
  (guarded [(0, t6)] (some (0, true)) (mload none t9)).bind fun t10 =>
  (guarded [(0, t6)] (some (0, true)) (M.lift (vlen t10))).bind fun t11 =>
  (guarded [(0, t6)] (some (0, true)) (M.lift (Ax.bin .lss t8 t11))).bind fun t12 =>
  (M.lift (Ax.pick t6 t12 (V.bool false))).bind fun t13 =>
  (guarded [(0, t13)] (some (0, true)) (M.lift (Ax.faddr 16 t2))).bind fun t15 =>
  (guarded [(0, t13)] (some (0, true)) (mload none t15)).bind fun t16 =>
  (guarded [(0, t13)] (some (0, true)) (M.pure t1)).bind fun t17 =>
  (guarded [(0, t13)] (some (0, true)) (M.lift (Ax.iaddr none 1 t16 t17))).bind fun t18 =>
  (guarded [(0, t13)] (some (0, true)) (mload none t18)).bind fun t19 =>
  (guarded [(0, t13)] (some (0, true)) (M.lift (Ax.bin .neq t19 (V.int .i64 0)))).bind fun t20 =>
  (M.lift (Ax.pick t13 t20 (V.bool false))).bind fun t21 =>
  M.pure (.ret [t21])

theorem eq_palanquinref20_In (G : Sem') (t0 t1 : V) : execK G ir_palanquinref20_In.rv ir_palanquinref20_In.body [] [] (params 0 [t0, t1]) = f_palanquinref20_In G t0 t1 := by kernel_rfl

theorem tb_palanquinref20_In : T fn_palanquinref20_In = some ir_palanquinref20_In := by kernel_rfl

theorem ok_palanquinref20_In {t0 t1 : V} {H : Heap} {Q : V → Heap → Prop} (h : Ok (f_palanquinref20_In (sem T) t0 t1) H fun r H' => ∃ L, r = .ret L ∧ Q (tupled L) H') : Ok (sem T fn_palanquinref20_In [t0, t1]) H Q :=
  ok_sem tb_palanquinref20_In (Nat.le_of_ble_eq_true rfl) (eq_palanquinref20_In (sem T) t0 t1) h

/-- palanquin/palanquinref20.Source. -/
def loop_palanquinref20_Source_0 : C :=
  .ops [⟨(some 8), none, .mv (.s 7)⟩,
    ⟨(some 9), none, .mv (.s 1)⟩,
    ⟨(some 10), none, .len (.s 9)⟩,
    ⟨(some 11), none, .bin .lss (.s 8) (.s 10)⟩]
  (.cond (.s 11)
  (.blk 1
   (.ops [⟨(some 14), none, .mv (.s 1)⟩,
      ⟨(some 15), none, .mv (.s 7)⟩,
      ⟨(some 16), none, .iaddr none 1 (.s 14) (.s 15)⟩,
      ⟨(some 17), none, .load none (.s 16)⟩,
      ⟨(some 18), none, .bin .lss (.s 17) (.c (V.int .i64 0))⟩]
    (.cond (.s 18)
    (.exit 1)
    (.ops [⟨(some 19), none, .mv (.s 6)⟩,
       ⟨(some 20), none, .bin .lss (.s 19) (.c (V.int .i64 0))⟩]
     (.condJ (.s 20)
     (.ops [⟨(some 21), none, .mv (.s 7)⟩,
        ⟨(some 6), none, .mv (.s 21)⟩]
      (.done))
     (.done) [6] [21, 6]
     (.ops [⟨(some 22), none, .mv (.s 1)⟩,
       ⟨(some 23), none, .mv (.s 7)⟩,
       ⟨(some 24), none, .iaddr none 1 (.s 22) (.s 23)⟩,
       ⟨(some 25), none, .load none (.s 24)⟩,
       ⟨(some 26), none, .cint .u64 (.s 25)⟩,
       ⟨(some 27), none, .mv (.s 0)⟩,
       ⟨(some 28), none, .bin .quo (.s 27) (.c (V.int .u64 10000))⟩,
       ⟨(some 29), none, .bin .leq (.s 26) (.s 28)⟩]
     (.condJ (.s 29)
     (.ops [⟨(some 30), none, .mv (.s 7)⟩,
        ⟨(some 5), none, .mv (.s 30)⟩]
      (.done))
     (.done) [5] [30, 5]
     (.done))))))) [5, 6] [14, 15, 16, 17, 18, 19, 20, 21, 6, 22, 23, 24, 25, 26, 27, 28, 29, 30, 5]
   (.ops [⟨(some 12), none, .mv (.s 7)⟩,
     ⟨(some 13), none, .bin .add (.s 12) (.c (V.int .i64 1))⟩,
     ⟨(some 7), none, .mv (.s 13)⟩]
   (.done)))
  (.exit 0))

def ir_palanquinref20_Source : Fn' := ⟨34, [.tmp 4],
  .ops [⟨(some 4), none, .mv (.c (V.int .i64 0))⟩]
  (.ops [⟨(some 5), none, .mv (.c (V.int .i64 (-1)))⟩,
    ⟨(some 6), none, .mv (.c (V.int .i64 (-1)))⟩]
  (.ops [⟨(some 7), none, .mv (.c (V.int .i64 0))⟩]
  (.blk 0
  (.loop loop_palanquinref20_Source_0 [5, 6, 7] [8, 9, 10, 11, 14, 15, 16, 17, 18, 19, 20, 21, 6, 22, 23, 24, 25, 26, 27, 28, 29, 30, 5, 12, 13, 7]) [5, 6] [8, 9, 10, 11, 14, 15, 16, 17, 18, 19, 20, 21, 6, 22, 23, 24, 25, 26, 27, 28, 29, 30, 5, 12, 13, 7]
  (.ops [⟨(some 31), none, .mv (.s 5)⟩,
    ⟨(some 32), none, .mv (.s 6)⟩,
    ⟨(some 33), none, .minmax true (.s 31) [(.s 32), (.c (V.int .i64 0))]⟩,
    ⟨(some 4), none, .mv (.s 33)⟩]
  (.ret)))))⟩

noncomputable def f_palanquinref20_Source_0 (G : Sem') (t1 t0 t4 : V) (L : List V) : M Res :=
  (M.lift (vlen t1)).bind fun t10 =>
  (M.lift (Ax.bin .lss (L.getD 2 .undef) t10)).bind fun t11 =>
  M.ite t11
    (M.blk 1 (
      (M.lift (Ax.iaddr none 1 t1 (L.getD 2 .undef))).bind fun t16 =>
      (mload none t16).bind fun t17 =>
      (M.lift (Ax.bin .lss t17 (V.int .i64 0))).bind fun t18 =>
      M.ite t18
        (M.pure (.ex 1 [(L.getD 0 .undef), (L.getD 1 .undef)]))
        ((M.lift (Ax.bin .lss (L.getD 1 .undef) (V.int .i64 0))).bind fun t20 =>
        M.join (M.ite t20
          (M.pure (.nrm [(L.getD 2 .undef)]))
          (M.pure (.nrm [(L.getD 1 .undef)]))) fun L0 =>
        (M.lift (Ax.iaddr none 1 t1 (L.getD 2 .undef))).bind fun t24 =>
        (mload none t24).bind fun t25 =>
        (M.lift (Ax.cint .u64 t25)).bind fun t26 =>
        (M.lift (Ax.bin .quo t0 (V.int .u64 10000))).bind fun t28 =>
        (M.lift (Ax.bin .leq t26 t28)).bind fun t29 =>
        M.join (M.ite t29
          (M.pure (.nrm [(L.getD 2 .undef)]))
          (M.pure (.nrm [(L.getD 0 .undef)]))) fun L1 =>
        M.pure (.nrm [(L1.getD 0 .undef), (L0.getD 0 .undef)]))) fun L2 =>
    (M.lift (Ax.bin .add (L.getD 2 .undef) (V.int .i64 1))).bind fun t13 =>
    M.pure (.nrm [(L2.getD 0 .undef), (L2.getD 1 .undef), t13]))
    (M.pure (.ex 0 [(L.getD 0 .undef), (L.getD 1 .undef)]))

noncomputable def f_palanquinref20_Source (G : Sem') (t0 t1 : V) : M Res :=
  M.blk 0 (
    M.iter (f_palanquinref20_Source_0 G t1 t0 (V.int .i64 0)) [(V.int .i64 (-1)), (V.int .i64 (-1)), (V.int .i64 0)]) fun L3 =>
  (M.lift (Ax.minmax true (L3.getD 0 .undef) [(L3.getD 1 .undef), (V.int .i64 0)])).bind fun t33 =>
  M.pure (.ret [t33])

theorem eq_palanquinref20_Source (G : Sem') (t0 t1 : V) : execK G ir_palanquinref20_Source.rv ir_palanquinref20_Source.body [] [] (params 0 [t0, t1]) = f_palanquinref20_Source G t0 t1 := by kernel_rfl

theorem tb_palanquinref20_Source : T fn_palanquinref20_Source = some ir_palanquinref20_Source := by kernel_rfl

theorem ok_palanquinref20_Source {t0 t1 : V} {H : Heap} {Q : V → Heap → Prop} (h : Ok (f_palanquinref20_Source (sem T) t0 t1) H fun r H' => ∃ L, r = .ret L ∧ Q (tupled L) H') : Ok (sem T fn_palanquinref20_Source [t0, t1]) H Q :=
  ok_sem tb_palanquinref20_Source (Nat.le_of_ble_eq_true rfl) (eq_palanquinref20_Source (sem T) t0 t1) h

/-- palanquin/palanquinlaw20.PickBest. -/
def loop_palanquinlaw20_PickBest_0 : C :=
  .ops [⟨(some 83), none, .mv (.s 18)⟩,
    ⟨(some 84), none, .bin .lss (.s 83) (.c (V.int .i64 32))⟩]
  (.cond (.s 84)
  (.blk 1
   (.ops [⟨(some 88), none, .load (some 6) (.s 5)⟩,
      ⟨(some 89), none, .mv (.s 18)⟩,
      ⟨(some 90), none, .call fn_depend_Layers [(.s 88), (.s 89)]⟩,
      ⟨(some 87), none, .mv (.s 90)⟩,
      ⟨(some 91), none, .ext 0 (.s 87)⟩,
      ⟨(some 92), none, .ext 1 (.s 87)⟩,
      ⟨(some 93), none, .ext 2 (.s 87)⟩,
      ⟨(some 19), none, .mv (.s 91)⟩,
      ⟨(some 20), none, .mv (.s 92)⟩,
      ⟨(some 21), none, .mv (.s 93)⟩]
    (.ops [⟨(some 94), none, .mv (.s 21)⟩,
      ⟨(some 95), none, .un .not (.s 94)⟩,
      ⟨(some 96), none, .mv (.s 95)⟩,
      ⟨(some 97), (some (96, false)), .mv (.s 1)⟩,
      ⟨(some 98), (some (96, false)), .mv (.s 18)⟩,
      ⟨(some 99), (some (96, false)), .cint .u64 (.s 98)⟩,
      ⟨(some 100), (some (96, false)), .bin .shr (.s 97) (.s 99)⟩,
      ⟨(some 101), (some (96, false)), .bin .and (.s 100) (.c (V.int .u32 1))⟩,
      ⟨(some 102), (some (96, false)), .bin .eql (.s 101) (.c (V.int .u32 0))⟩,
      ⟨(some 103), none, .pick (.s 96) (.c (V.bool true)) (.s 102)⟩,
      ⟨(some 104), none, .mv (.s 103)⟩,
      ⟨(some 105), (some (104, false)), .mv (.s 19)⟩,
      ⟨(some 106), (some (104, false)), .mv (.s 11)⟩,
      ⟨(some 107), (some (104, false)), .bin .gtr (.s 105) (.s 106)⟩,
      ⟨(some 108), none, .pick (.s 104) (.c (V.bool true)) (.s 107)⟩,
      ⟨(some 109), none, .mv (.s 108)⟩,
      ⟨(some 110), (some (109, false)), .mv (.s 20)⟩,
      ⟨(some 111), (some (109, false)), .mv (.s 12)⟩,
      ⟨(some 112), (some (109, false)), .bin .gtr (.s 110) (.s 111)⟩,
      ⟨(some 113), none, .pick (.s 109) (.c (V.bool true)) (.s 112)⟩]
    (.cond (.s 113)
    (.exit 1)
    (.ops [⟨(some 114), none, .mv (.s 14)⟩,
       ⟨(some 115), none, .un .not (.s 114)⟩,
       ⟨(some 116), none, .mv (.s 115)⟩,
       ⟨(some 117), (some (116, false)), .mv (.s 19)⟩,
       ⟨(some 118), (some (116, false)), .mv (.s 15)⟩,
       ⟨(some 119), (some (116, false)), .bin .gtr (.s 117) (.s 118)⟩,
       ⟨(some 120), none, .pick (.s 116) (.c (V.bool true)) (.s 119)⟩,
       ⟨(some 121), none, .mv (.s 120)⟩,
       ⟨(some 122), (some (121, false)), .mv (.s 19)⟩,
       ⟨(some 123), (some (121, false)), .mv (.s 15)⟩,
       ⟨(some 124), (some (121, false)), .bin .eql (.s 122) (.s 123)⟩,
       ⟨(some 125), (some (121, false)), .mv (.s 124)⟩,
       ⟨(some 126), (some (125, true)), .mv (.s 20)⟩,
       ⟨(some 127), (some (125, true)), .mv (.s 16)⟩,
       ⟨(some 128), (some (125, true)), .bin .gtr (.s 126) (.s 127)⟩,
       ⟨(some 129), (some (121, false)), .pick (.s 125) (.s 128) (.c (V.bool false))⟩,
       ⟨(some 130), none, .pick (.s 121) (.c (V.bool true)) (.s 129)⟩,
       ⟨(some 131), none, .mv (.s 130)⟩,
       ⟨(some 132), (some (131, false)), .mv (.s 19)⟩,
       ⟨(some 133), (some (131, false)), .mv (.s 15)⟩,
       ⟨(some 134), (some (131, false)), .bin .eql (.s 132) (.s 133)⟩,
       ⟨(some 135), (some (131, false)), .mv (.s 134)⟩,
       ⟨(some 136), (some (135, true)), .mv (.s 20)⟩,
       ⟨(some 137), (some (135, true)), .mv (.s 16)⟩,
       ⟨(some 138), (some (135, true)), .bin .eql (.s 136) (.s 137)⟩,
       ⟨(some 139), (some (131, false)), .pick (.s 135) (.s 138) (.c (V.bool false))⟩,
       ⟨(some 140), (some (131, false)), .mv (.s 139)⟩,
       ⟨(some 141), (some (140, true)), .mv (.s 18)⟩,
       ⟨(some 142), (some (140, true)), .mv (.s 13)⟩,
       ⟨(some 143), (some (140, true)), .bin .lss (.s 141) (.s 142)⟩,
       ⟨(some 144), (some (131, false)), .pick (.s 140) (.s 143) (.c (V.bool false))⟩,
       ⟨(some 145), none, .pick (.s 131) (.c (V.bool true)) (.s 144)⟩]
     (.cond (.s 145)
     (.ops [⟨(some 10), none, .mv (.c (V.bool false))⟩]
      (.ret))
     (.done)))))) [] [88, 89, 90, 87, 91, 92, 93, 19, 20, 21, 94, 95, 96, 97, 98, 99, 100, 101, 102, 103, 104, 105, 106, 107, 108, 109, 110, 111, 112, 113, 114, 115, 116, 117, 118, 119, 120, 121, 122, 123, 124, 125, 126, 127, 128, 129, 130, 131, 132, 133, 134, 135, 136, 137, 138, 139, 140, 141, 142, 143, 144, 145, 10]
   (.ops [⟨(some 85), none, .mv (.s 18)⟩,
     ⟨(some 86), none, .bin .add (.s 85) (.c (V.int .i64 1))⟩,
     ⟨(some 18), none, .mv (.s 86)⟩]
   (.done)))
  (.exit 0))

def ir_palanquinlaw20_PickBest : Fn' := ⟨175, [.tmp 10],
  .ops [⟨(some 5), none, .box ty_depend_Structure (.s 0)⟩,
    ⟨(some 10), none, .mv (.c (V.bool false))⟩]
  (.ops [⟨(some 27), none, .call fn_palanquinlaw20_awake []⟩,
    ⟨(some 28), none, .un .not (.s 27)⟩]
  (.cond (.s 28)
  (.ops [⟨(some 10), none, .mv (.c (V.bool false))⟩]
   (.ret))
  (.ops [⟨(some 29), none, .load (some 6) (.s 5)⟩,
     ⟨(some 30), none, .call fn_palanquinlaw20_heavy [(.s 29)]⟩]
   (.cond (.s 30)
   (.ops [⟨(some 10), none, .mv (.c (V.bool true))⟩]
    (.ret))
   (.ops [⟨(some 31), none, .mv (.s 2)⟩,
      ⟨(some 32), none, .bin .rem (.s 31) (.c (V.int .u8 4))⟩,
      ⟨(some 33), none, .cint .i64 (.s 32)⟩,
      ⟨(some 34), none, .mv (.s 3)⟩,
      ⟨(some 35), none, .bin .rem (.s 34) (.c (V.int .u8 8))⟩,
      ⟨(some 36), none, .cint .i64 (.s 35)⟩,
      ⟨(some 11), none, .mv (.s 33)⟩,
      ⟨(some 12), none, .mv (.s 36)⟩]
    (.ops [⟨(some 38), none, .load (some 6) (.s 5)⟩,
      ⟨(some 39), none, .mv (.s 1)⟩,
      ⟨(some 40), none, .mv (.s 11)⟩,
      ⟨(some 41), none, .mv (.s 12)⟩,
      ⟨(some 42), none, .call fn_pick_Fits [(.s 38), (.s 39), (.s 40), (.s 41)]⟩,
      ⟨(some 37), none, .mv (.s 42)⟩,
      ⟨(some 43), none, .ext 0 (.s 37)⟩,
      ⟨(some 44), none, .ext 1 (.s 37)⟩,
      ⟨(some 13), none, .mv (.s 43)⟩,
      ⟨(some 14), none, .mv (.s 44)⟩]
    (.ops [⟨(some 46), none, .load (some 6) (.s 5)⟩,
      ⟨(some 47), none, .mv (.s 13)⟩,
      ⟨(some 48), none, .call fn_depend_Layers [(.s 46), (.s 47)]⟩,
      ⟨(some 45), none, .mv (.s 48)⟩,
      ⟨(some 49), none, .ext 0 (.s 45)⟩,
      ⟨(some 50), none, .ext 1 (.s 45)⟩,
      ⟨(some 51), none, .ext 2 (.s 45)⟩,
      ⟨(some 15), none, .mv (.s 49)⟩,
      ⟨(some 16), none, .mv (.s 50)⟩,
      ⟨(some 17), none, .mv (.s 51)⟩]
    (.ops [⟨(some 52), none, .mv (.s 14)⟩,
      ⟨(some 53), none, .mv (.s 52)⟩,
      ⟨(some 54), (some (53, true)), .mv (.s 17)⟩,
      ⟨(some 55), (some (53, true)), .un .not (.s 54)⟩,
      ⟨(some 56), (some (53, true)), .mv (.s 55)⟩,
      ⟨(some 57), (some (56, false)), .mv (.s 1)⟩,
      ⟨(some 58), (some (56, false)), .mv (.s 13)⟩,
      ⟨(some 59), (some (56, false)), .cint .u64 (.s 58)⟩,
      ⟨(some 60), (some (56, false)), .bin .shr (.s 57) (.s 59)⟩,
      ⟨(some 61), (some (56, false)), .bin .and (.s 60) (.c (V.int .u32 1))⟩,
      ⟨(some 62), (some (56, false)), .bin .eql (.s 61) (.c (V.int .u32 0))⟩,
      ⟨(some 63), (some (53, true)), .pick (.s 56) (.c (V.bool true)) (.s 62)⟩,
      ⟨(some 64), (some (53, true)), .mv (.s 63)⟩,
      ⟨(some 65), (some (64, false)), .mv (.s 15)⟩,
      ⟨(some 66), (some (64, false)), .mv (.s 11)⟩,
      ⟨(some 67), (some (64, false)), .bin .gtr (.s 65) (.s 66)⟩,
      ⟨(some 68), (some (53, true)), .pick (.s 64) (.c (V.bool true)) (.s 67)⟩,
      ⟨(some 69), (some (53, true)), .mv (.s 68)⟩,
      ⟨(some 70), (some (69, false)), .mv (.s 16)⟩,
      ⟨(some 71), (some (69, false)), .mv (.s 12)⟩,
      ⟨(some 72), (some (69, false)), .bin .gtr (.s 70) (.s 71)⟩,
      ⟨(some 73), (some (53, true)), .pick (.s 69) (.c (V.bool true)) (.s 72)⟩,
      ⟨(some 74), none, .pick (.s 53) (.s 73) (.c (V.bool false))⟩,
      ⟨(some 75), none, .mv (.s 74)⟩,
      ⟨(some 76), (some (75, false)), .mv (.s 14)⟩,
      ⟨(some 77), (some (75, false)), .un .not (.s 76)⟩,
      ⟨(some 78), (some (75, false)), .mv (.s 77)⟩,
      ⟨(some 79), (some (78, true)), .mv (.s 13)⟩,
      ⟨(some 80), (some (78, true)), .bin .neq (.s 79) (.c (V.int .i64 0))⟩,
      ⟨(some 81), (some (75, false)), .pick (.s 78) (.s 80) (.c (V.bool false))⟩,
      ⟨(some 82), none, .pick (.s 75) (.c (V.bool true)) (.s 81)⟩]
    (.cond (.s 82)
    (.ops [⟨(some 10), none, .mv (.c (V.bool false))⟩]
     (.ret))
    (.ops [⟨(some 18), none, .mv (.c (V.int .i64 0))⟩]
     (.blk 0
     (.loop loop_palanquinlaw20_PickBest_0 [18] [83, 84, 88, 89, 90, 87, 91, 92, 93, 19, 20, 21, 94, 95, 96, 97, 98, 99, 100, 101, 102, 103, 104, 105, 106, 107, 108, 109, 110, 111, 112, 113, 114, 115, 116, 117, 118, 119, 120, 121, 122, 123, 124, 125, 126, 127, 128, 129, 130, 131, 132, 133, 134, 135, 136, 137, 138, 139, 140, 141, 142, 143, 144, 145, 10, 85, 86, 18]) [] [83, 84, 88, 89, 90, 87, 91, 92, 93, 19, 20, 21, 94, 95, 96, 97, 98, 99, 100, 101, 102, 103, 104, 105, 106, 107, 108, 109, 110, 111, 112, 113, 114, 115, 116, 117, 118, 119, 120, 121, 122, 123, 124, 125, 126, 127, 128, 129, 130, 131, 132, 133, 134, 135, 136, 137, 138, 139, 140, 141, 142, 143, 144, 145, 10, 85, 86, 18]
     (.ops [⟨(some 147), none, .load (some 6) (.s 5)⟩,
       ⟨(some 148), none, .mv (.s 1)⟩,
       ⟨(some 149), none, .mv (.s 11)⟩,
       ⟨(some 150), none, .mv (.s 4)⟩,
       ⟨(some 151), none, .bin .rem (.s 150) (.c (V.int .u8 4))⟩,
       ⟨(some 152), none, .cint .i64 (.s 151)⟩,
       ⟨(some 153), none, .bin .add (.s 149) (.s 152)⟩,
       ⟨(some 154), none, .mv (.s 12)⟩,
       ⟨(some 155), none, .call fn_pick_Fits [(.s 147), (.s 148), (.s 153), (.s 154)]⟩,
       ⟨(some 146), none, .mv (.s 155)⟩,
       ⟨(some 156), none, .ext 0 (.s 146)⟩,
       ⟨(some 157), none, .ext 1 (.s 146)⟩,
       ⟨(some 22), none, .mv (.s 156)⟩,
       ⟨(some 23), none, .mv (.s 157)⟩]
     (.ops [⟨(some 159), none, .load (some 6) (.s 5)⟩,
       ⟨(some 160), none, .mv (.s 22)⟩,
       ⟨(some 161), none, .call fn_depend_Layers [(.s 159), (.s 160)]⟩,
       ⟨(some 158), none, .mv (.s 161)⟩,
       ⟨(some 162), none, .ext 0 (.s 158)⟩,
       ⟨(some 163), none, .ext 1 (.s 158)⟩,
       ⟨(some 164), none, .ext 2 (.s 158)⟩,
       ⟨(some 24), none, .mv (.s 162)⟩,
       ⟨(some 25), none, .mv (.s 163)⟩,
       ⟨(some 26), none, .mv (.s 164)⟩]
     (.ops [⟨(some 165), none, .mv (.s 14)⟩,
       ⟨(some 166), none, .un .not (.s 165)⟩,
       ⟨(some 167), none, .mv (.s 166)⟩,
       ⟨(some 168), (some (167, false)), .mv (.s 23)⟩,
       ⟨(some 169), (some (167, false)), .mv (.s 168)⟩,
       ⟨(some 170), (some (169, true)), .mv (.s 24)⟩,
       ⟨(some 171), (some (169, true)), .mv (.s 15)⟩,
       ⟨(some 172), (some (169, true)), .bin .geq (.s 170) (.s 171)⟩,
       ⟨(some 173), (some (167, false)), .pick (.s 169) (.s 172) (.c (V.bool false))⟩,
       ⟨(some 174), none, .pick (.s 167) (.c (V.bool true)) (.s 173)⟩,
       ⟨(some 10), none, .mv (.s 174)⟩]
     (.ret)))))))))))))))⟩

noncomputable def f_palanquinlaw20_PickBest_0 (G : Sem') (t5 t1 t11 t12 t14 t15 t16 t13 : V) (L : List V) : M Res :=
  (M.lift (Ax.bin .lss (L.getD 0 .undef) (V.int .i64 32))).bind fun t84 =>
  M.ite t84
    (M.blk 1 (
      (mload (some 6) t5).bind fun t88 =>
      (G fn_depend_Layers [t88, (L.getD 0 .undef)]).bind fun t90 =>
      (M.lift (Ax.ext 0 t90)).bind fun t91 =>
      (M.lift (Ax.ext 1 t90)).bind fun t92 =>
      (M.lift (Ax.ext 2 t90)).bind fun t93 =>
      (M.lift (Ax.un .not t93)).bind fun t95 =>
      (guarded [(0, t95)] (some (0, false)) (M.pure t1)).bind fun t97 =>
      (guarded [(0, t95)] (some (0, false)) (M.pure (L.getD 0 .undef))).bind fun t98 =>
      (guarded [(0, t95)] (some (0, false)) (M.lift (Ax.cint .u64 t98))).bind fun t99 =>
      (guarded [(0, t95)] (some (0, false)) (M.lift (Ax.bin .shr t97 t99))).bind fun t100 =>
      (guarded [(0, t95)] (some (0, false)) (M.lift (Ax.bin .and t100 (V.int .u32 1)))).bind fun t101 =>
      (guarded [(0, t95)] (some (0, false)) (M.lift (Ax.bin .eql t101 (V.int .u32 0)))).bind fun t102 =>
      (M.lift (Ax.pick t95 (V.bool true) t102)).bind fun t103 =>
      (guarded [(0, t103)] (some (0, false)) (M.pure t91)).bind fun t105 =>
      (guarded [(0, t103)] (some (0, false)) (M.pure t11)).bind fun t106 =>
      (guarded [(0, t103)] (some (0, false)) (M.lift (Ax.bin .gtr t105 t106))).bind fun t107 =>
      (M.lift (Ax.pick t103 (V.bool true) t107)).bind fun t108 =>
      (guarded [(0, t108)] (some (0, false)) (M.pure t92)).bind fun t110 =>
      (guarded [(0, t108)] (some (0, false)) (M.pure t12)).bind fun t111 =>
      (guarded [(0, t108)] (some (0, false)) (M.lift (Ax.bin .gtr t110 t111))).bind fun t112 =>
      (M.lift (Ax.pick t108 (V.bool true) t112)).bind fun t113 =>
      M.ite t113
        (M.pure (.ex 1 []))
        ((M.lift (Ax.un .not t14)).bind fun t115 =>
        (guarded [(0, t115)] (some (0, false)) (M.pure t91)).bind fun t117 =>
        (guarded [(0, t115)] (some (0, false)) (M.pure t15)).bind fun t118 =>
        (guarded [(0, t115)] (some (0, false)) (M.lift (Ax.bin .gtr t117 t118))).bind fun t119 =>
        (M.lift (Ax.pick t115 (V.bool true) t119)).bind fun t120 =>
        (guarded [(0, t120)] (some (0, false)) (M.pure t91)).bind fun t122 =>
        (guarded [(0, t120)] (some (0, false)) (M.pure t15)).bind fun t123 =>
        (guarded [(0, t120)] (some (0, false)) (M.lift (Ax.bin .eql t122 t123))).bind fun t124 =>
        (guarded [(0, t120)] (some (0, false)) (M.pure t124)).bind fun t125 =>
        (guarded [(0, t125)] (some (0, true)) (M.pure t92)).bind fun t126 =>
        (guarded [(0, t125)] (some (0, true)) (M.pure t16)).bind fun t127 =>
        (guarded [(0, t125)] (some (0, true)) (M.lift (Ax.bin .gtr t126 t127))).bind fun t128 =>
        (guarded [(0, t120)] (some (0, false)) (M.lift (Ax.pick t125 t128 (V.bool false)))).bind fun t129 =>
        (M.lift (Ax.pick t120 (V.bool true) t129)).bind fun t130 =>
        (guarded [(0, t130)] (some (0, false)) (M.pure t91)).bind fun t132 =>
        (guarded [(0, t130)] (some (0, false)) (M.pure t15)).bind fun t133 =>
        (guarded [(0, t130)] (some (0, false)) (M.lift (Ax.bin .eql t132 t133))).bind fun t134 =>
        (guarded [(0, t130)] (some (0, false)) (M.pure t134)).bind fun t135 =>
        (guarded [(0, t135)] (some (0, true)) (M.pure t92)).bind fun t136 =>
        (guarded [(0, t135)] (some (0, true)) (M.pure t16)).bind fun t137 =>
        (guarded [(0, t135)] (some (0, true)) (M.lift (Ax.bin .eql t136 t137))).bind fun t138 =>
        (guarded [(0, t130)] (some (0, false)) (M.lift (Ax.pick t135 t138 (V.bool false)))).bind fun t139 =>
        (guarded [(0, t130)] (some (0, false)) (M.pure t139)).bind fun t140 =>
        (guarded [(0, t140)] (some (0, true)) (M.pure (L.getD 0 .undef))).bind fun t141 =>
        (guarded [(0, t140)] (some (0, true)) (M.pure t13)).bind fun t142 =>
        (guarded [(0, t140)] (some (0, true)) (M.lift (Ax.bin .lss t141 t142))).bind fun t143 =>
        (guarded [(0, t130)] (some (0, false)) (M.lift (Ax.pick t140 t143 (V.bool false)))).bind fun t144 =>
        (M.lift (Ax.pick t130 (V.bool true) t144)).bind fun t145 =>
        M.ite t145
          (M.pure (.ret [(V.bool false)]))
          (M.pure (.nrm [])))) fun _ =>
    (M.lift (Ax.bin .add (L.getD 0 .undef) (V.int .i64 1))).bind fun t86 =>
    M.pure (.nrm [t86]))
    (M.pure (.ex 0 []))

noncomputable def f_palanquinlaw20_PickBest (G : Sem') (t0 t1 t2 t3 t4 : V) : M Res :=
  (mbox ty_depend_Structure t0).bind fun t5 =>
  (G fn_palanquinlaw20_awake []).bind fun t27 =>
  (M.lift (Ax.un .not t27)).bind fun t28 =>
  M.ite t28
    (M.pure (.ret [(V.bool false)]))
    ((mload (some 6) t5).bind fun t29 =>
    (G fn_palanquinlaw20_heavy [t29]).bind fun t30 =>
    M.ite t30
      (M.pure (.ret [(V.bool true)]))
      ((M.lift (Ax.bin .rem t2 (V.int .u8 4))).bind fun t32 =>
      (M.lift (Ax.cint .i64 t32)).bind fun t33 =>
      (M.lift (Ax.bin .rem t3 (V.int .u8 8))).bind fun t35 =>
      (M.lift (Ax.cint .i64 t35)).bind fun t36 =>
      (mload (some 6) t5).bind fun t38 =>
      (G fn_pick_Fits [t38, t1, t33, t36]).bind fun t42 =>
      (M.lift (Ax.ext 0 t42)).bind fun t43 =>
      (M.lift (Ax.ext 1 t42)).bind fun t44 =>
      (mload (some 6) t5).bind fun t46 =>
      (G fn_depend_Layers [t46, t43]).bind fun t48 =>
      (M.lift (Ax.ext 0 t48)).bind fun t49 =>
      (M.lift (Ax.ext 1 t48)).bind fun t50 =>
      (M.lift (Ax.ext 2 t48)).bind fun t51 =>
      (guarded [(0, t44)] (some (0, true)) (M.pure t51)).bind fun t54 =>
      (guarded [(0, t44)] (some (0, true)) (M.lift (Ax.un .not t54))).bind fun t55 =>
      (guarded [(0, t44)] (some (0, true)) (M.pure t55)).bind fun t56 =>
      (guarded [(0, t56)] (some (0, false)) (M.pure t1)).bind fun t57 =>
      (guarded [(0, t56)] (some (0, false)) (M.pure t43)).bind fun t58 =>
      (guarded [(0, t56)] (some (0, false)) (M.lift (Ax.cint .u64 t58))).bind fun t59 =>
      (guarded [(0, t56)] (some (0, false)) (M.lift (Ax.bin .shr t57 t59))).bind fun t60 =>
      (guarded [(0, t56)] (some (0, false)) (M.lift (Ax.bin .and t60 (V.int .u32 1)))).bind fun t61 =>
      (guarded [(0, t56)] (some (0, false)) (M.lift (Ax.bin .eql t61 (V.int .u32 0)))).bind fun t62 =>
      (guarded [(0, t44)] (some (0, true)) (M.lift (Ax.pick t56 (V.bool true) t62))).bind fun t63 =>
      (guarded [(0, t44)] (some (0, true)) (M.pure t63)).bind fun t64 =>
      (guarded [(0, t64)] (some (0, false)) (M.pure t49)).bind fun t65 =>
      (guarded [(0, t64)] (some (0, false)) (M.pure t33)).bind fun t66 =>
      (guarded [(0, t64)] (some (0, false)) (M.lift (Ax.bin .gtr t65 t66))).bind fun t67 =>
      (guarded [(0, t44)] (some (0, true)) (M.lift (Ax.pick t64 (V.bool true) t67))).bind fun t68 =>
      (guarded [(0, t44)] (some (0, true)) (M.pure t68)).bind fun t69 =>
      (guarded [(0, t69)] (some (0, false)) (M.pure t50)).bind fun t70 =>
      (guarded [(0, t69)] (some (0, false)) (M.pure t36)).bind fun t71 =>
      (guarded [(0, t69)] (some (0, false)) (M.lift (Ax.bin .gtr t70 t71))).bind fun t72 =>
      (guarded [(0, t44)] (some (0, true)) (M.lift (Ax.pick t69 (V.bool true) t72))).bind fun t73 =>
      (M.lift (Ax.pick t44 t73 (V.bool false))).bind fun t74 =>
      (guarded [(0, t74)] (some (0, false)) (M.pure t44)).bind fun t76 =>
      (guarded [(0, t74)] (some (0, false)) (M.lift (Ax.un .not t76))).bind fun t77 =>
      (guarded [(0, t74)] (some (0, false)) (M.pure t77)).bind fun t78 =>
      (guarded [(0, t78)] (some (0, true)) (M.pure t43)).bind fun t79 =>
      (guarded [(0, t78)] (some (0, true)) (M.lift (Ax.bin .neq t79 (V.int .i64 0)))).bind fun t80 =>
      (guarded [(0, t74)] (some (0, false)) (M.lift (Ax.pick t78 t80 (V.bool false)))).bind fun t81 =>
      (M.lift (Ax.pick t74 (V.bool true) t81)).bind fun t82 =>
      M.ite t82
        (M.pure (.ret [(V.bool false)]))
        (M.blk 0 (
          M.iter (f_palanquinlaw20_PickBest_0 G t5 t1 t33 t36 t44 t49 t50 t43) [(V.int .i64 0)]) fun _ =>
        (mload (some 6) t5).bind fun t147 =>
        (M.lift (Ax.bin .rem t4 (V.int .u8 4))).bind fun t151 =>
        (M.lift (Ax.cint .i64 t151)).bind fun t152 =>
        (M.lift (Ax.bin .add t33 t152)).bind fun t153 =>
        (G fn_pick_Fits [t147, t1, t153, t36]).bind fun t155 =>
        (M.lift (Ax.ext 0 t155)).bind fun t156 =>
        (M.lift (Ax.ext 1 t155)).bind fun t157 =>
        (mload (some 6) t5).bind fun t159 =>
        (G fn_depend_Layers [t159, t156]).bind fun t161 =>
        (M.lift (Ax.ext 0 t161)).bind fun t162 =>
        (M.lift (Ax.ext 1 t161)).bind fun t163 =>
        (M.lift (Ax.ext 2 t161)).bind fun t164 =>
        (M.lift (Ax.un .not t44)).bind fun t166 =>
        (guarded [(0, t166)] (some (0, false)) (M.pure t157)).bind fun t168 =>
        (guarded [(0, t166)] (some (0, false)) (M.pure t168)).bind fun t169 =>
        (guarded [(0, t169)] (some (0, true)) (M.pure t162)).bind fun t170 =>
        (guarded [(0, t169)] (some (0, true)) (M.pure t49)).bind fun t171 =>
        (guarded [(0, t169)] (some (0, true)) (M.lift (Ax.bin .geq t170 t171))).bind fun t172 =>
        (guarded [(0, t166)] (some (0, false)) (M.lift (Ax.pick t169 t172 (V.bool false)))).bind fun t173 =>
        (M.lift (Ax.pick t166 (V.bool true) t173)).bind fun t174 =>
        M.pure (.ret [t174]))))

theorem eq_palanquinlaw20_PickBest (G : Sem') (t0 t1 t2 t3 t4 : V) : execK G ir_palanquinlaw20_PickBest.rv ir_palanquinlaw20_PickBest.body [] [] (params 0 [t0, t1, t2, t3, t4]) = f_palanquinlaw20_PickBest G t0 t1 t2 t3 t4 := by kernel_rfl

theorem tb_palanquinlaw20_PickBest : T fn_palanquinlaw20_PickBest = some ir_palanquinlaw20_PickBest := by kernel_rfl

theorem ok_palanquinlaw20_PickBest {t0 t1 t2 t3 t4 : V} {H : Heap} {Q : V → Heap → Prop} (h : Ok (f_palanquinlaw20_PickBest (sem T) t0 t1 t2 t3 t4) H fun r H' => ∃ L, r = .ret L ∧ Q (tupled L) H') : Ok (sem T fn_palanquinlaw20_PickBest [t0, t1, t2, t3, t4]) H Q :=
  ok_sem tb_palanquinlaw20_PickBest (Nat.le_of_ble_eq_true rfl) (eq_palanquinlaw20_PickBest (sem T) t0 t1 t2 t3 t4) h

/-- palanquin/palanquinlaw20.PickSource. -/
def loop_palanquinlaw20_PickSource_0 : C :=
  .ops [⟨(some 27), none, .mv (.s 8)⟩,
    ⟨(some 28), none, .mv (.s 2)⟩,
    ⟨(some 29), none, .len (.s 28)⟩,
    ⟨(some 30), none, .bin .lss (.s 27) (.s 29)⟩]
  (.cond (.s 30)
  (.blk 1
   (.ops [⟨(some 33), none, .mv (.s 7)⟩,
      ⟨(some 34), none, .mv (.s 2)⟩,
      ⟨(some 35), none, .mv (.s 8)⟩,
      ⟨(some 36), none, .iaddr none 1 (.s 34) (.s 35)⟩,
      ⟨(some 37), none, .load none (.s 36)⟩,
      ⟨(some 38), none, .cint .i64 (.s 37)⟩,
      ⟨(some 39), none, .slit ty_int 1 [(V.int .i64 0)] [(0, 1, (.s 38))]⟩,
      ⟨(some 40), none, .append ty_int 1 8 (.s 33) (.s 39)⟩,
      ⟨(some 7), none, .mv (.s 40)⟩]
    (.done)) [7] [33, 34, 35, 36, 37, 38, 39, 40, 7]
   (.ops [⟨(some 31), none, .mv (.s 8)⟩,
     ⟨(some 32), none, .bin .add (.s 31) (.c (V.int .i64 1))⟩,
     ⟨(some 8), none, .mv (.s 32)⟩]
   (.done)))
  (.exit 0))

def loop_palanquinlaw20_PickSource_1 : C :=
  .ops [⟨(some 52), none, .mv (.s 11)⟩,
    ⟨(some 53), none, .mv (.s 7)⟩,
    ⟨(some 54), none, .len (.s 53)⟩,
    ⟨(some 55), none, .bin .lss (.s 52) (.s 54)⟩]
  (.cond (.s 55)
  (.blk 3
   (.ops [⟨(some 58), none, .mv (.s 7)⟩,
      ⟨(some 59), none, .mv (.s 11)⟩,
      ⟨(some 60), none, .iaddr none 1 (.s 58) (.s 59)⟩,
      ⟨(some 61), none, .load none (.s 60)⟩,
      ⟨(some 62), none, .cint .u64 (.s 61)⟩,
      ⟨(some 63), none, .bin .mul (.s 62) (.c (V.int .u64 10000))⟩,
      ⟨(some 64), none, .mv (.s 0)⟩,
      ⟨(some 65), none, .bin .leq (.s 63) (.s 64)⟩,
      ⟨(some 12), none, .mv (.s 65)⟩]
    (.ops [⟨(some 66), none, .mv (.s 10)⟩,
      ⟨(some 67), none, .mv (.s 66)⟩,
      ⟨(some 68), (some (67, false)), .mv (.s 12)⟩,
      ⟨(some 69), none, .pick (.s 67) (.c (V.bool true)) (.s 68)⟩,
      ⟨(some 10), none, .mv (.s 69)⟩]
    (.ops [⟨(some 70), none, .mv (.s 12)⟩,
      ⟨(some 71), none, .mv (.s 70)⟩,
      ⟨(some 72), (some (71, true)), .mv (.s 11)⟩,
      ⟨(some 73), (some (71, true)), .mv (.s 9)⟩,
      ⟨(some 74), (some (71, true)), .bin .gtr (.s 72) (.s 73)⟩,
      ⟨(some 75), none, .pick (.s 71) (.s 74) (.c (V.bool false))⟩]
    (.cond (.s 75)
    (.ops [⟨(some 6), none, .mv (.c (V.bool false))⟩]
     (.ret))
    (.done))))) [10] [58, 59, 60, 61, 62, 63, 64, 65, 12, 66, 67, 68, 69, 10, 70, 71, 72, 73, 74, 75, 6]
   (.ops [⟨(some 56), none, .mv (.s 11)⟩,
     ⟨(some 57), none, .bin .add (.s 56) (.c (V.int .i64 1))⟩,
     ⟨(some 11), none, .mv (.s 57)⟩]
   (.done)))
  (.exit 2))

def ir_palanquinlaw20_PickSource : Fn' := ⟨102, [.tmp 6],
  .ops [⟨(some 6), none, .mv (.c (V.bool false))⟩]
  (.ops [⟨(some 14), none, .call fn_palanquinlaw20_awake []⟩,
    ⟨(some 15), none, .un .not (.s 14)⟩]
  (.cond (.s 15)
  (.ops [⟨(some 6), none, .mv (.c (V.bool false))⟩]
   (.ret))
  (.ops [⟨(some 16), none, .mv (.s 2)⟩,
     ⟨(some 17), none, .len (.s 16)⟩,
     ⟨(some 18), none, .bin .eql (.s 17) (.c (V.int .i64 0))⟩,
     ⟨(some 19), none, .mv (.s 18)⟩,
     ⟨(some 20), (some (19, false)), .mv (.s 2)⟩,
     ⟨(some 21), (some (19, false)), .len (.s 20)⟩,
     ⟨(some 22), (some (19, false)), .bin .gtr (.s 21) (.c (V.int .i64 50))⟩,
     ⟨(some 23), none, .pick (.s 19) (.c (V.bool true)) (.s 22)⟩]
   (.cond (.s 23)
   (.ops [⟨(some 24), none, .mv (.s 0)⟩,
      ⟨(some 25), none, .call fn_pick_Source [(.s 24), (.c V.nils)]⟩,
      ⟨(some 26), none, .bin .eql (.s 25) (.c (V.int .i64 0))⟩,
      ⟨(some 6), none, .mv (.s 26)⟩]
    (.ret))
   (.ops [⟨(some 7), none, .mv (.c V.nils)⟩]
    (.ops [⟨(some 8), none, .mv (.c (V.int .i64 0))⟩]
    (.blk 0
    (.loop loop_palanquinlaw20_PickSource_0 [7, 8] [27, 28, 29, 30, 33, 34, 35, 36, 37, 38, 39, 40, 7, 31, 32, 8]) [7] [27, 28, 29, 30, 33, 34, 35, 36, 37, 38, 39, 40, 7, 31, 32, 8]
    (.ops [⟨(some 41), none, .mv (.s 0)⟩,
      ⟨(some 42), none, .mv (.s 7)⟩,
      ⟨(some 43), none, .call fn_pick_Source [(.s 41), (.s 42)]⟩,
      ⟨(some 9), none, .mv (.s 43)⟩]
    (.ops [⟨(some 44), none, .mv (.s 9)⟩,
      ⟨(some 45), none, .bin .lss (.s 44) (.c (V.int .i64 0))⟩,
      ⟨(some 46), none, .mv (.s 45)⟩,
      ⟨(some 47), (some (46, false)), .mv (.s 9)⟩,
      ⟨(some 48), (some (46, false)), .mv (.s 7)⟩,
      ⟨(some 49), (some (46, false)), .len (.s 48)⟩,
      ⟨(some 50), (some (46, false)), .bin .geq (.s 47) (.s 49)⟩,
      ⟨(some 51), none, .pick (.s 46) (.c (V.bool true)) (.s 50)⟩]
    (.cond (.s 51)
    (.ops [⟨(some 6), none, .mv (.c (V.bool false))⟩]
     (.ret))
    (.ops [⟨(some 10), none, .mv (.c (V.bool false))⟩]
     (.ops [⟨(some 11), none, .mv (.c (V.int .i64 0))⟩]
     (.blk 2
     (.loop loop_palanquinlaw20_PickSource_1 [10, 11] [52, 53, 54, 55, 58, 59, 60, 61, 62, 63, 64, 65, 12, 66, 67, 68, 69, 10, 70, 71, 72, 73, 74, 75, 6, 56, 57, 11]) [10] [52, 53, 54, 55, 58, 59, 60, 61, 62, 63, 64, 65, 12, 66, 67, 68, 69, 10, 70, 71, 72, 73, 74, 75, 6, 56, 57, 11]
     (.ops [⟨(some 76), none, .mv (.s 7)⟩,
       ⟨(some 77), none, .mv (.s 9)⟩,
       ⟨(some 78), none, .iaddr none 1 (.s 76) (.s 77)⟩,
       ⟨(some 79), none, .load none (.s 78)⟩,
       ⟨(some 80), none, .cint .u64 (.s 79)⟩,
       ⟨(some 81), none, .bin .mul (.s 80) (.c (V.int .u64 10000))⟩,
       ⟨(some 82), none, .mv (.s 0)⟩,
       ⟨(some 83), none, .bin .leq (.s 81) (.s 82)⟩,
       ⟨(some 84), none, .mv (.s 10)⟩,
       ⟨(some 85), none, .eq .bool true (.s 83) (.s 84)⟩,
       ⟨(some 86), none, .mv (.s 85)⟩,
       ⟨(some 87), (some (86, false)), .mv (.s 10)⟩,
       ⟨(some 88), (some (86, false)), .un .not (.s 87)⟩,
       ⟨(some 89), (some (86, false)), .mv (.s 88)⟩,
       ⟨(some 90), (some (89, true)), .mv (.s 9)⟩,
       ⟨(some 91), (some (89, true)), .bin .neq (.s 90) (.c (V.int .i64 0))⟩,
       ⟨(some 92), (some (86, false)), .pick (.s 89) (.s 91) (.c (V.bool false))⟩,
       ⟨(some 93), none, .pick (.s 86) (.c (V.bool true)) (.s 92)⟩]
     (.cond (.s 93)
     (.ops [⟨(some 6), none, .mv (.c (V.bool false))⟩]
      (.ret))
     (.ops [⟨(some 94), none, .mv (.s 0)⟩,
        ⟨(some 95), none, .mv (.s 1)⟩,
        ⟨(some 96), none, .minmax true (.s 94) [(.s 95)]⟩,
        ⟨(some 97), none, .mv (.s 7)⟩,
        ⟨(some 98), none, .call fn_pick_Source [(.s 96), (.s 97)]⟩,
        ⟨(some 13), none, .mv (.s 98)⟩]
      (.ops [⟨(some 99), none, .mv (.s 13)⟩,
        ⟨(some 100), none, .mv (.s 9)⟩,
        ⟨(some 101), none, .bin .geq (.s 99) (.s 100)⟩,
        ⟨(some 6), none, .mv (.s 101)⟩]
      (.ret))))))))))))))))))⟩

noncomputable def f_palanquinlaw20_PickSource_0 (G : Sem') (t2 t6 : V) (L : List V) : M Res :=
  (M.lift (vlen t2)).bind fun t29 =>
  (M.lift (Ax.bin .lss (L.getD 1 .undef) t29)).bind fun t30 =>
  M.ite t30
    (M.blk 1 (
      (M.lift (Ax.iaddr none 1 t2 (L.getD 1 .undef))).bind fun t36 =>
      (mload none t36).bind fun t37 =>
      (M.lift (Ax.cint .i64 t37)).bind fun t38 =>
      (mslit ty_int 1 [(V.int .i64 0)] [(0, 1, t38)]).bind fun t39 =>
      (mappend ty_int 1 8 (L.getD 0 .undef) t39).bind fun t40 =>
      M.pure (.nrm [t40])) fun L0 =>
    (M.lift (Ax.bin .add (L.getD 1 .undef) (V.int .i64 1))).bind fun t32 =>
    M.pure (.nrm [(L0.getD 0 .undef), t32]))
    (M.pure (.ex 0 [(L.getD 0 .undef)]))

noncomputable def f_palanquinlaw20_PickSource_1 (G : Sem') (t7 t0 t9 : V) (L : List V) : M Res :=
  (M.lift (vlen t7)).bind fun t54 =>
  (M.lift (Ax.bin .lss (L.getD 1 .undef) t54)).bind fun t55 =>
  M.ite t55
    (M.blk 3 (
      (M.lift (Ax.iaddr none 1 t7 (L.getD 1 .undef))).bind fun t60 =>
      (mload none t60).bind fun t61 =>
      (M.lift (Ax.cint .u64 t61)).bind fun t62 =>
      (M.lift (Ax.bin .mul t62 (V.int .u64 10000))).bind fun t63 =>
      (M.lift (Ax.bin .leq t63 t0)).bind fun t65 =>
      (guarded [(0, (L.getD 0 .undef))] (some (0, false)) (M.pure t65)).bind fun t68 =>
      (M.lift (Ax.pick (L.getD 0 .undef) (V.bool true) t68)).bind fun t69 =>
      (guarded [(0, t65)] (some (0, true)) (M.pure (L.getD 1 .undef))).bind fun t72 =>
      (guarded [(0, t65)] (some (0, true)) (M.pure t9)).bind fun t73 =>
      (guarded [(0, t65)] (some (0, true)) (M.lift (Ax.bin .gtr t72 t73))).bind fun t74 =>
      (M.lift (Ax.pick t65 t74 (V.bool false))).bind fun t75 =>
      M.ite t75
        (M.pure (.ret [(V.bool false)]))
        (M.pure (.nrm [t69]))) fun L2 =>
    (M.lift (Ax.bin .add (L.getD 1 .undef) (V.int .i64 1))).bind fun t57 =>
    M.pure (.nrm [(L2.getD 0 .undef), t57]))
    (M.pure (.ex 2 [(L.getD 0 .undef)]))

noncomputable def f_palanquinlaw20_PickSource (G : Sem') (t0 t1 t2 : V) : M Res :=
  (G fn_palanquinlaw20_awake []).bind fun t14 =>
  (M.lift (Ax.un .not t14)).bind fun t15 =>
  M.ite t15
    (M.pure (.ret [(V.bool false)]))
    ((M.lift (vlen t2)).bind fun t17 =>
    (M.lift (Ax.bin .eql t17 (V.int .i64 0))).bind fun t18 =>
    (guarded [(0, t18)] (some (0, false)) (M.pure t2)).bind fun t20 =>
    (guarded [(0, t18)] (some (0, false)) (M.lift (vlen t20))).bind fun t21 =>
    (guarded [(0, t18)] (some (0, false)) (M.lift (Ax.bin .gtr t21 (V.int .i64 50)))).bind fun t22 =>
    (M.lift (Ax.pick t18 (V.bool true) t22)).bind fun t23 =>
    M.ite t23
      ((G fn_pick_Source [t0, V.nils]).bind fun t25 =>
      (M.lift (Ax.bin .eql t25 (V.int .i64 0))).bind fun t26 =>
      M.pure (.ret [t26]))
      (M.blk 0 (
        M.iter (f_palanquinlaw20_PickSource_0 G t2 (V.bool false)) [V.nils, (V.int .i64 0)]) fun L1 =>
      (G fn_pick_Source [t0, (L1.getD 0 .undef)]).bind fun t43 =>
      (M.lift (Ax.bin .lss t43 (V.int .i64 0))).bind fun t45 =>
      (guarded [(0, t45)] (some (0, false)) (M.pure t43)).bind fun t47 =>
      (guarded [(0, t45)] (some (0, false)) (M.pure (L1.getD 0 .undef))).bind fun t48 =>
      (guarded [(0, t45)] (some (0, false)) (M.lift (vlen t48))).bind fun t49 =>
      (guarded [(0, t45)] (some (0, false)) (M.lift (Ax.bin .geq t47 t49))).bind fun t50 =>
      (M.lift (Ax.pick t45 (V.bool true) t50)).bind fun t51 =>
      M.ite t51
        (M.pure (.ret [(V.bool false)]))
        (M.blk 2 (
          M.iter (f_palanquinlaw20_PickSource_1 G (L1.getD 0 .undef) t0 t43) [(V.bool false), (V.int .i64 0)]) fun L3 =>
        (M.lift (Ax.iaddr none 1 (L1.getD 0 .undef) t43)).bind fun t78 =>
        (mload none t78).bind fun t79 =>
        (M.lift (Ax.cint .u64 t79)).bind fun t80 =>
        (M.lift (Ax.bin .mul t80 (V.int .u64 10000))).bind fun t81 =>
        (M.lift (Ax.bin .leq t81 t0)).bind fun t83 =>
        (M.lift (eqr .bool true t83 (L3.getD 0 .undef))).bind fun t85 =>
        (guarded [(0, t85)] (some (0, false)) (M.pure (L3.getD 0 .undef))).bind fun t87 =>
        (guarded [(0, t85)] (some (0, false)) (M.lift (Ax.un .not t87))).bind fun t88 =>
        (guarded [(0, t85)] (some (0, false)) (M.pure t88)).bind fun t89 =>
        (guarded [(0, t89)] (some (0, true)) (M.pure t43)).bind fun t90 =>
        (guarded [(0, t89)] (some (0, true)) (M.lift (Ax.bin .neq t90 (V.int .i64 0)))).bind fun t91 =>
        (guarded [(0, t85)] (some (0, false)) (M.lift (Ax.pick t89 t91 (V.bool false)))).bind fun t92 =>
        (M.lift (Ax.pick t85 (V.bool true) t92)).bind fun t93 =>
        M.ite t93
          (M.pure (.ret [(V.bool false)]))
          ((M.lift (Ax.minmax true t0 [t1])).bind fun t96 =>
          (G fn_pick_Source [t96, (L1.getD 0 .undef)]).bind fun t98 =>
          (M.lift (Ax.bin .geq t98 t43)).bind fun t101 =>
          M.pure (.ret [t101])))))

theorem eq_palanquinlaw20_PickSource (G : Sem') (t0 t1 t2 : V) : execK G ir_palanquinlaw20_PickSource.rv ir_palanquinlaw20_PickSource.body [] [] (params 0 [t0, t1, t2]) = f_palanquinlaw20_PickSource G t0 t1 t2 := by kernel_rfl

theorem tb_palanquinlaw20_PickSource : T fn_palanquinlaw20_PickSource = some ir_palanquinlaw20_PickSource := by kernel_rfl

theorem ok_palanquinlaw20_PickSource {t0 t1 t2 : V} {H : Heap} {Q : V → Heap → Prop} (h : Ok (f_palanquinlaw20_PickSource (sem T) t0 t1 t2) H fun r H' => ∃ L, r = .ret L ∧ Q (tupled L) H') : Ok (sem T fn_palanquinlaw20_PickSource [t0, t1, t2]) H Q :=
  ok_sem tb_palanquinlaw20_PickSource (Nat.le_of_ble_eq_true rfl) (eq_palanquinlaw20_PickSource (sem T) t0 t1 t2) h

end Go.Ax
