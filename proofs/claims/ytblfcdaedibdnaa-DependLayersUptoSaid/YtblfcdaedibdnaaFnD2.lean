/-
  The functions of this seat as plain texts: printed by program (wip/gen/Emit.lean): part 2.
-/
import Derived.Test.YtblfcdaedibdnaaFnD0
set_option maxRecDepth 100000
set_option linter.unusedVariables false
namespace Go.Ax
open Go.Proofs

/-- palanquin/palanquinref9.step. -/
def ir_palanquinref9_step : Fn' := ⟨44, [.tmp 4],
  .ops [⟨(some 2), none, .box ty_palanquinref9_Template (.s 0)⟩,
    ⟨(some 3), none, .box ty_palanquinref9_Template (.s 1)⟩,
    ⟨(some 4), none, .mv (.c (V.int .i64 0))⟩]
  (.blk 0
  (.ops [⟨(some 6), none, .faddr 0 (.s 2)⟩,
     ⟨(some 7), none, .load none (.s 6)⟩,
     ⟨(some 8), none, .faddr 0 (.s 3)⟩,
     ⟨(some 9), none, .load none (.s 8)⟩,
     ⟨(some 10), none, .bin .eql (.s 7) (.s 9)⟩,
     ⟨(some 11), none, .mv (.s 10)⟩,
     ⟨(some 12), (some (11, true)), .faddr 1 (.s 2)⟩,
     ⟨(some 13), (some (11, true)), .load none (.s 12)⟩,
     ⟨(some 14), (some (11, true)), .faddr 1 (.s 3)⟩,
     ⟨(some 15), (some (11, true)), .load none (.s 14)⟩,
     ⟨(some 16), (some (11, true)), .bin .eql (.s 13) (.s 15)⟩,
     ⟨(some 17), none, .pick (.s 11) (.s 16) (.c (V.bool false))⟩,
     ⟨(some 5), none, .mv (.s 17)⟩]
   (.cond (.s 5)
   (.ops [⟨(some 4), none, .mv (.c (V.int .i64 0))⟩]
    (.ret))
   (.ops [⟨(some 19), none, .faddr 0 (.s 2)⟩,
      ⟨(some 20), none, .load none (.s 19)⟩,
      ⟨(some 21), none, .faddr 0 (.s 3)⟩,
      ⟨(some 22), none, .load none (.s 21)⟩,
      ⟨(some 23), none, .bin .eql (.s 20) (.s 22)⟩,
      ⟨(some 24), none, .mv (.s 23)⟩,
      ⟨(some 25), (some (24, true)), .faddr 1 (.s 2)⟩,
      ⟨(some 26), (some (24, true)), .load none (.s 25)⟩,
      ⟨(some 27), (some (24, true)), .bin .add (.s 26) (.c (V.int .i64 1))⟩,
      ⟨(some 28), (some (24, true)), .faddr 1 (.s 3)⟩,
      ⟨(some 29), (some (24, true)), .load none (.s 28)⟩,
      ⟨(some 30), (some (24, true)), .bin .eql (.s 27) (.s 29)⟩,
      ⟨(some 31), none, .pick (.s 24) (.s 30) (.c (V.bool false))⟩,
      ⟨(some 18), none, .mv (.s 31)⟩]
    (.cond (.s 18)
    (.ops [⟨(some 4), none, .mv (.c (V.int .i64 1))⟩]
     (.ret))
    (.ops [⟨(some 33), none, .faddr 0 (.s 2)⟩,
       ⟨(some 34), none, .load none (.s 33)⟩,
       ⟨(some 35), none, .bin .add (.s 34) (.c (V.int .i64 1))⟩,
       ⟨(some 36), none, .faddr 0 (.s 3)⟩,
       ⟨(some 37), none, .load none (.s 36)⟩,
       ⟨(some 38), none, .bin .eql (.s 35) (.s 37)⟩,
       ⟨(some 39), none, .mv (.s 38)⟩,
       ⟨(some 40), (some (39, true)), .faddr 1 (.s 3)⟩,
       ⟨(some 41), (some (39, true)), .load none (.s 40)⟩,
       ⟨(some 42), (some (39, true)), .bin .eql (.s 41) (.c (V.int .i64 0))⟩,
       ⟨(some 43), none, .pick (.s 39) (.s 42) (.c (V.bool false))⟩,
       ⟨(some 32), none, .mv (.s 43)⟩]
     (.cond (.s 32)
     (.ops [⟨(some 4), none, .mv (.c (V.int .i64 2))⟩]
      (.ret))
     (.done))))))) [] [6, 7, 8, 9, 10, 11, 12, 13, 14, 15, 16, 17, 5, 4, 19, 20, 21, 22, 23, 24, 25, 26, 27, 28, 29, 30, 31, 18, 4, 33, 34, 35, 36, 37, 38, 39, 40, 41, 42, 43, 32, 4]
  (.ops [⟨(some 4), none, .mv (.c (V.int .i64 3))⟩]
  (.ret)))⟩

noncomputable def f_palanquinref9_step (G : Sem') (t0 t1 : V) : M Res :=
  (mbox ty_palanquinref9_Template t0).bind fun t2 =>
  (mbox ty_palanquinref9_Template t1).bind fun t3 =>
  M.blk 0 (
    (M.lift (Ax.faddr 0 t2)).bind fun t6 =>
    (mload none t6).bind fun t7 =>
    (M.lift (Ax.faddr 0 t3)).bind fun t8 =>
    (mload none t8).bind fun t9 =>
    (M.lift (Ax.bin .eql t7 t9)).bind fun t10 =>
    (guarded [(0, t10)] (some (0, true)) (M.lift (Ax.faddr 1 t2))).bind fun t12 =>
    (guarded [(0, t10)] (some (0, true)) (mload none t12)).bind fun t13 =>
    (guarded [(0, t10)] (some (0, true)) (M.lift (Ax.faddr 1 t3))).bind fun t14 =>
    (guarded [(0, t10)] (some (0, true)) (mload none t14)).bind fun t15 =>
    (guarded [(0, t10)] (some (0, true)) (M.lift (Ax.bin .eql t13 t15))).bind fun t16 =>
    (M.lift (Ax.pick t10 t16 (V.bool false))).bind fun t17 =>
    M.ite t17
      (M.pure (.ret [(V.int .i64 0)]))
      ((M.lift (Ax.faddr 0 t2)).bind fun t19 =>
      (mload none t19).bind fun t20 =>
      (M.lift (Ax.faddr 0 t3)).bind fun t21 =>
      (mload none t21).bind fun t22 =>
      (M.lift (Ax.bin .eql t20 t22)).bind fun t23 =>
      (guarded [(0, t23)] (some (0, true)) (M.lift (Ax.faddr 1 t2))).bind fun t25 =>
      (guarded [(0, t23)] (some (0, true)) (mload none t25)).bind fun t26 =>
      (guarded [(0, t23)] (some (0, true)) (M.lift (Ax.bin .add t26 (V.int .i64 1)))).bind fun t27 =>
      (guarded [(0, t23)] (some (0, true)) (M.lift (Ax.faddr 1 t3))).bind fun t28 =>
      (guarded [(0, t23)] (some (0, true)) (mload none t28)).bind fun t29 =>
      (guarded [(0, t23)] (some (0, true)) (M.lift (Ax.bin .eql t27 t29))).bind fun t30 =>
      (M.lift (Ax.pick t23 t30 (V.bool false))).bind fun t31 =>
      M.ite t31
        (M.pure (.ret [(V.int .i64 1)]))
        ((M.lift (Ax.faddr 0 t2)).bind fun t33 =>
        (mload none t33).bind fun t34 =>
        (M.lift (Ax.bin .add t34 (V.int .i64 1))).bind fun t35 =>
        (M.lift (Ax.faddr 0 t3)).bind fun t36 =>
        (mload none t36).bind fun t37 =>
        (M.lift (Ax.bin .eql t35 t37)).bind fun t38 =>
        (guarded [(0, t38)] (some (0, true)) (M.lift (Ax.faddr 1 t3))).bind fun t40 =>
        (guarded [(0, t38)] (some (0, true)) (mload none t40)).bind fun t41 =>
        (guarded [(0, t38)] (some (0, true)) (M.lift (Ax.bin .eql t41 (V.int .i64 0)))).bind fun t42 =>
        (M.lift (Ax.pick t38 t42 (V.bool false))).bind fun t43 =>
        M.ite t43
          (M.pure (.ret [(V.int .i64 2)]))
          (M.pure (.nrm []))))) fun _ =>
  M.pure (.ret [(V.int .i64 3)])

theorem eq_palanquinref9_step (G : Sem') (t0 t1 : V) : execK G ir_palanquinref9_step.rv ir_palanquinref9_step.body [] [] (params 0 [t0, t1]) = f_palanquinref9_step G t0 t1 := by kernel_rfl

theorem tb_palanquinref9_step : T fn_palanquinref9_step = some ir_palanquinref9_step := by kernel_rfl

theorem ok_palanquinref9_step {t0 t1 : V} {H : Heap} {Q : V → Heap → Prop} (h : Ok (f_palanquinref9_step (sem T) t0 t1) H fun r H' => ∃ L, r = .ret L ∧ Q (tupled L) H') : Ok (sem T fn_palanquinref9_step [t0, t1]) H Q :=
  ok_sem tb_palanquinref9_step (Nat.le_of_ble_eq_true rfl) (eq_palanquinref9_step (sem T) t0 t1) h

/-- palanquin/palanquinref9.within. -/
def loop_palanquinref9_within_0 : C :=
  .ops [⟨(some 18), none, .mv (.s 9)⟩,
    ⟨(some 19), none, .mv (.s 0)⟩,
    ⟨(some 20), none, .len (.s 19)⟩,
    ⟨(some 21), none, .bin .lss (.s 18) (.s 20)⟩]
  (.cond (.s 21)
  (.blk 1
   (.ops [⟨(some 24), none, .mv (.s 0)⟩,
      ⟨(some 25), none, .mv (.s 9)⟩,
      ⟨(some 26), none, .iaddr none 1 (.s 24) (.s 25)⟩,
      ⟨(some 27), none, .load none (.s 26)⟩,
      ⟨(some 28), none, .mv (.s 2)⟩,
      ⟨(some 29), none, .bin .lss (.s 27) (.s 28)⟩,
      ⟨(some 30), none, .mv (.s 29)⟩,
      ⟨(some 31), (some (30, false)), .mv (.s 0)⟩,
      ⟨(some 32), (some (30, false)), .mv (.s 9)⟩,
      ⟨(some 33), (some (30, false)), .iaddr none 1 (.s 31) (.s 32)⟩,
      ⟨(some 34), (some (30, false)), .load none (.s 33)⟩,
      ⟨(some 35), (some (30, false)), .mv (.s 3)⟩,
      ⟨(some 36), (some (30, false)), .bin .gtr (.s 34) (.s 35)⟩,
      ⟨(some 37), none, .pick (.s 30) (.c (V.bool true)) (.s 36)⟩]
    (.cond (.s 37)
    (.ops [⟨(some 8), none, .mv (.c (V.bool false))⟩]
     (.ret))
    (.done))) [] [24, 25, 26, 27, 28, 29, 30, 31, 32, 33, 34, 35, 36, 37, 8]
   (.ops [⟨(some 22), none, .mv (.s 9)⟩,
     ⟨(some 23), none, .bin .add (.s 22) (.c (V.int .i64 1))⟩,
     ⟨(some 9), none, .mv (.s 23)⟩]
   (.done)))
  (.exit 0))

def ir_palanquinref9_within : Fn' := ⟨38, [.tmp 8],
  .ops [⟨(some 8), none, .mv (.c (V.bool false))⟩]
  (.ops [⟨(some 10), none, .mv (.s 1)⟩,
    ⟨(some 11), none, .bin .geq (.s 10) (.c (V.int .i64 0))⟩,
    ⟨(some 12), none, .mv (.s 11)⟩,
    ⟨(some 13), (some (12, true)), .mv (.s 0)⟩,
    ⟨(some 14), (some (12, true)), .len (.s 13)⟩,
    ⟨(some 15), (some (12, true)), .mv (.s 1)⟩,
    ⟨(some 16), (some (12, true)), .bin .neq (.s 14) (.s 15)⟩,
    ⟨(some 17), none, .pick (.s 12) (.s 16) (.c (V.bool false))⟩]
  (.cond (.s 17)
  (.ops [⟨(some 8), none, .mv (.c (V.bool false))⟩]
   (.ret))
  (.ops [⟨(some 9), none, .mv (.c (V.int .i64 0))⟩]
   (.blk 0
   (.loop loop_palanquinref9_within_0 [9] [18, 19, 20, 21, 24, 25, 26, 27, 28, 29, 30, 31, 32, 33, 34, 35, 36, 37, 8, 22, 23, 9]) [] [18, 19, 20, 21, 24, 25, 26, 27, 28, 29, 30, 31, 32, 33, 34, 35, 36, 37, 8, 22, 23, 9]
   (.ops [⟨(some 8), none, .mv (.c (V.bool true))⟩]
   (.ret))))))⟩

noncomputable def f_palanquinref9_within_0 (G : Sem') (t2 t0 t3 : V) (L : List V) : M Res :=
  (M.lift (vlen t0)).bind fun t20 =>
  (M.lift (Ax.bin .lss (L.getD 0 .undef) t20)).bind fun t21 =>
  M.ite t21
    (M.blk 1 (
      (M.lift (Ax.iaddr none 1 t0 (L.getD 0 .undef))).bind fun t26 =>
      (mload none t26).bind fun t27 =>
      (M.lift (Ax.bin .lss t27 t2)).bind fun t29 =>
      (guarded [(0, t29)] (some (0, false)) (M.pure t0)).bind fun t31 =>
      (guarded [(0, t29)] (some (0, false)) (M.pure (L.getD 0 .undef))).bind fun t32 =>
      (guarded [(0, t29)] (some (0, false)) (M.lift (Ax.iaddr none 1 t31 t32))).bind fun t33 =>
      (guarded [(0, t29)] (some (0, false)) (mload none t33)).bind fun t34 =>
      (guarded [(0, t29)] (some (0, false)) (M.pure t3)).bind fun t35 =>
      (guarded [(0, t29)] (some (0, false)) (M.lift (Ax.bin .gtr t34 t35))).bind fun t36 =>
      (M.lift (Ax.pick t29 (V.bool true) t36)).bind fun t37 =>
      M.ite t37
        (M.pure (.ret [(V.bool false)]))
        (M.pure (.nrm []))) fun _ =>
    (M.lift (Ax.bin .add (L.getD 0 .undef) (V.int .i64 1))).bind fun t23 =>
    M.pure (.nrm [t23]))
    (M.pure (.ex 0 []))

noncomputable def f_palanquinref9_within (G : Sem') (t0 t1 t2 t3 : V) : M Res :=
  (M.lift (Ax.bin .geq t1 (V.int .i64 0))).bind fun t11 =>
  (guarded [(0, t11)] (some (0, true)) (M.pure t0)).bind fun t13 =>
  (guarded [(0, t11)] (some (0, true)) (M.lift (vlen t13))).bind fun t14 =>
  (guarded [(0, t11)] (some (0, true)) (M.pure t1)).bind fun t15 =>
  (guarded [(0, t11)] (some (0, true)) (M.lift (Ax.bin .neq t14 t15))).bind fun t16 =>
  (M.lift (Ax.pick t11 t16 (V.bool false))).bind fun t17 =>
  M.ite t17
    (M.pure (.ret [(V.bool false)]))
    (M.blk 0 (
      M.iter (f_palanquinref9_within_0 G t2 t0 t3) [(V.int .i64 0)]) fun _ =>
    M.pure (.ret [(V.bool true)]))

theorem eq_palanquinref9_within (G : Sem') (t0 t1 t2 t3 : V) : execK G ir_palanquinref9_within.rv ir_palanquinref9_within.body [] [] (params 0 [t0, t1, t2, t3]) = f_palanquinref9_within G t0 t1 t2 t3 := by kernel_rfl

theorem tb_palanquinref9_within : T fn_palanquinref9_within = some ir_palanquinref9_within := by kernel_rfl

theorem ok_palanquinref9_within {t0 t1 t2 t3 : V} {H : Heap} {Q : V → Heap → Prop} (h : Ok (f_palanquinref9_within (sem T) t0 t1 t2 t3) H fun r H' => ∃ L, r = .ret L ∧ Q (tupled L) H') : Ok (sem T fn_palanquinref9_within [t0, t1, t2, t3]) H Q :=
  ok_sem tb_palanquinref9_within (Nat.le_of_ble_eq_true rfl) (eq_palanquinref9_within (sem T) t0 t1 t2 t3) h

/-- palanquin/palanquinref9.top. -/
def loop_palanquinref9_top_0 : C :=
  .ops [⟨(some 5), none, .mv (.s 4)⟩,
    ⟨(some 6), none, .faddr 2 (.s 1)⟩,
    ⟨(some 7), none, .load none (.s 6)⟩,
    ⟨(some 8), none, .len (.s 7)⟩,
    ⟨(some 9), none, .bin .lss (.s 5) (.s 8)⟩]
  (.cond (.s 9)
  (.blk 1
   (.ops [⟨(some 12), none, .mv (.s 3)⟩,
      ⟨(some 13), none, .faddr 2 (.s 1)⟩,
      ⟨(some 14), none, .load none (.s 13)⟩,
      ⟨(some 15), none, .mv (.s 4)⟩,
      ⟨(some 16), none, .iaddr none 5 (.s 14) (.s 15)⟩,
      ⟨(some 17), none, .faddr 0 (.s 16)⟩,
      ⟨(some 18), none, .load none (.s 17)⟩,
      ⟨(some 19), none, .minmax true (.s 12) [(.s 18)]⟩,
      ⟨(some 3), none, .mv (.s 19)⟩]
    (.done)) [3] [12, 13, 14, 15, 16, 17, 18, 19, 3]
   (.ops [⟨(some 10), none, .mv (.s 4)⟩,
     ⟨(some 11), none, .bin .add (.s 10) (.c (V.int .i64 1))⟩,
     ⟨(some 4), none, .mv (.s 11)⟩]
   (.done)))
  (.exit 0))

def ir_palanquinref9_top : Fn' := ⟨21, [.tmp 2],
  .ops [⟨(some 1), none, .box ty_palanquinref9_Structure (.s 0)⟩,
    ⟨(some 2), none, .mv (.c (V.int .i64 0))⟩]
  (.ops [⟨(some 3), none, .mv (.c (V.int .i64 0))⟩]
  (.ops [⟨(some 4), none, .mv (.c (V.int .i64 0))⟩]
  (.blk 0
  (.loop loop_palanquinref9_top_0 [3, 4] [5, 6, 7, 8, 9, 12, 13, 14, 15, 16, 17, 18, 19, 3, 10, 11, 4]) [3] [5, 6, 7, 8, 9, 12, 13, 14, 15, 16, 17, 18, 19, 3, 10, 11, 4]
  (.ops [⟨(some 20), none, .mv (.s 3)⟩,
    ⟨(some 2), none, .mv (.s 20)⟩]
  (.ret)))))⟩

noncomputable def f_palanquinref9_top_0 (G : Sem') (t1 t2 : V) (L : List V) : M Res :=
  (M.lift (Ax.faddr 2 t1)).bind fun t6 =>
  (mload none t6).bind fun t7 =>
  (M.lift (vlen t7)).bind fun t8 =>
  (M.lift (Ax.bin .lss (L.getD 1 .undef) t8)).bind fun t9 =>
  M.ite t9
    (M.blk 1 (
      (M.lift (Ax.faddr 2 t1)).bind fun t13 =>
      (mload none t13).bind fun t14 =>
      (M.lift (Ax.iaddr none 5 t14 (L.getD 1 .undef))).bind fun t16 =>
      (M.lift (Ax.faddr 0 t16)).bind fun t17 =>
      (mload none t17).bind fun t18 =>
      (M.lift (Ax.minmax true (L.getD 0 .undef) [t18])).bind fun t19 =>
      M.pure (.nrm [t19])) fun L0 =>
    (M.lift (Ax.bin .add (L.getD 1 .undef) (V.int .i64 1))).bind fun t11 =>
    M.pure (.nrm [(L0.getD 0 .undef), t11]))
    (M.pure (.ex 0 [(L.getD 0 .undef)]))

noncomputable def f_palanquinref9_top (G : Sem') (t0 : V) : M Res :=
  (mbox ty_palanquinref9_Structure t0).bind fun t1 =>
  M.blk 0 (
    M.iter (f_palanquinref9_top_0 G t1 (V.int .i64 0)) [(V.int .i64 0), (V.int .i64 0)]) fun L1 =>
  M.pure (.ret [(L1.getD 0 .undef)])

theorem eq_palanquinref9_top (G : Sem') (t0 : V) : execK G ir_palanquinref9_top.rv ir_palanquinref9_top.body [] [] (params 0 [t0]) = f_palanquinref9_top G t0 := by kernel_rfl

theorem tb_palanquinref9_top : T fn_palanquinref9_top = some ir_palanquinref9_top := by kernel_rfl

theorem ok_palanquinref9_top {t0 : V} {H : Heap} {Q : V → Heap → Prop} (h : Ok (f_palanquinref9_top (sem T) t0) H fun r H' => ∃ L, r = .ret L ∧ Q (tupled L) H') : Ok (sem T fn_palanquinref9_top [t0]) H Q :=
  ok_sem tb_palanquinref9_top (Nat.le_of_ble_eq_true rfl) (eq_palanquinref9_top (sem T) t0) h

/-- palanquin/palanquinref20.In. -/
def ir_palanquinref20_In : Fn' := ⟨22, [.tmp 4],
  .ops [⟨(some 2), none, .box ty_palanquinref9_Frame (.s 0)⟩,
    ⟨(some 4), none, .mv (.c (V.bool false))⟩]
  (.ops [⟨(some 5), none, .mv (.s 1)⟩,
    ⟨(some 6), none, .bin .geq (.s 5) (.c (V.int .i64 0))⟩,
    ⟨(some 7), none, .mv (.s 6)⟩,
    ⟨(some 8), (some (7, true)), .mv (.s 1)⟩,
    ⟨(some 9), (some (7, true)), .faddr 16 (.s 2)⟩,
    ⟨(some 10), (some (7, true)), .load none (.s 9)⟩,
    ⟨(some 11), (some (7, true)), .len (.s 10)⟩,
    ⟨(some 12), (some (7, true)), .bin .lss (.s 8) (.s 11)⟩,
    ⟨(some 13), none, .pick (.s 7) (.s 12) (.c (V.bool false))⟩,
    ⟨(some 14), none, .mv (.s 13)⟩,
    ⟨(some 15), (some (14, true)), .faddr 16 (.s 2)⟩,
    ⟨(some 16), (some (14, true)), .load none (.s 15)⟩,
    ⟨(some 17), (some (14, true)), .mv (.s 1)⟩,
    ⟨(some 18), (some (14, true)), .iaddr none 1 (.s 16) (.s 17)⟩,
    ⟨(some 19), (some (14, true)), .load none (.s 18)⟩,
    ⟨(some 20), (some (14, true)), .bin .neq (.s 19) (.c (V.int .i64 0))⟩,
    ⟨(some 21), none, .pick (.s 14) (.s 20) (.c (V.bool false))⟩,
    ⟨(some 4), none, .mv (.s 21)⟩]
  (.ret))⟩

noncomputable def f_palanquinref20_In (G : Sem') (t0 t1 : V) : M Res :=
  (mbox ty_palanquinref9_Frame t0).bind fun t2 =>
  (M.lift (Ax.bin .geq t1 (V.int .i64 0))).bind fun t6 =>
  (guarded [(0, t6)] (some (0, true)) (M.pure t1)).bind fun t8 =>
  (guarded [(0, t6)] (some (0, true)) (M.lift (Ax.faddr 16 t2))).bind fun t9 =>
  (guarded [(0, t6)] (some (0, true)) (mload none t9)).bind fun t10 =>
  (guarded [(0, t6)] (some (0, true)) (M.lift (vlen t10))).bind fun t11 =>
  (guarded [(0, t6)] (some (0, true)) (M.lift (Ax.bin .lss t8 t11))).bind fun t12 =>
  (M.lift (Ax.pick t6 t12 (V.bool false))).bind fun t13 =>
  (guarded [(0, t13)] (some (0, true)) (M.lift (Ax.faddr 16 t2))).bind fun t15 =>
  (guarded [(0, t13)] (some (0, true)) (mload none t15)).bind fun t16 =>
  (guarded [(0, t13)] (some (0, true)) (M.pure t1)).bind fun t17 =>
  (guarded [(0, t13)] (some (0, true)) (M.lift (Ax.iaddr none 1 t16 t17))).bind fun t18 =>
  (guarded [(0, t13)] (some (0, true)) (mload none t18)).bind fun t19 =>
  (guarded [(0, t13)] (some (0, true)) (M.lift (Ax.bin .neq t19 (V.int .i64 0)))).bind fun t20 =>
  (M.lift (Ax.pick t13 t20 (V.bool false))).bind fun t21 =>
  M.pure (.ret [t21])

theorem eq_palanquinref20_In (G : Sem') (t0 t1 : V) : execK G ir_palanquinref20_In.rv ir_palanquinref20_In.body [] [] (params 0 [t0, t1]) = f_palanquinref20_In G t0 t1 := by kernel_rfl

theorem tb_palanquinref20_In : T fn_palanquinref20_In = some ir_palanquinref20_In := by kernel_rfl

theorem ok_palanquinref20_In {t0 t1 : V} {H : Heap} {Q : V → Heap → Prop} (h : Ok (f_palanquinref20_In (sem T) t0 t1) H fun r H' => ∃ L, r = .ret L ∧ Q (tupled L) H') : Ok (sem T fn_palanquinref20_In [t0, t1]) H Q :=
  ok_sem tb_palanquinref20_In (Nat.le_of_ble_eq_true rfl) (eq_palanquinref20_In (sem T) t0 t1) h

/-- palanquin/palanquinref20.Source. -/
def loop_palanquinref20_Source_0 : C :=
  .ops [⟨(some 8), none, .mv (.s 7)⟩,
    ⟨(some 9), none, .mv (.s 1)⟩,
    ⟨(some 10), none, .len (.s 9)⟩,
    ⟨(some 11), none, .bin .lss (.s 8) (.s 10)⟩]
  (.cond (.s 11)
  (.blk 1
   (.ops [⟨(some 14), none, .mv (.s 1)⟩,
      ⟨(some 15), none, .mv (.s 7)⟩,
      ⟨(some 16), none, .iaddr none 1 (.s 14) (.s 15)⟩,
      ⟨(some 17), none, .load none (.s 16)⟩,
      ⟨(some 18), none, .bin .lss (.s 17) (.c (V.int .i64 0))⟩]
    (.cond (.s 18)
    (.exit 1)
    (.ops [⟨(some 19), none, .mv (.s 6)⟩,
       ⟨(some 20), none, .bin .lss (.s 19) (.c (V.int .i64 0))⟩]
     (.condJ (.s 20)
     (.ops [⟨(some 21), none, .mv (.s 7)⟩,
        ⟨(some 6), none, .mv (.s 21)⟩]
      (.done))
     (.done) [6] [21, 6]
     (.ops [⟨(some 22), none, .mv (.s 1)⟩,
       ⟨(some 23), none, .mv (.s 7)⟩,
       ⟨(some 24), none, .iaddr none 1 (.s 22) (.s 23)⟩,
       ⟨(some 25), none, .load none (.s 24)⟩,
       ⟨(some 26), none, .cint .u64 (.s 25)⟩,
       ⟨(some 27), none, .mv (.s 0)⟩,
       ⟨(some 28), none, .bin .quo (.s 27) (.c (V.int .u64 10000))⟩,
       ⟨(some 29), none, .bin .leq (.s 26) (.s 28)⟩]
     (.condJ (.s 29)
     (.ops [⟨(some 30), none, .mv (.s 7)⟩,
        ⟨(some 5), none, .mv (.s 30)⟩]
      (.done))
     (.done) [5] [30, 5]
     (.done))))))) [5, 6] [14, 15, 16, 17, 18, 19, 20, 21, 6, 22, 23, 24, 25, 26, 27, 28, 29, 30, 5]
   (.ops [⟨(some 12), none, .mv (.s 7)⟩,
     ⟨(some 13), none, .bin .add (.s 12) (.c (V.int .i64 1))⟩,
     ⟨(some 7), none, .mv (.s 13)⟩]
   (.done)))
  (.exit 0))

def ir_palanquinref20_Source : Fn' := ⟨34, [.tmp 4],
  .ops [⟨(some 4), none, .mv (.c (V.int .i64 0))⟩]
  (.ops [⟨(some 5), none, .mv (.c (V.int .i64 (-1)))⟩,
    ⟨(some 6), none, .mv (.c (V.int .i64 (-1)))⟩]
  (.ops [⟨(some 7), none, .mv (.c (V.int .i64 0))⟩]
  (.blk 0
  (.loop loop_palanquinref20_Source_0 [5, 6, 7] [8, 9, 10, 11, 14, 15, 16, 17, 18, 19, 20, 21, 6, 22, 23, 24, 25, 26, 27, 28, 29, 30, 5, 12, 13, 7]) [5, 6] [8, 9, 10, 11, 14, 15, 16, 17, 18, 19, 20, 21, 6, 22, 23, 24, 25, 26, 27, 28, 29, 30, 5, 12, 13, 7]
  (.ops [⟨(some 31), none, .mv (.s 5)⟩,
    ⟨(some 32), none, .mv (.s 6)⟩,
    ⟨(some 33), none, .minmax true (.s 31) [(.s 32), (.c (V.int .i64 0))]⟩,
    ⟨(some 4), none, .mv (.s 33)⟩]
  (.ret)))))⟩

noncomputable def f_palanquinref20_Source_0 (G : Sem') (t1 t0 t4 : V) (L : List V) : M Res :=
  (M.lift (vlen t1)).bind fun t10 =>
  (M.lift (Ax.bin .lss (L.getD 2 .undef) t10)).bind fun t11 =>
  M.ite t11
    (M.blk 1 (
      (M.lift (Ax.iaddr none 1 t1 (L.getD 2 .undef))).bind fun t16 =>
      (mload none t16).bind fun t17 =>
      (M.lift (Ax.bin .lss t17 (V.int .i64 0))).bind fun t18 =>
      M.ite t18
        (M.pure (.ex 1 [(L.getD 0 .undef), (L.getD 1 .undef)]))
        ((M.lift (Ax.bin .lss (L.getD 1 .undef) (V.int .i64 0))).bind fun t20 =>
        M.join (M.ite t20
          (M.pure (.nrm [(L.getD 2 .undef)]))
          (M.pure (.nrm [(L.getD 1 .undef)]))) fun L0 =>
        (M.lift (Ax.iaddr none 1 t1 (L.getD 2 .undef))).bind fun t24 =>
        (mload none t24).bind fun t25 =>
        (M.lift (Ax.cint .u64 t25)).bind fun t26 =>
        (M.lift (Ax.bin .quo t0 (V.int .u64 10000))).bind fun t28 =>
        (M.lift (Ax.bin .leq t26 t28)).bind fun t29 =>
        M.join (M.ite t29
          (M.pure (.nrm [(L.getD 2 .undef)]))
          (M.pure (.nrm [(L.getD 0 .undef)]))) fun L1 =>
        M.pure (.nrm [(L1.getD 0 .undef), (L0.getD 0 .undef)]))) fun L2 =>
    (M.lift (Ax.bin .add (L.getD 2 .undef) (V.int .i64 1))).bind fun t13 =>
    M.pure (.nrm [(L2.getD 0 .undef), (L2.getD 1 .undef), t13]))
    (M.pure (.ex 0 [(L.getD 0 .undef), (L.getD 1 .undef)]))

noncomputable def f_palanquinref20_Source (G : Sem') (t0 t1 : V) : M Res :=
  M.blk 0 (
    M.iter (f_palanquinref20_Source_0 G t1 t0 (V.int .i64 0)) [(V.int .i64 (-1)), (V.int .i64 (-1)), (V.int .i64 0)]) fun L3 =>
  (M.lift (Ax.minmax true (L3.getD 0 .undef) [(L3.getD 1 .undef), (V.int .i64 0)])).bind fun t33 =>
  M.pure (.ret [t33])

theorem eq_palanquinref20_Source (G : Sem') (t0 t1 : V) : execK G ir_palanquinref20_Source.rv ir_palanquinref20_Source.body [] [] (params 0 [t0, t1]) = f_palanquinref20_Source G t0 t1 := by kernel_rfl

theorem tb_palanquinref20_Source : T fn_palanquinref20_Source = some ir_palanquinref20_Source := by kernel_rfl

theorem ok_palanquinref20_Source {t0 t1 : V} {H : Heap} {Q : V → Heap → Prop} (h : Ok (f_palanquinref20_Source (sem T) t0 t1) H fun r H' => ∃ L, r = .ret L ∧ Q (tupled L) H') : Ok (sem T fn_palanquinref20_Source [t0, t1]) H Q :=
  ok_sem tb_palanquinref20_Source (Nat.le_of_ble_eq_true rfl) (eq_palanquinref20_Source (sem T) t0 t1) h

/-- palanquin/palanquinlaw20.PickBest. -/
def loop_palanquinlaw20_PickBest_0 : C :=
  .ops [⟨(some 83), none, .mv (.s 18)⟩,
    ⟨(some 84), none, .bin .lss (.s 83) (.c (V.int .i64 32))⟩]
  (.cond (.s 84)
  (.blk 1
   (.ops [⟨(some 88), none, .load (some 6) (.s 5)⟩,
      ⟨(some 89), none, .mv (.s 18)⟩,
      ⟨(some 90), none, .call fn_depend_Layers [(.s 88), (.s 89)]⟩,
      ⟨(some 87), none, .mv (.s 90)⟩,
      ⟨(some 91), none, .ext 0 (.s 87)⟩,
      ⟨(some 92), none, .ext 1 (.s 87)⟩,
      ⟨(some 93), none, .ext 2 (.s 87)⟩,
      ⟨(some 19), none, .mv (.s 91)⟩,
      ⟨(some 20), none, .mv (.s 92)⟩,
      ⟨(some 21), none, .mv (.s 93)⟩]
    (.ops [⟨(some 94), none, .mv (.s 21)⟩,
      ⟨(some 95), none, .un .not (.s 94)⟩,
      ⟨(some 96), none, .mv (.s 95)⟩,
      ⟨(some 97), (some (96, false)), .mv (.s 1)⟩,
      ⟨(some 98), (some (96, false)), .mv (.s 18)⟩,
      ⟨(some 99), (some (96, false)), .cint .u64 (.s 98)⟩,
      ⟨(some 100), (some (96, false)), .bin .shr (.s 97) (.s 99)⟩,
      ⟨(some 101), (some (96, false)), .bin .and (.s 100) (.c (V.int .u32 1))⟩,
      ⟨(some 102), (some (96, false)), .bin .eql (.s 101) (.c (V.int .u32 0))⟩,
      ⟨(some 103), none, .pick (.s 96) (.c (V.bool true)) (.s 102)⟩,
      ⟨(some 104), none, .mv (.s 103)⟩,
      ⟨(some 105), (some (104, false)), .mv (.s 19)⟩,
      ⟨(some 106), (some (104, false)), .mv (.s 11)⟩,
      ⟨(some 107), (some (104, false)), .bin .gtr (.s 105) (.s 106)⟩,
      ⟨(some 108), none, .pick (.s 104) (.c (V.bool true)) (.s 107)⟩,
      ⟨(some 109), none, .mv (.s 108)⟩,
      ⟨(some 110), (some (109, false)), .mv (.s 20)⟩,
      ⟨(some 111), (some (109, false)), .mv (.s 12)⟩,
      ⟨(some 112), (some (109, false)), .bin .gtr (.s 110) (.s 111)⟩,
      ⟨(some 113), none, .pick (.s 109) (.c (V.bool true)) (.s 112)⟩]
    (.cond (.s 113)
    (.exit 1)
    (.ops [⟨(some 114), none, .mv (.s 14)⟩,
       ⟨(some 115), none, .un .not (.s 114)⟩,
       ⟨(some 116), none, .mv (.s 115)⟩,
       ⟨(some 117), (some (116, false)), .mv (.s 19)⟩,
       ⟨(some 118), (some (116, false)), .mv (.s 15)⟩,
       ⟨(some 119), (some (116, false)), .bin .gtr (.s 117) (.s 118)⟩,
       ⟨(some 120), none, .pick (.s 116) (.c (V.bool true)) (.s 119)⟩,
       ⟨(some 121), none, .mv (.s 120)⟩,
       ⟨(some 122), (some (121, false)), .mv (.s 19)⟩,
       ⟨(some 123), (some (121, false)), .mv (.s 15)⟩,
       ⟨(some 124), (some (121, false)), .bin .eql (.s 122) (.s 123)⟩,
       ⟨(some 125), (some (121, false)), .mv (.s 124)⟩,
       ⟨(some 126), (some (125, true)), .mv (.s 20)⟩,
       ⟨(some 127), (some (125, true)), .mv (.s 16)⟩,
       ⟨(some 128), (some (125, true)), .bin .gtr (.s 126) (.s 127)⟩,
       ⟨(some 129), (some (121, false)), .pick (.s 125) (.s 128) (.c (V.bool false))⟩,
       ⟨(some 130), none, .pick (.s 121) (.c (V.bool true)) (.s 129)⟩,
       ⟨(some 131), none, .mv (.s 130)⟩,
       ⟨(some 132), (some (131, false)), .mv (.s 19)⟩,
       ⟨(some 133), (some (131, false)), .mv (.s 15)⟩,
       ⟨(some 134), (some (131, false)), .bin .eql (.s 132) (.s 133)⟩,
       ⟨(some 135), (some (131, false)), .mv (.s 134)⟩,
       ⟨(some 136), (some (135, true)), .mv (.s 20)⟩,
       ⟨(some 137), (some (135, true)), .mv (.s 16)⟩,
       ⟨(some 138), (some (135, true)), .bin .eql (.s 136) (.s 137)⟩,
       ⟨(some 139), (some (131, false)), .pick (.s 135) (.s 138) (.c (V.bool false))⟩,
       ⟨(some 140), (some (131, false)), .mv (.s 139)⟩,
       ⟨(some 141), (some (140, true)), .mv (.s 18)⟩,
       ⟨(some 142), (some (140, true)), .mv (.s 13)⟩,
       ⟨(some 143), (some (140, true)), .bin .lss (.s 141) (.s 142)⟩,
       ⟨(some 144), (some (131, false)), .pick (.s 140) (.s 143) (.c (V.bool false))⟩,
       ⟨(some 145), none, .pick (.s 131) (.c (V.bool true)) (.s 144)⟩]
     (.cond (.s 145)
     (.ops [⟨(some 10), none, .mv (.c (V.bool false))⟩]
      (.ret))
     (.done)))))) [] [88, 89, 90, 87, 91, 92, 93, 19, 20, 21, 94, 95, 96, 97, 98, 99, 100, 101, 102, 103, 104, 105, 106, 107, 108, 109, 110, 111, 112, 113, 114, 115, 116, 117, 118, 119, 120, 121, 122, 123, 124, 125, 126, 127, 128, 129, 130, 131, 132, 133, 134, 135, 136, 137, 138, 139, 140, 141, 142, 143, 144, 145, 10]
   (.ops [⟨(some 85), none, .mv (.s 18)⟩,
     ⟨(some 86), none, .bin .add (.s 85) (.c (V.int .i64 1))⟩,
     ⟨(some 18), none, .mv (.s 86)⟩]
   (.done)))
  (.exit 0))

def ir_palanquinlaw20_PickBest : Fn' := ⟨175, [.tmp 10],
  .ops [⟨(some 5), none, .box ty_depend_Structure (.s 0)⟩,
    ⟨(some 10), none, .mv (.c (V.bool false))⟩]
  (.ops [⟨(some 27), none, .call fn_palanquinlaw20_awake []⟩,
    ⟨(some 28), none, .un .not (.s 27)⟩]
  (.cond (.s 28)
  (.ops [⟨(some 10), none, .mv (.c (V.bool false))⟩]
   (.ret))
  (.ops [⟨(some 29), none, .load (some 6) (.s 5)⟩,
     ⟨(some 30), none, .call fn_palanquinlaw20_heavy [(.s 29)]⟩]
   (.cond (.s 30)
   (.ops [⟨(some 10), none, .mv (.c (V.bool true))⟩]
    (.ret))
   (.ops [⟨(some 31), none, .mv (.s 2)⟩,
      ⟨(some 32), none, .bin .rem (.s 31) (.c (V.int .u8 4))⟩,
      ⟨(some 33), none, .cint .i64 (.s 32)⟩,
      ⟨(some 34), none, .mv (.s 3)⟩,
      ⟨(some 35), none, .bin .rem (.s 34) (.c (V.int .u8 8))⟩,
      ⟨(some 36), none, .cint .i64 (.s 35)⟩,
      ⟨(some 11), none, .mv (.s 33)⟩,
      ⟨(some 12), none, .mv (.s 36)⟩]
    (.ops [⟨(some 38), none, .load (some 6) (.s 5)⟩,
      ⟨(some 39), none, .mv (.s 1)⟩,
      ⟨(some 40), none, .mv (.s 11)⟩,
      ⟨(some 41), none, .mv (.s 12)⟩,
      ⟨(some 42), none, .call fn_pick_Fits [(.s 38), (.s 39), (.s 40), (.s 41)]⟩,
      ⟨(some 37), none, .mv (.s 42)⟩,
      ⟨(some 43), none, .ext 0 (.s 37)⟩,
      ⟨(some 44), none, .ext 1 (.s 37)⟩,
      ⟨(some 13), none, .mv (.s 43)⟩,
      ⟨(some 14), none, .mv (.s 44)⟩]
    (.ops [⟨(some 46), none, .load (some 6) (.s 5)⟩,
      ⟨(some 47), none, .mv (.s 13)⟩,
      ⟨(some 48), none, .call fn_depend_Layers [(.s 46), (.s 47)]⟩,
      ⟨(some 45), none, .mv (.s 48)⟩,
      ⟨(some 49), none, .ext 0 (.s 45)⟩,
      ⟨(some 50), none, .ext 1 (.s 45)⟩,
      ⟨(some 51), none, .ext 2 (.s 45)⟩,
      ⟨(some 15), none, .mv (.s 49)⟩,
      ⟨(some 16), none, .mv (.s 50)⟩,
      ⟨(some 17), none, .mv (.s 51)⟩]
    (.ops [⟨(some 52), none, .mv (.s 14)⟩,
      ⟨(some 53), none, .mv (.s 52)⟩,
      ⟨(some 54), (some (53, true)), .mv (.s 17)⟩,
      ⟨(some 55), (some (53, true)), .un .not (.s 54)⟩,
      ⟨(some 56), (some (53, true)), .mv (.s 55)⟩,
      ⟨(some 57), (some (56, false)), .mv (.s 1)⟩,
      ⟨(some 58), (some (56, false)), .mv (.s 13)⟩,
      ⟨(some 59), (some (56, false)), .cint .u64 (.s 58)⟩,
      ⟨(some 60), (some (56, false)), .bin .shr (.s 57) (.s 59)⟩,
      ⟨(some 61), (some (56, false)), .bin .and (.s 60) (.c (V.int .u32 1))⟩,
      ⟨(some 62), (some (56, false)), .bin .eql (.s 61) (.c (V.int .u32 0))⟩,
      ⟨(some 63), (some (53, true)), .pick (.s 56) (.c (V.bool true)) (.s 62)⟩,
      ⟨(some 64), (some (53, true)), .mv (.s 63)⟩,
      ⟨(some 65), (some (64, false)), .mv (.s 15)⟩,
      ⟨(some 66), (some (64, false)), .mv (.s 11)⟩,
      ⟨(some 67), (some (64, false)), .bin .gtr (.s 65) (.s 66)⟩,
      ⟨(some 68), (some (53, true)), .pick (.s 64) (.c (V.bool true)) (.s 67)⟩,
      ⟨(some 69), (some (53, true)), .mv (.s 68)⟩,
      ⟨(some 70), (some (69, false)), .mv (.s 16)⟩,
      ⟨(some 71), (some (69, false)), .mv (.s 12)⟩,
      ⟨(some 72), (some (69, false)), .bin .gtr (.s 70) (.s 71)⟩,
      ⟨(some 73), (some (53, true)), .pick (.s 69) (.c (V.bool true)) (.s 72)⟩,
      ⟨(some 74), none, .pick (.s 53) (.s 73) (.c (V.bool false))⟩,
      ⟨(some 75), none, .mv (.s 74)⟩,
      ⟨(some 76), (some (75, false)), .mv (.s 14)⟩,
      ⟨(some 77), (some (75, false)), .un .not (.s 76)⟩,
      ⟨(some 78), (some (75, false)), .mv (.s 77)⟩,
      ⟨(some 79), (some (78, true)), .mv (.s 13)⟩,
      ⟨(some 80), (some (78, true)), .bin .neq (.s 79) (.c (V.int .i64 0))⟩,
      ⟨(some 81), (some (75, false)), .pick (.s 78) (.s 80) (.c (V.bool false))⟩,
      ⟨(some 82), none, .pick (.s 75) (.c (V.bool true)) (.s 81)⟩]
    (.cond (.s 82)
    (.ops [⟨(some 10), none, .mv (.c (V.bool false))⟩]
     (.ret))
    (.ops [⟨(some 18), none, .mv (.c (V.int .i64 0))⟩]
     (.blk 0
     (.loop loop_palanquinlaw20_PickBest_0 [18] [83, 84, 88, 89, 90, 87, 91, 92, 93, 19, 20, 21, 94, 95, 96, 97, 98, 99, 100, 101, 102, 103, 104, 105, 106, 107, 108, 109, 110, 111, 112, 113, 114, 115, 116, 117, 118, 119, 120, 121, 122, 123, 124, 125, 126, 127, 128, 129, 130, 131, 132, 133, 134, 135, 136, 137, 138, 139, 140, 141, 142, 143, 144, 145, 10, 85, 86, 18]) [] [83, 84, 88, 89, 90, 87, 91, 92, 93, 19, 20, 21, 94, 95, 96, 97, 98, 99, 100, 101, 102, 103, 104, 105, 106, 107, 108, 109, 110, 111, 112, 113, 114, 115, 116, 117, 118, 119, 120, 121, 122, 123, 124, 125, 126, 127, 128, 129, 130, 131, 132, 133, 134, 135, 136, 137, 138, 139, 140, 141, 142, 143, 144, 145, 10, 85, 86, 18]
     (.ops [⟨(some 147), none, .load (some 6) (.s 5)⟩,
       ⟨(some 148), none, .mv (.s 1)⟩,
       ⟨(some 149), none, .mv (.s 11)⟩,
       ⟨(some 150), none, .mv (.s 4)⟩,
       ⟨(some 151), none, .bin .rem (.s 150) (.c (V.int .u8 4))⟩,
       ⟨(some 152), none, .cint .i64 (.s 151)⟩,
       ⟨(some 153), none, .bin .add (.s 149) (.s 152)⟩,
       ⟨(some 154), none, .mv (.s 12)⟩,
       ⟨(some 155), none, .call fn_pick_Fits [(.s 147), (.s 148), (.s 153), (.s 154)]⟩,
       ⟨(some 146), none, .mv (.s 155)⟩,
       ⟨(some 156), none, .ext 0 (.s 146)⟩,
       ⟨(some 157), none, .ext 1 (.s 146)⟩,
       ⟨(some 22), none, .mv (.s 156)⟩,
       ⟨(some 23), none, .mv (.s 157)⟩]
     (.ops [⟨(some 159), none, .load (some 6) (.s 5)⟩,
       ⟨(some 160), none, .mv (.s 22)⟩,
       ⟨(some 161), none, .call fn_depend_Layers [(.s 159), (.s 160)]⟩,
       ⟨(some 158), none, .mv (.s 161)⟩,
       ⟨(some 162), none, .ext 0 (.s 158)⟩,
       ⟨(some 163), none, .ext 1 (.s 158)⟩,
       ⟨(some 164), none, .ext 2 (.s 158)⟩,
       ⟨(some 24), none, .mv (.s 162)⟩,
       ⟨(some 25), none, .mv (.s 163)⟩,
       ⟨(some 26), none, .mv (.s 164)⟩]
     (.ops [⟨(some 165), none, .mv (.s 14)⟩,
       ⟨(some 166), none, .un .not (.s 165)⟩,
       ⟨(some 167), none, .mv (.s 166)⟩,
       ⟨(some 168), (some (167, false)), .mv (.s 23)⟩,
       ⟨(some 169), (some (167, false)), .mv (.s 168)⟩,
       ⟨(some 170), (some (169, true)), .mv (.s 24)⟩,
       ⟨(some 171), (some (169, true)), .mv (.s 15)⟩,
       ⟨(some 172), (some (169, true)), .bin .geq (.s 170) (.s 171)⟩,
       ⟨(some 173), (some (167, false)), .pick (.s 169) (.s 172) (.c (V.bool false))⟩,
       ⟨(some 174), none, .pick (.s 167) (.c (V.bool true)) (.s 173)⟩,
       ⟨(some 10), none, .mv (.s 174)⟩]
     (.ret)))))))))))))))⟩

noncomputable def f_palanquinlaw20_PickBest_0 (G : Sem') (t5 t1 t11 t12 t14 t15 t16 t13 : V) (L : List V) : M Res :=
  (M.lift (Ax.bin .lss (L.getD 0 .undef) (V.int .i64 32))).bind fun t84 =>
  M.ite t84
    (M.blk 1 (
      (mload (some 6) t5).bind fun t88 =>
      (G fn_depend_Layers [t88, (L.getD 0 .undef)]).bind fun t90 =>
      (M.lift (Ax.ext 0 t90)).bind fun t91 =>
      (M.lift (Ax.ext 1 t90)).bind fun t92 =>
      (M.lift (Ax.ext 2 t90)).bind fun t93 =>
      (M.lift (Ax.un .not t93)).bind fun t95 =>
      (guarded [(0, t95)] (some (0, false)) (M.pure t1)).bind fun t97 =>
      (guarded [(0, t95)] (some (0, false)) (M.pure (L.getD 0 .undef))).bind fun t98 =>
      (guarded [(0, t95)] (some (0, false)) (M.lift (Ax.cint .u64 t98))).bind fun t99 =>
      (guarded [(0, t95)] (some (0, false)) (M.lift (Ax.bin .shr t97 t99))).bind fun t100 =>
      (guarded [(0, t95)] (some (0, false)) (M.lift (Ax.bin .and t100 (V.int .u32 1)))).bind fun t101 =>
      (guarded [(0, t95)] (some (0, false)) (M.lift (Ax.bin .eql t101 (V.int .u32 0)))).bind fun t102 =>
      (M.lift (Ax.pick t95 (V.bool true) t102)).bind fun t103 =>
      (guarded [(0, t103)] (some (0, false)) (M.pure t91)).bind fun t105 =>
      (guarded [(0, t103)] (some (0, false)) (M.pure t11)).bind fun t106 =>
      (guarded [(0, t103)] (some (0, false)) (M.lift (Ax.bin .gtr t105 t106))).bind fun t107 =>
      (M.lift (Ax.pick t103 (V.bool true) t107)).bind fun t108 =>
      (guarded [(0, t108)] (some (0, false)) (M.pure t92)).bind fun t110 =>
      (guarded [(0, t108)] (some (0, false)) (M.pure t12)).bind fun t111 =>
      (guarded [(0, t108)] (some (0, false)) (M.lift (Ax.bin .gtr t110 t111))).bind fun t112 =>
      (M.lift (Ax.pick t108 (V.bool true) t112)).bind fun t113 =>
      M.ite t113
        (M.pure (.ex 1 []))
        ((M.lift (Ax.un .not t14)).bind fun t115 =>
        (guarded [(0, t115)] (some (0, false)) (M.pure t91)).bind fun t117 =>
        (guarded [(0, t115)] (some (0, false)) (M.pure t15)).bind fun t118 =>
        (guarded [(0, t115)] (some (0, false)) (M.lift (Ax.bin .gtr t117 t118))).bind fun t119 =>
        (M.lift (Ax.pick t115 (V.bool true) t119)).bind fun t120 =>
        (guarded [(0, t120)] (some (0, false)) (M.pure t91)).bind fun t122 =>
        (guarded [(0, t120)] (some (0, false)) (M.pure t15)).bind fun t123 =>
        (guarded [(0, t120)] (some (0, false)) (M.lift (Ax.bin .eql t122 t123))).bind fun t124 =>
        (guarded [(0, t120)] (some (0, false)) (M.pure t124)).bind fun t125 =>
        (guarded [(0, t125)] (some (0, true)) (M.pure t92)).bind fun t126 =>
        (guarded [(0, t125)] (some (0, true)) (M.pure t16)).bind fun t127 =>
        (guarded [(0, t125)] (some (0, true)) (M.lift (Ax.bin .gtr t126 t127))).bind fun t128 =>
        (guarded [(0, t120)] (some (0, false)) (M.lift (Ax.pick t125 t128 (V.bool false)))).bind fun t129 =>
        (M.lift (Ax.pick t120 (V.bool true) t129)).bind fun t130 =>
        (guarded [(0, t130)] (some (0, false)) (M.pure t91)).bind fun t132 =>
        (guarded [(0, t130)] (some (0, false)) (M.pure t15)).bind fun t133 =>
        (guarded [(0, t130)] (some (0, false)) (M.lift (Ax.bin .eql t132 t133))).bind fun t134 =>
        (guarded [(0, t130)] (some (0, false)) (M.pure t134)).bind fun t135 =>
        (guarded [(0, t135)] (some (0, true)) (M.pure t92)).bind fun t136 =>
        (guarded [(0, t135)] (some (0, true)) (M.pure t16)).bind fun t137 =>
        (guarded [(0, t135)] (some (0, true)) (M.lift (Ax.bin .eql t136 t137))).bind fun t138 =>
        (guarded [(0, t130)] (some (0, false)) (M.lift (Ax.pick t135 t138 (V.bool false)))).bind fun t139 =>
        (guarded [(0, t130)] (some (0, false)) (M.pure t139)).bind fun t140 =>
        (guarded [(0, t140)] (some (0, true)) (M.pure (L.getD 0 .undef))).bind fun t141 =>
        (guarded [(0, t140)] (some (0, true)) (M.pure t13)).bind fun t142 =>
        (guarded [(0, t140)] (some (0, true)) (M.lift (Ax.bin .lss t141 t142))).bind fun t143 =>
        (guarded [(0, t130)] (some (0, false)) (M.lift (Ax.pick t140 t143 (V.bool false)))).bind fun t144 =>
        (M.lift (Ax.pick t130 (V.bool true) t144)).bind fun t145 =>
        M.ite t145
          (M.pure (.ret [(V.bool false)]))
          (M.pure (.nrm [])))) fun _ =>
    (M.lift (Ax.bin .add (L.getD 0 .undef) (V.int .i64 1))).bind fun t86 =>
    M.pure (.nrm [t86]))
    (M.pure (.ex 0 []))

noncomputable def f_palanquinlaw20_PickBest (G : Sem') (t0 t1 t2 t3 t4 : V) : M Res :=
  (mbox ty_depend_Structure t0).bind fun t5 =>
  (G fn_palanquinlaw20_awake []).bind fun t27 =>
  (M.lift (Ax.un .not t27)).bind fun t28 =>
  M.ite t28
    (M.pure (.ret [(V.bool false)]))
    ((mload (some 6) t5).bind fun t29 =>
    (G fn_palanquinlaw20_heavy [t29]).bind fun t30 =>
    M.ite t30
      (M.pure (.ret [(V.bool true)]))
      ((M.lift (Ax.bin .rem t2 (V.int .u8 4))).bind fun t32 =>
      (M.lift (Ax.cint .i64 t32)).bind fun t33 =>
      (M.lift (Ax.bin .rem t3 (V.int .u8 8))).bind fun t35 =>
      (M.lift (Ax.cint .i64 t35)).bind fun t36 =>
      (mload (some 6) t5).bind fun t38 =>
      (G fn_pick_Fits [t38, t1, t33, t36]).bind fun t42 =>
      (M.lift (Ax.ext 0 t42)).bind fun t43 =>
      (M.lift (Ax.ext 1 t42)).bind fun t44 =>
      (mload (some 6) t5).bind fun t46 =>
      (G fn_depend_Layers [t46, t43]).bind fun t48 =>
      (M.lift (Ax.ext 0 t48)).bind fun t49 =>
      (M.lift (Ax.ext 1 t48)).bind fun t50 =>
      (M.lift (Ax.ext 2 t48)).bind fun t51 =>
      (guarded [(0, t44)] (some (0, true)) (M.pure t51)).bind fun t54 =>
      (guarded [(0, t44)] (some (0, true)) (M.lift (Ax.un .not t54))).bind fun t55 =>
      (guarded [(0, t44)] (some (0, true)) (M.pure t55)).bind fun t56 =>
      (guarded [(0, t56)] (some (0, false)) (M.pure t1)).bind fun t57 =>
      (guarded [(0, t56)] (some (0, false)) (M.pure t43)).bind fun t58 =>
      (guarded [(0, t56)] (some (0, false)) (M.lift (Ax.cint .u64 t58))).bind fun t59 =>
      (guarded [(0, t56)] (some (0, false)) (M.lift (Ax.bin .shr t57 t59))).bind fun t60 =>
      (guarded [(0, t56)] (some (0, false)) (M.lift (Ax.bin .and t60 (V.int .u32 1)))).bind fun t61 =>
      (guarded [(0, t56)] (some (0, false)) (M.lift (Ax.bin .eql t61 (V.int .u32 0)))).bind fun t62 =>
      (guarded [(0, t44)] (some (0, true)) (M.lift (Ax.pick t56 (V.bool true) t62))).bind fun t63 =>
      (guarded [(0, t44)] (some (0, true)) (M.pure t63)).bind fun t64 =>
      (guarded [(0, t64)] (some (0, false)) (M.pure t49)).bind fun t65 =>
      (guarded [(0, t64)] (some (0, false)) (M.pure t33)).bind fun t66 =>
      (guarded [(0, t64)] (some (0, false)) (M.lift (Ax.bin .gtr t65 t66))).bind fun t67 =>
      (guarded [(0, t44)] (some (0, true)) (M.lift (Ax.pick t64 (V.bool true) t67))).bind fun t68 =>
      (guarded [(0, t44)] (some (0, true)) (M.pure t68)).bind fun t69 =>
      (guarded [(0, t69)] (some (0, false)) (M.pure t50)).bind fun t70 =>
      (guarded [(0, t69)] (some (0, false)) (M.pure t36)).bind fun t71 =>
      (guarded [(0, t69)] (some (0, false)) (M.lift (Ax.bin .gtr t70 t71))).bind fun t72 =>
      (guarded [(0, t44)] (some (0, true)) (M.lift (Ax.pick t69 (V.bool true) t72))).bind fun t73 =>
      (M.lift (Ax.pick t44 t73 (V.bool false))).bind fun t74 =>
      (guarded [(0, t74)] (some (0, false)) (M.pure t44)).bind fun t76 =>
      (guarded [(0, t74)] (some (0, false)) (M.lift (Ax.un .not t76))).bind fun t77 =>
      (guarded [(0, t74)] (some (0, false)) (M.pure t77)).bind fun t78 =>
      (guarded [(0, t78)] (some (0, true)) (M.pure t43)).bind fun t79 =>
      (guarded [(0, t78)] (some (0, true)) (M.lift (Ax.bin .neq t79 (V.int .i64 0)))).bind fun t80 =>
      (guarded [(0, t74)] (some (0, false)) (M.lift (Ax.pick t78 t80 (V.bool false)))).bind fun t81 =>
      (M.lift (Ax.pick t74 (V.bool true) t81)).bind fun t82 =>
      M.ite t82
        (M.pure (.ret [(V.bool false)]))
        (M.blk 0 (
          M.iter (f_palanquinlaw20_PickBest_0 G t5 t1 t33 t36 t44 t49 t50 t43) [(V.int .i64 0)]) fun _ =>
        (mload (some 6) t5).bind fun t147 =>
        (M.lift (Ax.bin .rem t4 (V.int .u8 4))).bind fun t151 =>
        (M.lift (Ax.cint .i64 t151)).bind fun t152 =>
        (M.lift (Ax.bin .add t33 t152)).bind fun t153 =>
        (G fn_pick_Fits [t147, t1, t153, t36]).bind fun t155 =>
        (M.lift (Ax.ext 0 t155)).bind fun t156 =>
        (M.lift (Ax.ext 1 t155)).bind fun t157 =>
        (mload (some 6) t5).bind fun t159 =>
        (G fn_depend_Layers [t159, t156]).bind fun t161 =>
        (M.lift (Ax.ext 0 t161)).bind fun t162 =>
        (M.lift (Ax.ext 1 t161)).bind fun t163 =>
        (M.lift (Ax.ext 2 t161)).bind fun t164 =>
        (M.lift (Ax.un .not t44)).bind fun t166 =>
        (guarded [(0, t166)] (some (0, false)) (M.pure t157)).bind fun t168 =>
        (guarded [(0, t166)] (some (0, false)) (M.pure t168)).bind fun t169 =>
        (guarded [(0, t169)] (some (0, true)) (M.pure t162)).bind fun t170 =>
        (guarded [(0, t169)] (some (0, true)) (M.pure t49)).bind fun t171 =>
        (guarded [(0, t169)] (some (0, true)) (M.lift (Ax.bin .geq t170 t171))).bind fun t172 =>
        (guarded [(0, t166)] (some (0, false)) (M.lift (Ax.pick t169 t172 (V.bool false)))).bind fun t173 =>
        (M.lift (Ax.pick t166 (V.bool true) t173)).bind fun t174 =>
        M.pure (.ret [t174]))))

theorem eq_palanquinlaw20_PickBest (G : Sem') (t0 t1 t2 t3 t4 : V) : execK G ir_palanquinlaw20_PickBest.rv ir_palanquinlaw20_PickBest.body [] [] (params 0 [t0, t1, t2, t3, t4]) = f_palanquinlaw20_PickBest G t0 t1 t2 t3 t4 := by kernel_rfl

theorem tb_palanquinlaw20_PickBest : T fn_palanquinlaw20_PickBest = some ir_palanquinlaw20_PickBest := by kernel_rfl

theorem ok_palanquinlaw20_PickBest {t0 t1 t2 t3 t4 : V} {H : Heap} {Q : V → Heap → Prop} (h : Ok (f_palanquinlaw20_PickBest (sem T) t0 t1 t2 t3 t4) H fun r H' => ∃ L, r = .ret L ∧ Q (tupled L) H') : Ok (sem T fn_palanquinlaw20_PickBest [t0, t1, t2, t3, t4]) H Q :=
  ok_sem tb_palanquinlaw20_PickBest (Nat.le_of_ble_eq_true rfl) (eq_palanquinlaw20_PickBest (sem T) t0 t1 t2 t3 t4) h

/-- palanquin/palanquinlaw9.DependSays. -/
def ir_palanquinlaw9_DependSays : Fn' := ⟨124, [.tmp 4],
  .ops [⟨(some 2), none, .box ty_depend_Frame (.s 0)⟩,
    ⟨(some 3), none, .box ty_depend_Structure (.s 1)⟩,
    ⟨(some 4), none, .mv (.c (V.bool false))⟩]
  (.ops [⟨(some 15), none, .call fn_palanquinlaw9_awake []⟩,
    ⟨(some 16), none, .un .not (.s 15)⟩]
  (.cond (.s 16)
  (.ops [⟨(some 4), none, .mv (.c (V.bool false))⟩]
   (.ret))
  (.ops [⟨(some 17), none, .load (some 19) (.s 2)⟩,
     ⟨(some 18), none, .call fn_palanquinlaw9_long [(.s 17)]⟩,
     ⟨(some 19), none, .mv (.s 18)⟩,
     ⟨(some 20), (some (19, false)), .load (some 6) (.s 3)⟩,
     ⟨(some 21), (some (19, false)), .call fn_palanquinlaw9_heavy [(.s 20)]⟩,
     ⟨(some 22), none, .pick (.s 19) (.c (V.bool true)) (.s 21)⟩]
   (.cond (.s 22)
   (.ops [⟨(some 4), none, .mv (.c (V.bool true))⟩]
    (.ret))
   (.draw [⟨(some 23), none, .load (some 19) (.s 2)⟩,
      ⟨(some 25), none, .load (some 6) (.s 3)⟩,
      ⟨(some 24), none, .call fn_palanquinhelp_Frame [(.s 23)]⟩,
      ⟨(some 26), none, .call fn_palanquinhelp_Structure [(.s 25)]⟩,
      ⟨(some 5), none, .box ty_palanquinref9_Frame (.c (V.agg [(V.bool false), (V.bool false), (V.int .i64 0), (V.int .u16 0), (V.bool false), (V.int .i64 0), (V.int .i64 0), V.nils, (V.int .i64 0), V.nils, V.nils, (V.bool false), (V.int .u32 0), (V.bool false), (V.bool false), (V.bool false), V.nils, V.nils, V.nils]))⟩,
      ⟨(some 6), none, .box ty_palanquinref9_Structure (.c (V.agg [(V.int .i64 0), (V.int .i64 0), V.nils, (V.int .i64 0), V.nils, V.nils]))⟩,
      ⟨none, none, .store 19 (.s 5) (.s 24)⟩,
      ⟨none, none, .store 6 (.s 6) (.s 26)⟩] [(1, 2)]
    (.ops [⟨(some 28), none, .load (some 19) (.s 2)⟩,
      ⟨(some 29), none, .load (some 6) (.s 3)⟩,
      ⟨(some 30), none, .call fn_depend_Of [(.s 28), (.s 29)]⟩,
      ⟨(some 27), none, .mv (.s 30)⟩,
      ⟨(some 31), none, .ext 0 (.s 27)⟩,
      ⟨(some 32), none, .ext 1 (.s 27)⟩,
      ⟨(some 7), none, .box ty_depend_Template (.c (V.agg [(V.int .i64 0), (V.int .i64 0), V.nils, V.nils, V.nils]))⟩,
      ⟨none, none, .store 5 (.s 7) (.s 31)⟩,
      ⟨(some 8), none, .mv (.s 32)⟩]
    (.ops [⟨(some 34), none, .load (some 19) (.s 5)⟩,
      ⟨(some 35), none, .load (some 6) (.s 6)⟩,
      ⟨(some 36), none, .call fn_palanquinref9_Of [(.s 34), (.s 35)]⟩,
      ⟨(some 33), none, .mv (.s 36)⟩,
      ⟨(some 37), none, .ext 0 (.s 33)⟩,
      ⟨(some 38), none, .ext 1 (.s 33)⟩,
      ⟨(some 9), none, .box ty_palanquinref9_Template (.c (V.agg [(V.int .i64 0), (V.int .i64 0), V.nils, V.nils, V.nils]))⟩,
      ⟨none, none, .store 5 (.s 9) (.s 37)⟩,
      ⟨(some 10), none, .mv (.s 38)⟩]
    (.ops [⟨(some 40), none, .load (some 19) (.s 2)⟩,
      ⟨(some 41), none, .load (some 6) (.s 3)⟩,
      ⟨(some 42), none, .call fn_depend_Bytes [(.s 40), (.s 41)]⟩,
      ⟨(some 39), none, .mv (.s 42)⟩,
      ⟨(some 43), none, .ext 0 (.s 39)⟩,
      ⟨(some 44), none, .ext 1 (.s 39)⟩,
      ⟨(some 11), none, .mv (.s 43)⟩,
      ⟨(some 12), none, .mv (.s 44)⟩]
    (.ops [⟨(some 46), none, .load (some 19) (.s 5)⟩,
      ⟨(some 47), none, .load (some 6) (.s 6)⟩,
      ⟨(some 48), none, .call fn_palanquinref9_Bytes [(.s 46), (.s 47)]⟩,
      ⟨(some 45), none, .mv (.s 48)⟩,
      ⟨(some 49), none, .ext 0 (.s 45)⟩,
      ⟨(some 50), none, .ext 1 (.s 45)⟩,
      ⟨(some 13), none, .mv (.s 49)⟩,
      ⟨(some 14), none, .mv (.s 50)⟩]
    (.draw [⟨(some 51), none, .load (some 6) (.s 3)⟩,
      ⟨(some 53), none, .load (some 6) (.s 6)⟩,
      ⟨(some 52), none, .call fn_depend_Fine [(.s 51)]⟩,
      ⟨(some 54), none, .call fn_palanquinref9_Fine [(.s 53)]⟩,
      ⟨(some 55), none, .eq .bool false (.s 52) (.s 54)⟩,
      ⟨(some 56), none, .mv (.s 55)⟩,
      ⟨(some 57), (some (56, true)), .faddr 5 (.s 2)⟩,
      ⟨(some 58), (some (56, true)), .load (some 6) (.s 57)⟩,
      ⟨(some 59), (some (56, true)), .call fn_depend_Fine [(.s 58)]⟩,
      ⟨(some 60), (some (56, true)), .faddr 5 (.s 5)⟩,
      ⟨(some 61), (some (56, true)), .load (some 6) (.s 60)⟩,
      ⟨(some 62), (some (56, true)), .call fn_palanquinref9_Fine [(.s 61)]⟩,
      ⟨(some 63), (some (56, true)), .eq .bool false (.s 59) (.s 62)⟩,
      ⟨(some 64), none, .pick (.s 56) (.s 63) (.c (V.bool false))⟩,
      ⟨(some 65), none, .mv (.s 64)⟩,
      ⟨(some 66), (some (65, true)), .mv (.s 8)⟩,
      ⟨(some 67), (some (65, true)), .mv (.s 10)⟩,
      ⟨(some 68), (some (65, true)), .eq .bool false (.s 66) (.s 67)⟩,
      ⟨(some 69), none, .pick (.s 65) (.s 68) (.c (V.bool false))⟩,
      ⟨(some 70), none, .mv (.s 69)⟩,
      ⟨(some 71), (some (70, true)), .faddr 0 (.s 7)⟩,
      ⟨(some 72), (some (70, true)), .load none (.s 71)⟩,
      ⟨(some 73), (some (70, true)), .faddr 0 (.s 9)⟩,
      ⟨(some 74), (some (70, true)), .load none (.s 73)⟩,
      ⟨(some 75), (some (70, true)), .bin .eql (.s 72) (.s 74)⟩,
      ⟨(some 76), none, .pick (.s 70) (.s 75) (.c (V.bool false))⟩,
      ⟨(some 77), none, .mv (.s 76)⟩,
      ⟨(some 78), (some (77, true)), .faddr 1 (.s 7)⟩,
      ⟨(some 79), (some (77, true)), .load none (.s 78)⟩,
      ⟨(some 80), (some (77, true)), .faddr 1 (.s 9)⟩,
      ⟨(some 81), (some (77, true)), .load none (.s 80)⟩,
      ⟨(some 82), (some (77, true)), .bin .eql (.s 79) (.s 81)⟩,
      ⟨(some 83), none, .pick (.s 77) (.s 82) (.c (V.bool false))⟩,
      ⟨(some 84), none, .mv (.s 83)⟩,
      ⟨(some 85), (some (84, true)), .faddr 2 (.s 7)⟩,
      ⟨(some 86), (some (84, true)), .load none (.s 85)⟩,
      ⟨(some 87), (some (84, true)), .faddr 2 (.s 9)⟩,
      ⟨(some 88), (some (84, true)), .load none (.s 87)⟩,
      ⟨(some 89), (some (84, true)), .call fn_palanquinref9_SameInts [(.s 86), (.s 88)]⟩,
      ⟨(some 90), none, .pick (.s 84) (.s 89) (.c (V.bool false))⟩,
      ⟨(some 91), none, .mv (.s 90)⟩,
      ⟨(some 92), (some (91, true)), .faddr 3 (.s 7)⟩,
      ⟨(some 93), (some (91, true)), .load none (.s 92)⟩,
      ⟨(some 94), (some (91, true)), .faddr 3 (.s 9)⟩,
      ⟨(some 95), (some (91, true)), .load none (.s 94)⟩,
      ⟨(some 96), (some (91, true)), .call fn_palanquinref9_SameInts [(.s 93), (.s 95)]⟩,
      ⟨(some 97), none, .pick (.s 91) (.s 96) (.c (V.bool false))⟩,
      ⟨(some 98), none, .mv (.s 97)⟩,
      ⟨(some 99), (some (98, true)), .faddr 4 (.s 7)⟩,
      ⟨(some 100), (some (98, true)), .load none (.s 99)⟩,
      ⟨(some 101), (some (98, true)), .faddr 4 (.s 9)⟩,
      ⟨(some 102), (some (98, true)), .load none (.s 101)⟩,
      ⟨(some 103), (some (98, true)), .call fn_palanquinref9_SameInts [(.s 100), (.s 102)]⟩,
      ⟨(some 104), none, .pick (.s 98) (.s 103) (.c (V.bool false))⟩,
      ⟨(some 105), none, .mv (.s 104)⟩,
      ⟨(some 106), (some (105, true)), .load (some 19) (.s 2)⟩,
      ⟨(some 107), (some (105, true)), .load (some 6) (.s 3)⟩,
      ⟨(some 108), (some (105, true)), .call fn_depend_Good [(.s 106), (.s 107)]⟩,
      ⟨(some 109), (some (105, true)), .load (some 19) (.s 5)⟩,
      ⟨(some 110), (some (105, true)), .load (some 6) (.s 6)⟩,
      ⟨(some 111), (some (105, true)), .call fn_palanquinref9_Good [(.s 109), (.s 110)]⟩,
      ⟨(some 112), (some (105, true)), .eq .bool false (.s 108) (.s 111)⟩,
      ⟨(some 113), none, .pick (.s 105) (.s 112) (.c (V.bool false))⟩,
      ⟨(some 114), none, .mv (.s 113)⟩,
      ⟨(some 115), (some (114, true)), .mv (.s 12)⟩,
      ⟨(some 116), (some (114, true)), .mv (.s 14)⟩,
      ⟨(some 117), (some (114, true)), .bin .eql (.s 115) (.s 116)⟩,
      ⟨(some 118), none, .pick (.s 114) (.s 117) (.c (V.bool false))⟩,
      ⟨(some 119), none, .mv (.s 118)⟩,
      ⟨(some 120), (some (119, true)), .mv (.s 11)⟩,
      ⟨(some 121), (some (119, true)), .mv (.s 13)⟩,
      ⟨(some 122), (some (119, true)), .call fn_palanquinref1_Same [(.s 120), (.s 121)]⟩,
      ⟨(some 123), none, .pick (.s 119) (.s 122) (.c (V.bool false))⟩,
      ⟨(some 4), none, .mv (.s 123)⟩] [(1, 2), (10, 8), (58, 57), (59, 57)]
    (.ret)))))))))))⟩

noncomputable def f_palanquinlaw9_DependSays (G : Sem') (t0 t1 : V) : M Res :=
  (mbox ty_depend_Frame t0).bind fun t2 =>
  (mbox ty_depend_Structure t1).bind fun t3 =>
  (G fn_palanquinlaw9_awake []).bind fun t15 =>
  (M.lift (Ax.un .not t15)).bind fun t16 =>
  M.ite t16
    (M.pure (.ret [(V.bool false)]))
    ((mload (some 19) t2).bind fun t17 =>
    (G fn_palanquinlaw9_long [t17]).bind fun t18 =>
    (guarded [(0, t18)] (some (0, false)) (mload (some 6) t3)).bind fun t20 =>
    (guarded [(0, t18)] (some (0, false)) (G fn_palanquinlaw9_heavy [t20])).bind fun t21 =>
    (M.lift (Ax.pick t18 (V.bool true) t21)).bind fun t22 =>
    M.ite t22
      (M.pure (.ret [(V.bool true)]))
      ((mload (some 19) t2).bind fun t23 =>
      (mload (some 6) t3).bind fun t25 =>
      M.getH.bind fun h0 =>
      (G fn_palanquinhelp_Frame [t23]).bind fun t24 =>
      M.getH.bind fun h0' =>
      (M.unch t3 h0 h0').bind fun _ =>
      (G fn_palanquinhelp_Structure [t25]).bind fun t26 =>
      (mbox ty_palanquinref9_Frame (V.agg [(V.bool false), (V.bool false), (V.int .i64 0), (V.int .u16 0), (V.bool false), (V.int .i64 0), (V.int .i64 0), V.nils, (V.int .i64 0), V.nils, V.nils, (V.bool false), (V.int .u32 0), (V.bool false), (V.bool false), (V.bool false), V.nils, V.nils, V.nils])).bind fun t5 =>
      (mbox ty_palanquinref9_Structure (V.agg [(V.int .i64 0), (V.int .i64 0), V.nils, (V.int .i64 0), V.nils, V.nils])).bind fun t6 =>
      (mstore 19 t5 t24).bind fun _ =>
      (mstore 6 t6 t26).bind fun _ =>
      (mload (some 19) t2).bind fun t28 =>
      (mload (some 6) t3).bind fun t29 =>
      (G fn_depend_Of [t28, t29]).bind fun t30 =>
      (M.lift (Ax.ext 0 t30)).bind fun t31 =>
      (M.lift (Ax.ext 1 t30)).bind fun t32 =>
      (mbox ty_depend_Template (V.agg [(V.int .i64 0), (V.int .i64 0), V.nils, V.nils, V.nils])).bind fun t7 =>
      (mstore 5 t7 t31).bind fun _ =>
      (mload (some 19) t5).bind fun t34 =>
      (mload (some 6) t6).bind fun t35 =>
      (G fn_palanquinref9_Of [t34, t35]).bind fun t36 =>
      (M.lift (Ax.ext 0 t36)).bind fun t37 =>
      (M.lift (Ax.ext 1 t36)).bind fun t38 =>
      (mbox ty_palanquinref9_Template (V.agg [(V.int .i64 0), (V.int .i64 0), V.nils, V.nils, V.nils])).bind fun t9 =>
      (mstore 5 t9 t37).bind fun _ =>
      (mload (some 19) t2).bind fun t40 =>
      (mload (some 6) t3).bind fun t41 =>
      (G fn_depend_Bytes [t40, t41]).bind fun t42 =>
      (M.lift (Ax.ext 0 t42)).bind fun t43 =>
      (M.lift (Ax.ext 1 t42)).bind fun t44 =>
      (mload (some 19) t5).bind fun t46 =>
      (mload (some 6) t6).bind fun t47 =>
      (G fn_palanquinref9_Bytes [t46, t47]).bind fun t48 =>
      (M.lift (Ax.ext 0 t48)).bind fun t49 =>
      (M.lift (Ax.ext 1 t48)).bind fun t50 =>
      (mload (some 6) t3).bind fun t51 =>
      (mload (some 6) t6).bind fun t53 =>
      M.getH.bind fun h1 =>
      (G fn_depend_Fine [t51]).bind fun t52 =>
      M.getH.bind fun h1' =>
      (M.unch t6 h1 h1').bind fun _ =>
      (G fn_palanquinref9_Fine [t53]).bind fun t54 =>
      (M.lift (eqr .bool false t52 t54)).bind fun t55 =>
      (guarded [(0, t55)] (some (0, true)) (M.lift (Ax.faddr 5 t2))).bind fun t57 =>
      (guarded [(0, t55)] (some (0, true)) (mload (some 6) t57)).bind fun t58 =>
      M.getH.bind fun h2 =>
      (guarded [(0, t55)] (some (0, true)) (G fn_depend_Fine [t58])).bind fun t59 =>
      M.getH.bind fun h2' =>
      (guarded [(0, t55)] (some (0, true)) (M.lift (Ax.faddr 5 t5))).bind fun t60 =>
      (guarded [(0, t55)] (some (0, true)) (mload (some 6) t60)).bind fun t61 =>
      (M.unch t60 h2 h2').bind fun _ =>
      (guarded [(0, t55)] (some (0, true)) (G fn_palanquinref9_Fine [t61])).bind fun t62 =>
      (guarded [(0, t55)] (some (0, true)) (M.lift (eqr .bool false t59 t62))).bind fun t63 =>
      (M.lift (Ax.pick t55 t63 (V.bool false))).bind fun t64 =>
      (guarded [(0, t64)] (some (0, true)) (M.pure t32)).bind fun t66 =>
      (guarded [(0, t64)] (some (0, true)) (M.pure t38)).bind fun t67 =>
      (guarded [(0, t64)] (some (0, true)) (M.lift (eqr .bool false t66 t67))).bind fun t68 =>
      (M.lift (Ax.pick t64 t68 (V.bool false))).bind fun t69 =>
      (guarded [(0, t69)] (some (0, true)) (M.lift (Ax.faddr 0 t7))).bind fun t71 =>
      (guarded [(0, t69)] (some (0, true)) (mload none t71)).bind fun t72 =>
      (guarded [(0, t69)] (some (0, true)) (M.lift (Ax.faddr 0 t9))).bind fun t73 =>
      (guarded [(0, t69)] (some (0, true)) (mload none t73)).bind fun t74 =>
      (guarded [(0, t69)] (some (0, true)) (M.lift (Ax.bin .eql t72 t74))).bind fun t75 =>
      (M.lift (Ax.pick t69 t75 (V.bool false))).bind fun t76 =>
      (guarded [(0, t76)] (some (0, true)) (M.lift (Ax.faddr 1 t7))).bind fun t78 =>
      (guarded [(0, t76)] (some (0, true)) (mload none t78)).bind fun t79 =>
      (guarded [(0, t76)] (some (0, true)) (M.lift (Ax.faddr 1 t9))).bind fun t80 =>
      (guarded [(0, t76)] (some (0, true)) (mload none t80)).bind fun t81 =>
      (guarded [(0, t76)] (some (0, true)) (M.lift (Ax.bin .eql t79 t81))).bind fun t82 =>
      (M.lift (Ax.pick t76 t82 (V.bool false))).bind fun t83 =>
      (guarded [(0, t83)] (some (0, true)) (M.lift (Ax.faddr 2 t7))).bind fun t85 =>
      (guarded [(0, t83)] (some (0, true)) (mload none t85)).bind fun t86 =>
      (guarded [(0, t83)] (some (0, true)) (M.lift (Ax.faddr 2 t9))).bind fun t87 =>
      (guarded [(0, t83)] (some (0, true)) (mload none t87)).bind fun t88 =>
      (guarded [(0, t83)] (some (0, true)) (G fn_palanquinref9_SameInts [t86, t88])).bind fun t89 =>
      (M.lift (Ax.pick t83 t89 (V.bool false))).bind fun t90 =>
      (guarded [(0, t90)] (some (0, true)) (M.lift (Ax.faddr 3 t7))).bind fun t92 =>
      (guarded [(0, t90)] (some (0, true)) (mload none t92)).bind fun t93 =>
      (guarded [(0, t90)] (some (0, true)) (M.lift (Ax.faddr 3 t9))).bind fun t94 =>
      (guarded [(0, t90)] (some (0, true)) (mload none t94)).bind fun t95 =>
      (guarded [(0, t90)] (some (0, true)) (G fn_palanquinref9_SameInts [t93, t95])).bind fun t96 =>
      (M.lift (Ax.pick t90 t96 (V.bool false))).bind fun t97 =>
      (guarded [(0, t97)] (some (0, true)) (M.lift (Ax.faddr 4 t7))).bind fun t99 =>
      (guarded [(0, t97)] (some (0, true)) (mload none t99)).bind fun t100 =>
      (guarded [(0, t97)] (some (0, true)) (M.lift (Ax.faddr 4 t9))).bind fun t101 =>
      (guarded [(0, t97)] (some (0, true)) (mload none t101)).bind fun t102 =>
      (guarded [(0, t97)] (some (0, true)) (G fn_palanquinref9_SameInts [t100, t102])).bind fun t103 =>
      (M.lift (Ax.pick t97 t103 (V.bool false))).bind fun t104 =>
      (guarded [(0, t104)] (some (0, true)) (mload (some 19) t2)).bind fun t106 =>
      (guarded [(0, t104)] (some (0, true)) (mload (some 6) t3)).bind fun t107 =>
      M.getH.bind fun h3 =>
      (guarded [(0, t104)] (some (0, true)) (G fn_depend_Good [t106, t107])).bind fun t108 =>
      M.getH.bind fun h3' =>
      (guarded [(0, t104)] (some (0, true)) (mload (some 19) t5)).bind fun t109 =>
      (M.unch t5 h3 h3').bind fun _ =>
      (guarded [(0, t104)] (some (0, true)) (mload (some 6) t6)).bind fun t110 =>
      (M.unch t6 h3 h3').bind fun _ =>
      (guarded [(0, t104)] (some (0, true)) (G fn_palanquinref9_Good [t109, t110])).bind fun t111 =>
      (guarded [(0, t104)] (some (0, true)) (M.lift (eqr .bool false t108 t111))).bind fun t112 =>
      (M.lift (Ax.pick t104 t112 (V.bool false))).bind fun t113 =>
      (guarded [(0, t113)] (some (0, true)) (M.pure t44)).bind fun t115 =>
      (guarded [(0, t113)] (some (0, true)) (M.pure t50)).bind fun t116 =>
      (guarded [(0, t113)] (some (0, true)) (M.lift (Ax.bin .eql t115 t116))).bind fun t117 =>
      (M.lift (Ax.pick t113 t117 (V.bool false))).bind fun t118 =>
      (guarded [(0, t118)] (some (0, true)) (M.pure t43)).bind fun t120 =>
      (guarded [(0, t118)] (some (0, true)) (M.pure t49)).bind fun t121 =>
      (guarded [(0, t118)] (some (0, true)) (G fn_palanquinref1_Same [t120, t121])).bind fun t122 =>
      (M.lift (Ax.pick t118 t122 (V.bool false))).bind fun t123 =>
      M.pure (.ret [t123])))

theorem eq_palanquinlaw9_DependSays (G : Sem') (t0 t1 : V) : execK G ir_palanquinlaw9_DependSays.rv ir_palanquinlaw9_DependSays.body [] [] (params 0 [t0, t1]) = f_palanquinlaw9_DependSays G t0 t1 := by kernel_rfl

theorem tb_palanquinlaw9_DependSays : T fn_palanquinlaw9_DependSays = some ir_palanquinlaw9_DependSays := by kernel_rfl

theorem ok_palanquinlaw9_DependSays {t0 t1 : V} {H : Heap} {Q : V → Heap → Prop} (h : Ok (f_palanquinlaw9_DependSays (sem T) t0 t1) H fun r H' => ∃ L, r = .ret L ∧ Q (tupled L) H') : Ok (sem T fn_palanquinlaw9_DependSays [t0, t1]) H Q :=
  ok_sem tb_palanquinlaw9_DependSays (Nat.le_of_ble_eq_true rfl) (eq_palanquinlaw9_DependSays (sem T) t0 t1) h

/-- palanquin/palanquinlaw9.awake. -/
def ir_palanquinlaw9_awake : Fn' := ⟨39, [.tmp 0],
  .ops [⟨(some 0), none, .mv (.c (V.bool false))⟩]
  (.ops [⟨(some 4), none, .slit ty_int 1 [(V.int .i64 0)] [(0, 1, (.c (V.int .i64 2)))]⟩,
    ⟨(some 5), none, .build [(V.bool false), (V.bool false), (V.int .i64 0), (V.int .u16 0), (V.bool false), (V.int .i64 0), (V.int .i64 0), V.nils, (V.int .i64 0), V.nils, V.nils, (V.bool false), (V.int .u32 0), (V.bool false), (V.bool false), (V.bool false), V.nils, V.nils, V.nils] [(0, 1, (.c (V.bool true))), (3, 1, (.c (V.int .u16 5))), (16, 1, (.s 4))]⟩,
    ⟨(some 6), none, .call fn_palanquinlaw9_plain []⟩,
    ⟨(some 7), none, .call fn_depend_Bytes [(.s 5), (.s 6)]⟩,
    ⟨(some 3), none, .mv (.s 7)⟩,
    ⟨(some 8), none, .ext 0 (.s 3)⟩,
    ⟨(some 9), none, .ext 1 (.s 3)⟩,
    ⟨(some 1), none, .mv (.s 8)⟩,
    ⟨(some 2), none, .mv (.s 9)⟩]
  (.ops [⟨(some 10), none, .mv (.s 2)⟩,
    ⟨(some 11), none, .bin .eql (.s 10) (.c (V.int .i64 0))⟩,
    ⟨(some 12), none, .mv (.s 11)⟩,
    ⟨(some 13), (some (12, true)), .mv (.s 1)⟩,
    ⟨(some 14), (some (12, true)), .len (.s 13)⟩,
    ⟨(some 15), (some (12, true)), .bin .eql (.s 14) (.c (V.int .i64 3))⟩,
    ⟨(some 16), none, .pick (.s 12) (.s 15) (.c (V.bool false))⟩,
    ⟨(some 17), none, .mv (.s 16)⟩,
    ⟨(some 18), (some (17, true)), .mv (.s 1)⟩,
    ⟨(some 19), (some (17, true)), .iaddr none 1 (.s 18) (.c (V.int .i64 0))⟩,
    ⟨(some 20), (some (17, true)), .load none (.s 19)⟩,
    ⟨(some 21), (some (17, true)), .bin .eql (.s 20) (.c (V.int .u8 128))⟩,
    ⟨(some 22), none, .pick (.s 17) (.s 21) (.c (V.bool false))⟩,
    ⟨(some 23), none, .mv (.s 22)⟩,
    ⟨(some 24), (some (23, true)), .mv (.s 1)⟩,
    ⟨(some 25), (some (23, true)), .iaddr none 1 (.s 24) (.c (V.int .i64 1))⟩,
    ⟨(some 26), (some (23, true)), .load none (.s 25)⟩,
    ⟨(some 27), (some (23, true)), .bin .eql (.s 26) (.c (V.int .u8 0))⟩,
    ⟨(some 28), none, .pick (.s 23) (.s 27) (.c (V.bool false))⟩,
    ⟨(some 29), none, .mv (.s 28)⟩,
    ⟨(some 30), (some (29, true)), .mv (.s 1)⟩,
    ⟨(some 31), (some (29, true)), .iaddr none 1 (.s 30) (.c (V.int .i64 2))⟩,
    ⟨(some 32), (some (29, true)), .load none (.s 31)⟩,
    ⟨(some 33), (some (29, true)), .bin .eql (.s 32) (.c (V.int .u8 5))⟩,
    ⟨(some 34), none, .pick (.s 29) (.s 33) (.c (V.bool false))⟩,
    ⟨(some 35), none, .mv (.s 34)⟩,
    ⟨(some 36), (some (35, true)), .call fn_palanquinlaw9_plain []⟩,
    ⟨(some 37), (some (35, true)), .call fn_depend_Fine [(.s 36)]⟩,
    ⟨(some 38), none, .pick (.s 35) (.s 37) (.c (V.bool false))⟩,
    ⟨(some 0), none, .mv (.s 38)⟩]
  (.ret)))⟩

noncomputable def f_palanquinlaw9_awake (G : Sem') : M Res :=
  (mslit ty_int 1 [(V.int .i64 0)] [(0, 1, (V.int .i64 2))]).bind fun t4 =>
  (M.lift (Ax.build [(V.bool false), (V.bool false), (V.int .i64 0), (V.int .u16 0), (V.bool false), (V.int .i64 0), (V.int .i64 0), V.nils, (V.int .i64 0), V.nils, V.nils, (V.bool false), (V.int .u32 0), (V.bool false), (V.bool false), (V.bool false), V.nils, V.nils, V.nils] [(0, 1, (V.bool true)), (3, 1, (V.int .u16 5)), (16, 1, t4)])).bind fun t5 =>
  (G fn_palanquinlaw9_plain []).bind fun t6 =>
  (G fn_depend_Bytes [t5, t6]).bind fun t7 =>
  (M.lift (Ax.ext 0 t7)).bind fun t8 =>
  (M.lift (Ax.ext 1 t7)).bind fun t9 =>
  (M.lift (Ax.bin .eql t9 (V.int .i64 0))).bind fun t11 =>
  (guarded [(0, t11)] (some (0, true)) (M.pure t8)).bind fun t13 =>
  (guarded [(0, t11)] (some (0, true)) (M.lift (vlen t13))).bind fun t14 =>
  (guarded [(0, t11)] (some (0, true)) (M.lift (Ax.bin .eql t14 (V.int .i64 3)))).bind fun t15 =>
  (M.lift (Ax.pick t11 t15 (V.bool false))).bind fun t16 =>
  (guarded [(0, t16)] (some (0, true)) (M.pure t8)).bind fun t18 =>
  (guarded [(0, t16)] (some (0, true)) (M.lift (Ax.iaddr none 1 t18 (V.int .i64 0)))).bind fun t19 =>
  (guarded [(0, t16)] (some (0, true)) (mload none t19)).bind fun t20 =>
  (guarded [(0, t16)] (some (0, true)) (M.lift (Ax.bin .eql t20 (V.int .u8 128)))).bind fun t21 =>
  (M.lift (Ax.pick t16 t21 (V.bool false))).bind fun t22 =>
  (guarded [(0, t22)] (some (0, true)) (M.pure t8)).bind fun t24 =>
  (guarded [(0, t22)] (some (0, true)) (M.lift (Ax.iaddr none 1 t24 (V.int .i64 1)))).bind fun t25 =>
  (guarded [(0, t22)] (some (0, true)) (mload none t25)).bind fun t26 =>
  (guarded [(0, t22)] (some (0, true)) (M.lift (Ax.bin .eql t26 (V.int .u8 0)))).bind fun t27 =>
  (M.lift (Ax.pick t22 t27 (V.bool false))).bind fun t28 =>
  (guarded [(0, t28)] (some (0, true)) (M.pure t8)).bind fun t30 =>
  (guarded [(0, t28)] (some (0, true)) (M.lift (Ax.iaddr none 1 t30 (V.int .i64 2)))).bind fun t31 =>
  (guarded [(0, t28)] (some (0, true)) (mload none t31)).bind fun t32 =>
  (guarded [(0, t28)] (some (0, true)) (M.lift (Ax.bin .eql t32 (V.int .u8 5)))).bind fun t33 =>
  (M.lift (Ax.pick t28 t33 (V.bool false))).bind fun t34 =>
  (guarded [(0, t34)] (some (0, true)) (G fn_palanquinlaw9_plain [])).bind fun t36 =>
  (guarded [(0, t34)] (some (0, true)) (G fn_depend_Fine [t36])).bind fun t37 =>
  (M.lift (Ax.pick t34 t37 (V.bool false))).bind fun t38 =>
  M.pure (.ret [t38])

theorem eq_palanquinlaw9_awake (G : Sem') : execK G ir_palanquinlaw9_awake.rv ir_palanquinlaw9_awake.body [] [] (params 0 []) = f_palanquinlaw9_awake G := by kernel_rfl

theorem tb_palanquinlaw9_awake : T fn_palanquinlaw9_awake = some ir_palanquinlaw9_awake := by kernel_rfl

theorem ok_palanquinlaw9_awake {H : Heap} {Q : V → Heap → Prop} (h : Ok (f_palanquinlaw9_awake (sem T)) H fun r H' => ∃ L, r = .ret L ∧ Q (tupled L) H') : Ok (sem T fn_palanquinlaw9_awake []) H Q :=
  ok_sem tb_palanquinlaw9_awake (Nat.le_of_ble_eq_true rfl) (eq_palanquinlaw9_awake (sem T)) h

/-- palanquin/palanquinlaw9.plain. -/
def ir_palanquinlaw9_plain : Fn' := ⟨5, [.cell 0 (some 6)],
  .ops [⟨(some 0), none, .box ty_depend_Structure (.c (V.agg [(V.int .i64 0), (V.int .i64 0), V.nils, (V.int .i64 0), V.nils, V.nils]))⟩]
  (.ops [⟨(some 1), none, .slit ty_int 1 [(V.int .i64 0)] [(0, 1, (.c (V.int .i64 2)))]⟩,
    ⟨(some 2), none, .build [(V.int .i64 0), (V.int .i64 0), V.nils, V.nils, V.nils] [(2, 1, (.s 1))]⟩,
    ⟨(some 3), none, .slit ty_depend_Template 1 [(V.int .i64 0), (V.int .i64 0), V.nils, V.nils, V.nils] [(0, 5, (.s 2))]⟩,
    ⟨(some 4), none, .build [(V.int .i64 0), (V.int .i64 0), V.nils, (V.int .i64 0), V.nils, V.nils] [(1, 1, (.c (V.int .i64 1))), (2, 1, (.s 3))]⟩,
    ⟨none, none, .store 6 (.s 0) (.s 4)⟩]
  (.ret))⟩

noncomputable def f_palanquinlaw9_plain (G : Sem') : M Res :=
  (mbox ty_depend_Structure (V.agg [(V.int .i64 0), (V.int .i64 0), V.nils, (V.int .i64 0), V.nils, V.nils])).bind fun t0 =>
  (mslit ty_int 1 [(V.int .i64 0)] [(0, 1, (V.int .i64 2))]).bind fun t1 =>
  (M.lift (Ax.build [(V.int .i64 0), (V.int .i64 0), V.nils, V.nils, V.nils] [(2, 1, t1)])).bind fun t2 =>
  (mslit ty_depend_Template 1 [(V.int .i64 0), (V.int .i64 0), V.nils, V.nils, V.nils] [(0, 5, t2)]).bind fun t3 =>
  (M.lift (Ax.build [(V.int .i64 0), (V.int .i64 0), V.nils, (V.int .i64 0), V.nils, V.nils] [(1, 1, (V.int .i64 1)), (2, 1, t3)])).bind fun t4 =>
  (mstore 6 t0 t4).bind fun _ =>
  (mload (some 6) t0).bind fun r0 =>
  M.pure (.ret [r0])

theorem eq_palanquinlaw9_plain (G : Sem') : execK G ir_palanquinlaw9_plain.rv ir_palanquinlaw9_plain.body [] [] (params 0 []) = f_palanquinlaw9_plain G := by kernel_rfl

theorem tb_palanquinlaw9_plain : T fn_palanquinlaw9_plain = some ir_palanquinlaw9_plain := by kernel_rfl

theorem ok_palanquinlaw9_plain {H : Heap} {Q : V → Heap → Prop} (h : Ok (f_palanquinlaw9_plain (sem T)) H fun r H' => ∃ L, r = .ret L ∧ Q (tupled L) H') : Ok (sem T fn_palanquinlaw9_plain []) H Q :=
  ok_sem tb_palanquinlaw9_plain (Nat.le_of_ble_eq_true rfl) (eq_palanquinlaw9_plain (sem T)) h

/-- palanquin/depend.Bytes. -/
def loop_depend_Bytes_0 : C :=
  .ops [⟨(some 71), none, .bin .lss (.s 70) (.s 69)⟩]
  (.cond (.s 71)
  (.blk 1
   (.ops [⟨(some 72), none, .iaddr none 1 (.s 68) (.s 70)⟩,
      ⟨(some 73), none, .load none (.s 72)⟩,
      ⟨(some 8), none, .mv (.s 73)⟩]
    (.ops [⟨(some 74), none, .load (some 1) (.s 6)⟩,
      ⟨(some 75), none, .mv (.s 8)⟩,
      ⟨(some 76), none, .call fn_depend_writer_bit [(.s 74), (.s 75)]⟩]
    (.done))) [] [72, 73, 8, 74, 75, 76]
   (.ops [⟨(some 77), none, .bin .add (.s 70) (.c (V.int .i64 1))⟩,
     ⟨(some 70), none, .mv (.s 77)⟩]
   (.done)))
  (.exit 0))

def ir_depend_Bytes : Fn' := ⟨116, [.tmp 4, .tmp 5],
  .ops [⟨(some 2), none, .box ty_depend_Frame (.s 0)⟩,
    ⟨(some 3), none, .box ty_depend_Structure (.s 1)⟩,
    ⟨(some 4), none, .mv (.c V.nils)⟩,
    ⟨(some 5), none, .mv (.c (V.int .i64 0))⟩]
  (.ops [⟨(some 9), none, .load (some 19) (.s 2)⟩,
    ⟨(some 10), none, .load (some 6) (.s 3)⟩,
    ⟨(some 11), none, .call fn_depend_Good [(.s 9), (.s 10)]⟩,
    ⟨(some 12), none, .un .not (.s 11)⟩]
  (.cond (.s 12)
  (.ops [⟨(some 4), none, .mv (.c V.nils)⟩,
     ⟨(some 5), none, .mv (.c (V.int .i64 1))⟩]
   (.ret))
  (.ops [⟨(some 13), none, .call fn_bits_New []⟩,
     ⟨(some 14), none, .build [V.nilp] [(0, 1, (.s 13))]⟩,
     ⟨(some 6), none, .box ty_depend_writer (.c (V.agg [V.nilp]))⟩,
     ⟨none, none, .store 1 (.s 6) (.s 14)⟩]
   (.ops [⟨(some 15), none, .load (some 1) (.s 6)⟩,
     ⟨(some 16), none, .faddr 0 (.s 2)⟩,
     ⟨(some 17), none, .load none (.s 16)⟩,
     ⟨(some 18), none, .call fn_depend_writer_bit [(.s 15), (.s 17)]⟩]
   (.ops [⟨(some 19), none, .load (some 1) (.s 6)⟩,
     ⟨(some 20), none, .faddr 1 (.s 2)⟩,
     ⟨(some 21), none, .load none (.s 20)⟩,
     ⟨(some 22), none, .call fn_depend_writer_bit [(.s 19), (.s 21)]⟩]
   (.ops [⟨(some 23), none, .load (some 1) (.s 6)⟩,
     ⟨(some 24), none, .faddr 2 (.s 2)⟩,
     ⟨(some 25), none, .load none (.s 24)⟩,
     ⟨(some 26), none, .call fn_depend_writer_num [(.s 23), (.s 25), (.c (V.int .i64 6))]⟩]
   (.ops [⟨(some 27), none, .load (some 1) (.s 6)⟩,
     ⟨(some 28), none, .faddr 3 (.s 2)⟩,
     ⟨(some 29), none, .load none (.s 28)⟩,
     ⟨(some 30), none, .cint .i64 (.s 29)⟩,
     ⟨(some 31), none, .call fn_depend_writer_num [(.s 27), (.s 30), (.c (V.int .i64 16))]⟩]
   (.ops [⟨(some 32), none, .faddr 4 (.s 2)⟩,
     ⟨(some 33), none, .load none (.s 32)⟩,
     ⟨(some 34), none, .un .not (.s 33)⟩,
     ⟨(some 35), none, .mv (.s 34)⟩,
     ⟨(some 36), (some (35, true)), .faddr 11 (.s 2)⟩,
     ⟨(some 37), (some (35, true)), .load none (.s 36)⟩,
     ⟨(some 38), (some (35, true)), .un .not (.s 37)⟩,
     ⟨(some 39), none, .pick (.s 35) (.s 38) (.c (V.bool false))⟩,
     ⟨(some 40), none, .mv (.s 39)⟩,
     ⟨(some 41), (some (40, true)), .faddr 13 (.s 2)⟩,
     ⟨(some 42), (some (40, true)), .load none (.s 41)⟩,
     ⟨(some 43), (some (40, true)), .un .not (.s 42)⟩,
     ⟨(some 44), none, .pick (.s 40) (.s 43) (.c (V.bool false))⟩,
     ⟨(some 45), none, .mv (.s 44)⟩,
     ⟨(some 46), (some (45, true)), .faddr 14 (.s 2)⟩,
     ⟨(some 47), (some (45, true)), .load none (.s 46)⟩,
     ⟨(some 48), (some (45, true)), .un .not (.s 47)⟩,
     ⟨(some 49), none, .pick (.s 45) (.s 48) (.c (V.bool false))⟩,
     ⟨(some 50), none, .mv (.s 49)⟩,
     ⟨(some 51), (some (50, true)), .faddr 15 (.s 2)⟩,
     ⟨(some 52), (some (50, true)), .load none (.s 51)⟩,
     ⟨(some 53), (some (50, true)), .un .not (.s 52)⟩,
     ⟨(some 54), none, .pick (.s 50) (.s 53) (.c (V.bool false))⟩]
   (.cond (.s 54)
   (.ops [⟨(some 55), none, .faddr 0 (.s 6)⟩,
      ⟨(some 56), none, .load none (.s 55)⟩,
      ⟨(some 57), none, .call fn_bits_Writer_Bytes [(.s 56)]⟩,
      ⟨(some 4), none, .mv (.s 57)⟩,
      ⟨(some 5), none, .mv (.c (V.int .i64 0))⟩]
    (.ret))
   (.ops [⟨(some 58), none, .faddr 4 (.s 2)⟩,
      ⟨(some 59), none, .load none (.s 58)⟩,
      ⟨(some 60), none, .faddr 11 (.s 2)⟩,
      ⟨(some 61), none, .load none (.s 60)⟩,
      ⟨(some 62), none, .faddr 13 (.s 2)⟩,
      ⟨(some 63), none, .load none (.s 62)⟩,
      ⟨(some 64), none, .faddr 14 (.s 2)⟩,
      ⟨(some 65), none, .load none (.s 64)⟩,
      ⟨(some 66), none, .faddr 15 (.s 2)⟩,
      ⟨(some 67), none, .load none (.s 66)⟩,
      ⟨(some 68), none, .slit ty_bool 5 [(V.bool false)] [(0, 1, (.s 59)), (1, 1, (.s 61)), (2, 1, (.s 63)), (3, 1, (.s 65)), (4, 1, (.s 67))]⟩,
      ⟨(some 69), none, .len (.s 68)⟩,
      ⟨(some 70), none, .mv (.c (V.int .i64 0))⟩]
    (.blk 0
    (.loop loop_depend_Bytes_0 [70] [71, 72, 73, 8, 74, 75, 76, 77, 70]) [] [71, 72, 73, 8, 74, 75, 76, 77, 70]
    (.ops [⟨(some 78), none, .faddr 4 (.s 2)⟩,
      ⟨(some 79), none, .load none (.s 78)⟩]
    (.condJ (.s 79)
    (.ops [⟨(some 80), none, .load (some 1) (.s 6)⟩,
       ⟨(some 81), none, .faddr 5 (.s 2)⟩,
       ⟨(some 82), none, .load (some 6) (.s 81)⟩,
       ⟨(some 83), none, .call fn_depend_writer_structure [(.s 80), (.s 82)]⟩]
     (.done))
    (.done) [] [80, 81, 82, 83]
    (.ops [⟨(some 84), none, .faddr 11 (.s 2)⟩,
      ⟨(some 85), none, .load none (.s 84)⟩]
    (.condJ (.s 85)
    (.draw [⟨(some 86), none, .load (some 1) (.s 6)⟩,
       ⟨(some 87), none, .faddr 12 (.s 2)⟩,
       ⟨(some 88), none, .load none (.s 87)⟩,
       ⟨(some 89), none, .cint .i64 (.s 88)⟩,
       ⟨(some 90), none, .load (some 19) (.s 2)⟩,
       ⟨(some 91), none, .load (some 6) (.s 3)⟩,
       ⟨(some 92), none, .call fn_depend_holds [(.s 90), (.s 91)]⟩,
       ⟨(some 93), none, .field 1 none (.s 92)⟩,
       ⟨(some 94), none, .call fn_depend_writer_num [(.s 86), (.s 89), (.s 93)]⟩] [(0, 6), (2, 6)]
     (.done))
    (.done) [] [86, 87, 88, 89, 90, 91, 92, 93, 94]
    (.ops [⟨(some 95), none, .faddr 13 (.s 2)⟩,
      ⟨(some 96), none, .load none (.s 95)⟩]
    (.condJ (.s 96)
    (.ops [⟨(some 97), none, .load (some 1) (.s 6)⟩,
       ⟨(some 98), none, .faddr 16 (.s 2)⟩,
       ⟨(some 99), none, .load none (.s 98)⟩,
       ⟨(some 100), none, .call fn_depend_writer_nums [(.s 97), (.s 99), (.c (V.int .i64 2))]⟩]
     (.done))
    (.done) [] [97, 98, 99, 100]
    (.ops [⟨(some 101), none, .faddr 14 (.s 2)⟩,
      ⟨(some 102), none, .load none (.s 101)⟩]
    (.condJ (.s 102)
    (.ops [⟨(some 103), none, .load (some 1) (.s 6)⟩,
       ⟨(some 104), none, .faddr 17 (.s 2)⟩,
       ⟨(some 105), none, .load none (.s 104)⟩,
       ⟨(some 106), none, .call fn_depend_writer_own [(.s 103), (.s 105)]⟩]
     (.done))
    (.done) [] [103, 104, 105, 106]
    (.ops [⟨(some 107), none, .faddr 15 (.s 2)⟩,
      ⟨(some 108), none, .load none (.s 107)⟩]
    (.condJ (.s 108)
    (.ops [⟨(some 109), none, .load (some 1) (.s 6)⟩,
       ⟨(some 110), none, .faddr 18 (.s 2)⟩,
       ⟨(some 111), none, .load none (.s 110)⟩,
       ⟨(some 112), none, .call fn_depend_writer_nums [(.s 109), (.s 111), (.c (V.int .i64 8))]⟩]
     (.done))
    (.done) [] [109, 110, 111, 112]
    (.ops [⟨(some 113), none, .faddr 0 (.s 6)⟩,
      ⟨(some 114), none, .load none (.s 113)⟩,
      ⟨(some 115), none, .call fn_bits_Writer_Bytes [(.s 114)]⟩,
      ⟨(some 4), none, .mv (.s 115)⟩,
      ⟨(some 5), none, .mv (.c (V.int .i64 0))⟩]
    (.ret)))))))))))))))))))))))⟩

noncomputable def f_depend_Bytes_0 (G : Sem') (t69 t68 t6 t4 t5 : V) (L : List V) : M Res :=
  (M.lift (Ax.bin .lss (L.getD 0 .undef) t69)).bind fun t71 =>
  M.ite t71
    (M.blk 1 (
      (M.lift (Ax.iaddr none 1 t68 (L.getD 0 .undef))).bind fun t72 =>
      (mload none t72).bind fun t73 =>
      (mload (some 1) t6).bind fun t74 =>
      (G fn_depend_writer_bit [t74, t73]).bind fun t76 =>
      M.pure (.nrm [])) fun _ =>
    (M.lift (Ax.bin .add (L.getD 0 .undef) (V.int .i64 1))).bind fun t77 =>
    M.pure (.nrm [t77]))
    (M.pure (.ex 0 []))

noncomputable def f_depend_Bytes (G : Sem') (t0 t1 : V) : M Res :=
  (mbox ty_depend_Frame t0).bind fun t2 =>
  (mbox ty_depend_Structure t1).bind fun t3 =>
  (mload (some 19) t2).bind fun t9 =>
  (mload (some 6) t3).bind fun t10 =>
  (G fn_depend_Good [t9, t10]).bind fun t11 =>
  (M.lift (Ax.un .not t11)).bind fun t12 =>
  M.ite t12
    (M.pure (.ret [V.nils, (V.int .i64 1)]))
    ((G fn_bits_New []).bind fun t13 =>
    (M.lift (Ax.build [V.nilp] [(0, 1, t13)])).bind fun t14 =>
    (mbox ty_depend_writer (V.agg [V.nilp])).bind fun t6 =>
    (mstore 1 t6 t14).bind fun _ =>
    (mload (some 1) t6).bind fun t15 =>
    (M.lift (Ax.faddr 0 t2)).bind fun t16 =>
    (mload none t16).bind fun t17 =>
    (G fn_depend_writer_bit [t15, t17]).bind fun t18 =>
    (mload (some 1) t6).bind fun t19 =>
    (M.lift (Ax.faddr 1 t2)).bind fun t20 =>
    (mload none t20).bind fun t21 =>
    (G fn_depend_writer_bit [t19, t21]).bind fun t22 =>
    (mload (some 1) t6).bind fun t23 =>
    (M.lift (Ax.faddr 2 t2)).bind fun t24 =>
    (mload none t24).bind fun t25 =>
    (G fn_depend_writer_num [t23, t25, (V.int .i64 6)]).bind fun t26 =>
    (mload (some 1) t6).bind fun t27 =>
    (M.lift (Ax.faddr 3 t2)).bind fun t28 =>
    (mload none t28).bind fun t29 =>
    (M.lift (Ax.cint .i64 t29)).bind fun t30 =>
    (G fn_depend_writer_num [t27, t30, (V.int .i64 16)]).bind fun t31 =>
    (M.lift (Ax.faddr 4 t2)).bind fun t32 =>
    (mload none t32).bind fun t33 =>
    (M.lift (Ax.un .not t33)).bind fun t34 =>
    (guarded [(0, t34)] (some (0, true)) (M.lift (Ax.faddr 11 t2))).bind fun t36 =>
    (guarded [(0, t34)] (some (0, true)) (mload none t36)).bind fun t37 =>
    (guarded [(0, t34)] (some (0, true)) (M.lift (Ax.un .not t37))).bind fun t38 =>
    (M.lift (Ax.pick t34 t38 (V.bool false))).bind fun t39 =>
    (guarded [(0, t39)] (some (0, true)) (M.lift (Ax.faddr 13 t2))).bind fun t41 =>
    (guarded [(0, t39)] (some (0, true)) (mload none t41)).bind fun t42 =>
    (guarded [(0, t39)] (some (0, true)) (M.lift (Ax.un .not t42))).bind fun t43 =>
    (M.lift (Ax.pick t39 t43 (V.bool false))).bind fun t44 =>
    (guarded [(0, t44)] (some (0, true)) (M.lift (Ax.faddr 14 t2))).bind fun t46 =>
    (guarded [(0, t44)] (some (0, true)) (mload none t46)).bind fun t47 =>
    (guarded [(0, t44)] (some (0, true)) (M.lift (Ax.un .not t47))).bind fun t48 =>
    (M.lift (Ax.pick t44 t48 (V.bool false))).bind fun t49 =>
    (guarded [(0, t49)] (some (0, true)) (M.lift (Ax.faddr 15 t2))).bind fun t51 =>
    (guarded [(0, t49)] (some (0, true)) (mload none t51)).bind fun t52 =>
    (guarded [(0, t49)] (some (0, true)) (M.lift (Ax.un .not t52))).bind fun t53 =>
    (M.lift (Ax.pick t49 t53 (V.bool false))).bind fun t54 =>
    M.ite t54
      ((M.lift (Ax.faddr 0 t6)).bind fun t55 =>
      (mload none t55).bind fun t56 =>
      (G fn_bits_Writer_Bytes [t56]).bind fun t57 =>
      M.pure (.ret [t57, (V.int .i64 0)]))
      ((M.lift (Ax.faddr 4 t2)).bind fun t58 =>
      (mload none t58).bind fun t59 =>
      (M.lift (Ax.faddr 11 t2)).bind fun t60 =>
      (mload none t60).bind fun t61 =>
      (M.lift (Ax.faddr 13 t2)).bind fun t62 =>
      (mload none t62).bind fun t63 =>
      (M.lift (Ax.faddr 14 t2)).bind fun t64 =>
      (mload none t64).bind fun t65 =>
      (M.lift (Ax.faddr 15 t2)).bind fun t66 =>
      (mload none t66).bind fun t67 =>
      (mslit ty_bool 5 [(V.bool false)] [(0, 1, t59), (1, 1, t61), (2, 1, t63), (3, 1, t65), (4, 1, t67)]).bind fun t68 =>
      (M.lift (vlen t68)).bind fun t69 =>
      M.blk 0 (
        M.iter (f_depend_Bytes_0 G t69 t68 t6 V.nils (V.int .i64 0)) [(V.int .i64 0)]) fun _ =>
      (M.lift (Ax.faddr 4 t2)).bind fun t78 =>
      (mload none t78).bind fun t79 =>
      M.join (M.ite t79
        ((mload (some 1) t6).bind fun t80 =>
        (M.lift (Ax.faddr 5 t2)).bind fun t81 =>
        (mload (some 6) t81).bind fun t82 =>
        (G fn_depend_writer_structure [t80, t82]).bind fun t83 =>
        M.pure (.nrm []))
        (M.pure (.nrm []))) fun _ =>
      (M.lift (Ax.faddr 11 t2)).bind fun t84 =>
      (mload none t84).bind fun t85 =>
      M.join (M.ite t85
        ((mload (some 1) t6).bind fun t86 =>
        (M.lift (Ax.faddr 12 t2)).bind fun t87 =>
        (mload none t87).bind fun t88 =>
        (M.lift (Ax.cint .i64 t88)).bind fun t89 =>
        (mload (some 19) t2).bind fun t90 =>
        (mload (some 6) t3).bind fun t91 =>
        M.getH.bind fun h0 =>
        (G fn_depend_holds [t90, t91]).bind fun t92 =>
        M.getH.bind fun h0' =>
        (M.unch t87 h0 h0').bind fun _ =>
        (M.unch t6 h0 h0').bind fun _ =>
        (M.lift (Ax.field 1 none t92)).bind fun t93 =>
        (G fn_depend_writer_num [t86, t89, t93]).bind fun t94 =>
        M.pure (.nrm []))
        (M.pure (.nrm []))) fun _ =>
      (M.lift (Ax.faddr 13 t2)).bind fun t95 =>
      (mload none t95).bind fun t96 =>
      M.join (M.ite t96
        ((mload (some 1) t6).bind fun t97 =>
        (M.lift (Ax.faddr 16 t2)).bind fun t98 =>
        (mload none t98).bind fun t99 =>
        (G fn_depend_writer_nums [t97, t99, (V.int .i64 2)]).bind fun t100 =>
        M.pure (.nrm []))
        (M.pure (.nrm []))) fun _ =>
      (M.lift (Ax.faddr 14 t2)).bind fun t101 =>
      (mload none t101).bind fun t102 =>
      M.join (M.ite t102
        ((mload (some 1) t6).bind fun t103 =>
        (M.lift (Ax.faddr 17 t2)).bind fun t104 =>
        (mload none t104).bind fun t105 =>
        (G fn_depend_writer_own [t103, t105]).bind fun t106 =>
        M.pure (.nrm []))
        (M.pure (.nrm []))) fun _ =>
      (M.lift (Ax.faddr 15 t2)).bind fun t107 =>
      (mload none t107).bind fun t108 =>
      M.join (M.ite t108
        ((mload (some 1) t6).bind fun t109 =>
        (M.lift (Ax.faddr 18 t2)).bind fun t110 =>
        (mload none t110).bind fun t111 =>
        (G fn_depend_writer_nums [t109, t111, (V.int .i64 8)]).bind fun t112 =>
        M.pure (.nrm []))
        (M.pure (.nrm []))) fun _ =>
      (M.lift (Ax.faddr 0 t6)).bind fun t113 =>
      (mload none t113).bind fun t114 =>
      (G fn_bits_Writer_Bytes [t114]).bind fun t115 =>
      M.pure (.ret [t115, (V.int .i64 0)])))

theorem eq_depend_Bytes (G : Sem') (t0 t1 : V) : execK G ir_depend_Bytes.rv ir_depend_Bytes.body [] [] (params 0 [t0, t1]) = f_depend_Bytes G t0 t1 := by kernel_rfl

theorem tb_depend_Bytes : T fn_depend_Bytes = some ir_depend_Bytes := by kernel_rfl

theorem ok_depend_Bytes {t0 t1 : V} {H : Heap} {Q : V → Heap → Prop} (h : Ok (f_depend_Bytes (sem T) t0 t1) H fun r H' => ∃ L, r = .ret L ∧ Q (tupled L) H') : Ok (sem T fn_depend_Bytes [t0, t1]) H Q :=
  ok_sem tb_depend_Bytes (Nat.le_of_ble_eq_true rfl) (eq_depend_Bytes (sem T) t0 t1) h

/-- palanquin/depend.Good. -/
def ir_depend_Good : Fn' := ⟨107, [.tmp 4],
  .ops [⟨(some 2), none, .box ty_depend_Frame (.s 0)⟩,
    ⟨(some 3), none, .box ty_depend_Structure (.s 1)⟩,
    ⟨(some 4), none, .mv (.c (V.bool false))⟩]
  (.ops [⟨(some 9), none, .load (some 19) (.s 2)⟩,
    ⟨(some 10), none, .load (some 6) (.s 3)⟩,
    ⟨(some 11), none, .call fn_depend_Of [(.s 9), (.s 10)]⟩,
    ⟨(some 8), none, .mv (.s 11)⟩,
    ⟨(some 12), none, .ext 0 (.s 8)⟩,
    ⟨(some 13), none, .ext 1 (.s 8)⟩,
    ⟨(some 5), none, .box ty_depend_Template (.c (V.agg [(V.int .i64 0), (V.int .i64 0), V.nils, V.nils, V.nils]))⟩,
    ⟨none, none, .store 5 (.s 5) (.s 12)⟩,
    ⟨(some 6), none, .mv (.s 13)⟩]
  (.ops [⟨(some 14), none, .load (some 19) (.s 2)⟩,
    ⟨(some 15), none, .load (some 6) (.s 3)⟩,
    ⟨(some 16), none, .call fn_depend_holds [(.s 14), (.s 15)]⟩,
    ⟨(some 7), none, .box ty_depend_Structure (.c (V.agg [(V.int .i64 0), (V.int .i64 0), V.nils, (V.int .i64 0), V.nils, V.nils]))⟩,
    ⟨none, none, .store 6 (.s 7) (.s 16)⟩]
  (.blk 0
  (.ops [⟨(some 18), none, .mv (.s 6)⟩,
     ⟨(some 19), none, .un .not (.s 18)⟩,
     ⟨(some 20), none, .mv (.s 19)⟩,
     ⟨(some 21), (some (20, false)), .faddr 4 (.s 2)⟩,
     ⟨(some 22), (some (20, false)), .load none (.s 21)⟩,
     ⟨(some 23), (some (20, false)), .un .not (.s 22)⟩,
     ⟨(some 24), (some (20, false)), .mv (.s 23)⟩,
     ⟨(some 25), (some (24, true)), .faddr 5 (.s 2)⟩,
     ⟨(some 26), (some (24, true)), .load (some 6) (.s 25)⟩,
     ⟨(some 27), (some (24, true)), .call fn_depend_none [(.s 26)]⟩,
     ⟨(some 28), (some (24, true)), .un .not (.s 27)⟩,
     ⟨(some 29), (some (20, false)), .pick (.s 24) (.s 28) (.c (V.bool false))⟩,
     ⟨(some 30), none, .pick (.s 20) (.c (V.bool true)) (.s 29)⟩,
     ⟨(some 17), none, .mv (.s 30)⟩]
   (.cond (.s 17)
   (.ops [⟨(some 4), none, .mv (.c (V.bool false))⟩]
    (.ret))
   (.ops [⟨(some 32), none, .faddr 11 (.s 2)⟩,
      ⟨(some 33), none, .load none (.s 32)⟩,
      ⟨(some 34), none, .un .not (.s 33)⟩,
      ⟨(some 35), none, .mv (.s 34)⟩,
      ⟨(some 36), (some (35, true)), .faddr 12 (.s 2)⟩,
      ⟨(some 37), (some (35, true)), .load none (.s 36)⟩,
      ⟨(some 38), (some (35, true)), .bin .neq (.s 37) (.c (V.int .u32 0))⟩,
      ⟨(some 39), none, .pick (.s 35) (.s 38) (.c (V.bool false))⟩,
      ⟨(some 40), none, .mv (.s 39)⟩,
      ⟨(some 41), (some (40, false)), .faddr 12 (.s 2)⟩,
      ⟨(some 42), (some (40, false)), .load none (.s 41)⟩,
      ⟨(some 43), (some (40, false)), .cint .u64 (.s 42)⟩,
      ⟨(some 44), (some (40, false)), .faddr 1 (.s 7)⟩,
      ⟨(some 45), (some (40, false)), .load none (.s 44)⟩,
      ⟨(some 46), (some (40, false)), .bin .shr (.s 43) (.s 45)⟩,
      ⟨(some 47), (some (40, false)), .bin .neq (.s 46) (.c (V.int .u64 0))⟩,
      ⟨(some 48), none, .pick (.s 40) (.c (V.bool true)) (.s 47)⟩,
      ⟨(some 31), none, .mv (.s 48)⟩]
    (.cond (.s 31)
    (.ops [⟨(some 4), none, .mv (.c (V.bool false))⟩]
     (.ret))
    (.ops [⟨(some 50), none, .faddr 13 (.s 2)⟩,
       ⟨(some 51), none, .load none (.s 50)⟩,
       ⟨(some 52), none, .mv (.s 51)⟩,
       ⟨(some 53), (some (52, true)), .faddr 16 (.s 2)⟩,
       ⟨(some 54), (some (52, true)), .load none (.s 53)⟩,
       ⟨(some 55), (some (52, true)), .faddr 1 (.s 7)⟩,
       ⟨(some 56), (some (52, true)), .load none (.s 55)⟩,
       ⟨(some 57), (some (52, true)), .call fn_depend_within [(.s 54), (.s 56), (.c (V.int .i64 0)), (.c (V.int .i64 3))]⟩,
       ⟨(some 58), (some (52, true)), .un .not (.s 57)⟩,
       ⟨(some 59), none, .pick (.s 52) (.s 58) (.c (V.bool false))⟩,
       ⟨(some 60), none, .mv (.s 59)⟩,
       ⟨(some 61), (some (60, false)), .faddr 13 (.s 2)⟩,
       ⟨(some 62), (some (60, false)), .load none (.s 61)⟩,
       ⟨(some 63), (some (60, false)), .un .not (.s 62)⟩,
       ⟨(some 64), (some (60, false)), .mv (.s 63)⟩,
       ⟨(some 65), (some (64, true)), .faddr 16 (.s 2)⟩,
       ⟨(some 66), (some (64, true)), .load none (.s 65)⟩,
       ⟨(some 67), (some (64, true)), .faddr 2 (.s 5)⟩,
       ⟨(some 68), (some (64, true)), .load none (.s 67)⟩,
       ⟨(some 69), (some (64, true)), .call fn_slices_Equal_int_int [(.s 66), (.s 68)]⟩,
       ⟨(some 70), (some (64, true)), .un .not (.s 69)⟩,
       ⟨(some 71), (some (60, false)), .pick (.s 64) (.s 70) (.c (V.bool false))⟩,
       ⟨(some 72), none, .pick (.s 60) (.c (V.bool true)) (.s 71)⟩,
       ⟨(some 49), none, .mv (.s 72)⟩]
     (.cond (.s 49)
     (.ops [⟨(some 4), none, .mv (.c (V.bool false))⟩]
      (.ret))
     (.ops [⟨(some 74), none, .faddr 14 (.s 2)⟩,
        ⟨(some 75), none, .load none (.s 74)⟩,
        ⟨(some 76), none, .mv (.s 75)⟩,
        ⟨(some 77), (some (76, true)), .faddr 17 (.s 2)⟩,
        ⟨(some 78), (some (76, true)), .load none (.s 77)⟩,
        ⟨(some 79), (some (76, true)), .call fn_depend_diffs [(.s 78), (.c (V.int .i64 16)), (.c (V.int .i64 4096))]⟩,
        ⟨(some 80), (some (76, true)), .un .not (.s 79)⟩,
        ⟨(some 81), none, .pick (.s 76) (.s 80) (.c (V.bool false))⟩,
        ⟨(some 82), none, .mv (.s 81)⟩,
        ⟨(some 83), (some (82, false)), .faddr 14 (.s 2)⟩,
        ⟨(some 84), (some (82, false)), .load none (.s 83)⟩,
        ⟨(some 85), (some (82, false)), .un .not (.s 84)⟩,
        ⟨(some 86), (some (82, false)), .mv (.s 85)⟩,
        ⟨(some 87), (some (86, true)), .faddr 17 (.s 2)⟩,
        ⟨(some 88), (some (86, true)), .load none (.s 87)⟩,
        ⟨(some 89), (some (86, true)), .faddr 3 (.s 5)⟩,
        ⟨(some 90), (some (86, true)), .load none (.s 89)⟩,
        ⟨(some 91), (some (86, true)), .call fn_slices_Equal_int_int [(.s 88), (.s 90)]⟩,
        ⟨(some 92), (some (86, true)), .un .not (.s 91)⟩,
        ⟨(some 93), (some (82, false)), .pick (.s 86) (.s 92) (.c (V.bool false))⟩,
        ⟨(some 94), none, .pick (.s 82) (.c (V.bool true)) (.s 93)⟩,
        ⟨(some 73), none, .mv (.s 94)⟩]
      (.cond (.s 73)
      (.ops [⟨(some 4), none, .mv (.c (V.bool false))⟩]
       (.ret))
      (.done))))))))) [] [18, 19, 20, 21, 22, 23, 24, 25, 26, 27, 28, 29, 30, 17, 4, 32, 33, 34, 35, 36, 37, 38, 39, 40, 41, 42, 43, 44, 45, 46, 47, 48, 31, 4, 50, 51, 52, 53, 54, 55, 56, 57, 58, 59, 60, 61, 62, 63, 64, 65, 66, 67, 68, 69, 70, 71, 72, 49, 4, 74, 75, 76, 77, 78, 79, 80, 81, 82, 83, 84, 85, 86, 87, 88, 89, 90, 91, 92, 93, 94, 73, 4]
  (.ops [⟨(some 95), none, .faddr 15 (.s 2)⟩,
    ⟨(some 96), none, .load none (.s 95)⟩]
  (.cond (.s 96)
  (.ops [⟨(some 97), none, .faddr 18 (.s 2)⟩,
     ⟨(some 98), none, .load none (.s 97)⟩,
     ⟨(some 99), none, .faddr 3 (.s 7)⟩,
     ⟨(some 100), none, .load none (.s 99)⟩,
     ⟨(some 101), none, .call fn_depend_within [(.s 98), (.s 100), (.c (V.int .i64 0)), (.c (V.int .i64 255))]⟩,
     ⟨(some 4), none, .mv (.s 101)⟩]
   (.ret))
  (.ops [⟨(some 102), none, .faddr 18 (.s 2)⟩,
     ⟨(some 103), none, .load none (.s 102)⟩,
     ⟨(some 104), none, .faddr 4 (.s 5)⟩,
     ⟨(some 105), none, .load none (.s 104)⟩,
     ⟨(some 106), none, .call fn_slices_Equal_int_int [(.s 103), (.s 105)]⟩,
     ⟨(some 4), none, .mv (.s 106)⟩]
   (.ret)))))))⟩

noncomputable def f_depend_Good (G : Sem') (t0 t1 : V) : M Res :=
  (mbox ty_depend_Frame t0).bind fun t2 =>
  (mbox ty_depend_Structure t1).bind fun t3 =>
  (mload (some 19) t2).bind fun t9 =>
  (mload (some 6) t3).bind fun t10 =>
  (G fn_depend_Of [t9, t10]).bind fun t11 =>
  (M.lift (Ax.ext 0 t11)).bind fun t12 =>
  (M.lift (Ax.ext 1 t11)).bind fun t13 =>
  (mbox ty_depend_Template (V.agg [(V.int .i64 0), (V.int .i64 0), V.nils, V.nils, V.nils])).bind fun t5 =>
  (mstore 5 t5 t12).bind fun _ =>
  (mload (some 19) t2).bind fun t14 =>
  (mload (some 6) t3).bind fun t15 =>
  (G fn_depend_holds [t14, t15]).bind fun t16 =>
  (mbox ty_depend_Structure (V.agg [(V.int .i64 0), (V.int .i64 0), V.nils, (V.int .i64 0), V.nils, V.nils])).bind fun t7 =>
  (mstore 6 t7 t16).bind fun _ =>
  M.blk 0 (
    (M.lift (Ax.un .not t13)).bind fun t19 =>
    (guarded [(0, t19)] (some (0, false)) (M.lift (Ax.faddr 4 t2))).bind fun t21 =>
    (guarded [(0, t19)] (some (0, false)) (mload none t21)).bind fun t22 =>
    (guarded [(0, t19)] (some (0, false)) (M.lift (Ax.un .not t22))).bind fun t23 =>
    (guarded [(0, t19)] (some (0, false)) (M.pure t23)).bind fun t24 =>
    (guarded [(0, t24)] (some (0, true)) (M.lift (Ax.faddr 5 t2))).bind fun t25 =>
    (guarded [(0, t24)] (some (0, true)) (mload (some 6) t25)).bind fun t26 =>
    (guarded [(0, t24)] (some (0, true)) (G fn_depend_none [t26])).bind fun t27 =>
    (guarded [(0, t24)] (some (0, true)) (M.lift (Ax.un .not t27))).bind fun t28 =>
    (guarded [(0, t19)] (some (0, false)) (M.lift (Ax.pick t24 t28 (V.bool false)))).bind fun t29 =>
    (M.lift (Ax.pick t19 (V.bool true) t29)).bind fun t30 =>
    M.ite t30
      (M.pure (.ret [(V.bool false)]))
      ((M.lift (Ax.faddr 11 t2)).bind fun t32 =>
      (mload none t32).bind fun t33 =>
      (M.lift (Ax.un .not t33)).bind fun t34 =>
      (guarded [(0, t34)] (some (0, true)) (M.lift (Ax.faddr 12 t2))).bind fun t36 =>
      (guarded [(0, t34)] (some (0, true)) (mload none t36)).bind fun t37 =>
      (guarded [(0, t34)] (some (0, true)) (M.lift (Ax.bin .neq t37 (V.int .u32 0)))).bind fun t38 =>
      (M.lift (Ax.pick t34 t38 (V.bool false))).bind fun t39 =>
      (guarded [(0, t39)] (some (0, false)) (M.lift (Ax.faddr 12 t2))).bind fun t41 =>
      (guarded [(0, t39)] (some (0, false)) (mload none t41)).bind fun t42 =>
      (guarded [(0, t39)] (some (0, false)) (M.lift (Ax.cint .u64 t42))).bind fun t43 =>
      (guarded [(0, t39)] (some (0, false)) (M.lift (Ax.faddr 1 t7))).bind fun t44 =>
      (guarded [(0, t39)] (some (0, false)) (mload none t44)).bind fun t45 =>
      (guarded [(0, t39)] (some (0, false)) (M.lift (Ax.bin .shr t43 t45))).bind fun t46 =>
      (guarded [(0, t39)] (some (0, false)) (M.lift (Ax.bin .neq t46 (V.int .u64 0)))).bind fun t47 =>
      (M.lift (Ax.pick t39 (V.bool true) t47)).bind fun t48 =>
      M.ite t48
        (M.pure (.ret [(V.bool false)]))
        ((M.lift (Ax.faddr 13 t2)).bind fun t50 =>
        (mload none t50).bind fun t51 =>
        (guarded [(0, t51)] (some (0, true)) (M.lift (Ax.faddr 16 t2))).bind fun t53 =>
        (guarded [(0, t51)] (some (0, true)) (mload none t53)).bind fun t54 =>
        (guarded [(0, t51)] (some (0, true)) (M.lift (Ax.faddr 1 t7))).bind fun t55 =>
        (guarded [(0, t51)] (some (0, true)) (mload none t55)).bind fun t56 =>
        (guarded [(0, t51)] (some (0, true)) (G fn_depend_within [t54, t56, (V.int .i64 0), (V.int .i64 3)])).bind fun t57 =>
        (guarded [(0, t51)] (some (0, true)) (M.lift (Ax.un .not t57))).bind fun t58 =>
        (M.lift (Ax.pick t51 t58 (V.bool false))).bind fun t59 =>
        (guarded [(0, t59)] (some (0, false)) (M.lift (Ax.faddr 13 t2))).bind fun t61 =>
        (guarded [(0, t59)] (some (0, false)) (mload none t61)).bind fun t62 =>
        (guarded [(0, t59)] (some (0, false)) (M.lift (Ax.un .not t62))).bind fun t63 =>
        (guarded [(0, t59)] (some (0, false)) (M.pure t63)).bind fun t64 =>
        (guarded [(0, t64)] (some (0, true)) (M.lift (Ax.faddr 16 t2))).bind fun t65 =>
        (guarded [(0, t64)] (some (0, true)) (mload none t65)).bind fun t66 =>
        (guarded [(0, t64)] (some (0, true)) (M.lift (Ax.faddr 2 t5))).bind fun t67 =>
        (guarded [(0, t64)] (some (0, true)) (mload none t67)).bind fun t68 =>
        (guarded [(0, t64)] (some (0, true)) (G fn_slices_Equal_int_int [t66, t68])).bind fun t69 =>
        (guarded [(0, t64)] (some (0, true)) (M.lift (Ax.un .not t69))).bind fun t70 =>
        (guarded [(0, t59)] (some (0, false)) (M.lift (Ax.pick t64 t70 (V.bool false)))).bind fun t71 =>
        (M.lift (Ax.pick t59 (V.bool true) t71)).bind fun t72 =>
        M.ite t72
          (M.pure (.ret [(V.bool false)]))
          ((M.lift (Ax.faddr 14 t2)).bind fun t74 =>
          (mload none t74).bind fun t75 =>
          (guarded [(0, t75)] (some (0, true)) (M.lift (Ax.faddr 17 t2))).bind fun t77 =>
          (guarded [(0, t75)] (some (0, true)) (mload none t77)).bind fun t78 =>
          (guarded [(0, t75)] (some (0, true)) (G fn_depend_diffs [t78, (V.int .i64 16), (V.int .i64 4096)])).bind fun t79 =>
          (guarded [(0, t75)] (some (0, true)) (M.lift (Ax.un .not t79))).bind fun t80 =>
          (M.lift (Ax.pick t75 t80 (V.bool false))).bind fun t81 =>
          (guarded [(0, t81)] (some (0, false)) (M.lift (Ax.faddr 14 t2))).bind fun t83 =>
          (guarded [(0, t81)] (some (0, false)) (mload none t83)).bind fun t84 =>
          (guarded [(0, t81)] (some (0, false)) (M.lift (Ax.un .not t84))).bind fun t85 =>
          (guarded [(0, t81)] (some (0, false)) (M.pure t85)).bind fun t86 =>
          (guarded [(0, t86)] (some (0, true)) (M.lift (Ax.faddr 17 t2))).bind fun t87 =>
          (guarded [(0, t86)] (some (0, true)) (mload none t87)).bind fun t88 =>
          (guarded [(0, t86)] (some (0, true)) (M.lift (Ax.faddr 3 t5))).bind fun t89 =>
          (guarded [(0, t86)] (some (0, true)) (mload none t89)).bind fun t90 =>
          (guarded [(0, t86)] (some (0, true)) (G fn_slices_Equal_int_int [t88, t90])).bind fun t91 =>
          (guarded [(0, t86)] (some (0, true)) (M.lift (Ax.un .not t91))).bind fun t92 =>
          (guarded [(0, t81)] (some (0, false)) (M.lift (Ax.pick t86 t92 (V.bool false)))).bind fun t93 =>
          (M.lift (Ax.pick t81 (V.bool true) t93)).bind fun t94 =>
          M.ite t94
            (M.pure (.ret [(V.bool false)]))
            (M.pure (.nrm [])))))) fun _ =>
  (M.lift (Ax.faddr 15 t2)).bind fun t95 =>
  (mload none t95).bind fun t96 =>
  M.ite t96
    ((M.lift (Ax.faddr 18 t2)).bind fun t97 =>
    (mload none t97).bind fun t98 =>
    (M.lift (Ax.faddr 3 t7)).bind fun t99 =>
    (mload none t99).bind fun t100 =>
    (G fn_depend_within [t98, t100, (V.int .i64 0), (V.int .i64 255)]).bind fun t101 =>
    M.pure (.ret [t101]))
    ((M.lift (Ax.faddr 18 t2)).bind fun t102 =>
    (mload none t102).bind fun t103 =>
    (M.lift (Ax.faddr 4 t5)).bind fun t104 =>
    (mload none t104).bind fun t105 =>
    (G fn_slices_Equal_int_int [t103, t105]).bind fun t106 =>
    M.pure (.ret [t106]))

theorem eq_depend_Good (G : Sem') (t0 t1 : V) : execK G ir_depend_Good.rv ir_depend_Good.body [] [] (params 0 [t0, t1]) = f_depend_Good G t0 t1 := by kernel_rfl

theorem tb_depend_Good : T fn_depend_Good = some ir_depend_Good := by kernel_rfl

theorem ok_depend_Good {t0 t1 : V} {H : Heap} {Q : V → Heap → Prop} (h : Ok (f_depend_Good (sem T) t0 t1) H fun r H' => ∃ L, r = .ret L ∧ Q (tupled L) H') : Ok (sem T fn_depend_Good [t0, t1]) H Q :=
  ok_sem tb_depend_Good (Nat.le_of_ble_eq_true rfl) (eq_depend_Good (sem T) t0 t1) h

/-- palanquin/depend.Of. -/
def ir_depend_Of : Fn' := ⟨20, [.cell 4 (some 5), .tmp 5],
  .ops [⟨(some 2), none, .box ty_depend_Frame (.s 0)⟩,
    ⟨(some 3), none, .box ty_depend_Structure (.s 1)⟩,
    ⟨(some 4), none, .box ty_depend_Template (.c (V.agg [(V.int .i64 0), (V.int .i64 0), V.nils, V.nils, V.nils]))⟩,
    ⟨(some 5), none, .mv (.c (V.bool false))⟩]
  (.ops [⟨(some 7), none, .load (some 19) (.s 2)⟩,
    ⟨(some 8), none, .load (some 6) (.s 3)⟩,
    ⟨(some 9), none, .call fn_depend_holds [(.s 7), (.s 8)]⟩,
    ⟨(some 6), none, .box ty_depend_Structure (.c (V.agg [(V.int .i64 0), (V.int .i64 0), V.nils, (V.int .i64 0), V.nils, V.nils]))⟩,
    ⟨none, none, .store 6 (.s 6) (.s 9)⟩]
  (.ops [⟨(some 10), none, .load (some 6) (.s 6)⟩,
    ⟨(some 11), none, .call fn_depend_Fine [(.s 10)]⟩,
    ⟨(some 12), none, .un .not (.s 11)⟩]
  (.cond (.s 12)
  (.ops [⟨(some 13), none, .build [(V.int .i64 0), (V.int .i64 0), V.nils, V.nils, V.nils] []⟩,
     ⟨none, none, .store 5 (.s 4) (.s 13)⟩,
     ⟨(some 5), none, .mv (.c (V.bool false))⟩]
   (.ret))
  (.ops [⟨(some 14), none, .load (some 6) (.s 6)⟩,
     ⟨(some 15), none, .faddr 2 (.s 2)⟩,
     ⟨(some 16), none, .load none (.s 15)⟩,
     ⟨(some 17), none, .call fn_depend_template [(.s 14), (.s 16)]⟩,
     ⟨(some 18), none, .ext 0 (.s 17)⟩,
     ⟨(some 19), none, .ext 1 (.s 17)⟩,
     ⟨none, none, .store 5 (.s 4) (.s 18)⟩,
     ⟨(some 5), none, .mv (.s 19)⟩]
   (.ret)))))⟩

noncomputable def f_depend_Of (G : Sem') (t0 t1 : V) : M Res :=
  (mbox ty_depend_Frame t0).bind fun t2 =>
  (mbox ty_depend_Structure t1).bind fun t3 =>
  (mbox ty_depend_Template (V.agg [(V.int .i64 0), (V.int .i64 0), V.nils, V.nils, V.nils])).bind fun t4 =>
  (mload (some 19) t2).bind fun t7 =>
  (mload (some 6) t3).bind fun t8 =>
  (G fn_depend_holds [t7, t8]).bind fun t9 =>
  (mbox ty_depend_Structure (V.agg [(V.int .i64 0), (V.int .i64 0), V.nils, (V.int .i64 0), V.nils, V.nils])).bind fun t6 =>
  (mstore 6 t6 t9).bind fun _ =>
  (mload (some 6) t6).bind fun t10 =>
  (G fn_depend_Fine [t10]).bind fun t11 =>
  (M.lift (Ax.un .not t11)).bind fun t12 =>
  M.ite t12
    ((M.lift (Ax.build [(V.int .i64 0), (V.int .i64 0), V.nils, V.nils, V.nils] [])).bind fun t13 =>
    (mstore 5 t4 t13).bind fun _ =>
    (mload (some 5) t4).bind fun r0 =>
    M.pure (.ret [r0, (V.bool false)]))
    ((mload (some 6) t6).bind fun t14 =>
    (M.lift (Ax.faddr 2 t2)).bind fun t15 =>
    (mload none t15).bind fun t16 =>
    (G fn_depend_template [t14, t16]).bind fun t17 =>
    (M.lift (Ax.ext 0 t17)).bind fun t18 =>
    (M.lift (Ax.ext 1 t17)).bind fun t19 =>
    (mstore 5 t4 t18).bind fun _ =>
    (mload (some 5) t4).bind fun r0 =>
    M.pure (.ret [r0, t19]))

theorem eq_depend_Of (G : Sem') (t0 t1 : V) : execK G ir_depend_Of.rv ir_depend_Of.body [] [] (params 0 [t0, t1]) = f_depend_Of G t0 t1 := by kernel_rfl

theorem tb_depend_Of : T fn_depend_Of = some ir_depend_Of := by kernel_rfl

theorem ok_depend_Of {t0 t1 : V} {H : Heap} {Q : V → Heap → Prop} (h : Ok (f_depend_Of (sem T) t0 t1) H fun r H' => ∃ L, r = .ret L ∧ Q (tupled L) H') : Ok (sem T fn_depend_Of [t0, t1]) H Q :=
  ok_sem tb_depend_Of (Nat.le_of_ble_eq_true rfl) (eq_depend_Of (sem T) t0 t1) h

/-- palanquin/depend.holds. -/
def ir_depend_holds : Fn' := ⟨10, [.cell 4 (some 6)],
  .ops [⟨(some 2), none, .box ty_depend_Frame (.s 0)⟩,
    ⟨(some 3), none, .box ty_depend_Structure (.s 1)⟩,
    ⟨(some 4), none, .box ty_depend_Structure (.c (V.agg [(V.int .i64 0), (V.int .i64 0), V.nils, (V.int .i64 0), V.nils, V.nils]))⟩]
  (.ops [⟨(some 5), none, .faddr 4 (.s 2)⟩,
    ⟨(some 6), none, .load none (.s 5)⟩]
  (.cond (.s 6)
  (.ops [⟨(some 7), none, .faddr 5 (.s 2)⟩,
     ⟨(some 8), none, .load (some 6) (.s 7)⟩,
     ⟨none, none, .store 6 (.s 4) (.s 8)⟩]
   (.ret))
  (.ops [⟨(some 9), none, .load (some 6) (.s 3)⟩,
     ⟨none, none, .store 6 (.s 4) (.s 9)⟩]
   (.ret))))⟩

noncomputable def f_depend_holds (G : Sem') (t0 t1 : V) : M Res :=
  (mbox ty_depend_Frame t0).bind fun t2 =>
  (mbox ty_depend_Structure t1).bind fun t3 =>
  (mbox ty_depend_Structure (V.agg [(V.int .i64 0), (V.int .i64 0), V.nils, (V.int .i64 0), V.nils, V.nils])).bind fun t4 =>
  (M.lift (Ax.faddr 4 t2)).bind fun t5 =>
  (mload none t5).bind fun t6 =>
  M.ite t6
    ((M.lift (Ax.faddr 5 t2)).bind fun t7 =>
    (mload (some 6) t7).bind fun t8 =>
    (mstore 6 t4 t8).bind fun _ =>
    (mload (some 6) t4).bind fun r0 =>
    M.pure (.ret [r0]))
    ((mload (some 6) t3).bind fun t9 =>
    (mstore 6 t4 t9).bind fun _ =>
    (mload (some 6) t4).bind fun r0 =>
    M.pure (.ret [r0]))

theorem eq_depend_holds (G : Sem') (t0 t1 : V) : execK G ir_depend_holds.rv ir_depend_holds.body [] [] (params 0 [t0, t1]) = f_depend_holds G t0 t1 := by kernel_rfl

theorem tb_depend_holds : T fn_depend_holds = some ir_depend_holds := by kernel_rfl

theorem ok_depend_holds {t0 t1 : V} {H : Heap} {Q : V → Heap → Prop} (h : Ok (f_depend_holds (sem T) t0 t1) H fun r H' => ∃ L, r = .ret L ∧ Q (tupled L) H') : Ok (sem T fn_depend_holds [t0, t1]) H Q :=
  ok_sem tb_depend_holds (Nat.le_of_ble_eq_true rfl) (eq_depend_holds (sem T) t0 t1) h

/-- palanquin/depend.template. -/
def ir_depend_template : Fn' := ⟨32, [.cell 4 (some 5), .tmp 5],
  .ops [⟨(some 2), none, .box ty_depend_Structure (.s 0)⟩,
    ⟨(some 4), none, .box ty_depend_Template (.c (V.agg [(V.int .i64 0), (V.int .i64 0), V.nils, V.nils, V.nils]))⟩,
    ⟨(some 5), none, .mv (.c (V.bool false))⟩]
  (.ops [⟨(some 7), none, .mv (.s 1)⟩,
    ⟨(some 8), none, .bin .lss (.s 7) (.c (V.int .i64 0))⟩,
    ⟨(some 9), none, .mv (.s 8)⟩,
    ⟨(some 10), (some (9, false)), .mv (.s 1)⟩,
    ⟨(some 11), (some (9, false)), .bin .geq (.s 10) (.c (V.int .i64 64))⟩,
    ⟨(some 12), none, .pick (.s 9) (.c (V.bool true)) (.s 11)⟩]
  (.cond (.s 12)
  (.ops [⟨(some 13), none, .build [(V.int .i64 0), (V.int .i64 0), V.nils, V.nils, V.nils] []⟩,
     ⟨none, none, .store 5 (.s 4) (.s 13)⟩,
     ⟨(some 5), none, .mv (.c (V.bool false))⟩]
   (.ret))
  (.ops [⟨(some 14), none, .mv (.s 1)⟩,
     ⟨(some 15), none, .bin .add (.s 14) (.c (V.int .i64 64))⟩,
     ⟨(some 16), none, .faddr 0 (.s 2)⟩,
     ⟨(some 17), none, .load none (.s 16)⟩,
     ⟨(some 18), none, .bin .sub (.s 15) (.s 17)⟩,
     ⟨(some 19), none, .bin .rem (.s 18) (.c (V.int .i64 64))⟩,
     ⟨(some 6), none, .mv (.s 19)⟩]
   (.ops [⟨(some 20), none, .mv (.s 6)⟩,
     ⟨(some 21), none, .faddr 2 (.s 2)⟩,
     ⟨(some 22), none, .load none (.s 21)⟩,
     ⟨(some 23), none, .len (.s 22)⟩,
     ⟨(some 24), none, .bin .geq (.s 20) (.s 23)⟩]
   (.cond (.s 24)
   (.ops [⟨(some 25), none, .build [(V.int .i64 0), (V.int .i64 0), V.nils, V.nils, V.nils] []⟩,
      ⟨none, none, .store 5 (.s 4) (.s 25)⟩,
      ⟨(some 5), none, .mv (.c (V.bool false))⟩]
    (.ret))
   (.ops [⟨(some 26), none, .faddr 2 (.s 2)⟩,
      ⟨(some 27), none, .load none (.s 26)⟩,
      ⟨(some 28), none, .mv (.s 6)⟩,
      ⟨(some 29), none, .iaddr none 5 (.s 27) (.s 28)⟩,
      ⟨(some 30), none, .load (some 5) (.s 29)⟩,
      ⟨(some 31), none, .call fn_depend_copied [(.s 30)]⟩,
      ⟨none, none, .store 5 (.s 4) (.s 31)⟩,
      ⟨(some 5), none, .mv (.c (V.bool true))⟩]
    (.ret)))))))⟩

noncomputable def f_depend_template (G : Sem') (t0 t1 : V) : M Res :=
  (mbox ty_depend_Structure t0).bind fun t2 =>
  (mbox ty_depend_Template (V.agg [(V.int .i64 0), (V.int .i64 0), V.nils, V.nils, V.nils])).bind fun t4 =>
  (M.lift (Ax.bin .lss t1 (V.int .i64 0))).bind fun t8 =>
  (guarded [(0, t8)] (some (0, false)) (M.pure t1)).bind fun t10 =>
  (guarded [(0, t8)] (some (0, false)) (M.lift (Ax.bin .geq t10 (V.int .i64 64)))).bind fun t11 =>
  (M.lift (Ax.pick t8 (V.bool true) t11)).bind fun t12 =>
  M.ite t12
    ((M.lift (Ax.build [(V.int .i64 0), (V.int .i64 0), V.nils, V.nils, V.nils] [])).bind fun t13 =>
    (mstore 5 t4 t13).bind fun _ =>
    (mload (some 5) t4).bind fun r0 =>
    M.pure (.ret [r0, (V.bool false)]))
    ((M.lift (Ax.bin .add t1 (V.int .i64 64))).bind fun t15 =>
    (M.lift (Ax.faddr 0 t2)).bind fun t16 =>
    (mload none t16).bind fun t17 =>
    (M.lift (Ax.bin .sub t15 t17)).bind fun t18 =>
    (M.lift (Ax.bin .rem t18 (V.int .i64 64))).bind fun t19 =>
    (M.lift (Ax.faddr 2 t2)).bind fun t21 =>
    (mload none t21).bind fun t22 =>
    (M.lift (vlen t22)).bind fun t23 =>
    (M.lift (Ax.bin .geq t19 t23)).bind fun t24 =>
    M.ite t24
      ((M.lift (Ax.build [(V.int .i64 0), (V.int .i64 0), V.nils, V.nils, V.nils] [])).bind fun t25 =>
      (mstore 5 t4 t25).bind fun _ =>
      (mload (some 5) t4).bind fun r0 =>
      M.pure (.ret [r0, (V.bool false)]))
      ((M.lift (Ax.faddr 2 t2)).bind fun t26 =>
      (mload none t26).bind fun t27 =>
      (M.lift (Ax.iaddr none 5 t27 t19)).bind fun t29 =>
      (mload (some 5) t29).bind fun t30 =>
      (G fn_depend_copied [t30]).bind fun t31 =>
      (mstore 5 t4 t31).bind fun _ =>
      (mload (some 5) t4).bind fun r0 =>
      M.pure (.ret [r0, (V.bool true)])))

theorem eq_depend_template (G : Sem') (t0 t1 : V) : execK G ir_depend_template.rv ir_depend_template.body [] [] (params 0 [t0, t1]) = f_depend_template G t0 t1 := by kernel_rfl

theorem tb_depend_template : T fn_depend_template = some ir_depend_template := by kernel_rfl

theorem ok_depend_template {t0 t1 : V} {H : Heap} {Q : V → Heap → Prop} (h : Ok (f_depend_template (sem T) t0 t1) H fun r H' => ∃ L, r = .ret L ∧ Q (tupled L) H') : Ok (sem T fn_depend_template [t0, t1]) H Q :=
  ok_sem tb_depend_template (Nat.le_of_ble_eq_true rfl) (eq_depend_template (sem T) t0 t1) h

/-- palanquin/depend.copied. -/
def ir_depend_copied : Fn' := ⟨16, [.cell 2 (some 5)],
  .ops [⟨(some 1), none, .box ty_depend_Template (.s 0)⟩,
    ⟨(some 2), none, .box ty_depend_Template (.c (V.agg [(V.int .i64 0), (V.int .i64 0), V.nils, V.nils, V.nils]))⟩]
  (.draw [⟨(some 3), none, .faddr 2 (.s 1)⟩,
    ⟨(some 4), none, .load none (.s 3)⟩,
    ⟨(some 6), none, .faddr 3 (.s 1)⟩,
    ⟨(some 7), none, .load none (.s 6)⟩,
    ⟨(some 9), none, .faddr 4 (.s 1)⟩,
    ⟨(some 10), none, .load none (.s 9)⟩,
    ⟨(some 5), none, .call fn_slices_Clone_int_int [(.s 4)]⟩,
    ⟨(some 8), none, .call fn_slices_Clone_int_int [(.s 7)]⟩,
    ⟨(some 11), none, .call fn_slices_Clone_int_int [(.s 10)]⟩,
    ⟨(some 12), none, .faddr 2 (.s 1)⟩,
    ⟨none, none, .store 1 (.s 12) (.s 5)⟩,
    ⟨(some 13), none, .faddr 3 (.s 1)⟩,
    ⟨none, none, .store 1 (.s 13) (.s 8)⟩,
    ⟨(some 14), none, .faddr 4 (.s 1)⟩,
    ⟨none, none, .store 1 (.s 14) (.s 11)⟩] [(3, 6), (5, 6), (5, 7)]
  (.ops [⟨(some 15), none, .load (some 5) (.s 1)⟩,
    ⟨none, none, .store 5 (.s 2) (.s 15)⟩]
  (.ret)))⟩

noncomputable def f_depend_copied (G : Sem') (t0 : V) : M Res :=
  (mbox ty_depend_Template t0).bind fun t1 =>
  (mbox ty_depend_Template (V.agg [(V.int .i64 0), (V.int .i64 0), V.nils, V.nils, V.nils])).bind fun t2 =>
  (M.lift (Ax.faddr 2 t1)).bind fun t3 =>
  (mload none t3).bind fun t4 =>
  (M.lift (Ax.faddr 3 t1)).bind fun t6 =>
  (mload none t6).bind fun t7 =>
  (M.lift (Ax.faddr 4 t1)).bind fun t9 =>
  (mload none t9).bind fun t10 =>
  M.getH.bind fun h0 =>
  (G fn_slices_Clone_int_int [t4]).bind fun t5 =>
  M.getH.bind fun h0' =>
  (M.unch t9 h0 h0').bind fun _ =>
  (M.unch t6 h0 h0').bind fun _ =>
  M.getH.bind fun h1 =>
  (G fn_slices_Clone_int_int [t7]).bind fun t8 =>
  M.getH.bind fun h1' =>
  (M.unch t9 h1 h1').bind fun _ =>
  (G fn_slices_Clone_int_int [t10]).bind fun t11 =>
  (M.lift (Ax.faddr 2 t1)).bind fun t12 =>
  (mstore 1 t12 t5).bind fun _ =>
  (M.lift (Ax.faddr 3 t1)).bind fun t13 =>
  (mstore 1 t13 t8).bind fun _ =>
  (M.lift (Ax.faddr 4 t1)).bind fun t14 =>
  (mstore 1 t14 t11).bind fun _ =>
  (mload (some 5) t1).bind fun t15 =>
  (mstore 5 t2 t15).bind fun _ =>
  (mload (some 5) t2).bind fun r0 =>
  M.pure (.ret [r0])

theorem eq_depend_copied (G : Sem') (t0 : V) : execK G ir_depend_copied.rv ir_depend_copied.body [] [] (params 0 [t0]) = f_depend_copied G t0 := by kernel_rfl

theorem tb_depend_copied : T fn_depend_copied = some ir_depend_copied := by kernel_rfl

theorem ok_depend_copied {t0 : V} {H : Heap} {Q : V → Heap → Prop} (h : Ok (f_depend_copied (sem T) t0) H fun r H' => ∃ L, r = .ret L ∧ Q (tupled L) H') : Ok (sem T fn_depend_copied [t0]) H Q :=
  ok_sem tb_depend_copied (Nat.le_of_ble_eq_true rfl) (eq_depend_copied (sem T) t0) h

/-- slices.Clone[[]int,int]. -/
def ir_slices_Clone_int_int : Fn' := ⟨8, [.tmp 2],
  .ops [⟨(some 2), none, .mv (.c V.nils)⟩]
  (.ops [⟨(some 3), none, .mv (.s 0)⟩,
    ⟨(some 4), none, .eq .sl false (.s 3) (.c V.nils)⟩]
  (.cond (.s 4)
  (.ops [⟨(some 2), none, .mv (.c V.nils)⟩]
   (.ret))
  (.ops [⟨(some 5), none, .slit ty_int 0 [(V.int .i64 0)] []⟩,
     ⟨(some 6), none, .mv (.s 0)⟩,
     ⟨(some 7), none, .append ty_int 1 8 (.s 5) (.s 6)⟩,
     ⟨(some 2), none, .mv (.s 7)⟩]
   (.ret))))⟩

noncomputable def f_slices_Clone_int_int (G : Sem') (t0 : V) : M Res :=
  (M.lift (eqr .sl false t0 V.nils)).bind fun t4 =>
  M.ite t4
    (M.pure (.ret [V.nils]))
    ((mslit ty_int 0 [(V.int .i64 0)] []).bind fun t5 =>
    (mappend ty_int 1 8 t5 t0).bind fun t7 =>
    M.pure (.ret [t7]))

theorem eq_slices_Clone_int_int (G : Sem') (t0 : V) : execK G ir_slices_Clone_int_int.rv ir_slices_Clone_int_int.body [] [] (params 0 [t0]) = f_slices_Clone_int_int G t0 := by kernel_rfl

theorem tb_slices_Clone_int_int : T fn_slices_Clone_int_int = some ir_slices_Clone_int_int := by kernel_rfl

theorem ok_slices_Clone_int_int {t0 : V} {H : Heap} {Q : V → Heap → Prop} (h : Ok (f_slices_Clone_int_int (sem T) t0) H fun r H' => ∃ L, r = .ret L ∧ Q (tupled L) H') : Ok (sem T fn_slices_Clone_int_int [t0]) H Q :=
  ok_sem tb_slices_Clone_int_int (Nat.le_of_ble_eq_true rfl) (eq_slices_Clone_int_int (sem T) t0) h

/-- palanquin/depend.none. -/
def ir_depend_none : Fn' := ⟨30, [.tmp 2],
  .ops [⟨(some 1), none, .box ty_depend_Structure (.s 0)⟩,
    ⟨(some 2), none, .mv (.c (V.bool false))⟩]
  (.ops [⟨(some 3), none, .faddr 0 (.s 1)⟩,
    ⟨(some 4), none, .load none (.s 3)⟩,
    ⟨(some 5), none, .bin .eql (.s 4) (.c (V.int .i64 0))⟩,
    ⟨(some 6), none, .mv (.s 5)⟩,
    ⟨(some 7), (some (6, true)), .faddr 1 (.s 1)⟩,
    ⟨(some 8), (some (6, true)), .load none (.s 7)⟩,
    ⟨(some 9), (some (6, true)), .bin .eql (.s 8) (.c (V.int .i64 0))⟩,
    ⟨(some 10), none, .pick (.s 6) (.s 9) (.c (V.bool false))⟩,
    ⟨(some 11), none, .mv (.s 10)⟩,
    ⟨(some 12), (some (11, true)), .faddr 3 (.s 1)⟩,
    ⟨(some 13), (some (11, true)), .load none (.s 12)⟩,
    ⟨(some 14), (some (11, true)), .bin .eql (.s 13) (.c (V.int .i64 0))⟩,
    ⟨(some 15), none, .pick (.s 11) (.s 14) (.c (V.bool false))⟩,
    ⟨(some 16), none, .mv (.s 15)⟩,
    ⟨(some 17), (some (16, true)), .faddr 2 (.s 1)⟩,
    ⟨(some 18), (some (16, true)), .load none (.s 17)⟩,
    ⟨(some 19), (some (16, true)), .len (.s 18)⟩,
    ⟨(some 20), (some (16, true)), .faddr 4 (.s 1)⟩,
    ⟨(some 21), (some (16, true)), .load none (.s 20)⟩,
    ⟨(some 22), (some (16, true)), .len (.s 21)⟩,
    ⟨(some 23), (some (16, true)), .bin .add (.s 19) (.s 22)⟩,
    ⟨(some 24), (some (16, true)), .faddr 5 (.s 1)⟩,
    ⟨(some 25), (some (16, true)), .load none (.s 24)⟩,
    ⟨(some 26), (some (16, true)), .len (.s 25)⟩,
    ⟨(some 27), (some (16, true)), .bin .add (.s 23) (.s 26)⟩,
    ⟨(some 28), (some (16, true)), .bin .eql (.s 27) (.c (V.int .i64 0))⟩,
    ⟨(some 29), none, .pick (.s 16) (.s 28) (.c (V.bool false))⟩,
    ⟨(some 2), none, .mv (.s 29)⟩]
  (.ret))⟩

noncomputable def f_depend_none (G : Sem') (t0 : V) : M Res :=
  (mbox ty_depend_Structure t0).bind fun t1 =>
  (M.lift (Ax.faddr 0 t1)).bind fun t3 =>
  (mload none t3).bind fun t4 =>
  (M.lift (Ax.bin .eql t4 (V.int .i64 0))).bind fun t5 =>
  (guarded [(0, t5)] (some (0, true)) (M.lift (Ax.faddr 1 t1))).bind fun t7 =>
  (guarded [(0, t5)] (some (0, true)) (mload none t7)).bind fun t8 =>
  (guarded [(0, t5)] (some (0, true)) (M.lift (Ax.bin .eql t8 (V.int .i64 0)))).bind fun t9 =>
  (M.lift (Ax.pick t5 t9 (V.bool false))).bind fun t10 =>
  (guarded [(0, t10)] (some (0, true)) (M.lift (Ax.faddr 3 t1))).bind fun t12 =>
  (guarded [(0, t10)] (some (0, true)) (mload none t12)).bind fun t13 =>
  (guarded [(0, t10)] (some (0, true)) (M.lift (Ax.bin .eql t13 (V.int .i64 0)))).bind fun t14 =>
  (M.lift (Ax.pick t10 t14 (V.bool false))).bind fun t15 =>
  (guarded [(0, t15)] (some (0, true)) (M.lift (Ax.faddr 2 t1))).bind fun t17 =>
  (guarded [(0, t15)] (some (0, true)) (mload none t17)).bind fun t18 =>
  (guarded [(0, t15)] (some (0, true)) (M.lift (vlen t18))).bind fun t19 =>
  (guarded [(0, t15)] (some (0, true)) (M.lift (Ax.faddr 4 t1))).bind fun t20 =>
  (guarded [(0, t15)] (some (0, true)) (mload none t20)).bind fun t21 =>
  (guarded [(0, t15)] (some (0, true)) (M.lift (vlen t21))).bind fun t22 =>
  (guarded [(0, t15)] (some (0, true)) (M.lift (Ax.bin .add t19 t22))).bind fun t23 =>
  (guarded [(0, t15)] (some (0, true)) (M.lift (Ax.faddr 5 t1))).bind fun t24 =>
  (guarded [(0, t15)] (some (0, true)) (mload none t24)).bind fun t25 =>
  (guarded [(0, t15)] (some (0, true)) (M.lift (vlen t25))).bind fun t26 =>
  (guarded [(0, t15)] (some (0, true)) (M.lift (Ax.bin .add t23 t26))).bind fun t27 =>
  (guarded [(0, t15)] (some (0, true)) (M.lift (Ax.bin .eql t27 (V.int .i64 0)))).bind fun t28 =>
  (M.lift (Ax.pick t15 t28 (V.bool false))).bind fun t29 =>
  M.pure (.ret [t29])

theorem eq_depend_none (G : Sem') (t0 : V) : execK G ir_depend_none.rv ir_depend_none.body [] [] (params 0 [t0]) = f_depend_none G t0 := by kernel_rfl

theorem tb_depend_none : T fn_depend_none = some ir_depend_none := by kernel_rfl

theorem ok_depend_none {t0 : V} {H : Heap} {Q : V → Heap → Prop} (h : Ok (f_depend_none (sem T) t0) H fun r H' => ∃ L, r = .ret L ∧ Q (tupled L) H') : Ok (sem T fn_depend_none [t0]) H Q :=
  ok_sem tb_depend_none (Nat.le_of_ble_eq_true rfl) (eq_depend_none (sem T) t0) h

/-- slices.Equal[[]int,int]. -/
def loop_slices_Equal_int_int_0 : C :=
  .ops [⟨(some 14), none, .bin .lss (.s 13) (.s 12)⟩]
  (.cond (.s 14)
  (.blk 1
   (.ops [⟨(some 15), none, .mv (.s 13)⟩,
      ⟨(some 5), none, .mv (.s 15)⟩]
    (.draw [⟨(some 16), none, .mv (.s 0)⟩,
      ⟨(some 17), none, .mv (.s 5)⟩,
      ⟨(some 18), none, .iaddr none 1 (.s 16) (.s 17)⟩,
      ⟨(some 19), none, .load none (.s 18)⟩,
      ⟨(some 20), none, .mv (.s 1)⟩,
      ⟨(some 21), none, .mv (.s 5)⟩,
      ⟨(some 22), none, .iaddr none 1 (.s 20) (.s 21)⟩,
      ⟨(some 23), none, .load none (.s 22)⟩,
      ⟨(some 24), none, .bin .neq (.s 19) (.s 23)⟩] []
    (.cond (.s 24)
    (.ops [⟨(some 4), none, .mv (.c (V.bool false))⟩]
     (.ret))
    (.done)))) [] [15, 5, 16, 17, 18, 19, 20, 21, 22, 23, 24, 4]
   (.ops [⟨(some 25), none, .bin .add (.s 13) (.c (V.int .i64 1))⟩,
     ⟨(some 13), none, .mv (.s 25)⟩]
   (.done)))
  (.exit 0))

def ir_slices_Equal_int_int : Fn' := ⟨26, [.tmp 4],
  .ops [⟨(some 4), none, .mv (.c (V.bool false))⟩]
  (.ops [⟨(some 6), none, .mv (.s 0)⟩,
    ⟨(some 7), none, .len (.s 6)⟩,
    ⟨(some 8), none, .mv (.s 1)⟩,
    ⟨(some 9), none, .len (.s 8)⟩,
    ⟨(some 10), none, .bin .neq (.s 7) (.s 9)⟩]
  (.cond (.s 10)
  (.ops [⟨(some 4), none, .mv (.c (V.bool false))⟩]
   (.ret))
  (.ops [⟨(some 11), none, .mv (.s 0)⟩,
     ⟨(some 12), none, .len (.s 11)⟩,
     ⟨(some 13), none, .mv (.c (V.int .i64 0))⟩]
   (.blk 0
   (.loop loop_slices_Equal_int_int_0 [13] [14, 15, 5, 16, 17, 18, 19, 20, 21, 22, 23, 24, 4, 25, 13]) [] [14, 15, 5, 16, 17, 18, 19, 20, 21, 22, 23, 24, 4, 25, 13]
   (.ops [⟨(some 4), none, .mv (.c (V.bool true))⟩]
   (.ret))))))⟩

noncomputable def f_slices_Equal_int_int_0 (G : Sem') (t12 t0 t1 : V) (L : List V) : M Res :=
  (M.lift (Ax.bin .lss (L.getD 0 .undef) t12)).bind fun t14 =>
  M.ite t14
    (M.blk 1 (
      (M.lift (Ax.iaddr none 1 t0 (L.getD 0 .undef))).bind fun t18 =>
      (mload none t18).bind fun t19 =>
      (M.lift (Ax.iaddr none 1 t1 (L.getD 0 .undef))).bind fun t22 =>
      (mload none t22).bind fun t23 =>
      (M.lift (Ax.bin .neq t19 t23)).bind fun t24 =>
      M.ite t24
        (M.pure (.ret [(V.bool false)]))
        (M.pure (.nrm []))) fun _ =>
    (M.lift (Ax.bin .add (L.getD 0 .undef) (V.int .i64 1))).bind fun t25 =>
    M.pure (.nrm [t25]))
    (M.pure (.ex 0 []))

noncomputable def f_slices_Equal_int_int (G : Sem') (t0 t1 : V) : M Res :=
  (M.lift (vlen t0)).bind fun t7 =>
  (M.lift (vlen t1)).bind fun t9 =>
  (M.lift (Ax.bin .neq t7 t9)).bind fun t10 =>
  M.ite t10
    (M.pure (.ret [(V.bool false)]))
    ((M.lift (vlen t0)).bind fun t12 =>
    M.blk 0 (
      M.iter (f_slices_Equal_int_int_0 G t12 t0 t1) [(V.int .i64 0)]) fun _ =>
    M.pure (.ret [(V.bool true)]))

theorem eq_slices_Equal_int_int (G : Sem') (t0 t1 : V) : execK G ir_slices_Equal_int_int.rv ir_slices_Equal_int_int.body [] [] (params 0 [t0, t1]) = f_slices_Equal_int_int G t0 t1 := by kernel_rfl

theorem tb_slices_Equal_int_int : T fn_slices_Equal_int_int = some ir_slices_Equal_int_int := by kernel_rfl

theorem ok_slices_Equal_int_int {t0 t1 : V} {H : Heap} {Q : V → Heap → Prop} (h : Ok (f_slices_Equal_int_int (sem T) t0 t1) H fun r H' => ∃ L, r = .ret L ∧ Q (tupled L) H') : Ok (sem T fn_slices_Equal_int_int [t0, t1]) H Q :=
  ok_sem tb_slices_Equal_int_int (Nat.le_of_ble_eq_true rfl) (eq_slices_Equal_int_int (sem T) t0 t1) h

/-- palanquin/bits.New. -/
def ir_bits_New : Fn' := ⟨3, [.tmp 0],
  .ops [⟨(some 0), none, .mv (.c V.nilp)⟩]
  (.ops [⟨(some 1), none, .build [V.nils, (V.int .i64 0)] []⟩,
    ⟨(some 2), none, .box ty_bits_Writer (.s 1)⟩,
    ⟨(some 0), none, .mv (.s 2)⟩]
  (.ret))⟩

noncomputable def f_bits_New (G : Sem') : M Res :=
  (M.lift (Ax.build [V.nils, (V.int .i64 0)] [])).bind fun t1 =>
  (mbox ty_bits_Writer t1).bind fun t2 =>
  M.pure (.ret [t2])

theorem eq_bits_New (G : Sem') : execK G ir_bits_New.rv ir_bits_New.body [] [] (params 0 []) = f_bits_New G := by kernel_rfl

theorem tb_bits_New : T fn_bits_New = some ir_bits_New := by kernel_rfl

theorem ok_bits_New {H : Heap} {Q : V → Heap → Prop} (h : Ok (f_bits_New (sem T)) H fun r H' => ∃ L, r = .ret L ∧ Q (tupled L) H') : Ok (sem T fn_bits_New []) H Q :=
  ok_sem tb_bits_New (Nat.le_of_ble_eq_true rfl) (eq_bits_New (sem T)) h

/-- (palanquin/depend.writer).bit. -/
def ir_depend_writer_bit : Fn' := ⟨9, [],
  .ops [⟨(some 2), none, .box ty_depend_writer (.s 0)⟩]
  (.ops [⟨(some 4), none, .mv (.c (V.int .i64 0))⟩]
  (.ops [⟨(some 5), none, .mv (.s 1)⟩]
  (.condJ (.s 5)
  (.ops [⟨(some 4), none, .mv (.c (V.int .i64 1))⟩]
   (.done))
  (.done) [4] [4]
  (.ops [⟨(some 6), none, .load (some 1) (.s 2)⟩,
    ⟨(some 7), none, .mv (.s 4)⟩,
    ⟨(some 8), none, .call fn_depend_writer_num [(.s 6), (.s 7), (.c (V.int .i64 1))]⟩]
  (.ret)))))⟩

noncomputable def f_depend_writer_bit (G : Sem') (t0 t1 : V) : M Res :=
  (mbox ty_depend_writer t0).bind fun t2 =>
  M.join (M.ite t1
    (M.pure (.nrm [(V.int .i64 1)]))
    (M.pure (.nrm [(V.int .i64 0)]))) fun L0 =>
  (mload (some 1) t2).bind fun t6 =>
  (G fn_depend_writer_num [t6, (L0.getD 0 .undef), (V.int .i64 1)]).bind fun t8 =>
  M.pure (.ret [])

theorem eq_depend_writer_bit (G : Sem') (t0 t1 : V) : execK G ir_depend_writer_bit.rv ir_depend_writer_bit.body [] [] (params 0 [t0, t1]) = f_depend_writer_bit G t0 t1 := by kernel_rfl

theorem tb_depend_writer_bit : T fn_depend_writer_bit = some ir_depend_writer_bit := by kernel_rfl

theorem ok_depend_writer_bit {t0 t1 : V} {H : Heap} {Q : V → Heap → Prop} (h : Ok (f_depend_writer_bit (sem T) t0 t1) H fun r H' => ∃ L, r = .ret L ∧ Q (tupled L) H') : Ok (sem T fn_depend_writer_bit [t0, t1]) H Q :=
  ok_sem tb_depend_writer_bit (Nat.le_of_ble_eq_true rfl) (eq_depend_writer_bit (sem T) t0 t1) h

/-- (palanquin/depend.writer).num. -/
def ir_depend_writer_num : Fn' := ⟨12, [],
  .ops [⟨(some 3), none, .box ty_depend_writer (.s 0)⟩]
  (.ops [⟨(some 6), none, .faddr 0 (.s 3)⟩,
    ⟨(some 7), none, .load none (.s 6)⟩,
    ⟨(some 8), none, .mv (.s 1)⟩,
    ⟨(some 9), none, .cint .u64 (.s 8)⟩,
    ⟨(some 10), none, .mv (.s 2)⟩,
    ⟨(some 11), none, .call fn_bits_Writer_Add [(.s 7), (.s 9), (.s 10)]⟩]
  (.ret))⟩

noncomputable def f_depend_writer_num (G : Sem') (t0 t1 t2 : V) : M Res :=
  (mbox ty_depend_writer t0).bind fun t3 =>
  (M.lift (Ax.faddr 0 t3)).bind fun t6 =>
  (mload none t6).bind fun t7 =>
  (M.lift (Ax.cint .u64 t1)).bind fun t9 =>
  (G fn_bits_Writer_Add [t7, t9, t2]).bind fun t11 =>
  M.pure (.ret [])

theorem eq_depend_writer_num (G : Sem') (t0 t1 t2 : V) : execK G ir_depend_writer_num.rv ir_depend_writer_num.body [] [] (params 0 [t0, t1, t2]) = f_depend_writer_num G t0 t1 t2 := by kernel_rfl

theorem tb_depend_writer_num : T fn_depend_writer_num = some ir_depend_writer_num := by kernel_rfl

theorem ok_depend_writer_num {t0 t1 t2 : V} {H : Heap} {Q : V → Heap → Prop} (h : Ok (f_depend_writer_num (sem T) t0 t1 t2) H fun r H' => ∃ L, r = .ret L ∧ Q (tupled L) H') : Ok (sem T fn_depend_writer_num [t0, t1, t2]) H Q :=
  ok_sem tb_depend_writer_num (Nat.le_of_ble_eq_true rfl) (eq_depend_writer_num (sem T) t0 t1 t2) h

/-- (*palanquin/bits.Writer).Add. -/
def loop_bits_Writer_Add_0 : C :=
  .ops [⟨(some 22), none, .mv (.s 7)⟩,
    ⟨(some 23), none, .bin .geq (.s 22) (.c (V.int .i64 0))⟩]
  (.cond (.s 23)
  (.blk 1
   (.ops [⟨(some 26), none, .mv (.s 0)⟩,
      ⟨(some 27), none, .nilck (.s 26)⟩,
      ⟨(some 28), none, .faddr 1 (.s 27)⟩,
      ⟨(some 29), none, .load none (.s 28)⟩,
      ⟨(some 30), none, .bin .rem (.s 29) (.c (V.int .i64 8))⟩,
      ⟨(some 31), none, .bin .eql (.s 30) (.c (V.int .i64 0))⟩]
    (.condJ (.s 31)
    (.ops [⟨(some 32), none, .mv (.s 0)⟩,
       ⟨(some 33), none, .mv (.s 0)⟩,
       ⟨(some 34), none, .nilck (.s 33)⟩,
       ⟨(some 35), none, .faddr 0 (.s 34)⟩,
       ⟨(some 36), none, .load none (.s 35)⟩,
       ⟨(some 37), none, .slit ty_uint8 1 [(V.int .u8 0)] [(0, 1, (.c (V.int .u8 0)))]⟩,
       ⟨(some 38), none, .append ty_uint8 1 1 (.s 36) (.s 37)⟩,
       ⟨(some 39), none, .nilck (.s 32)⟩,
       ⟨(some 40), none, .faddr 0 (.s 39)⟩,
       ⟨none, none, .store 1 (.s 40) (.s 38)⟩]
     (.done))
    (.done) [] [32, 33, 34, 35, 36, 37, 38, 39, 40]
    (.ops [⟨(some 41), none, .mv (.s 1)⟩,
      ⟨(some 42), none, .mv (.s 7)⟩,
      ⟨(some 43), none, .bin .shr (.s 41) (.s 42)⟩,
      ⟨(some 44), none, .bin .and (.s 43) (.c (V.int .u64 1))⟩,
      ⟨(some 45), none, .bin .eql (.s 44) (.c (V.int .u64 1))⟩]
    (.condJ (.s 45)
    (.draw [⟨(some 46), none, .mv (.s 0)⟩,
       ⟨(some 47), none, .nilck (.s 46)⟩,
       ⟨(some 48), none, .faddr 0 (.s 47)⟩,
       ⟨(some 49), none, .load none (.s 48)⟩,
       ⟨(some 50), none, .mv (.s 0)⟩,
       ⟨(some 51), none, .nilck (.s 50)⟩,
       ⟨(some 52), none, .faddr 1 (.s 51)⟩,
       ⟨(some 53), none, .load none (.s 52)⟩,
       ⟨(some 54), none, .bin .quo (.s 53) (.c (V.int .i64 8))⟩,
       ⟨(some 55), none, .iaddr none 1 (.s 49) (.s 54)⟩,
       ⟨(some 56), none, .load none (.s 55)⟩,
       ⟨(some 57), none, .mv (.s 0)⟩,
       ⟨(some 58), none, .nilck (.s 57)⟩,
       ⟨(some 59), none, .faddr 1 (.s 58)⟩,
       ⟨(some 60), none, .load none (.s 59)⟩,
       ⟨(some 61), none, .bin .rem (.s 60) (.c (V.int .i64 8))⟩,
       ⟨(some 62), none, .bin .shr (.c (V.int .u8 128)) (.s 61)⟩,
       ⟨(some 63), none, .bin .or (.s 56) (.s 62)⟩,
       ⟨(some 64), none, .iaddr none 1 (.s 49) (.s 54)⟩,
       ⟨none, none, .store 1 (.s 64) (.s 63)⟩] []
     (.done))
    (.done) [] [46, 47, 48, 49, 50, 51, 52, 53, 54, 55, 56, 57, 58, 59, 60, 61, 62, 63, 64]
    (.ops [⟨(some 65), none, .mv (.s 0)⟩,
      ⟨(some 66), none, .nilck (.s 65)⟩,
      ⟨(some 67), none, .faddr 1 (.s 66)⟩,
      ⟨(some 68), none, .load none (.s 67)⟩,
      ⟨(some 69), none, .bin .add (.s 68) (.c (V.int .i64 1))⟩,
      ⟨(some 70), none, .nilck (.s 65)⟩,
      ⟨(some 71), none, .faddr 1 (.s 70)⟩,
      ⟨none, none, .store 1 (.s 71) (.s 69)⟩]
    (.done)))))) [] [26, 27, 28, 29, 30, 31, 32, 33, 34, 35, 36, 37, 38, 39, 40, 41, 42, 43, 44, 45, 46, 47, 48, 49, 50, 51, 52, 53, 54, 55, 56, 57, 58, 59, 60, 61, 62, 63, 64, 65, 66, 67, 68, 69, 70, 71]
   (.ops [⟨(some 24), none, .mv (.s 7)⟩,
     ⟨(some 25), none, .bin .sub (.s 24) (.c (V.int .i64 1))⟩,
     ⟨(some 7), none, .mv (.s 25)⟩]
   (.done)))
  (.exit 0))

def ir_bits_Writer_Add : Fn' := ⟨72, [.tmp 6],
  .ops [⟨(some 6), none, .mv (.c (V.int .i64 0))⟩]
  (.ops [⟨(some 8), none, .mv (.s 2)⟩,
    ⟨(some 9), none, .bin .lss (.s 8) (.c (V.int .i64 0))⟩,
    ⟨(some 10), none, .mv (.s 9)⟩,
    ⟨(some 11), (some (10, false)), .mv (.s 2)⟩,
    ⟨(some 12), (some (10, false)), .bin .gtr (.s 11) (.c (V.int .i64 64))⟩,
    ⟨(some 13), none, .pick (.s 10) (.c (V.bool true)) (.s 12)⟩,
    ⟨(some 14), none, .mv (.s 13)⟩,
    ⟨(some 15), (some (14, false)), .mv (.s 1)⟩,
    ⟨(some 16), (some (14, false)), .call fn_math_bits_Len64 [(.s 15)]⟩,
    ⟨(some 17), (some (14, false)), .mv (.s 2)⟩,
    ⟨(some 18), (some (14, false)), .bin .gtr (.s 16) (.s 17)⟩,
    ⟨(some 19), none, .pick (.s 14) (.c (V.bool true)) (.s 18)⟩]
  (.cond (.s 19)
  (.ops [⟨(some 6), none, .mv (.c (V.int .i64 1))⟩]
   (.ret))
  (.ops [⟨(some 20), none, .mv (.s 2)⟩,
     ⟨(some 21), none, .bin .sub (.s 20) (.c (V.int .i64 1))⟩,
     ⟨(some 7), none, .mv (.s 21)⟩]
   (.blk 0
   (.loop loop_bits_Writer_Add_0 [7] [22, 23, 26, 27, 28, 29, 30, 31, 32, 33, 34, 35, 36, 37, 38, 39, 40, 41, 42, 43, 44, 45, 46, 47, 48, 49, 50, 51, 52, 53, 54, 55, 56, 57, 58, 59, 60, 61, 62, 63, 64, 65, 66, 67, 68, 69, 70, 71, 24, 25, 7]) [] [22, 23, 26, 27, 28, 29, 30, 31, 32, 33, 34, 35, 36, 37, 38, 39, 40, 41, 42, 43, 44, 45, 46, 47, 48, 49, 50, 51, 52, 53, 54, 55, 56, 57, 58, 59, 60, 61, 62, 63, 64, 65, 66, 67, 68, 69, 70, 71, 24, 25, 7]
   (.ops [⟨(some 6), none, .mv (.c (V.int .i64 0))⟩]
   (.ret))))))⟩

noncomputable def f_bits_Writer_Add_0 (G : Sem') (t1 t0 t6 : V) (L : List V) : M Res :=
  (M.lift (Ax.bin .geq (L.getD 0 .undef) (V.int .i64 0))).bind fun t23 =>
  M.ite t23
    (M.blk 1 (
      (M.lift (Ax.nilck t0)).bind fun t27 =>
      (M.lift (Ax.faddr 1 t27)).bind fun t28 =>
      (mload none t28).bind fun t29 =>
      (M.lift (Ax.bin .rem t29 (V.int .i64 8))).bind fun t30 =>
      (M.lift (Ax.bin .eql t30 (V.int .i64 0))).bind fun t31 =>
      M.join (M.ite t31
        ((M.lift (Ax.nilck t0)).bind fun t34 =>
        (M.lift (Ax.faddr 0 t34)).bind fun t35 =>
        (mload none t35).bind fun t36 =>
        (mslit ty_uint8 1 [(V.int .u8 0)] [(0, 1, (V.int .u8 0))]).bind fun t37 =>
        (mappend ty_uint8 1 1 t36 t37).bind fun t38 =>
        (M.lift (Ax.nilck t0)).bind fun t39 =>
        (M.lift (Ax.faddr 0 t39)).bind fun t40 =>
        (mstore 1 t40 t38).bind fun _ =>
        M.pure (.nrm []))
        (M.pure (.nrm []))) fun _ =>
      (M.lift (Ax.bin .shr t1 (L.getD 0 .undef))).bind fun t43 =>
      (M.lift (Ax.bin .and t43 (V.int .u64 1))).bind fun t44 =>
      (M.lift (Ax.bin .eql t44 (V.int .u64 1))).bind fun t45 =>
      M.join (M.ite t45
        ((M.lift (Ax.nilck t0)).bind fun t47 =>
        (M.lift (Ax.faddr 0 t47)).bind fun t48 =>
        (mload none t48).bind fun t49 =>
        (M.lift (Ax.nilck t0)).bind fun t51 =>
        (M.lift (Ax.faddr 1 t51)).bind fun t52 =>
        (mload none t52).bind fun t53 =>
        (M.lift (Ax.bin .quo t53 (V.int .i64 8))).bind fun t54 =>
        (M.lift (Ax.iaddr none 1 t49 t54)).bind fun t55 =>
        (mload none t55).bind fun t56 =>
        (M.lift (Ax.nilck t0)).bind fun t58 =>
        (M.lift (Ax.faddr 1 t58)).bind fun t59 =>
        (mload none t59).bind fun t60 =>
        (M.lift (Ax.bin .rem t60 (V.int .i64 8))).bind fun t61 =>
        (M.lift (Ax.bin .shr (V.int .u8 128) t61)).bind fun t62 =>
        (M.lift (Ax.bin .or t56 t62)).bind fun t63 =>
        (M.lift (Ax.iaddr none 1 t49 t54)).bind fun t64 =>
        (mstore 1 t64 t63).bind fun _ =>
        M.pure (.nrm []))
        (M.pure (.nrm []))) fun _ =>
      (M.lift (Ax.nilck t0)).bind fun t66 =>
      (M.lift (Ax.faddr 1 t66)).bind fun t67 =>
      (mload none t67).bind fun t68 =>
      (M.lift (Ax.bin .add t68 (V.int .i64 1))).bind fun t69 =>
      (M.lift (Ax.nilck t0)).bind fun t70 =>
      (M.lift (Ax.faddr 1 t70)).bind fun t71 =>
      (mstore 1 t71 t69).bind fun _ =>
      M.pure (.nrm [])) fun _ =>
    (M.lift (Ax.bin .sub (L.getD 0 .undef) (V.int .i64 1))).bind fun t25 =>
    M.pure (.nrm [t25]))
    (M.pure (.ex 0 []))

noncomputable def f_bits_Writer_Add (G : Sem') (t0 t1 t2 : V) : M Res :=
  (M.lift (Ax.bin .lss t2 (V.int .i64 0))).bind fun t9 =>
  (guarded [(0, t9)] (some (0, false)) (M.pure t2)).bind fun t11 =>
  (guarded [(0, t9)] (some (0, false)) (M.lift (Ax.bin .gtr t11 (V.int .i64 64)))).bind fun t12 =>
  (M.lift (Ax.pick t9 (V.bool true) t12)).bind fun t13 =>
  (guarded [(0, t13)] (some (0, false)) (M.pure t1)).bind fun t15 =>
  (guarded [(0, t13)] (some (0, false)) (G fn_math_bits_Len64 [t15])).bind fun t16 =>
  (guarded [(0, t13)] (some (0, false)) (M.pure t2)).bind fun t17 =>
  (guarded [(0, t13)] (some (0, false)) (M.lift (Ax.bin .gtr t16 t17))).bind fun t18 =>
  (M.lift (Ax.pick t13 (V.bool true) t18)).bind fun t19 =>
  M.ite t19
    (M.pure (.ret [(V.int .i64 1)]))
    ((M.lift (Ax.bin .sub t2 (V.int .i64 1))).bind fun t21 =>
    M.blk 0 (
      M.iter (f_bits_Writer_Add_0 G t1 t0 (V.int .i64 0)) [t21]) fun _ =>
    M.pure (.ret [(V.int .i64 0)]))

theorem eq_bits_Writer_Add (G : Sem') (t0 t1 t2 : V) : execK G ir_bits_Writer_Add.rv ir_bits_Writer_Add.body [] [] (params 0 [t0, t1, t2]) = f_bits_Writer_Add G t0 t1 t2 := by kernel_rfl

theorem tb_bits_Writer_Add : T fn_bits_Writer_Add = some ir_bits_Writer_Add := by kernel_rfl

theorem ok_bits_Writer_Add {t0 t1 t2 : V} {H : Heap} {Q : V → Heap → Prop} (h : Ok (f_bits_Writer_Add (sem T) t0 t1 t2) H fun r H' => ∃ L, r = .ret L ∧ Q (tupled L) H') : Ok (sem T fn_bits_Writer_Add [t0, t1, t2]) H Q :=
  ok_sem tb_bits_Writer_Add (Nat.le_of_ble_eq_true rfl) (eq_bits_Writer_Add (sem T) t0 t1 t2) h

def str_math_bits_Len64_0 : ByteArray := ⟨#[0, 1, 2, 2, 3, 3, 3, 3, 4, 4, 4, 4, 4, 4, 4, 4, 5, 5, 5, 5, 5, 5, 5, 5, 5, 5, 5, 5, 5, 5, 5, 5, 6, 6, 6, 6, 6, 6, 6, 6, 6, 6, 6, 6, 6, 6, 6, 6, 6, 6, 6, 6, 6, 6, 6, 6, 6, 6, 6, 6, 6, 6, 6, 6, 7, 7, 7, 7, 7, 7, 7, 7, 7, 7, 7, 7, 7, 7, 7, 7, 7, 7, 7, 7, 7, 7, 7, 7, 7, 7, 7, 7, 7, 7, 7, 7, 7, 7, 7, 7, 7, 7, 7, 7, 7, 7, 7, 7, 7, 7, 7, 7, 7, 7, 7, 7, 7, 7, 7, 7, 7, 7, 7, 7, 7, 7, 7, 7, 8, 8, 8, 8, 8, 8, 8, 8, 8, 8, 8, 8, 8, 8, 8, 8, 8, 8, 8, 8, 8, 8, 8, 8, 8, 8, 8, 8, 8, 8, 8, 8, 8, 8, 8, 8, 8, 8, 8, 8, 8, 8, 8, 8, 8, 8, 8, 8, 8, 8, 8, 8, 8, 8, 8, 8, 8, 8, 8, 8, 8, 8, 8, 8, 8, 8, 8, 8, 8, 8, 8, 8, 8, 8, 8, 8, 8, 8, 8, 8, 8, 8, 8, 8, 8, 8, 8, 8, 8, 8, 8, 8, 8, 8, 8, 8, 8, 8, 8, 8, 8, 8, 8, 8, 8, 8, 8, 8, 8, 8, 8, 8, 8, 8, 8, 8, 8, 8, 8, 8, 8, 8, 8, 8, 8, 8, 8, 8]⟩

/-- math/bits.Len64. -/
def ir_math_bits_Len64 : Fn' := ⟨25, [.tmp 2],
  .ops [⟨(some 2), none, .mv (.c (V.int .i64 0))⟩]
  (.ops [⟨(some 3), none, .mv (.s 0)⟩,
    ⟨(some 4), none, .bin .geq (.s 3) (.c (V.int .u64 4294967296))⟩]
  (.condJ (.s 4)
  (.ops [⟨(some 5), none, .mv (.s 0)⟩,
     ⟨(some 6), none, .bin .shr (.s 5) (.c (V.int .u64 32))⟩,
     ⟨(some 0), none, .mv (.s 6)⟩]
   (.ops [⟨(some 2), none, .mv (.c (V.int .i64 32))⟩]
   (.done)))
  (.done) [0, 2] [5, 6, 0, 2]
  (.ops [⟨(some 7), none, .mv (.s 0)⟩,
    ⟨(some 8), none, .bin .geq (.s 7) (.c (V.int .u64 65536))⟩]
  (.condJ (.s 8)
  (.ops [⟨(some 9), none, .mv (.s 0)⟩,
     ⟨(some 10), none, .bin .shr (.s 9) (.c (V.int .u64 16))⟩,
     ⟨(some 0), none, .mv (.s 10)⟩]
   (.ops [⟨(some 11), none, .mv (.s 2)⟩,
     ⟨(some 12), none, .bin .add (.s 11) (.c (V.int .i64 16))⟩,
     ⟨(some 2), none, .mv (.s 12)⟩]
   (.done)))
  (.done) [0, 2] [9, 10, 0, 11, 12, 2]
  (.ops [⟨(some 13), none, .mv (.s 0)⟩,
    ⟨(some 14), none, .bin .geq (.s 13) (.c (V.int .u64 256))⟩]
  (.condJ (.s 14)
  (.ops [⟨(some 15), none, .mv (.s 0)⟩,
     ⟨(some 16), none, .bin .shr (.s 15) (.c (V.int .u64 8))⟩,
     ⟨(some 0), none, .mv (.s 16)⟩]
   (.ops [⟨(some 17), none, .mv (.s 2)⟩,
     ⟨(some 18), none, .bin .add (.s 17) (.c (V.int .i64 8))⟩,
     ⟨(some 2), none, .mv (.s 18)⟩]
   (.done)))
  (.done) [0, 2] [15, 16, 0, 17, 18, 2]
  (.ops [⟨(some 19), none, .mv (.s 2)⟩,
    ⟨(some 20), none, .mv (.s 0)⟩,
    ⟨(some 21), none, .cint .u8 (.s 20)⟩,
    ⟨(some 22), none, .sindex (.c (V.str str_math_bits_Len64_0)) (.s 21)⟩,
    ⟨(some 23), none, .cint .i64 (.s 22)⟩,
    ⟨(some 24), none, .bin .add (.s 19) (.s 23)⟩,
    ⟨(some 2), none, .mv (.s 24)⟩]
  (.ret))))))))⟩

noncomputable def f_math_bits_Len64 (G : Sem') (t0 : V) : M Res :=
  (M.lift (Ax.bin .geq t0 (V.int .u64 4294967296))).bind fun t4 =>
  M.join (M.ite t4
    ((M.lift (Ax.bin .shr t0 (V.int .u64 32))).bind fun t6 =>
    M.pure (.nrm [t6, (V.int .i64 32)]))
    (M.pure (.nrm [t0, (V.int .i64 0)]))) fun L0 =>
  (M.lift (Ax.bin .geq (L0.getD 0 .undef) (V.int .u64 65536))).bind fun t8 =>
  M.join (M.ite t8
    ((M.lift (Ax.bin .shr (L0.getD 0 .undef) (V.int .u64 16))).bind fun t10 =>
    (M.lift (Ax.bin .add (L0.getD 1 .undef) (V.int .i64 16))).bind fun t12 =>
    M.pure (.nrm [t10, t12]))
    (M.pure (.nrm [(L0.getD 0 .undef), (L0.getD 1 .undef)]))) fun L1 =>
  (M.lift (Ax.bin .geq (L1.getD 0 .undef) (V.int .u64 256))).bind fun t14 =>
  M.join (M.ite t14
    ((M.lift (Ax.bin .shr (L1.getD 0 .undef) (V.int .u64 8))).bind fun t16 =>
    (M.lift (Ax.bin .add (L1.getD 1 .undef) (V.int .i64 8))).bind fun t18 =>
    M.pure (.nrm [t16, t18]))
    (M.pure (.nrm [(L1.getD 0 .undef), (L1.getD 1 .undef)]))) fun L2 =>
  (M.lift (Ax.cint .u8 (L2.getD 0 .undef))).bind fun t21 =>
  (M.lift (Ax.sindex (V.str str_math_bits_Len64_0) t21)).bind fun t22 =>
  (M.lift (Ax.cint .i64 t22)).bind fun t23 =>
  (M.lift (Ax.bin .add (L2.getD 1 .undef) t23)).bind fun t24 =>
  M.pure (.ret [t24])

theorem eq_math_bits_Len64 (G : Sem') (t0 : V) : execK G ir_math_bits_Len64.rv ir_math_bits_Len64.body [] [] (params 0 [t0]) = f_math_bits_Len64 G t0 := by kernel_rfl

theorem tb_math_bits_Len64 : T fn_math_bits_Len64 = some ir_math_bits_Len64 := by kernel_rfl

theorem ok_math_bits_Len64 {t0 : V} {H : Heap} {Q : V → Heap → Prop} (h : Ok (f_math_bits_Len64 (sem T) t0) H fun r H' => ∃ L, r = .ret L ∧ Q (tupled L) H') : Ok (sem T fn_math_bits_Len64 [t0]) H Q :=
  ok_sem tb_math_bits_Len64 (Nat.le_of_ble_eq_true rfl) (eq_math_bits_Len64 (sem T) t0) h

/-- (*palanquin/bits.Writer).Bytes. -/
def ir_bits_Writer_Bytes : Fn' := ⟨8, [.tmp 2],
  .ops [⟨(some 2), none, .mv (.c V.nils)⟩]
  (.ops [⟨(some 3), none, .mv (.s 0)⟩,
    ⟨(some 4), none, .nilck (.s 3)⟩,
    ⟨(some 5), none, .faddr 0 (.s 4)⟩,
    ⟨(some 6), none, .load none (.s 5)⟩,
    ⟨(some 7), none, .append ty_uint8 1 1 (.c V.nils) (.s 6)⟩,
    ⟨(some 2), none, .mv (.s 7)⟩]
  (.ret))⟩

noncomputable def f_bits_Writer_Bytes (G : Sem') (t0 : V) : M Res :=
  (M.lift (Ax.nilck t0)).bind fun t4 =>
  (M.lift (Ax.faddr 0 t4)).bind fun t5 =>
  (mload none t5).bind fun t6 =>
  (mappend ty_uint8 1 1 V.nils t6).bind fun t7 =>
  M.pure (.ret [t7])

theorem eq_bits_Writer_Bytes (G : Sem') (t0 : V) : execK G ir_bits_Writer_Bytes.rv ir_bits_Writer_Bytes.body [] [] (params 0 [t0]) = f_bits_Writer_Bytes G t0 := by kernel_rfl

theorem tb_bits_Writer_Bytes : T fn_bits_Writer_Bytes = some ir_bits_Writer_Bytes := by kernel_rfl

theorem ok_bits_Writer_Bytes {t0 : V} {H : Heap} {Q : V → Heap → Prop} (h : Ok (f_bits_Writer_Bytes (sem T) t0) H fun r H' => ∃ L, r = .ret L ∧ Q (tupled L) H') : Ok (sem T fn_bits_Writer_Bytes [t0]) H Q :=
  ok_sem tb_bits_Writer_Bytes (Nat.le_of_ble_eq_true rfl) (eq_bits_Writer_Bytes (sem T) t0) h

/-- (palanquin/depend.writer).structure. -/
def loop_depend_writer_structure_0 : C :=
  .ops [⟨(some 31), none, .bin .lss (.s 30) (.s 29)⟩]
  (.cond (.s 31)
  (.blk 1
   (.ops [⟨(some 32), none, .mv (.s 30)⟩,
      ⟨(some 4), none, .mv (.s 32)⟩]
    (.ops [⟨(some 5), none, .mv (.c (V.int .i64 3))⟩]
    (.ops [⟨(some 33), none, .mv (.s 4)⟩,
      ⟨(some 34), none, .bin .add (.s 33) (.c (V.int .i64 1))⟩,
      ⟨(some 35), none, .faddr 2 (.s 3)⟩,
      ⟨(some 36), none, .load none (.s 35)⟩,
      ⟨(some 37), none, .len (.s 36)⟩,
      ⟨(some 38), none, .bin .lss (.s 34) (.s 37)⟩]
    (.condJ (.s 38)
    (.draw [⟨(some 40), none, .faddr 2 (.s 3)⟩,
       ⟨(some 41), none, .load none (.s 40)⟩,
       ⟨(some 42), none, .mv (.s 4)⟩,
       ⟨(some 43), none, .iaddr none 5 (.s 41) (.s 42)⟩,
       ⟨(some 44), none, .load (some 5) (.s 43)⟩,
       ⟨(some 45), none, .faddr 2 (.s 3)⟩,
       ⟨(some 46), none, .load none (.s 45)⟩,
       ⟨(some 47), none, .mv (.s 4)⟩,
       ⟨(some 48), none, .bin .add (.s 47) (.c (V.int .i64 1))⟩,
       ⟨(some 49), none, .iaddr none 5 (.s 46) (.s 48)⟩,
       ⟨(some 50), none, .load (some 5) (.s 49)⟩,
       ⟨(some 51), none, .call fn_depend_next [(.s 44), (.s 50)]⟩,
       ⟨(some 39), none, .mv (.s 51)⟩,
       ⟨(some 52), none, .ext 0 (.s 39)⟩,
       ⟨(some 53), none, .ext 1 (.s 39)⟩,
       ⟨(some 5), none, .mv (.s 52)⟩] []
     (.done))
    (.done) [5] [40, 41, 42, 43, 44, 45, 46, 47, 48, 49, 50, 51, 39, 52, 53, 5]
    (.ops [⟨(some 54), none, .load (some 1) (.s 2)⟩,
      ⟨(some 55), none, .mv (.s 5)⟩,
      ⟨(some 56), none, .call fn_depend_writer_num [(.s 54), (.s 55), (.c (V.int .i64 2))]⟩]
    (.done)))))) [] [32, 4, 5, 33, 34, 35, 36, 37, 38, 40, 41, 42, 43, 44, 45, 46, 47, 48, 49, 50, 51, 39, 52, 53, 5, 54, 55, 56]
   (.ops [⟨(some 57), none, .bin .add (.s 30) (.c (V.int .i64 1))⟩,
     ⟨(some 30), none, .mv (.s 57)⟩]
   (.done)))
  (.exit 0))

def loop_depend_writer_structure_1 : C :=
  .ops [⟨(some 62), none, .bin .lss (.s 61) (.s 60)⟩]
  (.cond (.s 62)
  (.blk 3
   (.ops [⟨(some 63), none, .iaddr none 5 (.s 59) (.s 61)⟩,
      ⟨(some 64), none, .load (some 5) (.s 63)⟩,
      ⟨(some 7), none, .box ty_depend_Template (.c (V.agg [(V.int .i64 0), (V.int .i64 0), V.nils, V.nils, V.nils]))⟩,
      ⟨none, none, .store 5 (.s 7) (.s 64)⟩]
    (.ops [⟨(some 65), none, .load (some 1) (.s 2)⟩,
      ⟨(some 66), none, .faddr 2 (.s 7)⟩,
      ⟨(some 67), none, .load none (.s 66)⟩,
      ⟨(some 68), none, .call fn_depend_writer_nums [(.s 65), (.s 67), (.c (V.int .i64 2))]⟩]
    (.done))) [] [63, 64, 7, 65, 66, 67, 68]
   (.ops [⟨(some 69), none, .bin .add (.s 61) (.c (V.int .i64 1))⟩,
     ⟨(some 61), none, .mv (.s 69)⟩]
   (.done)))
  (.exit 2))

def loop_depend_writer_structure_2 : C :=
  .ops [⟨(some 81), none, .bin .lss (.s 80) (.s 79)⟩]
  (.cond (.s 81)
  (.blk 7
   (.ops [⟨(some 82), none, .iaddr none 1 (.s 78) (.s 80)⟩,
      ⟨(some 83), none, .load none (.s 82)⟩,
      ⟨(some 11), none, .mv (.s 83)⟩]
    (.ops [⟨(some 84), none, .load (some 1) (.s 2)⟩,
      ⟨(some 85), none, .call fn_depend_writer_bit [(.s 84), (.c (V.bool true))]⟩]
    (.ops [⟨(some 86), none, .load (some 1) (.s 2)⟩,
      ⟨(some 87), none, .mv (.s 11)⟩,
      ⟨(some 88), none, .bin .sub (.s 87) (.c (V.int .i64 1))⟩,
      ⟨(some 89), none, .call fn_depend_writer_num [(.s 86), (.s 88), (.c (V.int .i64 4))]⟩]
    (.done)))) [] [82, 83, 11, 84, 85, 86, 87, 88, 89]
   (.ops [⟨(some 90), none, .bin .add (.s 80) (.c (V.int .i64 1))⟩,
     ⟨(some 80), none, .mv (.s 90)⟩]
   (.done)))
  (.exit 6))

def loop_depend_writer_structure_3 : C :=
  .ops [⟨(some 74), none, .bin .lss (.s 73) (.s 72)⟩]
  (.cond (.s 74)
  (.blk 5
   (.ops [⟨(some 75), none, .iaddr none 5 (.s 71) (.s 73)⟩,
      ⟨(some 76), none, .load (some 5) (.s 75)⟩,
      ⟨(some 9), none, .box ty_depend_Template (.c (V.agg [(V.int .i64 0), (V.int .i64 0), V.nils, V.nils, V.nils]))⟩,
      ⟨none, none, .store 5 (.s 9) (.s 76)⟩]
    (.ops [⟨(some 77), none, .faddr 3 (.s 9)⟩,
      ⟨(some 78), none, .load none (.s 77)⟩,
      ⟨(some 79), none, .len (.s 78)⟩,
      ⟨(some 80), none, .mv (.c (V.int .i64 0))⟩]
    (.blk 6
    (.loop loop_depend_writer_structure_2 [80] [81, 82, 83, 11, 84, 85, 86, 87, 88, 89, 90, 80]) [] [81, 82, 83, 11, 84, 85, 86, 87, 88, 89, 90, 80]
    (.ops [⟨(some 91), none, .load (some 1) (.s 2)⟩,
      ⟨(some 92), none, .call fn_depend_writer_bit [(.s 91), (.c (V.bool false))]⟩]
    (.done))))) [] [75, 76, 9, 77, 78, 79, 80, 81, 82, 83, 11, 84, 85, 86, 87, 88, 89, 90, 80, 91, 92]
   (.ops [⟨(some 93), none, .bin .add (.s 73) (.c (V.int .i64 1))⟩,
     ⟨(some 73), none, .mv (.s 93)⟩]
   (.done)))
  (.exit 4))

def loop_depend_writer_structure_4 : C :=
  .ops [⟨(some 111), none, .bin .lss (.s 110) (.s 109)⟩]
  (.cond (.s 111)
  (.blk 9
   (.ops [⟨(some 112), none, .iaddr none 1 (.s 108) (.s 110)⟩,
      ⟨(some 113), none, .load none (.s 112)⟩,
      ⟨(some 13), none, .mv (.s 113)⟩]
    (.ops [⟨(some 114), none, .faddr 0 (.s 2)⟩,
      ⟨(some 115), none, .load none (.s 114)⟩,
      ⟨(some 116), none, .mv (.s 13)⟩,
      ⟨(some 117), none, .cint .u64 (.s 116)⟩,
      ⟨(some 118), none, .faddr 3 (.s 3)⟩,
      ⟨(some 119), none, .load none (.s 118)⟩,
      ⟨(some 120), none, .cint .u64 (.s 119)⟩,
      ⟨(some 121), none, .call fn_bits_Writer_AddNS [(.s 115), (.s 117), (.s 120)]⟩]
    (.done))) [] [112, 113, 13, 114, 115, 116, 117, 118, 119, 120, 121]
   (.ops [⟨(some 122), none, .bin .add (.s 110) (.c (V.int .i64 1))⟩,
     ⟨(some 110), none, .mv (.s 122)⟩]
   (.done)))
  (.exit 8))

def loop_depend_writer_structure_5 : C :=
  .ops [⟨(some 127), none, .bin .lss (.s 126) (.s 125)⟩]
  (.cond (.s 127)
  (.blk 11
   (.ops [⟨(some 128), none, .iaddr none 5 (.s 124) (.s 126)⟩,
      ⟨(some 129), none, .load (some 5) (.s 128)⟩,
      ⟨(some 15), none, .box ty_depend_Template (.c (V.agg [(V.int .i64 0), (V.int .i64 0), V.nils, V.nils, V.nils]))⟩,
      ⟨none, none, .store 5 (.s 15) (.s 129)⟩]
    (.ops [⟨(some 130), none, .load (some 1) (.s 2)⟩,
      ⟨(some 131), none, .faddr 4 (.s 15)⟩,
      ⟨(some 132), none, .load none (.s 131)⟩,
      ⟨(some 133), none, .call fn_depend_writer_nums [(.s 130), (.s 132), (.c (V.int .i64 4))]⟩]
    (.done))) [] [128, 129, 15, 130, 131, 132, 133]
   (.ops [⟨(some 134), none, .bin .add (.s 126) (.c (V.int .i64 1))⟩,
     ⟨(some 126), none, .mv (.s 134)⟩]
   (.done)))
  (.exit 10))

def loop_depend_writer_structure_6 : C :=
  .ops [⟨(some 145), none, .bin .lss (.s 144) (.s 143)⟩]
  (.cond (.s 145)
  (.blk 13
   (.ops [⟨(some 146), none, .iaddr none 2 (.s 142) (.s 144)⟩,
      ⟨(some 147), none, .load (some 2) (.s 146)⟩,
      ⟨(some 17), none, .box ty_2_int (.c (V.agg [(V.int .i64 0), (V.int .i64 0)]))⟩,
      ⟨none, none, .store 2 (.s 17) (.s 147)⟩]
    (.ops [⟨(some 148), none, .load (some 1) (.s 2)⟩,
      ⟨(some 149), none, .iaddr (some 2) 1 (.s 17) (.c (V.int .i64 0))⟩,
      ⟨(some 150), none, .load none (.s 149)⟩,
      ⟨(some 151), none, .bin .sub (.s 150) (.c (V.int .i64 1))⟩,
      ⟨(some 152), none, .call fn_depend_writer_num [(.s 148), (.s 151), (.c (V.int .i64 16))]⟩]
    (.ops [⟨(some 153), none, .load (some 1) (.s 2)⟩,
      ⟨(some 154), none, .iaddr (some 2) 1 (.s 17) (.c (V.int .i64 1))⟩,
      ⟨(some 155), none, .load none (.s 154)⟩,
      ⟨(some 156), none, .bin .sub (.s 155) (.c (V.int .i64 1))⟩,
      ⟨(some 157), none, .call fn_depend_writer_num [(.s 153), (.s 156), (.c (V.int .i64 16))]⟩]
    (.done)))) [] [146, 147, 17, 148, 149, 150, 151, 152, 153, 154, 155, 156, 157]
   (.ops [⟨(some 158), none, .bin .add (.s 144) (.c (V.int .i64 1))⟩,
     ⟨(some 144), none, .mv (.s 158)⟩]
   (.done)))
  (.exit 12))

def ir_depend_writer_structure : Fn' := ⟨159, [],
  .ops [⟨(some 2), none, .box ty_depend_writer (.s 0)⟩,
    ⟨(some 3), none, .box ty_depend_Structure (.s 1)⟩]
  (.ops [⟨(some 18), none, .load (some 1) (.s 2)⟩,
    ⟨(some 19), none, .faddr 0 (.s 3)⟩,
    ⟨(some 20), none, .load none (.s 19)⟩,
    ⟨(some 21), none, .call fn_depend_writer_num [(.s 18), (.s 20), (.c (V.int .i64 6))]⟩]
  (.ops [⟨(some 22), none, .load (some 1) (.s 2)⟩,
    ⟨(some 23), none, .faddr 1 (.s 3)⟩,
    ⟨(some 24), none, .load none (.s 23)⟩,
    ⟨(some 25), none, .bin .sub (.s 24) (.c (V.int .i64 1))⟩,
    ⟨(some 26), none, .call fn_depend_writer_num [(.s 22), (.s 25), (.c (V.int .i64 5))]⟩]
  (.ops [⟨(some 27), none, .faddr 2 (.s 3)⟩,
    ⟨(some 28), none, .load none (.s 27)⟩,
    ⟨(some 29), none, .len (.s 28)⟩,
    ⟨(some 30), none, .mv (.c (V.int .i64 0))⟩]
  (.blk 0
  (.loop loop_depend_writer_structure_0 [30] [31, 32, 4, 5, 33, 34, 35, 36, 37, 38, 40, 41, 42, 43, 44, 45, 46, 47, 48, 49, 50, 51, 39, 52, 53, 5, 54, 55, 56, 57, 30]) [] [31, 32, 4, 5, 33, 34, 35, 36, 37, 38, 40, 41, 42, 43, 44, 45, 46, 47, 48, 49, 50, 51, 39, 52, 53, 5, 54, 55, 56, 57, 30]
  (.ops [⟨(some 58), none, .faddr 2 (.s 3)⟩,
    ⟨(some 59), none, .load none (.s 58)⟩,
    ⟨(some 60), none, .len (.s 59)⟩,
    ⟨(some 61), none, .mv (.c (V.int .i64 0))⟩]
  (.blk 2
  (.loop loop_depend_writer_structure_1 [61] [62, 63, 64, 7, 65, 66, 67, 68, 69, 61]) [] [62, 63, 64, 7, 65, 66, 67, 68, 69, 61]
  (.ops [⟨(some 70), none, .faddr 2 (.s 3)⟩,
    ⟨(some 71), none, .load none (.s 70)⟩,
    ⟨(some 72), none, .len (.s 71)⟩,
    ⟨(some 73), none, .mv (.c (V.int .i64 0))⟩]
  (.blk 4
  (.loop loop_depend_writer_structure_3 [73] [74, 75, 76, 9, 77, 78, 79, 80, 81, 82, 83, 11, 84, 85, 86, 87, 88, 89, 90, 80, 91, 92, 93, 73]) [] [74, 75, 76, 9, 77, 78, 79, 80, 81, 82, 83, 11, 84, 85, 86, 87, 88, 89, 90, 80, 91, 92, 93, 73]
  (.ops [⟨(some 94), none, .faddr 0 (.s 2)⟩,
    ⟨(some 95), none, .load none (.s 94)⟩,
    ⟨(some 96), none, .faddr 3 (.s 3)⟩,
    ⟨(some 97), none, .load none (.s 96)⟩,
    ⟨(some 98), none, .cint .u64 (.s 97)⟩,
    ⟨(some 99), none, .faddr 1 (.s 3)⟩,
    ⟨(some 100), none, .load none (.s 99)⟩,
    ⟨(some 101), none, .cint .u64 (.s 100)⟩,
    ⟨(some 102), none, .bin .add (.s 101) (.c (V.int .u64 1))⟩,
    ⟨(some 103), none, .call fn_bits_Writer_AddNS [(.s 95), (.s 98), (.s 102)]⟩]
  (.ops [⟨(some 104), none, .faddr 3 (.s 3)⟩,
    ⟨(some 105), none, .load none (.s 104)⟩,
    ⟨(some 106), none, .bin .gtr (.s 105) (.c (V.int .i64 0))⟩]
  (.condJ (.s 106)
  (.ops [⟨(some 107), none, .faddr 4 (.s 3)⟩,
     ⟨(some 108), none, .load none (.s 107)⟩,
     ⟨(some 109), none, .len (.s 108)⟩,
     ⟨(some 110), none, .mv (.c (V.int .i64 0))⟩]
   (.blk 8
   (.loop loop_depend_writer_structure_4 [110] [111, 112, 113, 13, 114, 115, 116, 117, 118, 119, 120, 121, 122, 110]) [] [111, 112, 113, 13, 114, 115, 116, 117, 118, 119, 120, 121, 122, 110]
   (.ops [⟨(some 123), none, .faddr 2 (.s 3)⟩,
     ⟨(some 124), none, .load none (.s 123)⟩,
     ⟨(some 125), none, .len (.s 124)⟩,
     ⟨(some 126), none, .mv (.c (V.int .i64 0))⟩]
   (.blk 10
   (.loop loop_depend_writer_structure_5 [126] [127, 128, 129, 15, 130, 131, 132, 133, 134, 126]) [] [127, 128, 129, 15, 130, 131, 132, 133, 134, 126]
   (.done)))))
  (.done) [] [107, 108, 109, 110, 111, 112, 113, 13, 114, 115, 116, 117, 118, 119, 120, 121, 122, 110, 123, 124, 125, 126, 127, 128, 129, 15, 130, 131, 132, 133, 134, 126]
  (.ops [⟨(some 135), none, .load (some 1) (.s 2)⟩,
    ⟨(some 136), none, .faddr 5 (.s 3)⟩,
    ⟨(some 137), none, .load none (.s 136)⟩,
    ⟨(some 138), none, .len (.s 137)⟩,
    ⟨(some 139), none, .bin .gtr (.s 138) (.c (V.int .i64 0))⟩,
    ⟨(some 140), none, .call fn_depend_writer_bit [(.s 135), (.s 139)]⟩]
  (.ops [⟨(some 141), none, .faddr 5 (.s 3)⟩,
    ⟨(some 142), none, .load none (.s 141)⟩,
    ⟨(some 143), none, .len (.s 142)⟩,
    ⟨(some 144), none, .mv (.c (V.int .i64 0))⟩]
  (.blk 12
  (.loop loop_depend_writer_structure_6 [144] [145, 146, 147, 17, 148, 149, 150, 151, 152, 153, 154, 155, 156, 157, 158, 144]) [] [145, 146, 147, 17, 148, 149, 150, 151, 152, 153, 154, 155, 156, 157, 158, 144]
  (.ret)))))))))))))))⟩

noncomputable def f_depend_writer_structure_0 (G : Sem') (t29 t3 t2 : V) (L : List V) : M Res :=
  (M.lift (Ax.bin .lss (L.getD 0 .undef) t29)).bind fun t31 =>
  M.ite t31
    (M.blk 1 (
      (M.lift (Ax.bin .add (L.getD 0 .undef) (V.int .i64 1))).bind fun t34 =>
      (M.lift (Ax.faddr 2 t3)).bind fun t35 =>
      (mload none t35).bind fun t36 =>
      (M.lift (vlen t36)).bind fun t37 =>
      (M.lift (Ax.bin .lss t34 t37)).bind fun t38 =>
      M.join (M.ite t38
        ((M.lift (Ax.faddr 2 t3)).bind fun t40 =>
        (mload none t40).bind fun t41 =>
        (M.lift (Ax.iaddr none 5 t41 (L.getD 0 .undef))).bind fun t43 =>
        (mload (some 5) t43).bind fun t44 =>
        (M.lift (Ax.faddr 2 t3)).bind fun t45 =>
        (mload none t45).bind fun t46 =>
        (M.lift (Ax.bin .add (L.getD 0 .undef) (V.int .i64 1))).bind fun t48 =>
        (M.lift (Ax.iaddr none 5 t46 t48)).bind fun t49 =>
        (mload (some 5) t49).bind fun t50 =>
        (G fn_depend_next [t44, t50]).bind fun t51 =>
        (M.lift (Ax.ext 0 t51)).bind fun t52 =>
        (M.lift (Ax.ext 1 t51)).bind fun t53 =>
        M.pure (.nrm [t52]))
        (M.pure (.nrm [(V.int .i64 3)]))) fun L0 =>
      (mload (some 1) t2).bind fun t54 =>
      (G fn_depend_writer_num [t54, (L0.getD 0 .undef), (V.int .i64 2)]).bind fun t56 =>
      M.pure (.nrm [])) fun _ =>
    (M.lift (Ax.bin .add (L.getD 0 .undef) (V.int .i64 1))).bind fun t57 =>
    M.pure (.nrm [t57]))
    (M.pure (.ex 0 []))

noncomputable def f_depend_writer_structure_1 (G : Sem') (t60 t59 t2 : V) (L : List V) : M Res :=
  (M.lift (Ax.bin .lss (L.getD 0 .undef) t60)).bind fun t62 =>
  M.ite t62
    (M.blk 3 (
      (M.lift (Ax.iaddr none 5 t59 (L.getD 0 .undef))).bind fun t63 =>
      (mload (some 5) t63).bind fun t64 =>
      (mbox ty_depend_Template (V.agg [(V.int .i64 0), (V.int .i64 0), V.nils, V.nils, V.nils])).bind fun t7 =>
      (mstore 5 t7 t64).bind fun _ =>
      (mload (some 1) t2).bind fun t65 =>
      (M.lift (Ax.faddr 2 t7)).bind fun t66 =>
      (mload none t66).bind fun t67 =>
      (G fn_depend_writer_nums [t65, t67, (V.int .i64 2)]).bind fun t68 =>
      M.pure (.nrm [])) fun _ =>
    (M.lift (Ax.bin .add (L.getD 0 .undef) (V.int .i64 1))).bind fun t69 =>
    M.pure (.nrm [t69]))
    (M.pure (.ex 2 []))

noncomputable def f_depend_writer_structure_2 (G : Sem') (t79 t78 t2 : V) (L : List V) : M Res :=
  (M.lift (Ax.bin .lss (L.getD 0 .undef) t79)).bind fun t81 =>
  M.ite t81
    (M.blk 7 (
      (M.lift (Ax.iaddr none 1 t78 (L.getD 0 .undef))).bind fun t82 =>
      (mload none t82).bind fun t83 =>
      (mload (some 1) t2).bind fun t84 =>
      (G fn_depend_writer_bit [t84, (V.bool true)]).bind fun t85 =>
      (mload (some 1) t2).bind fun t86 =>
      (M.lift (Ax.bin .sub t83 (V.int .i64 1))).bind fun t88 =>
      (G fn_depend_writer_num [t86, t88, (V.int .i64 4)]).bind fun t89 =>
      M.pure (.nrm [])) fun _ =>
    (M.lift (Ax.bin .add (L.getD 0 .undef) (V.int .i64 1))).bind fun t90 =>
    M.pure (.nrm [t90]))
    (M.pure (.ex 6 []))

noncomputable def f_depend_writer_structure_3 (G : Sem') (t72 t71 t2 : V) (L : List V) : M Res :=
  (M.lift (Ax.bin .lss (L.getD 0 .undef) t72)).bind fun t74 =>
  M.ite t74
    (M.blk 5 (
      (M.lift (Ax.iaddr none 5 t71 (L.getD 0 .undef))).bind fun t75 =>
      (mload (some 5) t75).bind fun t76 =>
      (mbox ty_depend_Template (V.agg [(V.int .i64 0), (V.int .i64 0), V.nils, V.nils, V.nils])).bind fun t9 =>
      (mstore 5 t9 t76).bind fun _ =>
      (M.lift (Ax.faddr 3 t9)).bind fun t77 =>
      (mload none t77).bind fun t78 =>
      (M.lift (vlen t78)).bind fun t79 =>
      M.blk 6 (
        M.iter (f_depend_writer_structure_2 G t79 t78 t2) [(V.int .i64 0)]) fun _ =>
      (mload (some 1) t2).bind fun t91 =>
      (G fn_depend_writer_bit [t91, (V.bool false)]).bind fun t92 =>
      M.pure (.nrm [])) fun _ =>
    (M.lift (Ax.bin .add (L.getD 0 .undef) (V.int .i64 1))).bind fun t93 =>
    M.pure (.nrm [t93]))
    (M.pure (.ex 4 []))

noncomputable def f_depend_writer_structure_4 (G : Sem') (t109 t108 t2 t3 : V) (L : List V) : M Res :=
  (M.lift (Ax.bin .lss (L.getD 0 .undef) t109)).bind fun t111 =>
  M.ite t111
    (M.blk 9 (
      (M.lift (Ax.iaddr none 1 t108 (L.getD 0 .undef))).bind fun t112 =>
      (mload none t112).bind fun t113 =>
      (M.lift (Ax.faddr 0 t2)).bind fun t114 =>
      (mload none t114).bind fun t115 =>
      (M.lift (Ax.cint .u64 t113)).bind fun t117 =>
      (M.lift (Ax.faddr 3 t3)).bind fun t118 =>
      (mload none t118).bind fun t119 =>
      (M.lift (Ax.cint .u64 t119)).bind fun t120 =>
      (G fn_bits_Writer_AddNS [t115, t117, t120]).bind fun t121 =>
      M.pure (.nrm [])) fun _ =>
    (M.lift (Ax.bin .add (L.getD 0 .undef) (V.int .i64 1))).bind fun t122 =>
    M.pure (.nrm [t122]))
    (M.pure (.ex 8 []))

noncomputable def f_depend_writer_structure_5 (G : Sem') (t125 t124 t2 : V) (L : List V) : M Res :=
  (M.lift (Ax.bin .lss (L.getD 0 .undef) t125)).bind fun t127 =>
  M.ite t127
    (M.blk 11 (
      (M.lift (Ax.iaddr none 5 t124 (L.getD 0 .undef))).bind fun t128 =>
      (mload (some 5) t128).bind fun t129 =>
      (mbox ty_depend_Template (V.agg [(V.int .i64 0), (V.int .i64 0), V.nils, V.nils, V.nils])).bind fun t15 =>
      (mstore 5 t15 t129).bind fun _ =>
      (mload (some 1) t2).bind fun t130 =>
      (M.lift (Ax.faddr 4 t15)).bind fun t131 =>
      (mload none t131).bind fun t132 =>
      (G fn_depend_writer_nums [t130, t132, (V.int .i64 4)]).bind fun t133 =>
      M.pure (.nrm [])) fun _ =>
    (M.lift (Ax.bin .add (L.getD 0 .undef) (V.int .i64 1))).bind fun t134 =>
    M.pure (.nrm [t134]))
    (M.pure (.ex 10 []))

noncomputable def f_depend_writer_structure_6 (G : Sem') (t143 t142 t2 : V) (L : List V) : M Res :=
  (M.lift (Ax.bin .lss (L.getD 0 .undef) t143)).bind fun t145 =>
  M.ite t145
    (M.blk 13 (
      (M.lift (Ax.iaddr none 2 t142 (L.getD 0 .undef))).bind fun t146 =>
      (mload (some 2) t146).bind fun t147 =>
      (mbox ty_2_int (V.agg [(V.int .i64 0), (V.int .i64 0)])).bind fun t17 =>
      (mstore 2 t17 t147).bind fun _ =>
      (mload (some 1) t2).bind fun t148 =>
      (M.lift (Ax.iaddr (some 2) 1 t17 (V.int .i64 0))).bind fun t149 =>
      (mload none t149).bind fun t150 =>
      (M.lift (Ax.bin .sub t150 (V.int .i64 1))).bind fun t151 =>
      (G fn_depend_writer_num [t148, t151, (V.int .i64 16)]).bind fun t152 =>
      (mload (some 1) t2).bind fun t153 =>
      (M.lift (Ax.iaddr (some 2) 1 t17 (V.int .i64 1))).bind fun t154 =>
      (mload none t154).bind fun t155 =>
      (M.lift (Ax.bin .sub t155 (V.int .i64 1))).bind fun t156 =>
      (G fn_depend_writer_num [t153, t156, (V.int .i64 16)]).bind fun t157 =>
      M.pure (.nrm [])) fun _ =>
    (M.lift (Ax.bin .add (L.getD 0 .undef) (V.int .i64 1))).bind fun t158 =>
    M.pure (.nrm [t158]))
    (M.pure (.ex 12 []))

noncomputable def f_depend_writer_structure (G : Sem') (t0 t1 : V) : M Res :=
  (mbox ty_depend_writer t0).bind fun t2 =>
  (mbox ty_depend_Structure t1).bind fun t3 =>
  (mload (some 1) t2).bind fun t18 =>
  (M.lift (Ax.faddr 0 t3)).bind fun t19 =>
  (mload none t19).bind fun t20 =>
  (G fn_depend_writer_num [t18, t20, (V.int .i64 6)]).bind fun t21 =>
  (mload (some 1) t2).bind fun t22 =>
  (M.lift (Ax.faddr 1 t3)).bind fun t23 =>
  (mload none t23).bind fun t24 =>
  (M.lift (Ax.bin .sub t24 (V.int .i64 1))).bind fun t25 =>
  (G fn_depend_writer_num [t22, t25, (V.int .i64 5)]).bind fun t26 =>
  (M.lift (Ax.faddr 2 t3)).bind fun t27 =>
  (mload none t27).bind fun t28 =>
  (M.lift (vlen t28)).bind fun t29 =>
  M.blk 0 (
    M.iter (f_depend_writer_structure_0 G t29 t3 t2) [(V.int .i64 0)]) fun _ =>
  (M.lift (Ax.faddr 2 t3)).bind fun t58 =>
  (mload none t58).bind fun t59 =>
  (M.lift (vlen t59)).bind fun t60 =>
  M.blk 2 (
    M.iter (f_depend_writer_structure_1 G t60 t59 t2) [(V.int .i64 0)]) fun _ =>
  (M.lift (Ax.faddr 2 t3)).bind fun t70 =>
  (mload none t70).bind fun t71 =>
  (M.lift (vlen t71)).bind fun t72 =>
  M.blk 4 (
    M.iter (f_depend_writer_structure_3 G t72 t71 t2) [(V.int .i64 0)]) fun _ =>
  (M.lift (Ax.faddr 0 t2)).bind fun t94 =>
  (mload none t94).bind fun t95 =>
  (M.lift (Ax.faddr 3 t3)).bind fun t96 =>
  (mload none t96).bind fun t97 =>
  (M.lift (Ax.cint .u64 t97)).bind fun t98 =>
  (M.lift (Ax.faddr 1 t3)).bind fun t99 =>
  (mload none t99).bind fun t100 =>
  (M.lift (Ax.cint .u64 t100)).bind fun t101 =>
  (M.lift (Ax.bin .add t101 (V.int .u64 1))).bind fun t102 =>
  (G fn_bits_Writer_AddNS [t95, t98, t102]).bind fun t103 =>
  (M.lift (Ax.faddr 3 t3)).bind fun t104 =>
  (mload none t104).bind fun t105 =>
  (M.lift (Ax.bin .gtr t105 (V.int .i64 0))).bind fun t106 =>
  M.join (M.ite t106
    ((M.lift (Ax.faddr 4 t3)).bind fun t107 =>
    (mload none t107).bind fun t108 =>
    (M.lift (vlen t108)).bind fun t109 =>
    M.blk 8 (
      M.iter (f_depend_writer_structure_4 G t109 t108 t2 t3) [(V.int .i64 0)]) fun _ =>
    (M.lift (Ax.faddr 2 t3)).bind fun t123 =>
    (mload none t123).bind fun t124 =>
    (M.lift (vlen t124)).bind fun t125 =>
    M.blk 10 (
      M.iter (f_depend_writer_structure_5 G t125 t124 t2) [(V.int .i64 0)]) fun _ =>
    M.pure (.nrm []))
    (M.pure (.nrm []))) fun _ =>
  (mload (some 1) t2).bind fun t135 =>
  (M.lift (Ax.faddr 5 t3)).bind fun t136 =>
  (mload none t136).bind fun t137 =>
  (M.lift (vlen t137)).bind fun t138 =>
  (M.lift (Ax.bin .gtr t138 (V.int .i64 0))).bind fun t139 =>
  (G fn_depend_writer_bit [t135, t139]).bind fun t140 =>
  (M.lift (Ax.faddr 5 t3)).bind fun t141 =>
  (mload none t141).bind fun t142 =>
  (M.lift (vlen t142)).bind fun t143 =>
  M.blk 12 (
    M.iter (f_depend_writer_structure_6 G t143 t142 t2) [(V.int .i64 0)]) fun _ =>
  M.pure (.ret [])

theorem eq_depend_writer_structure (G : Sem') (t0 t1 : V) : execK G ir_depend_writer_structure.rv ir_depend_writer_structure.body [] [] (params 0 [t0, t1]) = f_depend_writer_structure G t0 t1 := by kernel_rfl

theorem tb_depend_writer_structure : T fn_depend_writer_structure = some ir_depend_writer_structure := by kernel_rfl

theorem ok_depend_writer_structure {t0 t1 : V} {H : Heap} {Q : V → Heap → Prop} (h : Ok (f_depend_writer_structure (sem T) t0 t1) H fun r H' => ∃ L, r = .ret L ∧ Q (tupled L) H') : Ok (sem T fn_depend_writer_structure [t0, t1]) H Q :=
  ok_sem tb_depend_writer_structure (Nat.le_of_ble_eq_true rfl) (eq_depend_writer_structure (sem T) t0 t1) h

end Go.Ax
