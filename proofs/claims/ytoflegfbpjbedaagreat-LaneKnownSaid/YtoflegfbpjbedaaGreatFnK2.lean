/-
  The functions of this seat as plain texts: printed by program (wip/gen/Emit.lean): part 2.
-/
import Derived.Test.YtoflegfbpjbedaaGreatFnK0
set_option maxRecDepth 100000
set_option linter.unusedVariables false
namespace Go.Ax
open Go.Proofs

/-- palanquin/palanquinref9.step. -/
def ir_palanquinref9_step : Fn' := ⟨44, [.tmp 4],
  .ops [⟨(some 2), none, .box ty_palanquinref9_Template (.s 0)⟩,
    ⟨(some 3), none, .box ty_palanquinref9_Template (.s 1)⟩,
    ⟨(some 4), none, .mv (.c (V.int .i64 0))⟩]
  (.blk 0
  (.ops [⟨(some 6), none, .faddr 0 (.s 2)⟩,
     ⟨(some 7), none, .load none (.s 6)⟩,
     ⟨(some 8), none, .faddr 0 (.s 3)⟩,
     ⟨(some 9), none, .load none (.s 8)⟩,
     ⟨(some 10), none, .bin .eql (.s 7) (.s 9)⟩,
     ⟨(some 11), none, .mv (.s 10)⟩,
     ⟨(some 12), (some (11, true)), .faddr 1 (.s 2)⟩,
     ⟨(some 13), (some (11, true)), .load none (.s 12)⟩,
     ⟨(some 14), (some (11, true)), .faddr 1 (.s 3)⟩,
     ⟨(some 15), (some (11, true)), .load none (.s 14)⟩,
     ⟨(some 16), (some (11, true)), .bin .eql (.s 13) (.s 15)⟩,
     ⟨(some 17), none, .pick (.s 11) (.s 16) (.c (V.bool false))⟩,
     ⟨(some 5), none, .mv (.s 17)⟩]
   (.cond (.s 5)
   (.ops [⟨(some 4), none, .mv (.c (V.int .i64 0))⟩]
    (.ret))
   (.ops [⟨(some 19), none, .faddr 0 (.s 2)⟩,
      ⟨(some 20), none, .load none (.s 19)⟩,
      ⟨(some 21), none, .faddr 0 (.s 3)⟩,
      ⟨(some 22), none, .load none (.s 21)⟩,
      ⟨(some 23), none, .bin .eql (.s 20) (.s 22)⟩,
      ⟨(some 24), none, .mv (.s 23)⟩,
      ⟨(some 25), (some (24, true)), .faddr 1 (.s 2)⟩,
      ⟨(some 26), (some (24, true)), .load none (.s 25)⟩,
      ⟨(some 27), (some (24, true)), .bin .add (.s 26) (.c (V.int .i64 1))⟩,
      ⟨(some 28), (some (24, true)), .faddr 1 (.s 3)⟩,
      ⟨(some 29), (some (24, true)), .load none (.s 28)⟩,
      ⟨(some 30), (some (24, true)), .bin .eql (.s 27) (.s 29)⟩,
      ⟨(some 31), none, .pick (.s 24) (.s 30) (.c (V.bool false))⟩,
      ⟨(some 18), none, .mv (.s 31)⟩]
    (.cond (.s 18)
    (.ops [⟨(some 4), none, .mv (.c (V.int .i64 1))⟩]
     (.ret))
    (.ops [⟨(some 33), none, .faddr 0 (.s 2)⟩,
       ⟨(some 34), none, .load none (.s 33)⟩,
       ⟨(some 35), none, .bin .add (.s 34) (.c (V.int .i64 1))⟩,
       ⟨(some 36), none, .faddr 0 (.s 3)⟩,
       ⟨(some 37), none, .load none (.s 36)⟩,
       ⟨(some 38), none, .bin .eql (.s 35) (.s 37)⟩,
       ⟨(some 39), none, .mv (.s 38)⟩,
       ⟨(some 40), (some (39, true)), .faddr 1 (.s 3)⟩,
       ⟨(some 41), (some (39, true)), .load none (.s 40)⟩,
       ⟨(some 42), (some (39, true)), .bin .eql (.s 41) (.c (V.int .i64 0))⟩,
       ⟨(some 43), none, .pick (.s 39) (.s 42) (.c (V.bool false))⟩,
       ⟨(some 32), none, .mv (.s 43)⟩]
     (.cond (.s 32)
     (.ops [⟨(some 4), none, .mv (.c (V.int .i64 2))⟩]
      (.ret))
     (.done))))))) [] [6, 7, 8, 9, 10, 11, 12, 13, 14, 15, 16, 17, 5, 4, 19, 20, 21, 22, 23, 24, 25, 26, 27, 28, 29, 30, 31, 18, 4, 33, 34, 35, 36, 37, 38, 39, 40, 41, 42, 43, 32, 4]
  (.ops [⟨(some 4), none, .mv (.c (V.int .i64 3))⟩]
  (.ret)))⟩

noncomputable def f_palanquinref9_step (G : Sem') (t0 t1 : V) : M Res :=
  (mbox ty_palanquinref9_Template t0).bind fun t2 =>
  (mbox ty_palanquinref9_Template t1).bind fun t3 =>
  M.blk 0 (
    (M.lift (Ax.faddr 0 t2)).bind fun t6 =>
    (mload none t6).bind fun t7 =>
    (M.lift (Ax.faddr 0 t3)).bind fun t8 =>
    (mload none t8).bind fun t9 =>
    (M.lift (Ax.bin .eql t7 t9)).bind fun t10 =>
    (guarded [(0, t10)] (some (0, true)) (M.lift (Ax.faddr 1 t2))).bind fun t12 =>
    (guarded [(0, t10)] (some (0, true)) (mload none t12)).bind fun t13 =>
    (guarded [(0, t10)] (some (0, true)) (M.lift (Ax.faddr 1 t3))).bind fun t14 =>
    (guarded [(0, t10)] (some (0, true)) (mload none t14)).bind fun t15 =>
    (guarded [(0, t10)] (some (0, true)) (M.lift (Ax.bin .eql t13 t15))).bind fun t16 =>
    (M.lift (Ax.pick t10 t16 (V.bool false))).bind fun t17 =>
    M.ite t17
      (M.pure (.ret [(V.int .i64 0)]))
      ((M.lift (Ax.faddr 0 t2)).bind fun t19 =>
      (mload none t19).bind fun t20 =>
      (M.lift (Ax.faddr 0 t3)).bind fun t21 =>
      (mload none t21).bind fun t22 =>
      (M.lift (Ax.bin .eql t20 t22)).bind fun t23 =>
      (guarded [(0, t23)] (some (0, true)) (M.lift (Ax.faddr 1 t2))).bind fun t25 =>
      (guarded [(0, t23)] (some (0, true)) (mload none t25)).bind fun t26 =>
      (guarded [(0, t23)] (some (0, true)) (M.lift (Ax.bin .add t26 (V.int .i64 1)))).bind fun t27 =>
      (guarded [(0, t23)] (some (0, true)) (M.lift (Ax.faddr 1 t3))).bind fun t28 =>
      (guarded [(0, t23)] (some (0, true)) (mload none t28)).bind fun t29 =>
      (guarded [(0, t23)] (some (0, true)) (M.lift (Ax.bin .eql t27 t29))).bind fun t30 =>
      (M.lift (Ax.pick t23 t30 (V.bool false))).bind fun t31 =>
      M.ite t31
        (M.pure (.ret [(V.int .i64 1)]))
        ((M.lift (Ax.faddr 0 t2)).bind fun t33 =>
        (mload none t33).bind fun t34 =>
        (M.lift (Ax.bin .add t34 (V.int .i64 1))).bind fun t35 =>
        (M.lift (Ax.faddr 0 t3)).bind fun t36 =>
        (mload none t36).bind fun t37 =>
        (M.lift (Ax.bin .eql t35 t37)).bind fun t38 =>
        (guarded [(0, t38)] (some (0, true)) (M.lift (Ax.faddr 1 t3))).bind fun t40 =>
        (guarded [(0, t38)] (some (0, true)) (mload none t40)).bind fun t41 =>
        (guarded [(0, t38)] (some (0, true)) (M.lift (Ax.bin .eql t41 (V.int .i64 0)))).bind fun t42 =>
        (M.lift (Ax.pick t38 t42 (V.bool false))).bind fun t43 =>
        M.ite t43
          (M.pure (.ret [(V.int .i64 2)]))
          (M.pure (.nrm []))))) fun _ =>
  M.pure (.ret [(V.int .i64 3)])

theorem eq_palanquinref9_step (G : Sem') (t0 t1 : V) : execK G ir_palanquinref9_step.rv ir_palanquinref9_step.body [] [] (params 0 [t0, t1]) = f_palanquinref9_step G t0 t1 := by kernel_rfl

theorem tb_palanquinref9_step : T fn_palanquinref9_step = some ir_palanquinref9_step := by kernel_rfl

theorem ok_palanquinref9_step {t0 t1 : V} {H : Heap} {Q : V → Heap → Prop} (h : Ok (f_palanquinref9_step (sem T) t0 t1) H fun r H' => ∃ L, r = .ret L ∧ Q (tupled L) H') : Ok (sem T fn_palanquinref9_step [t0, t1]) H Q :=
  ok_sem tb_palanquinref9_step (Nat.le_of_ble_eq_true rfl) (eq_palanquinref9_step (sem T) t0 t1) h

/-- palanquin/palanquinref9.within. -/
def loop_palanquinref9_within_0 : C :=
  .ops [⟨(some 18), none, .mv (.s 9)⟩,
    ⟨(some 19), none, .mv (.s 0)⟩,
    ⟨(some 20), none, .len (.s 19)⟩,
    ⟨(some 21), none, .bin .lss (.s 18) (.s 20)⟩]
  (.cond (.s 21)
  (.blk 1
   (.ops [⟨(some 24), none, .mv (.s 0)⟩,
      ⟨(some 25), none, .mv (.s 9)⟩,
      ⟨(some 26), none, .iaddr none 1 (.s 24) (.s 25)⟩,
      ⟨(some 27), none, .load none (.s 26)⟩,
      ⟨(some 28), none, .mv (.s 2)⟩,
      ⟨(some 29), none, .bin .lss (.s 27) (.s 28)⟩,
      ⟨(some 30), none, .mv (.s 29)⟩,
      ⟨(some 31), (some (30, false)), .mv (.s 0)⟩,
      ⟨(some 32), (some (30, false)), .mv (.s 9)⟩,
      ⟨(some 33), (some (30, false)), .iaddr none 1 (.s 31) (.s 32)⟩,
      ⟨(some 34), (some (30, false)), .load none (.s 33)⟩,
      ⟨(some 35), (some (30, false)), .mv (.s 3)⟩,
      ⟨(some 36), (some (30, false)), .bin .gtr (.s 34) (.s 35)⟩,
      ⟨(some 37), none, .pick (.s 30) (.c (V.bool true)) (.s 36)⟩]
    (.cond (.s 37)
    (.ops [⟨(some 8), none, .mv (.c (V.bool false))⟩]
     (.ret))
    (.done))) [] [24, 25, 26, 27, 28, 29, 30, 31, 32, 33, 34, 35, 36, 37, 8]
   (.ops [⟨(some 22), none, .mv (.s 9)⟩,
     ⟨(some 23), none, .bin .add (.s 22) (.c (V.int .i64 1))⟩,
     ⟨(some 9), none, .mv (.s 23)⟩]
   (.done)))
  (.exit 0))

def ir_palanquinref9_within : Fn' := ⟨38, [.tmp 8],
  .ops [⟨(some 8), none, .mv (.c (V.bool false))⟩]
  (.ops [⟨(some 10), none, .mv (.s 1)⟩,
    ⟨(some 11), none, .bin .geq (.s 10) (.c (V.int .i64 0))⟩,
    ⟨(some 12), none, .mv (.s 11)⟩,
    ⟨(some 13), (some (12, true)), .mv (.s 0)⟩,
    ⟨(some 14), (some (12, true)), .len (.s 13)⟩,
    ⟨(some 15), (some (12, true)), .mv (.s 1)⟩,
    ⟨(some 16), (some (12, true)), .bin .neq (.s 14) (.s 15)⟩,
    ⟨(some 17), none, .pick (.s 12) (.s 16) (.c (V.bool false))⟩]
  (.cond (.s 17)
  (.ops [⟨(some 8), none, .mv (.c (V.bool false))⟩]
   (.ret))
  (.ops [⟨(some 9), none, .mv (.c (V.int .i64 0))⟩]
   (.blk 0
   (.loop loop_palanquinref9_within_0 [9] [18, 19, 20, 21, 24, 25, 26, 27, 28, 29, 30, 31, 32, 33, 34, 35, 36, 37, 8, 22, 23, 9]) [] [18, 19, 20, 21, 24, 25, 26, 27, 28, 29, 30, 31, 32, 33, 34, 35, 36, 37, 8, 22, 23, 9]
   (.ops [⟨(some 8), none, .mv (.c (V.bool true))⟩]
   (.ret))))))⟩

noncomputable def f_palanquinref9_within_0 (G : Sem') (t2 t0 t3 : V) (L : List V) : M Res :=
  (M.lift (vlen t0)).bind fun t20 =>
  (M.lift (Ax.bin .lss (L.getD 0 .undef) t20)).bind fun t21 =>
  M.ite t21
    (M.blk 1 (
      (M.lift (Ax.iaddr none 1 t0 (L.getD 0 .undef))).bind fun t26 =>
      (mload none t26).bind fun t27 =>
      (M.lift (Ax.bin .lss t27 t2)).bind fun t29 =>
      (guarded [(0, t29)] (some (0, false)) (M.pure t0)).bind fun t31 =>
      (guarded [(0, t29)] (some (0, false)) (M.pure (L.getD 0 .undef))).bind fun t32 =>
      (guarded [(0, t29)] (some (0, false)) (M.lift (Ax.iaddr none 1 t31 t32))).bind fun t33 =>
      (guarded [(0, t29)] (some (0, false)) (mload none t33)).bind fun t34 =>
      (guarded [(0, t29)] (some (0, false)) (M.pure t3)).bind fun t35 =>
      (guarded [(0, t29)] (some (0, false)) (M.lift (Ax.bin .gtr t34 t35))).bind fun t36 =>
      (M.lift (Ax.pick t29 (V.bool true) t36)).bind fun t37 =>
      M.ite t37
        (M.pure (.ret [(V.bool false)]))
        (M.pure (.nrm []))) fun _ =>
    (M.lift (Ax.bin .add (L.getD 0 .undef) (V.int .i64 1))).bind fun t23 =>
    M.pure (.nrm [t23]))
    (M.pure (.ex 0 []))

noncomputable def f_palanquinref9_within (G : Sem') (t0 t1 t2 t3 : V) : M Res :=
  (M.lift (Ax.bin .geq t1 (V.int .i64 0))).bind fun t11 =>
  (guarded [(0, t11)] (some (0, true)) (M.pure t0)).bind fun t13 =>
  (guarded [(0, t11)] (some (0, true)) (M.lift (vlen t13))).bind fun t14 =>
  (guarded [(0, t11)] (some (0, true)) (M.pure t1)).bind fun t15 =>
  (guarded [(0, t11)] (some (0, true)) (M.lift (Ax.bin .neq t14 t15))).bind fun t16 =>
  (M.lift (Ax.pick t11 t16 (V.bool false))).bind fun t17 =>
  M.ite t17
    (M.pure (.ret [(V.bool false)]))
    (M.blk 0 (
      M.iter (f_palanquinref9_within_0 G t2 t0 t3) [(V.int .i64 0)]) fun _ =>
    M.pure (.ret [(V.bool true)]))

theorem eq_palanquinref9_within (G : Sem') (t0 t1 t2 t3 : V) : execK G ir_palanquinref9_within.rv ir_palanquinref9_within.body [] [] (params 0 [t0, t1, t2, t3]) = f_palanquinref9_within G t0 t1 t2 t3 := by kernel_rfl

theorem tb_palanquinref9_within : T fn_palanquinref9_within = some ir_palanquinref9_within := by kernel_rfl

theorem ok_palanquinref9_within {t0 t1 t2 t3 : V} {H : Heap} {Q : V → Heap → Prop} (h : Ok (f_palanquinref9_within (sem T) t0 t1 t2 t3) H fun r H' => ∃ L, r = .ret L ∧ Q (tupled L) H') : Ok (sem T fn_palanquinref9_within [t0, t1, t2, t3]) H Q :=
  ok_sem tb_palanquinref9_within (Nat.le_of_ble_eq_true rfl) (eq_palanquinref9_within (sem T) t0 t1 t2 t3) h

/-- palanquin/palanquinref9.top. -/
def loop_palanquinref9_top_0 : C :=
  .ops [⟨(some 5), none, .mv (.s 4)⟩,
    ⟨(some 6), none, .faddr 2 (.s 1)⟩,
    ⟨(some 7), none, .load none (.s 6)⟩,
    ⟨(some 8), none, .len (.s 7)⟩,
    ⟨(some 9), none, .bin .lss (.s 5) (.s 8)⟩]
  (.cond (.s 9)
  (.blk 1
   (.ops [⟨(some 12), none, .mv (.s 3)⟩,
      ⟨(some 13), none, .faddr 2 (.s 1)⟩,
      ⟨(some 14), none, .load none (.s 13)⟩,
      ⟨(some 15), none, .mv (.s 4)⟩,
      ⟨(some 16), none, .iaddr none 5 (.s 14) (.s 15)⟩,
      ⟨(some 17), none, .faddr 0 (.s 16)⟩,
      ⟨(some 18), none, .load none (.s 17)⟩,
      ⟨(some 19), none, .minmax true (.s 12) [(.s 18)]⟩,
      ⟨(some 3), none, .mv (.s 19)⟩]
    (.done)) [3] [12, 13, 14, 15, 16, 17, 18, 19, 3]
   (.ops [⟨(some 10), none, .mv (.s 4)⟩,
     ⟨(some 11), none, .bin .add (.s 10) (.c (V.int .i64 1))⟩,
     ⟨(some 4), none, .mv (.s 11)⟩]
   (.done)))
  (.exit 0))

def ir_palanquinref9_top : Fn' := ⟨21, [.tmp 2],
  .ops [⟨(some 1), none, .box ty_palanquinref9_Structure (.s 0)⟩,
    ⟨(some 2), none, .mv (.c (V.int .i64 0))⟩]
  (.ops [⟨(some 3), none, .mv (.c (V.int .i64 0))⟩]
  (.ops [⟨(some 4), none, .mv (.c (V.int .i64 0))⟩]
  (.blk 0
  (.loop loop_palanquinref9_top_0 [3, 4] [5, 6, 7, 8, 9, 12, 13, 14, 15, 16, 17, 18, 19, 3, 10, 11, 4]) [3] [5, 6, 7, 8, 9, 12, 13, 14, 15, 16, 17, 18, 19, 3, 10, 11, 4]
  (.ops [⟨(some 20), none, .mv (.s 3)⟩,
    ⟨(some 2), none, .mv (.s 20)⟩]
  (.ret)))))⟩

noncomputable def f_palanquinref9_top_0 (G : Sem') (t1 t2 : V) (L : List V) : M Res :=
  (M.lift (Ax.faddr 2 t1)).bind fun t6 =>
  (mload none t6).bind fun t7 =>
  (M.lift (vlen t7)).bind fun t8 =>
  (M.lift (Ax.bin .lss (L.getD 1 .undef) t8)).bind fun t9 =>
  M.ite t9
    (M.blk 1 (
      (M.lift (Ax.faddr 2 t1)).bind fun t13 =>
      (mload none t13).bind fun t14 =>
      (M.lift (Ax.iaddr none 5 t14 (L.getD 1 .undef))).bind fun t16 =>
      (M.lift (Ax.faddr 0 t16)).bind fun t17 =>
      (mload none t17).bind fun t18 =>
      (M.lift (Ax.minmax true (L.getD 0 .undef) [t18])).bind fun t19 =>
      M.pure (.nrm [t19])) fun L0 =>
    (M.lift (Ax.bin .add (L.getD 1 .undef) (V.int .i64 1))).bind fun t11 =>
    M.pure (.nrm [(L0.getD 0 .undef), t11]))
    (M.pure (.ex 0 [(L.getD 0 .undef)]))

noncomputable def f_palanquinref9_top (G : Sem') (t0 : V) : M Res :=
  (mbox ty_palanquinref9_Structure t0).bind fun t1 =>
  M.blk 0 (
    M.iter (f_palanquinref9_top_0 G t1 (V.int .i64 0)) [(V.int .i64 0), (V.int .i64 0)]) fun L1 =>
  M.pure (.ret [(L1.getD 0 .undef)])

theorem eq_palanquinref9_top (G : Sem') (t0 : V) : execK G ir_palanquinref9_top.rv ir_palanquinref9_top.body [] [] (params 0 [t0]) = f_palanquinref9_top G t0 := by kernel_rfl

theorem tb_palanquinref9_top : T fn_palanquinref9_top = some ir_palanquinref9_top := by kernel_rfl

theorem ok_palanquinref9_top {t0 : V} {H : Heap} {Q : V → Heap → Prop} (h : Ok (f_palanquinref9_top (sem T) t0) H fun r H' => ∃ L, r = .ret L ∧ Q (tupled L) H') : Ok (sem T fn_palanquinref9_top [t0]) H Q :=
  ok_sem tb_palanquinref9_top (Nat.le_of_ble_eq_true rfl) (eq_palanquinref9_top (sem T) t0) h

/-- palanquin/palanquinref9.zero. -/
def ir_palanquinref9_zero : Fn' := ⟨34, [.tmp 2],
  .ops [⟨(some 1), none, .box ty_palanquinref9_Structure (.s 0)⟩,
    ⟨(some 2), none, .mv (.c (V.bool false))⟩]
  (.ops [⟨(some 3), none, .faddr 0 (.s 1)⟩,
    ⟨(some 4), none, .load none (.s 3)⟩,
    ⟨(some 5), none, .bin .eql (.s 4) (.c (V.int .i64 0))⟩,
    ⟨(some 6), none, .mv (.s 5)⟩,
    ⟨(some 7), (some (6, true)), .faddr 1 (.s 1)⟩,
    ⟨(some 8), (some (6, true)), .load none (.s 7)⟩,
    ⟨(some 9), (some (6, true)), .bin .eql (.s 8) (.c (V.int .i64 0))⟩,
    ⟨(some 10), none, .pick (.s 6) (.s 9) (.c (V.bool false))⟩,
    ⟨(some 11), none, .mv (.s 10)⟩,
    ⟨(some 12), (some (11, true)), .faddr 2 (.s 1)⟩,
    ⟨(some 13), (some (11, true)), .load none (.s 12)⟩,
    ⟨(some 14), (some (11, true)), .len (.s 13)⟩,
    ⟨(some 15), (some (11, true)), .bin .eql (.s 14) (.c (V.int .i64 0))⟩,
    ⟨(some 16), none, .pick (.s 11) (.s 15) (.c (V.bool false))⟩,
    ⟨(some 17), none, .mv (.s 16)⟩,
    ⟨(some 18), (some (17, true)), .faddr 3 (.s 1)⟩,
    ⟨(some 19), (some (17, true)), .load none (.s 18)⟩,
    ⟨(some 20), (some (17, true)), .bin .eql (.s 19) (.c (V.int .i64 0))⟩,
    ⟨(some 21), none, .pick (.s 17) (.s 20) (.c (V.bool false))⟩,
    ⟨(some 22), none, .mv (.s 21)⟩,
    ⟨(some 23), (some (22, true)), .faddr 4 (.s 1)⟩,
    ⟨(some 24), (some (22, true)), .load none (.s 23)⟩,
    ⟨(some 25), (some (22, true)), .len (.s 24)⟩,
    ⟨(some 26), (some (22, true)), .bin .eql (.s 25) (.c (V.int .i64 0))⟩,
    ⟨(some 27), none, .pick (.s 22) (.s 26) (.c (V.bool false))⟩,
    ⟨(some 28), none, .mv (.s 27)⟩,
    ⟨(some 29), (some (28, true)), .faddr 5 (.s 1)⟩,
    ⟨(some 30), (some (28, true)), .load none (.s 29)⟩,
    ⟨(some 31), (some (28, true)), .len (.s 30)⟩,
    ⟨(some 32), (some (28, true)), .bin .eql (.s 31) (.c (V.int .i64 0))⟩,
    ⟨(some 33), none, .pick (.s 28) (.s 32) (.c (V.bool false))⟩,
    ⟨(some 2), none, .mv (.s 33)⟩]
  (.ret))⟩

noncomputable def f_palanquinref9_zero (G : Sem') (t0 : V) : M Res :=
  (mbox ty_palanquinref9_Structure t0).bind fun t1 =>
  (M.lift (Ax.faddr 0 t1)).bind fun t3 =>
  (mload none t3).bind fun t4 =>
  (M.lift (Ax.bin .eql t4 (V.int .i64 0))).bind fun t5 =>
  (guarded [(0, t5)] (some (0, true)) (M.lift (Ax.faddr 1 t1))).bind fun t7 =>
  (guarded [(0, t5)] (some (0, true)) (mload none t7)).bind fun t8 =>
  (guarded [(0, t5)] (some (0, true)) (M.lift (Ax.bin .eql t8 (V.int .i64 0)))).bind fun t9 =>
  (M.lift (Ax.pick t5 t9 (V.bool false))).bind fun t10 =>
  (guarded [(0, t10)] (some (0, true)) (M.lift (Ax.faddr 2 t1))).bind fun t12 =>
  (guarded [(0, t10)] (some (0, true)) (mload none t12)).bind fun t13 =>
  (guarded [(0, t10)] (some (0, true)) (M.lift (vlen t13))).bind fun t14 =>
  (guarded [(0, t10)] (some (0, true)) (M.lift (Ax.bin .eql t14 (V.int .i64 0)))).bind fun t15 =>
  (M.lift (Ax.pick t10 t15 (V.bool false))).bind fun t16 =>
  (guarded [(0, t16)] (some (0, true)) (M.lift (Ax.faddr 3 t1))).bind fun t18 =>
  (guarded [(0, t16)] (some (0, true)) (mload none t18)).bind fun t19 =>
  (guarded [(0, t16)] (some (0, true)) (M.lift (Ax.bin .eql t19 (V.int .i64 0)))).bind fun t20 =>
  (M.lift (Ax.pick t16 t20 (V.bool false))).bind fun t21 =>
  (guarded [(0, t21)] (some (0, true)) (M.lift (Ax.faddr 4 t1))).bind fun t23 =>
  (guarded [(0, t21)] (some (0, true)) (mload none t23)).bind fun t24 =>
  (guarded [(0, t21)] (some (0, true)) (M.lift (vlen t24))).bind fun t25 =>
  (guarded [(0, t21)] (some (0, true)) (M.lift (Ax.bin .eql t25 (V.int .i64 0)))).bind fun t26 =>
  (M.lift (Ax.pick t21 t26 (V.bool false))).bind fun t27 =>
  (guarded [(0, t27)] (some (0, true)) (M.lift (Ax.faddr 5 t1))).bind fun t29 =>
  (guarded [(0, t27)] (some (0, true)) (mload none t29)).bind fun t30 =>
  (guarded [(0, t27)] (some (0, true)) (M.lift (vlen t30))).bind fun t31 =>
  (guarded [(0, t27)] (some (0, true)) (M.lift (Ax.bin .eql t31 (V.int .i64 0)))).bind fun t32 =>
  (M.lift (Ax.pick t27 t32 (V.bool false))).bind fun t33 =>
  M.pure (.ret [t33])

theorem eq_palanquinref9_zero (G : Sem') (t0 : V) : execK G ir_palanquinref9_zero.rv ir_palanquinref9_zero.body [] [] (params 0 [t0]) = f_palanquinref9_zero G t0 := by kernel_rfl

theorem tb_palanquinref9_zero : T fn_palanquinref9_zero = some ir_palanquinref9_zero := by kernel_rfl

theorem ok_palanquinref9_zero {t0 : V} {H : Heap} {Q : V → Heap → Prop} (h : Ok (f_palanquinref9_zero (sem T) t0) H fun r H' => ∃ L, r = .ret L ∧ Q (tupled L) H') : Ok (sem T fn_palanquinref9_zero [t0]) H Q :=
  ok_sem tb_palanquinref9_zero (Nat.le_of_ble_eq_true rfl) (eq_palanquinref9_zero (sem T) t0) h

/-- palanquin/palanquinref9.SameInts. -/
def loop_palanquinref9_SameInts_0 : C :=
  .ops [⟨(some 11), none, .mv (.s 5)⟩,
    ⟨(some 12), none, .mv (.s 0)⟩,
    ⟨(some 13), none, .len (.s 12)⟩,
    ⟨(some 14), none, .bin .lss (.s 11) (.s 13)⟩]
  (.cond (.s 14)
  (.blk 1
   (.draw [⟨(some 17), none, .mv (.s 0)⟩,
      ⟨(some 18), none, .mv (.s 5)⟩,
      ⟨(some 19), none, .iaddr none 1 (.s 17) (.s 18)⟩,
      ⟨(some 20), none, .load none (.s 19)⟩,
      ⟨(some 21), none, .mv (.s 1)⟩,
      ⟨(some 22), none, .mv (.s 5)⟩,
      ⟨(some 23), none, .iaddr none 1 (.s 21) (.s 22)⟩,
      ⟨(some 24), none, .load none (.s 23)⟩,
      ⟨(some 25), none, .bin .neq (.s 20) (.s 24)⟩] []
    (.cond (.s 25)
    (.ops [⟨(some 4), none, .mv (.c (V.bool false))⟩]
     (.ret))
    (.done))) [] [17, 18, 19, 20, 21, 22, 23, 24, 25, 4]
   (.ops [⟨(some 15), none, .mv (.s 5)⟩,
     ⟨(some 16), none, .bin .add (.s 15) (.c (V.int .i64 1))⟩,
     ⟨(some 5), none, .mv (.s 16)⟩]
   (.done)))
  (.exit 0))

def ir_palanquinref9_SameInts : Fn' := ⟨26, [.tmp 4],
  .ops [⟨(some 4), none, .mv (.c (V.bool false))⟩]
  (.ops [⟨(some 6), none, .mv (.s 0)⟩,
    ⟨(some 7), none, .len (.s 6)⟩,
    ⟨(some 8), none, .mv (.s 1)⟩,
    ⟨(some 9), none, .len (.s 8)⟩,
    ⟨(some 10), none, .bin .neq (.s 7) (.s 9)⟩]
  (.cond (.s 10)
  (.ops [⟨(some 4), none, .mv (.c (V.bool false))⟩]
   (.ret))
  (.ops [⟨(some 5), none, .mv (.c (V.int .i64 0))⟩]
   (.blk 0
   (.loop loop_palanquinref9_SameInts_0 [5] [11, 12, 13, 14, 17, 18, 19, 20, 21, 22, 23, 24, 25, 4, 15, 16, 5]) [] [11, 12, 13, 14, 17, 18, 19, 20, 21, 22, 23, 24, 25, 4, 15, 16, 5]
   (.ops [⟨(some 4), none, .mv (.c (V.bool true))⟩]
   (.ret))))))⟩

noncomputable def f_palanquinref9_SameInts_0 (G : Sem') (t0 t1 : V) (L : List V) : M Res :=
  (M.lift (vlen t0)).bind fun t13 =>
  (M.lift (Ax.bin .lss (L.getD 0 .undef) t13)).bind fun t14 =>
  M.ite t14
    (M.blk 1 (
      (M.lift (Ax.iaddr none 1 t0 (L.getD 0 .undef))).bind fun t19 =>
      (mload none t19).bind fun t20 =>
      (M.lift (Ax.iaddr none 1 t1 (L.getD 0 .undef))).bind fun t23 =>
      (mload none t23).bind fun t24 =>
      (M.lift (Ax.bin .neq t20 t24)).bind fun t25 =>
      M.ite t25
        (M.pure (.ret [(V.bool false)]))
        (M.pure (.nrm []))) fun _ =>
    (M.lift (Ax.bin .add (L.getD 0 .undef) (V.int .i64 1))).bind fun t16 =>
    M.pure (.nrm [t16]))
    (M.pure (.ex 0 []))

noncomputable def f_palanquinref9_SameInts (G : Sem') (t0 t1 : V) : M Res :=
  (M.lift (vlen t0)).bind fun t7 =>
  (M.lift (vlen t1)).bind fun t9 =>
  (M.lift (Ax.bin .neq t7 t9)).bind fun t10 =>
  M.ite t10
    (M.pure (.ret [(V.bool false)]))
    (M.blk 0 (
      M.iter (f_palanquinref9_SameInts_0 G t0 t1) [(V.int .i64 0)]) fun _ =>
    M.pure (.ret [(V.bool true)]))

theorem eq_palanquinref9_SameInts (G : Sem') (t0 t1 : V) : execK G ir_palanquinref9_SameInts.rv ir_palanquinref9_SameInts.body [] [] (params 0 [t0, t1]) = f_palanquinref9_SameInts G t0 t1 := by kernel_rfl

theorem tb_palanquinref9_SameInts : T fn_palanquinref9_SameInts = some ir_palanquinref9_SameInts := by kernel_rfl

theorem ok_palanquinref9_SameInts {t0 t1 : V} {H : Heap} {Q : V → Heap → Prop} (h : Ok (f_palanquinref9_SameInts (sem T) t0 t1) H fun r H' => ∃ L, r = .ret L ∧ Q (tupled L) H') : Ok (sem T fn_palanquinref9_SameInts [t0, t1]) H Q :=
  ok_sem tb_palanquinref9_SameInts (Nat.le_of_ble_eq_true rfl) (eq_palanquinref9_SameInts (sem T) t0 t1) h

/-- palanquin/palanquinref9.one. -/
def ir_palanquinref9_one : Fn' := ⟨4, [.tmp 2],
  .ops [⟨(some 2), none, .mv (.c (V.int .u64 0))⟩]
  (.ops [⟨(some 3), none, .mv (.s 0)⟩]
  (.cond (.s 3)
  (.ops [⟨(some 2), none, .mv (.c (V.int .u64 1))⟩]
   (.ret))
  (.ops [⟨(some 2), none, .mv (.c (V.int .u64 0))⟩]
   (.ret))))⟩

noncomputable def f_palanquinref9_one (G : Sem') (t0 : V) : M Res :=
  M.ite t0
    (M.pure (.ret [(V.int .u64 1)]))
    (M.pure (.ret [(V.int .u64 0)]))

theorem eq_palanquinref9_one (G : Sem') (t0 : V) : execK G ir_palanquinref9_one.rv ir_palanquinref9_one.body [] [] (params 0 [t0]) = f_palanquinref9_one G t0 := by kernel_rfl

theorem tb_palanquinref9_one : T fn_palanquinref9_one = some ir_palanquinref9_one := by kernel_rfl

theorem ok_palanquinref9_one {t0 : V} {H : Heap} {Q : V → Heap → Prop} (h : Ok (f_palanquinref9_one (sem T) t0) H fun r H' => ∃ L, r = .ret L ∧ Q (tupled L) H') : Ok (sem T fn_palanquinref9_one [t0]) H Q :=
  ok_sem tb_palanquinref9_one (Nat.le_of_ble_eq_true rfl) (eq_palanquinref9_one (sem T) t0) h

/-- (*palanquin/palanquinref6.Writer).Add. -/
def loop_palanquinref6_Writer_Add_0 : C :=
  .ops [⟨(some 27), none, .mv (.s 7)⟩,
    ⟨(some 28), none, .bin .geq (.s 27) (.c (V.int .i64 0))⟩]
  (.cond (.s 28)
  (.blk 1
   (.ops [⟨(some 31), none, .mv (.s 0)⟩,
      ⟨(some 32), none, .mv (.s 0)⟩,
      ⟨(some 33), none, .nilck (.s 32)⟩,
      ⟨(some 34), none, .faddr 0 (.s 33)⟩,
      ⟨(some 35), none, .load none (.s 34)⟩,
      ⟨(some 36), none, .mv (.s 1)⟩,
      ⟨(some 37), none, .mv (.s 7)⟩,
      ⟨(some 38), none, .cint .u64 (.s 37)⟩,
      ⟨(some 39), none, .bin .shr (.s 36) (.s 38)⟩,
      ⟨(some 40), none, .bin .and (.s 39) (.c (V.int .u64 1))⟩,
      ⟨(some 41), none, .bin .eql (.s 40) (.c (V.int .u64 1))⟩,
      ⟨(some 42), none, .slit ty_bool 1 [(V.bool false)] [(0, 1, (.s 41))]⟩,
      ⟨(some 43), none, .append ty_bool 1 1 (.s 35) (.s 42)⟩,
      ⟨(some 44), none, .nilck (.s 31)⟩,
      ⟨(some 45), none, .faddr 0 (.s 44)⟩,
      ⟨none, none, .store 1 (.s 45) (.s 43)⟩]
    (.done)) [] [31, 32, 33, 34, 35, 36, 37, 38, 39, 40, 41, 42, 43, 44, 45]
   (.ops [⟨(some 29), none, .mv (.s 7)⟩,
     ⟨(some 30), none, .bin .sub (.s 29) (.c (V.int .i64 1))⟩,
     ⟨(some 7), none, .mv (.s 30)⟩]
   (.done)))
  (.exit 0))

def ir_palanquinref6_Writer_Add : Fn' := ⟨46, [.tmp 6],
  .ops [⟨(some 6), none, .mv (.c (V.int .i64 0))⟩]
  (.ops [⟨(some 8), none, .mv (.s 2)⟩,
    ⟨(some 9), none, .bin .lss (.s 8) (.c (V.int .i64 0))⟩,
    ⟨(some 10), none, .mv (.s 9)⟩,
    ⟨(some 11), (some (10, false)), .mv (.s 2)⟩,
    ⟨(some 12), (some (10, false)), .bin .gtr (.s 11) (.c (V.int .i64 64))⟩,
    ⟨(some 13), none, .pick (.s 10) (.c (V.bool true)) (.s 12)⟩,
    ⟨(some 14), none, .mv (.s 13)⟩,
    ⟨(some 15), (some (14, false)), .mv (.s 2)⟩,
    ⟨(some 16), (some (14, false)), .bin .lss (.s 15) (.c (V.int .i64 64))⟩,
    ⟨(some 17), (some (14, false)), .mv (.s 16)⟩,
    ⟨(some 18), (some (17, true)), .mv (.s 1)⟩,
    ⟨(some 19), (some (17, true)), .mv (.s 2)⟩,
    ⟨(some 20), (some (17, true)), .cint .u64 (.s 19)⟩,
    ⟨(some 21), (some (17, true)), .bin .shr (.s 18) (.s 20)⟩,
    ⟨(some 22), (some (17, true)), .bin .neq (.s 21) (.c (V.int .u64 0))⟩,
    ⟨(some 23), (some (14, false)), .pick (.s 17) (.s 22) (.c (V.bool false))⟩,
    ⟨(some 24), none, .pick (.s 14) (.c (V.bool true)) (.s 23)⟩]
  (.cond (.s 24)
  (.ops [⟨(some 6), none, .mv (.c (V.int .i64 1))⟩]
   (.ret))
  (.ops [⟨(some 25), none, .mv (.s 2)⟩,
     ⟨(some 26), none, .bin .sub (.s 25) (.c (V.int .i64 1))⟩,
     ⟨(some 7), none, .mv (.s 26)⟩]
   (.blk 0
   (.loop loop_palanquinref6_Writer_Add_0 [7] [27, 28, 31, 32, 33, 34, 35, 36, 37, 38, 39, 40, 41, 42, 43, 44, 45, 29, 30, 7]) [] [27, 28, 31, 32, 33, 34, 35, 36, 37, 38, 39, 40, 41, 42, 43, 44, 45, 29, 30, 7]
   (.ops [⟨(some 6), none, .mv (.c (V.int .i64 0))⟩]
   (.ret))))))⟩

noncomputable def f_palanquinref6_Writer_Add_0 (G : Sem') (t0 t1 t6 : V) (L : List V) : M Res :=
  (M.lift (Ax.bin .geq (L.getD 0 .undef) (V.int .i64 0))).bind fun t28 =>
  M.ite t28
    (M.blk 1 (
      (M.lift (Ax.nilck t0)).bind fun t33 =>
      (M.lift (Ax.faddr 0 t33)).bind fun t34 =>
      (mload none t34).bind fun t35 =>
      (M.lift (Ax.cint .u64 (L.getD 0 .undef))).bind fun t38 =>
      (M.lift (Ax.bin .shr t1 t38)).bind fun t39 =>
      (M.lift (Ax.bin .and t39 (V.int .u64 1))).bind fun t40 =>
      (M.lift (Ax.bin .eql t40 (V.int .u64 1))).bind fun t41 =>
      (mslit ty_bool 1 [(V.bool false)] [(0, 1, t41)]).bind fun t42 =>
      (mappend ty_bool 1 1 t35 t42).bind fun t43 =>
      (M.lift (Ax.nilck t0)).bind fun t44 =>
      (M.lift (Ax.faddr 0 t44)).bind fun t45 =>
      (mstore 1 t45 t43).bind fun _ =>
      M.pure (.nrm [])) fun _ =>
    (M.lift (Ax.bin .sub (L.getD 0 .undef) (V.int .i64 1))).bind fun t30 =>
    M.pure (.nrm [t30]))
    (M.pure (.ex 0 []))

noncomputable def f_palanquinref6_Writer_Add (G : Sem') (t0 t1 t2 : V) : M Res :=
  (M.lift (Ax.bin .lss t2 (V.int .i64 0))).bind fun t9 =>
  (guarded [(0, t9)] (some (0, false)) (M.pure t2)).bind fun t11 =>
  (guarded [(0, t9)] (some (0, false)) (M.lift (Ax.bin .gtr t11 (V.int .i64 64)))).bind fun t12 =>
  (M.lift (Ax.pick t9 (V.bool true) t12)).bind fun t13 =>
  (guarded [(0, t13)] (some (0, false)) (M.pure t2)).bind fun t15 =>
  (guarded [(0, t13)] (some (0, false)) (M.lift (Ax.bin .lss t15 (V.int .i64 64)))).bind fun t16 =>
  (guarded [(0, t13)] (some (0, false)) (M.pure t16)).bind fun t17 =>
  (guarded [(0, t17)] (some (0, true)) (M.pure t1)).bind fun t18 =>
  (guarded [(0, t17)] (some (0, true)) (M.pure t2)).bind fun t19 =>
  (guarded [(0, t17)] (some (0, true)) (M.lift (Ax.cint .u64 t19))).bind fun t20 =>
  (guarded [(0, t17)] (some (0, true)) (M.lift (Ax.bin .shr t18 t20))).bind fun t21 =>
  (guarded [(0, t17)] (some (0, true)) (M.lift (Ax.bin .neq t21 (V.int .u64 0)))).bind fun t22 =>
  (guarded [(0, t13)] (some (0, false)) (M.lift (Ax.pick t17 t22 (V.bool false)))).bind fun t23 =>
  (M.lift (Ax.pick t13 (V.bool true) t23)).bind fun t24 =>
  M.ite t24
    (M.pure (.ret [(V.int .i64 1)]))
    ((M.lift (Ax.bin .sub t2 (V.int .i64 1))).bind fun t26 =>
    M.blk 0 (
      M.iter (f_palanquinref6_Writer_Add_0 G t0 t1 (V.int .i64 0)) [t26]) fun _ =>
    M.pure (.ret [(V.int .i64 0)]))

theorem eq_palanquinref6_Writer_Add (G : Sem') (t0 t1 t2 : V) : execK G ir_palanquinref6_Writer_Add.rv ir_palanquinref6_Writer_Add.body [] [] (params 0 [t0, t1, t2]) = f_palanquinref6_Writer_Add G t0 t1 t2 := by kernel_rfl

theorem tb_palanquinref6_Writer_Add : T fn_palanquinref6_Writer_Add = some ir_palanquinref6_Writer_Add := by kernel_rfl

theorem ok_palanquinref6_Writer_Add {t0 t1 t2 : V} {H : Heap} {Q : V → Heap → Prop} (h : Ok (f_palanquinref6_Writer_Add (sem T) t0 t1 t2) H fun r H' => ∃ L, r = .ret L ∧ Q (tupled L) H') : Ok (sem T fn_palanquinref6_Writer_Add [t0, t1, t2]) H Q :=
  ok_sem tb_palanquinref6_Writer_Add (Nat.le_of_ble_eq_true rfl) (eq_palanquinref6_Writer_Add (sem T) t0 t1 t2) h

/-- (*palanquin/palanquinref6.Writer).Bytes. -/
def loop_palanquinref6_Writer_Bytes_0 : C :=
  .ops [⟨(some 13), none, .mv (.s 4)⟩,
    ⟨(some 14), none, .mv (.s 0)⟩,
    ⟨(some 15), none, .nilck (.s 14)⟩,
    ⟨(some 16), none, .faddr 0 (.s 15)⟩,
    ⟨(some 17), none, .load none (.s 16)⟩,
    ⟨(some 18), none, .len (.s 17)⟩,
    ⟨(some 19), none, .bin .lss (.s 13) (.s 18)⟩]
  (.cond (.s 19)
  (.blk 1
   (.ops [⟨(some 22), none, .mv (.s 0)⟩,
      ⟨(some 23), none, .nilck (.s 22)⟩,
      ⟨(some 24), none, .faddr 0 (.s 23)⟩,
      ⟨(some 25), none, .load none (.s 24)⟩,
      ⟨(some 26), none, .mv (.s 4)⟩,
      ⟨(some 27), none, .iaddr none 1 (.s 25) (.s 26)⟩,
      ⟨(some 28), none, .load none (.s 27)⟩]
    (.condJ (.s 28)
    (.ops [⟨(some 29), none, .mv (.s 3)⟩,
       ⟨(some 30), none, .mv (.s 4)⟩,
       ⟨(some 31), none, .bin .quo (.s 30) (.c (V.int .i64 8))⟩,
       ⟨(some 32), none, .mv (.s 3)⟩,
       ⟨(some 33), none, .mv (.s 4)⟩,
       ⟨(some 34), none, .bin .quo (.s 33) (.c (V.int .i64 8))⟩,
       ⟨(some 35), none, .iaddr none 1 (.s 32) (.s 34)⟩,
       ⟨(some 36), none, .load none (.s 35)⟩,
       ⟨(some 37), none, .mv (.s 4)⟩,
       ⟨(some 38), none, .bin .rem (.s 37) (.c (V.int .i64 8))⟩,
       ⟨(some 39), none, .cint .u64 (.s 38)⟩,
       ⟨(some 40), none, .bin .shr (.c (V.int .u8 128)) (.s 39)⟩,
       ⟨(some 41), none, .bin .or (.s 36) (.s 40)⟩,
       ⟨(some 42), none, .iaddr none 1 (.s 29) (.s 31)⟩,
       ⟨none, none, .store 1 (.s 42) (.s 41)⟩]
     (.done))
    (.done) [] [29, 30, 31, 32, 33, 34, 35, 36, 37, 38, 39, 40, 41, 42]
    (.done))) [] [22, 23, 24, 25, 26, 27, 28, 29, 30, 31, 32, 33, 34, 35, 36, 37, 38, 39, 40, 41, 42]
   (.ops [⟨(some 20), none, .mv (.s 4)⟩,
     ⟨(some 21), none, .bin .add (.s 20) (.c (V.int .i64 1))⟩,
     ⟨(some 4), none, .mv (.s 21)⟩]
   (.done)))
  (.exit 0))

def ir_palanquinref6_Writer_Bytes : Fn' := ⟨44, [.tmp 2],
  .ops [⟨(some 2), none, .mv (.c V.nils)⟩]
  (.ops [⟨(some 5), none, .mv (.s 0)⟩,
    ⟨(some 6), none, .nilck (.s 5)⟩,
    ⟨(some 7), none, .faddr 0 (.s 6)⟩,
    ⟨(some 8), none, .load none (.s 7)⟩,
    ⟨(some 9), none, .len (.s 8)⟩,
    ⟨(some 10), none, .bin .add (.s 9) (.c (V.int .i64 7))⟩,
    ⟨(some 11), none, .bin .quo (.s 10) (.c (V.int .i64 8))⟩,
    ⟨(some 12), none, .mkslice ty_uint8 1 [(V.int .u8 0)] (.s 11) (.s 11)⟩,
    ⟨(some 3), none, .mv (.s 12)⟩]
  (.ops [⟨(some 4), none, .mv (.c (V.int .i64 0))⟩]
  (.blk 0
  (.loop loop_palanquinref6_Writer_Bytes_0 [4] [13, 14, 15, 16, 17, 18, 19, 22, 23, 24, 25, 26, 27, 28, 29, 30, 31, 32, 33, 34, 35, 36, 37, 38, 39, 40, 41, 42, 20, 21, 4]) [] [13, 14, 15, 16, 17, 18, 19, 22, 23, 24, 25, 26, 27, 28, 29, 30, 31, 32, 33, 34, 35, 36, 37, 38, 39, 40, 41, 42, 20, 21, 4]
  (.ops [⟨(some 43), none, .mv (.s 3)⟩,
    ⟨(some 2), none, .mv (.s 43)⟩]
  (.ret)))))⟩

noncomputable def f_palanquinref6_Writer_Bytes_0 (G : Sem') (t0 t3 t2 : V) (L : List V) : M Res :=
  (M.lift (Ax.nilck t0)).bind fun t15 =>
  (M.lift (Ax.faddr 0 t15)).bind fun t16 =>
  (mload none t16).bind fun t17 =>
  (M.lift (vlen t17)).bind fun t18 =>
  (M.lift (Ax.bin .lss (L.getD 0 .undef) t18)).bind fun t19 =>
  M.ite t19
    (M.blk 1 (
      (M.lift (Ax.nilck t0)).bind fun t23 =>
      (M.lift (Ax.faddr 0 t23)).bind fun t24 =>
      (mload none t24).bind fun t25 =>
      (M.lift (Ax.iaddr none 1 t25 (L.getD 0 .undef))).bind fun t27 =>
      (mload none t27).bind fun t28 =>
      M.join (M.ite t28
        ((M.lift (Ax.bin .quo (L.getD 0 .undef) (V.int .i64 8))).bind fun t31 =>
        (M.lift (Ax.bin .quo (L.getD 0 .undef) (V.int .i64 8))).bind fun t34 =>
        (M.lift (Ax.iaddr none 1 t3 t34)).bind fun t35 =>
        (mload none t35).bind fun t36 =>
        (M.lift (Ax.bin .rem (L.getD 0 .undef) (V.int .i64 8))).bind fun t38 =>
        (M.lift (Ax.cint .u64 t38)).bind fun t39 =>
        (M.lift (Ax.bin .shr (V.int .u8 128) t39)).bind fun t40 =>
        (M.lift (Ax.bin .or t36 t40)).bind fun t41 =>
        (M.lift (Ax.iaddr none 1 t3 t31)).bind fun t42 =>
        (mstore 1 t42 t41).bind fun _ =>
        M.pure (.nrm []))
        (M.pure (.nrm []))) fun _ =>
      M.pure (.nrm [])) fun _ =>
    (M.lift (Ax.bin .add (L.getD 0 .undef) (V.int .i64 1))).bind fun t21 =>
    M.pure (.nrm [t21]))
    (M.pure (.ex 0 []))

noncomputable def f_palanquinref6_Writer_Bytes (G : Sem') (t0 : V) : M Res :=
  (M.lift (Ax.nilck t0)).bind fun t6 =>
  (M.lift (Ax.faddr 0 t6)).bind fun t7 =>
  (mload none t7).bind fun t8 =>
  (M.lift (vlen t8)).bind fun t9 =>
  (M.lift (Ax.bin .add t9 (V.int .i64 7))).bind fun t10 =>
  (M.lift (Ax.bin .quo t10 (V.int .i64 8))).bind fun t11 =>
  (mmkslice ty_uint8 1 [(V.int .u8 0)] t11 t11).bind fun t12 =>
  M.blk 0 (
    M.iter (f_palanquinref6_Writer_Bytes_0 G t0 t12 V.nils) [(V.int .i64 0)]) fun _ =>
  M.pure (.ret [t12])

theorem eq_palanquinref6_Writer_Bytes (G : Sem') (t0 : V) : execK G ir_palanquinref6_Writer_Bytes.rv ir_palanquinref6_Writer_Bytes.body [] [] (params 0 [t0]) = f_palanquinref6_Writer_Bytes G t0 := by kernel_rfl

theorem tb_palanquinref6_Writer_Bytes : T fn_palanquinref6_Writer_Bytes = some ir_palanquinref6_Writer_Bytes := by kernel_rfl

theorem ok_palanquinref6_Writer_Bytes {t0 : V} {H : Heap} {Q : V → Heap → Prop} (h : Ok (f_palanquinref6_Writer_Bytes (sem T) t0) H fun r H' => ∃ L, r = .ret L ∧ Q (tupled L) H') : Ok (sem T fn_palanquinref6_Writer_Bytes [t0]) H Q :=
  ok_sem tb_palanquinref6_Writer_Bytes (Nat.le_of_ble_eq_true rfl) (eq_palanquinref6_Writer_Bytes (sem T) t0) h

/-- palanquin/palanquinref9.writes. -/
def loop_palanquinref9_writes_0 : C :=
  .ops [⟨(some 29), none, .mv (.s 5)⟩,
    ⟨(some 30), none, .mv (.s 4)⟩,
    ⟨(some 31), none, .bin .lss (.s 29) (.s 30)⟩]
  (.cond (.s 31)
  (.blk 1
   (.ops [⟨(some 6), none, .mv (.c (V.int .i64 3))⟩]
    (.ops [⟨(some 34), none, .mv (.s 5)⟩,
      ⟨(some 35), none, .bin .add (.s 34) (.c (V.int .i64 1))⟩,
      ⟨(some 36), none, .mv (.s 4)⟩,
      ⟨(some 37), none, .bin .lss (.s 35) (.s 36)⟩]
    (.condJ (.s 37)
    (.draw [⟨(some 38), none, .faddr 2 (.s 3)⟩,
       ⟨(some 39), none, .load none (.s 38)⟩,
       ⟨(some 40), none, .mv (.s 5)⟩,
       ⟨(some 41), none, .iaddr none 5 (.s 39) (.s 40)⟩,
       ⟨(some 42), none, .load (some 5) (.s 41)⟩,
       ⟨(some 43), none, .faddr 2 (.s 3)⟩,
       ⟨(some 44), none, .load none (.s 43)⟩,
       ⟨(some 45), none, .mv (.s 5)⟩,
       ⟨(some 46), none, .bin .add (.s 45) (.c (V.int .i64 1))⟩,
       ⟨(some 47), none, .iaddr none 5 (.s 44) (.s 46)⟩,
       ⟨(some 48), none, .load (some 5) (.s 47)⟩,
       ⟨(some 49), none, .call fn_palanquinref9_step [(.s 42), (.s 48)]⟩,
       ⟨(some 6), none, .mv (.s 49)⟩] []
     (.done))
    (.done) [6] [38, 39, 40, 41, 42, 43, 44, 45, 46, 47, 48, 49, 6]
    (.ops [⟨(some 50), none, .mv (.s 0)⟩,
      ⟨(some 51), none, .mv (.s 6)⟩,
      ⟨(some 52), none, .cint .u64 (.s 51)⟩,
      ⟨(some 53), none, .call fn_palanquinref6_Writer_Add [(.s 50), (.s 52), (.c (V.int .i64 2))]⟩]
    (.done))))) [] [6, 34, 35, 36, 37, 38, 39, 40, 41, 42, 43, 44, 45, 46, 47, 48, 49, 6, 50, 51, 52, 53]
   (.ops [⟨(some 32), none, .mv (.s 5)⟩,
     ⟨(some 33), none, .bin .add (.s 32) (.c (V.int .i64 1))⟩,
     ⟨(some 5), none, .mv (.s 33)⟩]
   (.done)))
  (.exit 0))

def loop_palanquinref9_writes_1 : C :=
  .ops [⟨(some 59), none, .mv (.s 8)⟩,
    ⟨(some 60), none, .faddr 1 (.s 3)⟩,
    ⟨(some 61), none, .load none (.s 60)⟩,
    ⟨(some 62), none, .bin .lss (.s 59) (.s 61)⟩]
  (.cond (.s 62)
  (.blk 5
   (.ops [⟨(some 65), none, .mv (.s 0)⟩,
      ⟨(some 66), none, .faddr 2 (.s 3)⟩,
      ⟨(some 67), none, .load none (.s 66)⟩,
      ⟨(some 68), none, .mv (.s 7)⟩,
      ⟨(some 69), none, .iaddr none 5 (.s 67) (.s 68)⟩,
      ⟨(some 70), none, .faddr 2 (.s 69)⟩,
      ⟨(some 71), none, .load none (.s 70)⟩,
      ⟨(some 72), none, .mv (.s 8)⟩,
      ⟨(some 73), none, .iaddr none 1 (.s 71) (.s 72)⟩,
      ⟨(some 74), none, .load none (.s 73)⟩,
      ⟨(some 75), none, .cint .u64 (.s 74)⟩,
      ⟨(some 76), none, .call fn_palanquinref6_Writer_Add [(.s 65), (.s 75), (.c (V.int .i64 2))]⟩]
    (.done)) [] [65, 66, 67, 68, 69, 70, 71, 72, 73, 74, 75, 76]
   (.ops [⟨(some 63), none, .mv (.s 8)⟩,
     ⟨(some 64), none, .bin .add (.s 63) (.c (V.int .i64 1))⟩,
     ⟨(some 8), none, .mv (.s 64)⟩]
   (.done)))
  (.exit 4))

def loop_palanquinref9_writes_2 : C :=
  .ops [⟨(some 54), none, .mv (.s 7)⟩,
    ⟨(some 55), none, .mv (.s 4)⟩,
    ⟨(some 56), none, .bin .lss (.s 54) (.s 55)⟩]
  (.cond (.s 56)
  (.blk 3
   (.ops [⟨(some 8), none, .mv (.c (V.int .i64 0))⟩]
    (.blk 4
    (.loop loop_palanquinref9_writes_1 [8] [59, 60, 61, 62, 65, 66, 67, 68, 69, 70, 71, 72, 73, 74, 75, 76, 63, 64, 8]) [] [59, 60, 61, 62, 65, 66, 67, 68, 69, 70, 71, 72, 73, 74, 75, 76, 63, 64, 8]
    (.done))) [] [8, 59, 60, 61, 62, 65, 66, 67, 68, 69, 70, 71, 72, 73, 74, 75, 76, 63, 64, 8]
   (.ops [⟨(some 57), none, .mv (.s 7)⟩,
     ⟨(some 58), none, .bin .add (.s 57) (.c (V.int .i64 1))⟩,
     ⟨(some 7), none, .mv (.s 58)⟩]
   (.done)))
  (.exit 2))

def loop_palanquinref9_writes_3 : C :=
  .ops [⟨(some 82), none, .mv (.s 10)⟩,
    ⟨(some 83), none, .faddr 2 (.s 3)⟩,
    ⟨(some 84), none, .load none (.s 83)⟩,
    ⟨(some 85), none, .mv (.s 9)⟩,
    ⟨(some 86), none, .iaddr none 5 (.s 84) (.s 85)⟩,
    ⟨(some 87), none, .faddr 3 (.s 86)⟩,
    ⟨(some 88), none, .load none (.s 87)⟩,
    ⟨(some 89), none, .len (.s 88)⟩,
    ⟨(some 90), none, .bin .lss (.s 82) (.s 89)⟩]
  (.cond (.s 90)
  (.blk 9
   (.ops [⟨(some 93), none, .mv (.s 0)⟩,
      ⟨(some 94), none, .call fn_palanquinref6_Writer_Add [(.s 93), (.c (V.int .u64 1)), (.c (V.int .i64 1))]⟩]
    (.ops [⟨(some 95), none, .mv (.s 0)⟩,
      ⟨(some 96), none, .faddr 2 (.s 3)⟩,
      ⟨(some 97), none, .load none (.s 96)⟩,
      ⟨(some 98), none, .mv (.s 9)⟩,
      ⟨(some 99), none, .iaddr none 5 (.s 97) (.s 98)⟩,
      ⟨(some 100), none, .faddr 3 (.s 99)⟩,
      ⟨(some 101), none, .load none (.s 100)⟩,
      ⟨(some 102), none, .mv (.s 10)⟩,
      ⟨(some 103), none, .iaddr none 1 (.s 101) (.s 102)⟩,
      ⟨(some 104), none, .load none (.s 103)⟩,
      ⟨(some 105), none, .bin .sub (.s 104) (.c (V.int .i64 1))⟩,
      ⟨(some 106), none, .cint .u64 (.s 105)⟩,
      ⟨(some 107), none, .call fn_palanquinref6_Writer_Add [(.s 95), (.s 106), (.c (V.int .i64 4))]⟩]
    (.done))) [] [93, 94, 95, 96, 97, 98, 99, 100, 101, 102, 103, 104, 105, 106, 107]
   (.ops [⟨(some 91), none, .mv (.s 10)⟩,
     ⟨(some 92), none, .bin .add (.s 91) (.c (V.int .i64 1))⟩,
     ⟨(some 10), none, .mv (.s 92)⟩]
   (.done)))
  (.exit 8))

def loop_palanquinref9_writes_4 : C :=
  .ops [⟨(some 77), none, .mv (.s 9)⟩,
    ⟨(some 78), none, .mv (.s 4)⟩,
    ⟨(some 79), none, .bin .lss (.s 77) (.s 78)⟩]
  (.cond (.s 79)
  (.blk 7
   (.ops [⟨(some 10), none, .mv (.c (V.int .i64 0))⟩]
    (.blk 8
    (.loop loop_palanquinref9_writes_3 [10] [82, 83, 84, 85, 86, 87, 88, 89, 90, 93, 94, 95, 96, 97, 98, 99, 100, 101, 102, 103, 104, 105, 106, 107, 91, 92, 10]) [] [82, 83, 84, 85, 86, 87, 88, 89, 90, 93, 94, 95, 96, 97, 98, 99, 100, 101, 102, 103, 104, 105, 106, 107, 91, 92, 10]
    (.ops [⟨(some 108), none, .mv (.s 0)⟩,
      ⟨(some 109), none, .call fn_palanquinref6_Writer_Add [(.s 108), (.c (V.int .u64 0)), (.c (V.int .i64 1))]⟩]
    (.done)))) [] [10, 82, 83, 84, 85, 86, 87, 88, 89, 90, 93, 94, 95, 96, 97, 98, 99, 100, 101, 102, 103, 104, 105, 106, 107, 91, 92, 10, 108, 109]
   (.ops [⟨(some 80), none, .mv (.s 9)⟩,
     ⟨(some 81), none, .bin .add (.s 80) (.c (V.int .i64 1))⟩,
     ⟨(some 9), none, .mv (.s 81)⟩]
   (.done)))
  (.exit 6))

def loop_palanquinref9_writes_5 : C :=
  .ops [⟨(some 122), none, .mv (.s 11)⟩,
    ⟨(some 123), none, .faddr 1 (.s 3)⟩,
    ⟨(some 124), none, .load none (.s 123)⟩,
    ⟨(some 125), none, .bin .lss (.s 122) (.s 124)⟩]
  (.cond (.s 125)
  (.blk 11
   (.draw [⟨(some 128), none, .mv (.s 0)⟩,
      ⟨(some 129), none, .faddr 4 (.s 3)⟩,
      ⟨(some 130), none, .load none (.s 129)⟩,
      ⟨(some 131), none, .mv (.s 11)⟩,
      ⟨(some 132), none, .iaddr none 1 (.s 130) (.s 131)⟩,
      ⟨(some 133), none, .load none (.s 132)⟩,
      ⟨(some 134), none, .cint .u64 (.s 133)⟩,
      ⟨(some 135), none, .faddr 3 (.s 3)⟩,
      ⟨(some 136), none, .load none (.s 135)⟩,
      ⟨(some 137), none, .cint .u64 (.s 136)⟩,
      ⟨(some 138), none, .call fn_palanquinref6_Writer_AddNS [(.s 128), (.s 134), (.s 137)]⟩] []
    (.done)) [] [128, 129, 130, 131, 132, 133, 134, 135, 136, 137, 138]
   (.ops [⟨(some 126), none, .mv (.s 11)⟩,
     ⟨(some 127), none, .bin .add (.s 126) (.c (V.int .i64 1))⟩,
     ⟨(some 11), none, .mv (.s 127)⟩]
   (.done)))
  (.exit 10))

def loop_palanquinref9_writes_6 : C :=
  .ops [⟨(some 144), none, .mv (.s 13)⟩,
    ⟨(some 145), none, .faddr 3 (.s 3)⟩,
    ⟨(some 146), none, .load none (.s 145)⟩,
    ⟨(some 147), none, .bin .lss (.s 144) (.s 146)⟩]
  (.cond (.s 147)
  (.blk 15
   (.ops [⟨(some 150), none, .mv (.s 0)⟩,
      ⟨(some 151), none, .faddr 2 (.s 3)⟩,
      ⟨(some 152), none, .load none (.s 151)⟩,
      ⟨(some 153), none, .mv (.s 12)⟩,
      ⟨(some 154), none, .iaddr none 5 (.s 152) (.s 153)⟩,
      ⟨(some 155), none, .faddr 4 (.s 154)⟩,
      ⟨(some 156), none, .load none (.s 155)⟩,
      ⟨(some 157), none, .mv (.s 13)⟩,
      ⟨(some 158), none, .iaddr none 1 (.s 156) (.s 157)⟩,
      ⟨(some 159), none, .load none (.s 158)⟩,
      ⟨(some 160), none, .cint .u64 (.s 159)⟩,
      ⟨(some 161), none, .call fn_palanquinref6_Writer_Add [(.s 150), (.s 160), (.c (V.int .i64 4))]⟩]
    (.done)) [] [150, 151, 152, 153, 154, 155, 156, 157, 158, 159, 160, 161]
   (.ops [⟨(some 148), none, .mv (.s 13)⟩,
     ⟨(some 149), none, .bin .add (.s 148) (.c (V.int .i64 1))⟩,
     ⟨(some 13), none, .mv (.s 149)⟩]
   (.done)))
  (.exit 14))

def loop_palanquinref9_writes_7 : C :=
  .ops [⟨(some 139), none, .mv (.s 12)⟩,
    ⟨(some 140), none, .mv (.s 4)⟩,
    ⟨(some 141), none, .bin .lss (.s 139) (.s 140)⟩]
  (.cond (.s 141)
  (.blk 13
   (.ops [⟨(some 13), none, .mv (.c (V.int .i64 0))⟩]
    (.blk 14
    (.loop loop_palanquinref9_writes_6 [13] [144, 145, 146, 147, 150, 151, 152, 153, 154, 155, 156, 157, 158, 159, 160, 161, 148, 149, 13]) [] [144, 145, 146, 147, 150, 151, 152, 153, 154, 155, 156, 157, 158, 159, 160, 161, 148, 149, 13]
    (.done))) [] [13, 144, 145, 146, 147, 150, 151, 152, 153, 154, 155, 156, 157, 158, 159, 160, 161, 148, 149, 13]
   (.ops [⟨(some 142), none, .mv (.s 12)⟩,
     ⟨(some 143), none, .bin .add (.s 142) (.c (V.int .i64 1))⟩,
     ⟨(some 12), none, .mv (.s 143)⟩]
   (.done)))
  (.exit 12))

def loop_palanquinref9_writes_8 : C :=
  .ops [⟨(some 169), none, .mv (.s 14)⟩,
    ⟨(some 170), none, .faddr 5 (.s 3)⟩,
    ⟨(some 171), none, .load none (.s 170)⟩,
    ⟨(some 172), none, .len (.s 171)⟩,
    ⟨(some 173), none, .bin .lss (.s 169) (.s 172)⟩]
  (.cond (.s 173)
  (.blk 17
   (.ops [⟨(some 176), none, .mv (.s 0)⟩,
      ⟨(some 177), none, .faddr 5 (.s 3)⟩,
      ⟨(some 178), none, .load none (.s 177)⟩,
      ⟨(some 179), none, .mv (.s 14)⟩,
      ⟨(some 180), none, .iaddr none 2 (.s 178) (.s 179)⟩,
      ⟨(some 181), none, .iaddr (some 2) 1 (.s 180) (.c (V.int .i64 0))⟩,
      ⟨(some 182), none, .load none (.s 181)⟩,
      ⟨(some 183), none, .bin .sub (.s 182) (.c (V.int .i64 1))⟩,
      ⟨(some 184), none, .cint .u64 (.s 183)⟩,
      ⟨(some 185), none, .call fn_palanquinref6_Writer_Add [(.s 176), (.s 184), (.c (V.int .i64 16))]⟩]
    (.ops [⟨(some 186), none, .mv (.s 0)⟩,
      ⟨(some 187), none, .faddr 5 (.s 3)⟩,
      ⟨(some 188), none, .load none (.s 187)⟩,
      ⟨(some 189), none, .mv (.s 14)⟩,
      ⟨(some 190), none, .iaddr none 2 (.s 188) (.s 189)⟩,
      ⟨(some 191), none, .iaddr (some 2) 1 (.s 190) (.c (V.int .i64 1))⟩,
      ⟨(some 192), none, .load none (.s 191)⟩,
      ⟨(some 193), none, .bin .sub (.s 192) (.c (V.int .i64 1))⟩,
      ⟨(some 194), none, .cint .u64 (.s 193)⟩,
      ⟨(some 195), none, .call fn_palanquinref6_Writer_Add [(.s 186), (.s 194), (.c (V.int .i64 16))]⟩]
    (.done))) [] [176, 177, 178, 179, 180, 181, 182, 183, 184, 185, 186, 187, 188, 189, 190, 191, 192, 193, 194, 195]
   (.ops [⟨(some 174), none, .mv (.s 14)⟩,
     ⟨(some 175), none, .bin .add (.s 174) (.c (V.int .i64 1))⟩,
     ⟨(some 14), none, .mv (.s 175)⟩]
   (.done)))
  (.exit 16))

def ir_palanquinref9_writes : Fn' := ⟨196, [],
  .ops [⟨(some 3), none, .box ty_palanquinref9_Structure (.s 1)⟩]
  (.ops [⟨(some 15), none, .faddr 2 (.s 3)⟩,
    ⟨(some 16), none, .load none (.s 15)⟩,
    ⟨(some 17), none, .len (.s 16)⟩,
    ⟨(some 4), none, .mv (.s 17)⟩]
  (.ops [⟨(some 18), none, .mv (.s 0)⟩,
    ⟨(some 19), none, .faddr 0 (.s 3)⟩,
    ⟨(some 20), none, .load none (.s 19)⟩,
    ⟨(some 21), none, .cint .u64 (.s 20)⟩,
    ⟨(some 22), none, .call fn_palanquinref6_Writer_Add [(.s 18), (.s 21), (.c (V.int .i64 6))]⟩]
  (.ops [⟨(some 23), none, .mv (.s 0)⟩,
    ⟨(some 24), none, .faddr 1 (.s 3)⟩,
    ⟨(some 25), none, .load none (.s 24)⟩,
    ⟨(some 26), none, .bin .sub (.s 25) (.c (V.int .i64 1))⟩,
    ⟨(some 27), none, .cint .u64 (.s 26)⟩,
    ⟨(some 28), none, .call fn_palanquinref6_Writer_Add [(.s 23), (.s 27), (.c (V.int .i64 5))]⟩]
  (.ops [⟨(some 5), none, .mv (.c (V.int .i64 0))⟩]
  (.blk 0
  (.loop loop_palanquinref9_writes_0 [5] [29, 30, 31, 6, 34, 35, 36, 37, 38, 39, 40, 41, 42, 43, 44, 45, 46, 47, 48, 49, 6, 50, 51, 52, 53, 32, 33, 5]) [] [29, 30, 31, 6, 34, 35, 36, 37, 38, 39, 40, 41, 42, 43, 44, 45, 46, 47, 48, 49, 6, 50, 51, 52, 53, 32, 33, 5]
  (.ops [⟨(some 7), none, .mv (.c (V.int .i64 0))⟩]
  (.blk 2
  (.loop loop_palanquinref9_writes_2 [7] [54, 55, 56, 8, 59, 60, 61, 62, 65, 66, 67, 68, 69, 70, 71, 72, 73, 74, 75, 76, 63, 64, 8, 57, 58, 7]) [] [54, 55, 56, 8, 59, 60, 61, 62, 65, 66, 67, 68, 69, 70, 71, 72, 73, 74, 75, 76, 63, 64, 8, 57, 58, 7]
  (.ops [⟨(some 9), none, .mv (.c (V.int .i64 0))⟩]
  (.blk 6
  (.loop loop_palanquinref9_writes_4 [9] [77, 78, 79, 10, 82, 83, 84, 85, 86, 87, 88, 89, 90, 93, 94, 95, 96, 97, 98, 99, 100, 101, 102, 103, 104, 105, 106, 107, 91, 92, 10, 108, 109, 80, 81, 9]) [] [77, 78, 79, 10, 82, 83, 84, 85, 86, 87, 88, 89, 90, 93, 94, 95, 96, 97, 98, 99, 100, 101, 102, 103, 104, 105, 106, 107, 91, 92, 10, 108, 109, 80, 81, 9]
  (.ops [⟨(some 110), none, .mv (.s 0)⟩,
    ⟨(some 111), none, .faddr 3 (.s 3)⟩,
    ⟨(some 112), none, .load none (.s 111)⟩,
    ⟨(some 113), none, .cint .u64 (.s 112)⟩,
    ⟨(some 114), none, .faddr 1 (.s 3)⟩,
    ⟨(some 115), none, .load none (.s 114)⟩,
    ⟨(some 116), none, .bin .add (.s 115) (.c (V.int .i64 1))⟩,
    ⟨(some 117), none, .cint .u64 (.s 116)⟩,
    ⟨(some 118), none, .call fn_palanquinref6_Writer_AddNS [(.s 110), (.s 113), (.s 117)]⟩]
  (.ops [⟨(some 119), none, .faddr 3 (.s 3)⟩,
    ⟨(some 120), none, .load none (.s 119)⟩,
    ⟨(some 121), none, .bin .gtr (.s 120) (.c (V.int .i64 0))⟩]
  (.condJ (.s 121)
  (.ops [⟨(some 11), none, .mv (.c (V.int .i64 0))⟩]
   (.blk 10
   (.loop loop_palanquinref9_writes_5 [11] [122, 123, 124, 125, 128, 129, 130, 131, 132, 133, 134, 135, 136, 137, 138, 126, 127, 11]) [] [122, 123, 124, 125, 128, 129, 130, 131, 132, 133, 134, 135, 136, 137, 138, 126, 127, 11]
   (.ops [⟨(some 12), none, .mv (.c (V.int .i64 0))⟩]
   (.blk 12
   (.loop loop_palanquinref9_writes_7 [12] [139, 140, 141, 13, 144, 145, 146, 147, 150, 151, 152, 153, 154, 155, 156, 157, 158, 159, 160, 161, 148, 149, 13, 142, 143, 12]) [] [139, 140, 141, 13, 144, 145, 146, 147, 150, 151, 152, 153, 154, 155, 156, 157, 158, 159, 160, 161, 148, 149, 13, 142, 143, 12]
   (.done)))))
  (.done) [] [11, 122, 123, 124, 125, 128, 129, 130, 131, 132, 133, 134, 135, 136, 137, 138, 126, 127, 11, 12, 139, 140, 141, 13, 144, 145, 146, 147, 150, 151, 152, 153, 154, 155, 156, 157, 158, 159, 160, 161, 148, 149, 13, 142, 143, 12]
  (.ops [⟨(some 162), none, .mv (.s 0)⟩,
    ⟨(some 163), none, .faddr 5 (.s 3)⟩,
    ⟨(some 164), none, .load none (.s 163)⟩,
    ⟨(some 165), none, .len (.s 164)⟩,
    ⟨(some 166), none, .bin .gtr (.s 165) (.c (V.int .i64 0))⟩,
    ⟨(some 167), none, .call fn_palanquinref9_one [(.s 166)]⟩,
    ⟨(some 168), none, .call fn_palanquinref6_Writer_Add [(.s 162), (.s 167), (.c (V.int .i64 1))]⟩]
  (.ops [⟨(some 14), none, .mv (.c (V.int .i64 0))⟩]
  (.blk 16
  (.loop loop_palanquinref9_writes_8 [14] [169, 170, 171, 172, 173, 176, 177, 178, 179, 180, 181, 182, 183, 184, 185, 186, 187, 188, 189, 190, 191, 192, 193, 194, 195, 174, 175, 14]) [] [169, 170, 171, 172, 173, 176, 177, 178, 179, 180, 181, 182, 183, 184, 185, 186, 187, 188, 189, 190, 191, 192, 193, 194, 195, 174, 175, 14]
  (.ret))))))))))))))))⟩

noncomputable def f_palanquinref9_writes_0 (G : Sem') (t4 t3 t0 : V) (L : List V) : M Res :=
  (M.lift (Ax.bin .lss (L.getD 0 .undef) t4)).bind fun t31 =>
  M.ite t31
    (M.blk 1 (
      (M.lift (Ax.bin .add (L.getD 0 .undef) (V.int .i64 1))).bind fun t35 =>
      (M.lift (Ax.bin .lss t35 t4)).bind fun t37 =>
      M.join (M.ite t37
        ((M.lift (Ax.faddr 2 t3)).bind fun t38 =>
        (mload none t38).bind fun t39 =>
        (M.lift (Ax.iaddr none 5 t39 (L.getD 0 .undef))).bind fun t41 =>
        (mload (some 5) t41).bind fun t42 =>
        (M.lift (Ax.faddr 2 t3)).bind fun t43 =>
        (mload none t43).bind fun t44 =>
        (M.lift (Ax.bin .add (L.getD 0 .undef) (V.int .i64 1))).bind fun t46 =>
        (M.lift (Ax.iaddr none 5 t44 t46)).bind fun t47 =>
        (mload (some 5) t47).bind fun t48 =>
        (G fn_palanquinref9_step [t42, t48]).bind fun t49 =>
        M.pure (.nrm [t49]))
        (M.pure (.nrm [(V.int .i64 3)]))) fun L0 =>
      (M.lift (Ax.cint .u64 (L0.getD 0 .undef))).bind fun t52 =>
      (G fn_palanquinref6_Writer_Add [t0, t52, (V.int .i64 2)]).bind fun t53 =>
      M.pure (.nrm [])) fun _ =>
    (M.lift (Ax.bin .add (L.getD 0 .undef) (V.int .i64 1))).bind fun t33 =>
    M.pure (.nrm [t33]))
    (M.pure (.ex 0 []))

noncomputable def f_palanquinref9_writes_1 (G : Sem') (t0 t3 t7 : V) (L : List V) : M Res :=
  (M.lift (Ax.faddr 1 t3)).bind fun t60 =>
  (mload none t60).bind fun t61 =>
  (M.lift (Ax.bin .lss (L.getD 0 .undef) t61)).bind fun t62 =>
  M.ite t62
    (M.blk 5 (
      (M.lift (Ax.faddr 2 t3)).bind fun t66 =>
      (mload none t66).bind fun t67 =>
      (M.lift (Ax.iaddr none 5 t67 t7)).bind fun t69 =>
      (M.lift (Ax.faddr 2 t69)).bind fun t70 =>
      (mload none t70).bind fun t71 =>
      (M.lift (Ax.iaddr none 1 t71 (L.getD 0 .undef))).bind fun t73 =>
      (mload none t73).bind fun t74 =>
      (M.lift (Ax.cint .u64 t74)).bind fun t75 =>
      (G fn_palanquinref6_Writer_Add [t0, t75, (V.int .i64 2)]).bind fun t76 =>
      M.pure (.nrm [])) fun _ =>
    (M.lift (Ax.bin .add (L.getD 0 .undef) (V.int .i64 1))).bind fun t64 =>
    M.pure (.nrm [t64]))
    (M.pure (.ex 4 []))

noncomputable def f_palanquinref9_writes_2 (G : Sem') (t4 t0 t3 : V) (L : List V) : M Res :=
  (M.lift (Ax.bin .lss (L.getD 0 .undef) t4)).bind fun t56 =>
  M.ite t56
    (M.blk 3 (
      M.blk 4 (
        M.iter (f_palanquinref9_writes_1 G t0 t3 (L.getD 0 .undef)) [(V.int .i64 0)]) fun _ =>
      M.pure (.nrm [])) fun _ =>
    (M.lift (Ax.bin .add (L.getD 0 .undef) (V.int .i64 1))).bind fun t58 =>
    M.pure (.nrm [t58]))
    (M.pure (.ex 2 []))

noncomputable def f_palanquinref9_writes_3 (G : Sem') (t0 t3 t9 : V) (L : List V) : M Res :=
  (M.lift (Ax.faddr 2 t3)).bind fun t83 =>
  (mload none t83).bind fun t84 =>
  (M.lift (Ax.iaddr none 5 t84 t9)).bind fun t86 =>
  (M.lift (Ax.faddr 3 t86)).bind fun t87 =>
  (mload none t87).bind fun t88 =>
  (M.lift (vlen t88)).bind fun t89 =>
  (M.lift (Ax.bin .lss (L.getD 0 .undef) t89)).bind fun t90 =>
  M.ite t90
    (M.blk 9 (
      (G fn_palanquinref6_Writer_Add [t0, (V.int .u64 1), (V.int .i64 1)]).bind fun t94 =>
      (M.lift (Ax.faddr 2 t3)).bind fun t96 =>
      (mload none t96).bind fun t97 =>
      (M.lift (Ax.iaddr none 5 t97 t9)).bind fun t99 =>
      (M.lift (Ax.faddr 3 t99)).bind fun t100 =>
      (mload none t100).bind fun t101 =>
      (M.lift (Ax.iaddr none 1 t101 (L.getD 0 .undef))).bind fun t103 =>
      (mload none t103).bind fun t104 =>
      (M.lift (Ax.bin .sub t104 (V.int .i64 1))).bind fun t105 =>
      (M.lift (Ax.cint .u64 t105)).bind fun t106 =>
      (G fn_palanquinref6_Writer_Add [t0, t106, (V.int .i64 4)]).bind fun t107 =>
      M.pure (.nrm [])) fun _ =>
    (M.lift (Ax.bin .add (L.getD 0 .undef) (V.int .i64 1))).bind fun t92 =>
    M.pure (.nrm [t92]))
    (M.pure (.ex 8 []))

noncomputable def f_palanquinref9_writes_4 (G : Sem') (t4 t3 t0 : V) (L : List V) : M Res :=
  (M.lift (Ax.bin .lss (L.getD 0 .undef) t4)).bind fun t79 =>
  M.ite t79
    (M.blk 7 (
      M.blk 8 (
        M.iter (f_palanquinref9_writes_3 G t0 t3 (L.getD 0 .undef)) [(V.int .i64 0)]) fun _ =>
      (G fn_palanquinref6_Writer_Add [t0, (V.int .u64 0), (V.int .i64 1)]).bind fun t109 =>
      M.pure (.nrm [])) fun _ =>
    (M.lift (Ax.bin .add (L.getD 0 .undef) (V.int .i64 1))).bind fun t81 =>
    M.pure (.nrm [t81]))
    (M.pure (.ex 6 []))

noncomputable def f_palanquinref9_writes_5 (G : Sem') (t0 t3 : V) (L : List V) : M Res :=
  (M.lift (Ax.faddr 1 t3)).bind fun t123 =>
  (mload none t123).bind fun t124 =>
  (M.lift (Ax.bin .lss (L.getD 0 .undef) t124)).bind fun t125 =>
  M.ite t125
    (M.blk 11 (
      (M.lift (Ax.faddr 4 t3)).bind fun t129 =>
      (mload none t129).bind fun t130 =>
      (M.lift (Ax.iaddr none 1 t130 (L.getD 0 .undef))).bind fun t132 =>
      (mload none t132).bind fun t133 =>
      (M.lift (Ax.cint .u64 t133)).bind fun t134 =>
      (M.lift (Ax.faddr 3 t3)).bind fun t135 =>
      (mload none t135).bind fun t136 =>
      (M.lift (Ax.cint .u64 t136)).bind fun t137 =>
      (G fn_palanquinref6_Writer_AddNS [t0, t134, t137]).bind fun t138 =>
      M.pure (.nrm [])) fun _ =>
    (M.lift (Ax.bin .add (L.getD 0 .undef) (V.int .i64 1))).bind fun t127 =>
    M.pure (.nrm [t127]))
    (M.pure (.ex 10 []))

noncomputable def f_palanquinref9_writes_6 (G : Sem') (t0 t3 t12 : V) (L : List V) : M Res :=
  (M.lift (Ax.faddr 3 t3)).bind fun t145 =>
  (mload none t145).bind fun t146 =>
  (M.lift (Ax.bin .lss (L.getD 0 .undef) t146)).bind fun t147 =>
  M.ite t147
    (M.blk 15 (
      (M.lift (Ax.faddr 2 t3)).bind fun t151 =>
      (mload none t151).bind fun t152 =>
      (M.lift (Ax.iaddr none 5 t152 t12)).bind fun t154 =>
      (M.lift (Ax.faddr 4 t154)).bind fun t155 =>
      (mload none t155).bind fun t156 =>
      (M.lift (Ax.iaddr none 1 t156 (L.getD 0 .undef))).bind fun t158 =>
      (mload none t158).bind fun t159 =>
      (M.lift (Ax.cint .u64 t159)).bind fun t160 =>
      (G fn_palanquinref6_Writer_Add [t0, t160, (V.int .i64 4)]).bind fun t161 =>
      M.pure (.nrm [])) fun _ =>
    (M.lift (Ax.bin .add (L.getD 0 .undef) (V.int .i64 1))).bind fun t149 =>
    M.pure (.nrm [t149]))
    (M.pure (.ex 14 []))

noncomputable def f_palanquinref9_writes_7 (G : Sem') (t4 t0 t3 : V) (L : List V) : M Res :=
  (M.lift (Ax.bin .lss (L.getD 0 .undef) t4)).bind fun t141 =>
  M.ite t141
    (M.blk 13 (
      M.blk 14 (
        M.iter (f_palanquinref9_writes_6 G t0 t3 (L.getD 0 .undef)) [(V.int .i64 0)]) fun _ =>
      M.pure (.nrm [])) fun _ =>
    (M.lift (Ax.bin .add (L.getD 0 .undef) (V.int .i64 1))).bind fun t143 =>
    M.pure (.nrm [t143]))
    (M.pure (.ex 12 []))

noncomputable def f_palanquinref9_writes_8 (G : Sem') (t0 t3 : V) (L : List V) : M Res :=
  (M.lift (Ax.faddr 5 t3)).bind fun t170 =>
  (mload none t170).bind fun t171 =>
  (M.lift (vlen t171)).bind fun t172 =>
  (M.lift (Ax.bin .lss (L.getD 0 .undef) t172)).bind fun t173 =>
  M.ite t173
    (M.blk 17 (
      (M.lift (Ax.faddr 5 t3)).bind fun t177 =>
      (mload none t177).bind fun t178 =>
      (M.lift (Ax.iaddr none 2 t178 (L.getD 0 .undef))).bind fun t180 =>
      (M.lift (Ax.iaddr (some 2) 1 t180 (V.int .i64 0))).bind fun t181 =>
      (mload none t181).bind fun t182 =>
      (M.lift (Ax.bin .sub t182 (V.int .i64 1))).bind fun t183 =>
      (M.lift (Ax.cint .u64 t183)).bind fun t184 =>
      (G fn_palanquinref6_Writer_Add [t0, t184, (V.int .i64 16)]).bind fun t185 =>
      (M.lift (Ax.faddr 5 t3)).bind fun t187 =>
      (mload none t187).bind fun t188 =>
      (M.lift (Ax.iaddr none 2 t188 (L.getD 0 .undef))).bind fun t190 =>
      (M.lift (Ax.iaddr (some 2) 1 t190 (V.int .i64 1))).bind fun t191 =>
      (mload none t191).bind fun t192 =>
      (M.lift (Ax.bin .sub t192 (V.int .i64 1))).bind fun t193 =>
      (M.lift (Ax.cint .u64 t193)).bind fun t194 =>
      (G fn_palanquinref6_Writer_Add [t0, t194, (V.int .i64 16)]).bind fun t195 =>
      M.pure (.nrm [])) fun _ =>
    (M.lift (Ax.bin .add (L.getD 0 .undef) (V.int .i64 1))).bind fun t175 =>
    M.pure (.nrm [t175]))
    (M.pure (.ex 16 []))

noncomputable def f_palanquinref9_writes (G : Sem') (t0 t1 : V) : M Res :=
  (mbox ty_palanquinref9_Structure t1).bind fun t3 =>
  (M.lift (Ax.faddr 2 t3)).bind fun t15 =>
  (mload none t15).bind fun t16 =>
  (M.lift (vlen t16)).bind fun t17 =>
  (M.lift (Ax.faddr 0 t3)).bind fun t19 =>
  (mload none t19).bind fun t20 =>
  (M.lift (Ax.cint .u64 t20)).bind fun t21 =>
  (G fn_palanquinref6_Writer_Add [t0, t21, (V.int .i64 6)]).bind fun t22 =>
  (M.lift (Ax.faddr 1 t3)).bind fun t24 =>
  (mload none t24).bind fun t25 =>
  (M.lift (Ax.bin .sub t25 (V.int .i64 1))).bind fun t26 =>
  (M.lift (Ax.cint .u64 t26)).bind fun t27 =>
  (G fn_palanquinref6_Writer_Add [t0, t27, (V.int .i64 5)]).bind fun t28 =>
  M.blk 0 (
    M.iter (f_palanquinref9_writes_0 G t17 t3 t0) [(V.int .i64 0)]) fun _ =>
  M.blk 2 (
    M.iter (f_palanquinref9_writes_2 G t17 t0 t3) [(V.int .i64 0)]) fun _ =>
  M.blk 6 (
    M.iter (f_palanquinref9_writes_4 G t17 t3 t0) [(V.int .i64 0)]) fun _ =>
  (M.lift (Ax.faddr 3 t3)).bind fun t111 =>
  (mload none t111).bind fun t112 =>
  (M.lift (Ax.cint .u64 t112)).bind fun t113 =>
  (M.lift (Ax.faddr 1 t3)).bind fun t114 =>
  (mload none t114).bind fun t115 =>
  (M.lift (Ax.bin .add t115 (V.int .i64 1))).bind fun t116 =>
  (M.lift (Ax.cint .u64 t116)).bind fun t117 =>
  (G fn_palanquinref6_Writer_AddNS [t0, t113, t117]).bind fun t118 =>
  (M.lift (Ax.faddr 3 t3)).bind fun t119 =>
  (mload none t119).bind fun t120 =>
  (M.lift (Ax.bin .gtr t120 (V.int .i64 0))).bind fun t121 =>
  M.join (M.ite t121
    (M.blk 10 (
      M.iter (f_palanquinref9_writes_5 G t0 t3) [(V.int .i64 0)]) fun _ =>
    M.blk 12 (
      M.iter (f_palanquinref9_writes_7 G t17 t0 t3) [(V.int .i64 0)]) fun _ =>
    M.pure (.nrm []))
    (M.pure (.nrm []))) fun _ =>
  (M.lift (Ax.faddr 5 t3)).bind fun t163 =>
  (mload none t163).bind fun t164 =>
  (M.lift (vlen t164)).bind fun t165 =>
  (M.lift (Ax.bin .gtr t165 (V.int .i64 0))).bind fun t166 =>
  (G fn_palanquinref9_one [t166]).bind fun t167 =>
  (G fn_palanquinref6_Writer_Add [t0, t167, (V.int .i64 1)]).bind fun t168 =>
  M.blk 16 (
    M.iter (f_palanquinref9_writes_8 G t0 t3) [(V.int .i64 0)]) fun _ =>
  M.pure (.ret [])

theorem eq_palanquinref9_writes (G : Sem') (t0 t1 : V) : execK G ir_palanquinref9_writes.rv ir_palanquinref9_writes.body [] [] (params 0 [t0, t1]) = f_palanquinref9_writes G t0 t1 := by kernel_rfl

theorem tb_palanquinref9_writes : T fn_palanquinref9_writes = some ir_palanquinref9_writes := by kernel_rfl

theorem ok_palanquinref9_writes {t0 t1 : V} {H : Heap} {Q : V → Heap → Prop} (h : Ok (f_palanquinref9_writes (sem T) t0 t1) H fun r H' => ∃ L, r = .ret L ∧ Q (tupled L) H') : Ok (sem T fn_palanquinref9_writes [t0, t1]) H Q :=
  ok_sem tb_palanquinref9_writes (Nat.le_of_ble_eq_true rfl) (eq_palanquinref9_writes (sem T) t0 t1) h

/-- (*palanquin/palanquinref6.Writer).AddNS. -/
def ir_palanquinref6_Writer_AddNS : Fn' := ⟨39, [.tmp 6],
  .ops [⟨(some 6), none, .mv (.c (V.int .i64 0))⟩]
  (.ops [⟨(some 9), none, .mv (.s 2)⟩,
    ⟨(some 10), none, .bin .lss (.s 9) (.c (V.int .u64 1))⟩,
    ⟨(some 11), none, .mv (.s 10)⟩,
    ⟨(some 12), (some (11, false)), .mv (.s 2)⟩,
    ⟨(some 13), (some (11, false)), .bin .gtr (.s 12) (.c (V.int .u64 4294967296))⟩,
    ⟨(some 14), none, .pick (.s 11) (.c (V.bool true)) (.s 13)⟩,
    ⟨(some 15), none, .mv (.s 14)⟩,
    ⟨(some 16), (some (15, false)), .mv (.s 1)⟩,
    ⟨(some 17), (some (15, false)), .mv (.s 2)⟩,
    ⟨(some 18), (some (15, false)), .bin .geq (.s 16) (.s 17)⟩,
    ⟨(some 19), none, .pick (.s 15) (.c (V.bool true)) (.s 18)⟩]
  (.cond (.s 19)
  (.ops [⟨(some 6), none, .mv (.c (V.int .i64 1))⟩]
   (.ret))
  (.ops [⟨(some 21), none, .mv (.s 2)⟩,
     ⟨(some 22), none, .call fn_palanquinref6_width [(.s 21)]⟩,
     ⟨(some 20), none, .mv (.s 22)⟩,
     ⟨(some 23), none, .ext 0 (.s 20)⟩,
     ⟨(some 24), none, .ext 1 (.s 20)⟩,
     ⟨(some 7), none, .mv (.s 23)⟩,
     ⟨(some 8), none, .mv (.s 24)⟩]
   (.ops [⟨(some 25), none, .mv (.s 1)⟩,
     ⟨(some 26), none, .mv (.s 8)⟩,
     ⟨(some 27), none, .bin .lss (.s 25) (.s 26)⟩]
   (.cond (.s 27)
   (.ops [⟨(some 28), none, .mv (.s 0)⟩,
      ⟨(some 29), none, .mv (.s 1)⟩,
      ⟨(some 30), none, .mv (.s 7)⟩,
      ⟨(some 31), none, .bin .sub (.s 30) (.c (V.int .i64 1))⟩,
      ⟨(some 32), none, .call fn_palanquinref6_Writer_Add [(.s 28), (.s 29), (.s 31)]⟩,
      ⟨(some 6), none, .mv (.s 32)⟩]
    (.ret))
   (.ops [⟨(some 33), none, .mv (.s 0)⟩,
      ⟨(some 34), none, .mv (.s 1)⟩,
      ⟨(some 35), none, .mv (.s 8)⟩,
      ⟨(some 36), none, .bin .add (.s 34) (.s 35)⟩,
      ⟨(some 37), none, .mv (.s 7)⟩,
      ⟨(some 38), none, .call fn_palanquinref6_Writer_Add [(.s 33), (.s 36), (.s 37)]⟩,
      ⟨(some 6), none, .mv (.s 38)⟩]
    (.ret)))))))⟩

noncomputable def f_palanquinref6_Writer_AddNS (G : Sem') (t0 t1 t2 : V) : M Res :=
  (M.lift (Ax.bin .lss t2 (V.int .u64 1))).bind fun t10 =>
  (guarded [(0, t10)] (some (0, false)) (M.pure t2)).bind fun t12 =>
  (guarded [(0, t10)] (some (0, false)) (M.lift (Ax.bin .gtr t12 (V.int .u64 4294967296)))).bind fun t13 =>
  (M.lift (Ax.pick t10 (V.bool true) t13)).bind fun t14 =>
  (guarded [(0, t14)] (some (0, false)) (M.pure t1)).bind fun t16 =>
  (guarded [(0, t14)] (some (0, false)) (M.pure t2)).bind fun t17 =>
  (guarded [(0, t14)] (some (0, false)) (M.lift (Ax.bin .geq t16 t17))).bind fun t18 =>
  (M.lift (Ax.pick t14 (V.bool true) t18)).bind fun t19 =>
  M.ite t19
    (M.pure (.ret [(V.int .i64 1)]))
    ((G fn_palanquinref6_width [t2]).bind fun t22 =>
    (M.lift (Ax.ext 0 t22)).bind fun t23 =>
    (M.lift (Ax.ext 1 t22)).bind fun t24 =>
    (M.lift (Ax.bin .lss t1 t24)).bind fun t27 =>
    M.ite t27
      ((M.lift (Ax.bin .sub t23 (V.int .i64 1))).bind fun t31 =>
      (G fn_palanquinref6_Writer_Add [t0, t1, t31]).bind fun t32 =>
      M.pure (.ret [t32]))
      ((M.lift (Ax.bin .add t1 t24)).bind fun t36 =>
      (G fn_palanquinref6_Writer_Add [t0, t36, t23]).bind fun t38 =>
      M.pure (.ret [t38])))

theorem eq_palanquinref6_Writer_AddNS (G : Sem') (t0 t1 t2 : V) : execK G ir_palanquinref6_Writer_AddNS.rv ir_palanquinref6_Writer_AddNS.body [] [] (params 0 [t0, t1, t2]) = f_palanquinref6_Writer_AddNS G t0 t1 t2 := by kernel_rfl

theorem tb_palanquinref6_Writer_AddNS : T fn_palanquinref6_Writer_AddNS = some ir_palanquinref6_Writer_AddNS := by kernel_rfl

theorem ok_palanquinref6_Writer_AddNS {t0 t1 t2 : V} {H : Heap} {Q : V → Heap → Prop} (h : Ok (f_palanquinref6_Writer_AddNS (sem T) t0 t1 t2) H fun r H' => ∃ L, r = .ret L ∧ Q (tupled L) H') : Ok (sem T fn_palanquinref6_Writer_AddNS [t0, t1, t2]) H Q :=
  ok_sem tb_palanquinref6_Writer_AddNS (Nat.le_of_ble_eq_true rfl) (eq_palanquinref6_Writer_AddNS (sem T) t0 t1 t2) h

/-- palanquin/palanquinref6.width. -/
def loop_palanquinref6_width_0 : C :=
  .ops [⟨(some 7), none, .mv (.s 5)⟩,
    ⟨(some 8), none, .bin .gtr (.s 7) (.c (V.int .u64 0))⟩]
  (.cond (.s 8)
  (.blk 1
   (.ops [⟨(some 11), none, .mv (.s 4)⟩,
      ⟨(some 12), none, .bin .add (.s 11) (.c (V.int .i64 1))⟩,
      ⟨(some 4), none, .mv (.s 12)⟩]
    (.done)) [4] [11, 12, 4]
   (.ops [⟨(some 9), none, .mv (.s 5)⟩,
     ⟨(some 10), none, .bin .shr (.s 9) (.c (V.int .u64 1))⟩,
     ⟨(some 5), none, .mv (.s 10)⟩]
   (.done)))
  (.exit 0))

def ir_palanquinref6_width : Fn' := ⟨19, [.tmp 2, .tmp 3],
  .ops [⟨(some 2), none, .mv (.c (V.int .i64 0))⟩,
    ⟨(some 3), none, .mv (.c (V.int .u64 0))⟩]
  (.ops [⟨(some 4), none, .mv (.c (V.int .i64 0))⟩]
  (.ops [⟨(some 6), none, .mv (.s 0)⟩,
    ⟨(some 5), none, .mv (.s 6)⟩]
  (.blk 0
  (.loop loop_palanquinref6_width_0 [4, 5] [7, 8, 11, 12, 4, 9, 10, 5]) [4] [7, 8, 11, 12, 4, 9, 10, 5]
  (.ops [⟨(some 13), none, .mv (.s 4)⟩,
    ⟨(some 14), none, .mv (.s 4)⟩,
    ⟨(some 15), none, .cint .u64 (.s 14)⟩,
    ⟨(some 16), none, .bin .shl (.c (V.int .u64 1)) (.s 15)⟩,
    ⟨(some 17), none, .mv (.s 0)⟩,
    ⟨(some 18), none, .bin .sub (.s 16) (.s 17)⟩,
    ⟨(some 2), none, .mv (.s 13)⟩,
    ⟨(some 3), none, .mv (.s 18)⟩]
  (.ret)))))⟩

noncomputable def f_palanquinref6_width_0 (G : Sem') (t2 t3 : V) (L : List V) : M Res :=
  (M.lift (Ax.bin .gtr (L.getD 1 .undef) (V.int .u64 0))).bind fun t8 =>
  M.ite t8
    (M.blk 1 (
      (M.lift (Ax.bin .add (L.getD 0 .undef) (V.int .i64 1))).bind fun t12 =>
      M.pure (.nrm [t12])) fun L0 =>
    (M.lift (Ax.bin .shr (L.getD 1 .undef) (V.int .u64 1))).bind fun t10 =>
    M.pure (.nrm [(L0.getD 0 .undef), t10]))
    (M.pure (.ex 0 [(L.getD 0 .undef)]))

noncomputable def f_palanquinref6_width (G : Sem') (t0 : V) : M Res :=
  M.blk 0 (
    M.iter (f_palanquinref6_width_0 G (V.int .i64 0) (V.int .u64 0)) [(V.int .i64 0), t0]) fun L1 =>
  (M.lift (Ax.cint .u64 (L1.getD 0 .undef))).bind fun t15 =>
  (M.lift (Ax.bin .shl (V.int .u64 1) t15)).bind fun t16 =>
  (M.lift (Ax.bin .sub t16 t0)).bind fun t18 =>
  M.pure (.ret [(L1.getD 0 .undef), t18])

theorem eq_palanquinref6_width (G : Sem') (t0 : V) : execK G ir_palanquinref6_width.rv ir_palanquinref6_width.body [] [] (params 0 [t0]) = f_palanquinref6_width G t0 := by kernel_rfl

theorem tb_palanquinref6_width : T fn_palanquinref6_width = some ir_palanquinref6_width := by kernel_rfl

theorem ok_palanquinref6_width {t0 : V} {H : Heap} {Q : V → Heap → Prop} (h : Ok (f_palanquinref6_width (sem T) t0) H fun r H' => ∃ L, r = .ret L ∧ Q (tupled L) H') : Ok (sem T fn_palanquinref6_width [t0]) H Q :=
  ok_sem tb_palanquinref6_width (Nat.le_of_ble_eq_true rfl) (eq_palanquinref6_width (sem T) t0) h

/-- (*palanquin/lane.Lane).Media. -/
def ir_lane_Lane_Media : Fn' := ⟨142, [.cell 14 (some 3), .tmp 15],
  .ops [⟨(some 9), none, .box ty_rtp_Packet (.s 2)⟩,
    ⟨(some 10), none, .box ty_depend_Frame (.s 3)⟩,
    ⟨(some 11), none, .box ty_depend_Structure (.s 4)⟩,
    ⟨(some 14), none, .box ty_lane_Out (.c (V.agg [V.nils, (V.int .i64 0), (V.bool false)]))⟩,
    ⟨(some 15), none, .mv (.c (V.int .i64 0))⟩]
  (.ops [⟨(some 26), none, .load (some 10) (.s 9)⟩,
    ⟨(some 27), none, .call fn_rtp_Bytes [(.s 26)]⟩,
    ⟨(some 25), none, .mv (.s 27)⟩,
    ⟨(some 28), none, .ext 0 (.s 25)⟩,
    ⟨(some 29), none, .ext 1 (.s 25)⟩,
    ⟨(some 16), none, .mv (.s 28)⟩,
    ⟨(some 17), none, .mv (.s 29)⟩]
  (.ops [⟨(some 31), none, .load (some 10) (.s 9)⟩,
    ⟨(some 32), none, .call fn_rtp_Find [(.s 31), (.c (V.int .i64 1))]⟩,
    ⟨(some 30), none, .mv (.s 32)⟩,
    ⟨(some 33), none, .ext 0 (.s 30)⟩,
    ⟨(some 34), none, .ext 1 (.s 30)⟩,
    ⟨(some 18), none, .mv (.s 33)⟩,
    ⟨(some 19), none, .mv (.s 34)⟩]
  (.ops [⟨(some 35), none, .mv (.s 1)⟩,
    ⟨(some 36), none, .bin .lss (.s 35) (.c (V.int .i64 0))⟩,
    ⟨(some 37), none, .mv (.s 36)⟩,
    ⟨(some 38), (some (37, false)), .mv (.s 1)⟩,
    ⟨(some 39), (some (37, false)), .bin .geq (.s 38) (.c (V.int .i64 3))⟩,
    ⟨(some 40), none, .pick (.s 37) (.c (V.bool true)) (.s 39)⟩,
    ⟨(some 41), none, .mv (.s 40)⟩,
    ⟨(some 42), (some (41, false)), .mv (.s 17)⟩,
    ⟨(some 43), (some (41, false)), .bin .neq (.s 42) (.c (V.int .i64 0))⟩,
    ⟨(some 44), none, .pick (.s 41) (.c (V.bool true)) (.s 43)⟩,
    ⟨(some 45), none, .mv (.s 44)⟩,
    ⟨(some 46), (some (45, false)), .mv (.s 19)⟩,
    ⟨(some 47), (some (45, false)), .un .not (.s 46)⟩,
    ⟨(some 48), none, .pick (.s 45) (.c (V.bool true)) (.s 47)⟩,
    ⟨(some 49), none, .mv (.s 48)⟩,
    ⟨(some 50), (some (49, false)), .mv (.s 18)⟩,
    ⟨(some 51), (some (49, false)), .len (.s 50)⟩,
    ⟨(some 52), (some (49, false)), .bin .lss (.s 51) (.c (V.int .i64 3))⟩,
    ⟨(some 53), none, .pick (.s 49) (.c (V.bool true)) (.s 52)⟩,
    ⟨(some 54), none, .mv (.s 53)⟩,
    ⟨(some 55), (some (54, false)), .load (some 19) (.s 10)⟩,
    ⟨(some 56), (some (54, false)), .load (some 6) (.s 11)⟩,
    ⟨(some 57), (some (54, false)), .call fn_depend_Good [(.s 55), (.s 56)]⟩,
    ⟨(some 58), (some (54, false)), .un .not (.s 57)⟩,
    ⟨(some 59), none, .pick (.s 54) (.c (V.bool true)) (.s 58)⟩]
  (.cond (.s 59)
  (.ops [⟨(some 60), none, .build [V.nils, (V.int .i64 0), (V.bool false)] []⟩,
     ⟨none, none, .store 3 (.s 14) (.s 60)⟩,
     ⟨(some 15), none, .mv (.c (V.int .i64 1))⟩]
   (.ret))
  (.ops [⟨(some 61), none, .mv (.s 0)⟩,
     ⟨(some 62), none, .mv (.s 1)⟩,
     ⟨(some 63), none, .load (some 10) (.s 9)⟩,
     ⟨(some 64), none, .load (some 19) (.s 10)⟩,
     ⟨(some 65), none, .mv (.s 6)⟩,
     ⟨(some 66), none, .call fn_lane_Lane_turned [(.s 61), (.s 62), (.s 63), (.s 64), (.s 65)]⟩,
     ⟨(some 67), none, .un .not (.s 66)⟩]
   (.cond (.s 67)
   (.ops [⟨(some 68), none, .build [V.nils, (V.int .i64 0), (V.bool false)] [(1, 1, (.c (V.int .i64 1)))]⟩,
      ⟨none, none, .store 3 (.s 14) (.s 68)⟩,
      ⟨(some 15), none, .mv (.c (V.int .i64 0))⟩]
    (.ret))
   (.ops [⟨(some 69), none, .mv (.s 0)⟩,
      ⟨(some 70), none, .load (some 19) (.s 10)⟩,
      ⟨(some 71), none, .load (some 6) (.s 11)⟩,
      ⟨(some 72), none, .mv (.s 5)⟩,
      ⟨(some 73), none, .call fn_lane_Lane_why [(.s 69), (.s 70), (.s 71), (.s 72)]⟩,
      ⟨(some 20), none, .mv (.s 73)⟩]
    (.ops [⟨(some 74), none, .mv (.s 20)⟩,
      ⟨(some 75), none, .bin .neq (.s 74) (.c (V.int .i64 0))⟩]
    (.cond (.s 75)
    (.ops [⟨(some 76), none, .mv (.s 20)⟩,
       ⟨(some 77), none, .mv (.s 20)⟩,
       ⟨(some 78), none, .bin .eql (.s 77) (.c (V.int .i64 5))⟩,
       ⟨(some 79), none, .build [V.nils, (V.int .i64 0), (V.bool false)] [(1, 1, (.s 76)), (2, 1, (.s 78))]⟩,
       ⟨none, none, .store 3 (.s 14) (.s 79)⟩,
       ⟨(some 15), none, .mv (.c (V.int .i64 0))⟩]
     (.ret))
    (.ops [⟨(some 80), none, .faddr 0 (.s 10)⟩,
       ⟨(some 81), none, .load none (.s 80)⟩]
     (.condJ (.s 81)
     (.draw [⟨(some 82), none, .mv (.s 0)⟩,
        ⟨(some 83), none, .mv (.s 0)⟩,
        ⟨(some 84), none, .nilck (.s 83)⟩,
        ⟨(some 85), none, .faddr 13 (.s 84)⟩,
        ⟨(some 86), none, .load none (.s 85)⟩,
        ⟨(some 87), none, .faddr 3 (.s 10)⟩,
        ⟨(some 88), none, .load none (.s 87)⟩,
        ⟨(some 89), none, .call fn_refs_Add [(.s 86), (.s 88)]⟩,
        ⟨(some 90), none, .nilck (.s 82)⟩,
        ⟨(some 91), none, .faddr 13 (.s 90)⟩,
        ⟨none, none, .store 1 (.s 91) (.s 89)⟩] []
      (.done))
     (.done) [] [82, 83, 84, 85, 86, 87, 88, 89, 90, 91]
     (.draw [⟨(some 93), none, .mv (.s 0)⟩,
       ⟨(some 94), none, .nilck (.s 93)⟩,
       ⟨(some 95), none, .faddr 6 (.s 94)⟩,
       ⟨(some 96), none, .load (some 7) (.s 95)⟩,
       ⟨(some 97), none, .faddr 3 (.s 9)⟩,
       ⟨(some 98), none, .load none (.s 97)⟩,
       ⟨(some 99), none, .faddr 3 (.s 10)⟩,
       ⟨(some 100), none, .load none (.s 99)⟩,
       ⟨(some 101), none, .mv (.s 6)⟩,
       ⟨(some 102), none, .call fn_turn_Out [(.s 96), (.s 98), (.s 100), (.s 101)]⟩,
       ⟨(some 92), none, .mv (.s 102)⟩,
       ⟨(some 103), none, .ext 0 (.s 92)⟩,
       ⟨(some 21), none, .box ty_turn_Turn (.c (V.agg [(V.bool false), (V.int .u16 0), (V.int .u32 0), (V.int .u32 0), (V.int .u16 0), (V.int .u16 0), (V.int .i64 0)]))⟩,
       ⟨none, none, .store 7 (.s 21) (.s 103)⟩,
       ⟨(some 104), none, .ext 1 (.s 92)⟩,
       ⟨(some 105), none, .ext 2 (.s 92)⟩,
       ⟨(some 106), none, .ext 3 (.s 92)⟩,
       ⟨(some 22), none, .mv (.s 104)⟩,
       ⟨(some 23), none, .mv (.s 105)⟩,
       ⟨(some 24), none, .mv (.s 106)⟩] []
     (.ops [⟨(some 107), none, .mv (.s 0)⟩,
       ⟨(some 108), none, .load (some 7) (.s 21)⟩,
       ⟨(some 109), none, .nilck (.s 107)⟩,
       ⟨(some 110), none, .faddr 6 (.s 109)⟩,
       ⟨none, none, .store 7 (.s 110) (.s 108)⟩]
     (.draw [⟨(some 112), none, .load (some 10) (.s 9)⟩,
       ⟨(some 113), none, .mv (.s 18)⟩,
       ⟨(some 114), none, .mv (.s 24)⟩,
       ⟨(some 115), none, .call fn_depend_Number [(.s 113), (.s 114)]⟩,
       ⟨(some 116), none, .call fn_rtp_Set [(.s 112), (.c (V.int .i64 1)), (.s 115)]⟩,
       ⟨(some 111), none, .mv (.s 116)⟩,
       ⟨(some 117), none, .ext 0 (.s 111)⟩,
       ⟨none, none, .store 10 (.s 9) (.s 117)⟩,
       ⟨(some 118), none, .ext 1 (.s 111)⟩] [(0, 3)]
     (.draw [⟨(some 119), none, .mv (.s 22)⟩,
       ⟨(some 120), none, .mv (.s 23)⟩,
       ⟨(some 121), none, .mv (.s 0)⟩,
       ⟨(some 122), none, .nilck (.s 121)⟩,
       ⟨(some 123), none, .faddr 0 (.s 122)⟩,
       ⟨(some 124), none, .load none (.s 123)⟩,
       ⟨(some 125), none, .faddr 2 (.s 9)⟩,
       ⟨none, none, .store 1 (.s 125) (.s 119)⟩,
       ⟨(some 126), none, .faddr 3 (.s 9)⟩,
       ⟨none, none, .store 1 (.s 126) (.s 120)⟩,
       ⟨(some 127), none, .faddr 4 (.s 9)⟩,
       ⟨none, none, .store 1 (.s 127) (.s 124)⟩] [(5, 7), (5, 9)]
     (.ops [⟨(some 129), none, .load (some 10) (.s 9)⟩,
       ⟨(some 130), none, .call fn_rtp_Bytes [(.s 129)]⟩,
       ⟨(some 128), none, .mv (.s 130)⟩,
       ⟨(some 131), none, .ext 0 (.s 128)⟩,
       ⟨(some 132), none, .ext 1 (.s 128)⟩,
       ⟨(some 18), none, .mv (.s 131)⟩]
     (.ops [⟨(some 133), none, .mv (.s 0)⟩,
       ⟨(some 134), none, .nilck (.s 133)⟩,
       ⟨(some 135), none, .faddr 14 (.s 134)⟩,
       ⟨(some 136), none, .load none (.s 135)⟩,
       ⟨(some 137), none, .mv (.s 22)⟩,
       ⟨(some 138), none, .mv (.s 18)⟩,
       ⟨(some 139), none, .call fn_ring_Ring_Add [(.s 136), (.s 137), (.s 138)]⟩]
     (.ops [⟨(some 140), none, .mv (.s 18)⟩,
       ⟨(some 141), none, .build [V.nils, (V.int .i64 0), (V.bool false)] [(0, 1, (.s 140))]⟩,
       ⟨none, none, .store 3 (.s 14) (.s 141)⟩,
       ⟨(some 15), none, .mv (.c (V.int .i64 0))⟩]
     (.ret)))))))))))))))))))⟩

noncomputable def f_lane_Lane_Media (G : Sem') (t0 t1 t2 t3 t4 t5 t6 : V) : M Res :=
  (mbox ty_rtp_Packet t2).bind fun t9 =>
  (mbox ty_depend_Frame t3).bind fun t10 =>
  (mbox ty_depend_Structure t4).bind fun t11 =>
  (mbox ty_lane_Out (V.agg [V.nils, (V.int .i64 0), (V.bool false)])).bind fun t14 =>
  (mload (some 10) t9).bind fun t26 =>
  (G fn_rtp_Bytes [t26]).bind fun t27 =>
  (M.lift (Ax.ext 0 t27)).bind fun t28 =>
  (M.lift (Ax.ext 1 t27)).bind fun t29 =>
  (mload (some 10) t9).bind fun t31 =>
  (G fn_rtp_Find [t31, (V.int .i64 1)]).bind fun t32 =>
  (M.lift (Ax.ext 0 t32)).bind fun t33 =>
  (M.lift (Ax.ext 1 t32)).bind fun t34 =>
  (M.lift (Ax.bin .lss t1 (V.int .i64 0))).bind fun t36 =>
  (guarded [(0, t36)] (some (0, false)) (M.pure t1)).bind fun t38 =>
  (guarded [(0, t36)] (some (0, false)) (M.lift (Ax.bin .geq t38 (V.int .i64 3)))).bind fun t39 =>
  (M.lift (Ax.pick t36 (V.bool true) t39)).bind fun t40 =>
  (guarded [(0, t40)] (some (0, false)) (M.pure t29)).bind fun t42 =>
  (guarded [(0, t40)] (some (0, false)) (M.lift (Ax.bin .neq t42 (V.int .i64 0)))).bind fun t43 =>
  (M.lift (Ax.pick t40 (V.bool true) t43)).bind fun t44 =>
  (guarded [(0, t44)] (some (0, false)) (M.pure t34)).bind fun t46 =>
  (guarded [(0, t44)] (some (0, false)) (M.lift (Ax.un .not t46))).bind fun t47 =>
  (M.lift (Ax.pick t44 (V.bool true) t47)).bind fun t48 =>
  (guarded [(0, t48)] (some (0, false)) (M.pure t33)).bind fun t50 =>
  (guarded [(0, t48)] (some (0, false)) (M.lift (vlen t50))).bind fun t51 =>
  (guarded [(0, t48)] (some (0, false)) (M.lift (Ax.bin .lss t51 (V.int .i64 3)))).bind fun t52 =>
  (M.lift (Ax.pick t48 (V.bool true) t52)).bind fun t53 =>
  (guarded [(0, t53)] (some (0, false)) (mload (some 19) t10)).bind fun t55 =>
  (guarded [(0, t53)] (some (0, false)) (mload (some 6) t11)).bind fun t56 =>
  (guarded [(0, t53)] (some (0, false)) (G fn_depend_Good [t55, t56])).bind fun t57 =>
  (guarded [(0, t53)] (some (0, false)) (M.lift (Ax.un .not t57))).bind fun t58 =>
  (M.lift (Ax.pick t53 (V.bool true) t58)).bind fun t59 =>
  M.ite t59
    ((M.lift (Ax.build [V.nils, (V.int .i64 0), (V.bool false)] [])).bind fun t60 =>
    (mstore 3 t14 t60).bind fun _ =>
    (mload (some 3) t14).bind fun r0 =>
    M.pure (.ret [r0, (V.int .i64 1)]))
    ((mload (some 10) t9).bind fun t63 =>
    (mload (some 19) t10).bind fun t64 =>
    (G fn_lane_Lane_turned [t0, t1, t63, t64, t6]).bind fun t66 =>
    (M.lift (Ax.un .not t66)).bind fun t67 =>
    M.ite t67
      ((M.lift (Ax.build [V.nils, (V.int .i64 0), (V.bool false)] [(1, 1, (V.int .i64 1))])).bind fun t68 =>
      (mstore 3 t14 t68).bind fun _ =>
      (mload (some 3) t14).bind fun r0 =>
      M.pure (.ret [r0, (V.int .i64 0)]))
      ((mload (some 19) t10).bind fun t70 =>
      (mload (some 6) t11).bind fun t71 =>
      (G fn_lane_Lane_why [t0, t70, t71, t5]).bind fun t73 =>
      (M.lift (Ax.bin .neq t73 (V.int .i64 0))).bind fun t75 =>
      M.ite t75
        ((M.lift (Ax.bin .eql t73 (V.int .i64 5))).bind fun t78 =>
        (M.lift (Ax.build [V.nils, (V.int .i64 0), (V.bool false)] [(1, 1, t73), (2, 1, t78)])).bind fun t79 =>
        (mstore 3 t14 t79).bind fun _ =>
        (mload (some 3) t14).bind fun r0 =>
        M.pure (.ret [r0, (V.int .i64 0)]))
        ((M.lift (Ax.faddr 0 t10)).bind fun t80 =>
        (mload none t80).bind fun t81 =>
        M.join (M.ite t81
          ((M.lift (Ax.nilck t0)).bind fun t84 =>
          (M.lift (Ax.faddr 13 t84)).bind fun t85 =>
          (mload none t85).bind fun t86 =>
          (M.lift (Ax.faddr 3 t10)).bind fun t87 =>
          (mload none t87).bind fun t88 =>
          (G fn_refs_Add [t86, t88]).bind fun t89 =>
          (M.lift (Ax.nilck t0)).bind fun t90 =>
          (M.lift (Ax.faddr 13 t90)).bind fun t91 =>
          (mstore 1 t91 t89).bind fun _ =>
          M.pure (.nrm []))
          (M.pure (.nrm []))) fun _ =>
        (M.lift (Ax.nilck t0)).bind fun t94 =>
        (M.lift (Ax.faddr 6 t94)).bind fun t95 =>
        (mload (some 7) t95).bind fun t96 =>
        (M.lift (Ax.faddr 3 t9)).bind fun t97 =>
        (mload none t97).bind fun t98 =>
        (M.lift (Ax.faddr 3 t10)).bind fun t99 =>
        (mload none t99).bind fun t100 =>
        (G fn_turn_Out [t96, t98, t100, t6]).bind fun t102 =>
        (M.lift (Ax.ext 0 t102)).bind fun t103 =>
        (mbox ty_turn_Turn (V.agg [(V.bool false), (V.int .u16 0), (V.int .u32 0), (V.int .u32 0), (V.int .u16 0), (V.int .u16 0), (V.int .i64 0)])).bind fun t21 =>
        (mstore 7 t21 t103).bind fun _ =>
        (M.lift (Ax.ext 1 t102)).bind fun t104 =>
        (M.lift (Ax.ext 2 t102)).bind fun t105 =>
        (M.lift (Ax.ext 3 t102)).bind fun t106 =>
        (mload (some 7) t21).bind fun t108 =>
        (M.lift (Ax.nilck t0)).bind fun t109 =>
        (M.lift (Ax.faddr 6 t109)).bind fun t110 =>
        (mstore 7 t110 t108).bind fun _ =>
        (mload (some 10) t9).bind fun t112 =>
        M.getH.bind fun h0 =>
        (G fn_depend_Number [t33, t106]).bind fun t115 =>
        M.getH.bind fun h0' =>
        (M.unch t9 h0 h0').bind fun _ =>
        (G fn_rtp_Set [t112, (V.int .i64 1), t115]).bind fun t116 =>
        (M.lift (Ax.ext 0 t116)).bind fun t117 =>
        (mstore 10 t9 t117).bind fun _ =>
        (M.lift (Ax.ext 1 t116)).bind fun t118 =>
        (M.lift (Ax.nilck t0)).bind fun t122 =>
        (M.lift (Ax.faddr 0 t122)).bind fun t123 =>
        (mload none t123).bind fun t124 =>
        (M.lift (Ax.faddr 2 t9)).bind fun t125 =>
        M.getH.bind fun h1 =>
        (mstore 1 t125 t104).bind fun _ =>
        M.getH.bind fun h1' =>
        (M.unch t123 h1 h1').bind fun _ =>
        (M.lift (Ax.faddr 3 t9)).bind fun t126 =>
        M.getH.bind fun h2 =>
        (mstore 1 t126 t105).bind fun _ =>
        M.getH.bind fun h2' =>
        (M.unch t123 h2 h2').bind fun _ =>
        (M.lift (Ax.faddr 4 t9)).bind fun t127 =>
        (mstore 1 t127 t124).bind fun _ =>
        (mload (some 10) t9).bind fun t129 =>
        (G fn_rtp_Bytes [t129]).bind fun t130 =>
        (M.lift (Ax.ext 0 t130)).bind fun t131 =>
        (M.lift (Ax.ext 1 t130)).bind fun t132 =>
        (M.lift (Ax.nilck t0)).bind fun t134 =>
        (M.lift (Ax.faddr 14 t134)).bind fun t135 =>
        (mload none t135).bind fun t136 =>
        (G fn_ring_Ring_Add [t136, t104, t131]).bind fun t139 =>
        (M.lift (Ax.build [V.nils, (V.int .i64 0), (V.bool false)] [(0, 1, t131)])).bind fun t141 =>
        (mstore 3 t14 t141).bind fun _ =>
        (mload (some 3) t14).bind fun r0 =>
        M.pure (.ret [r0, (V.int .i64 0)]))))

theorem eq_lane_Lane_Media (G : Sem') (t0 t1 t2 t3 t4 t5 t6 : V) : execK G ir_lane_Lane_Media.rv ir_lane_Lane_Media.body [] [] (params 0 [t0, t1, t2, t3, t4, t5, t6]) = f_lane_Lane_Media G t0 t1 t2 t3 t4 t5 t6 := by kernel_rfl

theorem tb_lane_Lane_Media : T fn_lane_Lane_Media = some ir_lane_Lane_Media := by kernel_rfl

theorem ok_lane_Lane_Media {t0 t1 t2 t3 t4 t5 t6 : V} {H : Heap} {Q : V → Heap → Prop} (h : Ok (f_lane_Lane_Media (sem T) t0 t1 t2 t3 t4 t5 t6) H fun r H' => ∃ L, r = .ret L ∧ Q (tupled L) H') : Ok (sem T fn_lane_Lane_Media [t0, t1, t2, t3, t4, t5, t6]) H Q :=
  ok_sem tb_lane_Lane_Media (Nat.le_of_ble_eq_true rfl) (eq_lane_Lane_Media (sem T) t0 t1 t2 t3 t4 t5 t6) h

/-- palanquin/rtp.Bytes. -/
def loop_rtp_Bytes_0 : C :=
  .ops [⟨(some 28), none, .bin .lss (.s 27) (.s 26)⟩]
  (.cond (.s 28)
  (.blk 1
   (.ops [⟨(some 29), none, .iaddr none 1 (.s 25) (.s 27)⟩,
      ⟨(some 30), none, .load none (.s 29)⟩,
      ⟨(some 6), none, .mv (.s 30)⟩]
    (.ops [⟨(some 31), none, .mv (.s 4)⟩,
      ⟨(some 32), none, .mv (.s 6)⟩,
      ⟨(some 33), none, .call fn_rtp_put [(.s 31), (.s 32), (.c (V.int .i64 4))]⟩,
      ⟨(some 4), none, .mv (.s 33)⟩]
    (.done))) [4] [29, 30, 6, 31, 32, 33, 4]
   (.ops [⟨(some 34), none, .bin .add (.s 27) (.c (V.int .i64 1))⟩,
     ⟨(some 27), none, .mv (.s 34)⟩]
   (.done)))
  (.exit 0))

def ir_rtp_Bytes : Fn' := ⟨83, [.tmp 2, .tmp 3],
  .ops [⟨(some 1), none, .box ty_rtp_Packet (.s 0)⟩,
    ⟨(some 2), none, .mv (.c V.nils)⟩,
    ⟨(some 3), none, .mv (.c (V.int .i64 0))⟩]
  (.ops [⟨(some 8), none, .load (some 10) (.s 1)⟩,
    ⟨(some 9), none, .call fn_rtp_Good [(.s 8)]⟩,
    ⟨(some 10), none, .un .not (.s 9)⟩]
  (.cond (.s 10)
  (.ops [⟨(some 2), none, .mv (.c V.nils)⟩,
     ⟨(some 3), none, .mv (.c (V.int .i64 1))⟩]
   (.ret))
  (.draw [⟨(some 11), none, .load (some 10) (.s 1)⟩,
     ⟨(some 13), none, .faddr 2 (.s 1)⟩,
     ⟨(some 14), none, .load none (.s 13)⟩,
     ⟨(some 15), none, .cint .u32 (.s 14)⟩,
     ⟨(some 12), none, .call fn_rtp_first [(.s 11)]⟩,
     ⟨(some 16), none, .call fn_rtp_put [(.s 12), (.s 15), (.c (V.int .i64 2))]⟩,
     ⟨(some 4), none, .mv (.s 16)⟩] [(2, 4)]
   (.draw [⟨(some 17), none, .mv (.s 4)⟩,
     ⟨(some 18), none, .faddr 3 (.s 1)⟩,
     ⟨(some 19), none, .load none (.s 18)⟩,
     ⟨(some 21), none, .faddr 4 (.s 1)⟩,
     ⟨(some 22), none, .load none (.s 21)⟩,
     ⟨(some 20), none, .call fn_rtp_put [(.s 17), (.s 19), (.c (V.int .i64 4))]⟩,
     ⟨(some 23), none, .call fn_rtp_put [(.s 20), (.s 22), (.c (V.int .i64 4))]⟩,
     ⟨(some 4), none, .mv (.s 23)⟩] [(4, 5)]
   (.ops [⟨(some 24), none, .faddr 5 (.s 1)⟩,
     ⟨(some 25), none, .load none (.s 24)⟩,
     ⟨(some 26), none, .len (.s 25)⟩,
     ⟨(some 27), none, .mv (.c (V.int .i64 0))⟩]
   (.blk 0
   (.loop loop_rtp_Bytes_0 [4, 27] [28, 29, 30, 6, 31, 32, 33, 4, 34, 27]) [4] [28, 29, 30, 6, 31, 32, 33, 4, 34, 27]
   (.ops [⟨(some 35), none, .faddr 6 (.s 1)⟩,
     ⟨(some 36), none, .load none (.s 35)⟩,
     ⟨(some 37), none, .bin .neq (.s 36) (.c (V.int .i64 0))⟩]
   (.condJ (.s 37)
   (.ops [⟨(some 38), none, .load (some 10) (.s 1)⟩,
      ⟨(some 39), none, .call fn_rtp_elements [(.s 38)]⟩,
      ⟨(some 7), none, .mv (.s 39)⟩]
    (.ops [⟨(some 40), none, .mv (.s 4)⟩,
      ⟨(some 41), none, .faddr 6 (.s 1)⟩,
      ⟨(some 42), none, .load none (.s 41)⟩,
      ⟨(some 43), none, .cint .u32 (.s 42)⟩,
      ⟨(some 44), none, .call fn_rtp_put [(.s 40), (.s 43), (.c (V.int .i64 2))]⟩,
      ⟨(some 45), none, .mv (.s 7)⟩,
      ⟨(some 46), none, .len (.s 45)⟩,
      ⟨(some 47), none, .bin .quo (.s 46) (.c (V.int .i64 4))⟩,
      ⟨(some 48), none, .cint .u32 (.s 47)⟩,
      ⟨(some 49), none, .call fn_rtp_put [(.s 44), (.s 48), (.c (V.int .i64 2))]⟩,
      ⟨(some 4), none, .mv (.s 49)⟩]
    (.ops [⟨(some 50), none, .mv (.s 4)⟩,
      ⟨(some 51), none, .mv (.s 7)⟩,
      ⟨(some 52), none, .append ty_uint8 1 1 (.s 50) (.s 51)⟩,
      ⟨(some 4), none, .mv (.s 52)⟩]
    (.done))))
   (.done) [4] [38, 39, 7, 40, 41, 42, 43, 44, 45, 46, 47, 48, 49, 4, 50, 51, 52, 4]
   (.ops [⟨(some 53), none, .mv (.s 4)⟩,
     ⟨(some 54), none, .len (.s 53)⟩,
     ⟨(some 55), none, .faddr 9 (.s 1)⟩,
     ⟨(some 56), none, .load none (.s 55)⟩,
     ⟨(some 57), none, .len (.s 56)⟩,
     ⟨(some 58), none, .bin .add (.s 54) (.s 57)⟩,
     ⟨(some 59), none, .faddr 8 (.s 1)⟩,
     ⟨(some 60), none, .load none (.s 59)⟩,
     ⟨(some 61), none, .bin .add (.s 58) (.s 60)⟩,
     ⟨(some 62), none, .bin .gtr (.s 61) (.c (V.int .i64 1200))⟩]
   (.cond (.s 62)
   (.ops [⟨(some 2), none, .mv (.c V.nils)⟩,
      ⟨(some 3), none, .mv (.c (V.int .i64 4))⟩]
    (.ret))
   (.ops [⟨(some 63), none, .mv (.s 4)⟩,
      ⟨(some 64), none, .faddr 9 (.s 1)⟩,
      ⟨(some 65), none, .load none (.s 64)⟩,
      ⟨(some 66), none, .append ty_uint8 1 1 (.s 63) (.s 65)⟩,
      ⟨(some 4), none, .mv (.s 66)⟩]
    (.ops [⟨(some 67), none, .faddr 8 (.s 1)⟩,
      ⟨(some 68), none, .load none (.s 67)⟩,
      ⟨(some 69), none, .bin .gtr (.s 68) (.c (V.int .i64 0))⟩]
    (.condJ (.s 69)
    (.ops [⟨(some 70), none, .mv (.s 4)⟩,
       ⟨(some 71), none, .faddr 8 (.s 1)⟩,
       ⟨(some 72), none, .load none (.s 71)⟩,
       ⟨(some 73), none, .appendz ty_uint8 1 [(V.int .u8 0)] (.s 70) (.s 72)⟩,
       ⟨(some 4), none, .mv (.s 73)⟩]
     (.ops [⟨(some 74), none, .mv (.s 4)⟩,
       ⟨(some 75), none, .mv (.s 4)⟩,
       ⟨(some 76), none, .len (.s 75)⟩,
       ⟨(some 77), none, .bin .sub (.s 76) (.c (V.int .i64 1))⟩,
       ⟨(some 78), none, .faddr 8 (.s 1)⟩,
       ⟨(some 79), none, .load none (.s 78)⟩,
       ⟨(some 80), none, .cint .u8 (.s 79)⟩,
       ⟨(some 81), none, .iaddr none 1 (.s 74) (.s 77)⟩,
       ⟨none, none, .store 1 (.s 81) (.s 80)⟩]
     (.done)))
    (.done) [4] [70, 71, 72, 73, 4, 74, 75, 76, 77, 78, 79, 80, 81]
    (.ops [⟨(some 82), none, .mv (.s 4)⟩,
      ⟨(some 2), none, .mv (.s 82)⟩,
      ⟨(some 3), none, .mv (.c (V.int .i64 0))⟩]
    (.ret)))))))))))))))⟩

noncomputable def f_rtp_Bytes_0 (G : Sem') (t26 t25 t2 t3 : V) (L : List V) : M Res :=
  (M.lift (Ax.bin .lss (L.getD 1 .undef) t26)).bind fun t28 =>
  M.ite t28
    (M.blk 1 (
      (M.lift (Ax.iaddr none 1 t25 (L.getD 1 .undef))).bind fun t29 =>
      (mload none t29).bind fun t30 =>
      (G fn_rtp_put [(L.getD 0 .undef), t30, (V.int .i64 4)]).bind fun t33 =>
      M.pure (.nrm [t33])) fun L0 =>
    (M.lift (Ax.bin .add (L.getD 1 .undef) (V.int .i64 1))).bind fun t34 =>
    M.pure (.nrm [(L0.getD 0 .undef), t34]))
    (M.pure (.ex 0 [(L.getD 0 .undef)]))

noncomputable def f_rtp_Bytes (G : Sem') (t0 : V) : M Res :=
  (mbox ty_rtp_Packet t0).bind fun t1 =>
  (mload (some 10) t1).bind fun t8 =>
  (G fn_rtp_Good [t8]).bind fun t9 =>
  (M.lift (Ax.un .not t9)).bind fun t10 =>
  M.ite t10
    (M.pure (.ret [V.nils, (V.int .i64 1)]))
    ((mload (some 10) t1).bind fun t11 =>
    (M.lift (Ax.faddr 2 t1)).bind fun t13 =>
    (mload none t13).bind fun t14 =>
    (M.lift (Ax.cint .u32 t14)).bind fun t15 =>
    M.getH.bind fun h0 =>
    (G fn_rtp_first [t11]).bind fun t12 =>
    M.getH.bind fun h0' =>
    (M.unch t13 h0 h0').bind fun _ =>
    (G fn_rtp_put [t12, t15, (V.int .i64 2)]).bind fun t16 =>
    (M.lift (Ax.faddr 3 t1)).bind fun t18 =>
    (mload none t18).bind fun t19 =>
    (M.lift (Ax.faddr 4 t1)).bind fun t21 =>
    (mload none t21).bind fun t22 =>
    M.getH.bind fun h1 =>
    (G fn_rtp_put [t16, t19, (V.int .i64 4)]).bind fun t20 =>
    M.getH.bind fun h1' =>
    (M.unch t21 h1 h1').bind fun _ =>
    (G fn_rtp_put [t20, t22, (V.int .i64 4)]).bind fun t23 =>
    (M.lift (Ax.faddr 5 t1)).bind fun t24 =>
    (mload none t24).bind fun t25 =>
    (M.lift (vlen t25)).bind fun t26 =>
    M.blk 0 (
      M.iter (f_rtp_Bytes_0 G t26 t25 V.nils (V.int .i64 0)) [t23, (V.int .i64 0)]) fun L1 =>
    (M.lift (Ax.faddr 6 t1)).bind fun t35 =>
    (mload none t35).bind fun t36 =>
    (M.lift (Ax.bin .neq t36 (V.int .i64 0))).bind fun t37 =>
    M.join (M.ite t37
      ((mload (some 10) t1).bind fun t38 =>
      (G fn_rtp_elements [t38]).bind fun t39 =>
      (M.lift (Ax.faddr 6 t1)).bind fun t41 =>
      (mload none t41).bind fun t42 =>
      (M.lift (Ax.cint .u32 t42)).bind fun t43 =>
      (G fn_rtp_put [(L1.getD 0 .undef), t43, (V.int .i64 2)]).bind fun t44 =>
      (M.lift (vlen t39)).bind fun t46 =>
      (M.lift (Ax.bin .quo t46 (V.int .i64 4))).bind fun t47 =>
      (M.lift (Ax.cint .u32 t47)).bind fun t48 =>
      (G fn_rtp_put [t44, t48, (V.int .i64 2)]).bind fun t49 =>
      (mappend ty_uint8 1 1 t49 t39).bind fun t52 =>
      M.pure (.nrm [t52]))
      (M.pure (.nrm [(L1.getD 0 .undef)]))) fun L2 =>
    (M.lift (vlen (L2.getD 0 .undef))).bind fun t54 =>
    (M.lift (Ax.faddr 9 t1)).bind fun t55 =>
    (mload none t55).bind fun t56 =>
    (M.lift (vlen t56)).bind fun t57 =>
    (M.lift (Ax.bin .add t54 t57)).bind fun t58 =>
    (M.lift (Ax.faddr 8 t1)).bind fun t59 =>
    (mload none t59).bind fun t60 =>
    (M.lift (Ax.bin .add t58 t60)).bind fun t61 =>
    (M.lift (Ax.bin .gtr t61 (V.int .i64 1200))).bind fun t62 =>
    M.ite t62
      (M.pure (.ret [V.nils, (V.int .i64 4)]))
      ((M.lift (Ax.faddr 9 t1)).bind fun t64 =>
      (mload none t64).bind fun t65 =>
      (mappend ty_uint8 1 1 (L2.getD 0 .undef) t65).bind fun t66 =>
      (M.lift (Ax.faddr 8 t1)).bind fun t67 =>
      (mload none t67).bind fun t68 =>
      (M.lift (Ax.bin .gtr t68 (V.int .i64 0))).bind fun t69 =>
      M.join (M.ite t69
        ((M.lift (Ax.faddr 8 t1)).bind fun t71 =>
        (mload none t71).bind fun t72 =>
        (mappendz ty_uint8 1 [(V.int .u8 0)] t66 t72).bind fun t73 =>
        (M.lift (vlen t73)).bind fun t76 =>
        (M.lift (Ax.bin .sub t76 (V.int .i64 1))).bind fun t77 =>
        (M.lift (Ax.faddr 8 t1)).bind fun t78 =>
        (mload none t78).bind fun t79 =>
        (M.lift (Ax.cint .u8 t79)).bind fun t80 =>
        (M.lift (Ax.iaddr none 1 t73 t77)).bind fun t81 =>
        (mstore 1 t81 t80).bind fun _ =>
        M.pure (.nrm [t73]))
        (M.pure (.nrm [t66]))) fun L3 =>
      M.pure (.ret [(L3.getD 0 .undef), (V.int .i64 0)])))

theorem eq_rtp_Bytes (G : Sem') (t0 : V) : execK G ir_rtp_Bytes.rv ir_rtp_Bytes.body [] [] (params 0 [t0]) = f_rtp_Bytes G t0 := by kernel_rfl

theorem tb_rtp_Bytes : T fn_rtp_Bytes = some ir_rtp_Bytes := by kernel_rfl

theorem ok_rtp_Bytes {t0 : V} {H : Heap} {Q : V → Heap → Prop} (h : Ok (f_rtp_Bytes (sem T) t0) H fun r H' => ∃ L, r = .ret L ∧ Q (tupled L) H') : Ok (sem T fn_rtp_Bytes [t0]) H Q :=
  ok_sem tb_rtp_Bytes (Nat.le_of_ble_eq_true rfl) (eq_rtp_Bytes (sem T) t0) h

/-- palanquin/rtp.Good. -/
def ir_rtp_Good : Fn' := ⟨50, [.tmp 2],
  .ops [⟨(some 1), none, .box ty_rtp_Packet (.s 0)⟩,
    ⟨(some 2), none, .mv (.c (V.bool false))⟩]
  (.blk 0
  (.ops [⟨(some 4), none, .faddr 1 (.s 1)⟩,
     ⟨(some 5), none, .load none (.s 4)⟩,
     ⟨(some 6), none, .bin .lss (.s 5) (.c (V.int .i64 0))⟩,
     ⟨(some 7), none, .mv (.s 6)⟩,
     ⟨(some 8), (some (7, false)), .faddr 1 (.s 1)⟩,
     ⟨(some 9), (some (7, false)), .load none (.s 8)⟩,
     ⟨(some 10), (some (7, false)), .bin .gtr (.s 9) (.c (V.int .i64 127))⟩,
     ⟨(some 11), none, .pick (.s 7) (.c (V.bool true)) (.s 10)⟩,
     ⟨(some 12), none, .mv (.s 11)⟩,
     ⟨(some 13), (some (12, false)), .faddr 5 (.s 1)⟩,
     ⟨(some 14), (some (12, false)), .load none (.s 13)⟩,
     ⟨(some 15), (some (12, false)), .len (.s 14)⟩,
     ⟨(some 16), (some (12, false)), .bin .gtr (.s 15) (.c (V.int .i64 15))⟩,
     ⟨(some 17), none, .pick (.s 12) (.c (V.bool true)) (.s 16)⟩,
     ⟨(some 18), none, .mv (.s 17)⟩,
     ⟨(some 19), (some (18, false)), .faddr 8 (.s 1)⟩,
     ⟨(some 20), (some (18, false)), .load none (.s 19)⟩,
     ⟨(some 21), (some (18, false)), .bin .lss (.s 20) (.c (V.int .i64 0))⟩,
     ⟨(some 22), none, .pick (.s 18) (.c (V.bool true)) (.s 21)⟩,
     ⟨(some 23), none, .mv (.s 22)⟩,
     ⟨(some 24), (some (23, false)), .faddr 8 (.s 1)⟩,
     ⟨(some 25), (some (23, false)), .load none (.s 24)⟩,
     ⟨(some 26), (some (23, false)), .bin .gtr (.s 25) (.c (V.int .i64 255))⟩,
     ⟨(some 27), none, .pick (.s 23) (.c (V.bool true)) (.s 26)⟩,
     ⟨(some 3), none, .mv (.s 27)⟩]
   (.cond (.s 3)
   (.ops [⟨(some 2), none, .mv (.c (V.bool false))⟩]
    (.ret))
   (.ops [⟨(some 29), none, .faddr 6 (.s 1)⟩,
      ⟨(some 30), none, .load none (.s 29)⟩,
      ⟨(some 31), none, .bin .eql (.s 30) (.c (V.int .i64 0))⟩,
      ⟨(some 28), none, .mv (.s 31)⟩]
    (.cond (.s 28)
    (.ops [⟨(some 32), none, .faddr 7 (.s 1)⟩,
       ⟨(some 33), none, .load none (.s 32)⟩,
       ⟨(some 34), none, .len (.s 33)⟩,
       ⟨(some 35), none, .bin .eql (.s 34) (.c (V.int .i64 0))⟩,
       ⟨(some 2), none, .mv (.s 35)⟩]
     (.ret))
    (.ops [⟨(some 37), none, .faddr 6 (.s 1)⟩,
       ⟨(some 38), none, .load none (.s 37)⟩,
       ⟨(some 39), none, .bin .neq (.s 38) (.c (V.int .i64 48862))⟩,
       ⟨(some 40), none, .mv (.s 39)⟩,
       ⟨(some 41), (some (40, true)), .faddr 6 (.s 1)⟩,
       ⟨(some 42), (some (40, true)), .load none (.s 41)⟩,
       ⟨(some 43), (some (40, true)), .bin .neq (.s 42) (.c (V.int .i64 4096))⟩,
       ⟨(some 44), none, .pick (.s 40) (.s 43) (.c (V.bool false))⟩,
       ⟨(some 36), none, .mv (.s 44)⟩]
     (.cond (.s 36)
     (.ops [⟨(some 2), none, .mv (.c (V.bool false))⟩]
      (.ret))
     (.done))))))) [] [4, 5, 6, 7, 8, 9, 10, 11, 12, 13, 14, 15, 16, 17, 18, 19, 20, 21, 22, 23, 24, 25, 26, 27, 3, 2, 29, 30, 31, 28, 32, 33, 34, 35, 2, 37, 38, 39, 40, 41, 42, 43, 44, 36, 2]
  (.ops [⟨(some 45), none, .faddr 7 (.s 1)⟩,
    ⟨(some 46), none, .load none (.s 45)⟩,
    ⟨(some 47), none, .mkfn fn_rtp_Good_1 [(.s 1)]⟩,
    ⟨(some 48), none, .call fn_slices_ContainsFunc_rtp_Ext_rtp_Ext [(.s 46), (.s 47)]⟩,
    ⟨(some 49), none, .un .not (.s 48)⟩,
    ⟨(some 2), none, .mv (.s 49)⟩]
  (.ret)))⟩

noncomputable def f_rtp_Good (G : Sem') (t0 : V) : M Res :=
  (mbox ty_rtp_Packet t0).bind fun t1 =>
  M.blk 0 (
    (M.lift (Ax.faddr 1 t1)).bind fun t4 =>
    (mload none t4).bind fun t5 =>
    (M.lift (Ax.bin .lss t5 (V.int .i64 0))).bind fun t6 =>
    (guarded [(0, t6)] (some (0, false)) (M.lift (Ax.faddr 1 t1))).bind fun t8 =>
    (guarded [(0, t6)] (some (0, false)) (mload none t8)).bind fun t9 =>
    (guarded [(0, t6)] (some (0, false)) (M.lift (Ax.bin .gtr t9 (V.int .i64 127)))).bind fun t10 =>
    (M.lift (Ax.pick t6 (V.bool true) t10)).bind fun t11 =>
    (guarded [(0, t11)] (some (0, false)) (M.lift (Ax.faddr 5 t1))).bind fun t13 =>
    (guarded [(0, t11)] (some (0, false)) (mload none t13)).bind fun t14 =>
    (guarded [(0, t11)] (some (0, false)) (M.lift (vlen t14))).bind fun t15 =>
    (guarded [(0, t11)] (some (0, false)) (M.lift (Ax.bin .gtr t15 (V.int .i64 15)))).bind fun t16 =>
    (M.lift (Ax.pick t11 (V.bool true) t16)).bind fun t17 =>
    (guarded [(0, t17)] (some (0, false)) (M.lift (Ax.faddr 8 t1))).bind fun t19 =>
    (guarded [(0, t17)] (some (0, false)) (mload none t19)).bind fun t20 =>
    (guarded [(0, t17)] (some (0, false)) (M.lift (Ax.bin .lss t20 (V.int .i64 0)))).bind fun t21 =>
    (M.lift (Ax.pick t17 (V.bool true) t21)).bind fun t22 =>
    (guarded [(0, t22)] (some (0, false)) (M.lift (Ax.faddr 8 t1))).bind fun t24 =>
    (guarded [(0, t22)] (some (0, false)) (mload none t24)).bind fun t25 =>
    (guarded [(0, t22)] (some (0, false)) (M.lift (Ax.bin .gtr t25 (V.int .i64 255)))).bind fun t26 =>
    (M.lift (Ax.pick t22 (V.bool true) t26)).bind fun t27 =>
    M.ite t27
      (M.pure (.ret [(V.bool false)]))
      ((M.lift (Ax.faddr 6 t1)).bind fun t29 =>
      (mload none t29).bind fun t30 =>
      (M.lift (Ax.bin .eql t30 (V.int .i64 0))).bind fun t31 =>
      M.ite t31
        ((M.lift (Ax.faddr 7 t1)).bind fun t32 =>
        (mload none t32).bind fun t33 =>
        (M.lift (vlen t33)).bind fun t34 =>
        (M.lift (Ax.bin .eql t34 (V.int .i64 0))).bind fun t35 =>
        M.pure (.ret [t35]))
        ((M.lift (Ax.faddr 6 t1)).bind fun t37 =>
        (mload none t37).bind fun t38 =>
        (M.lift (Ax.bin .neq t38 (V.int .i64 48862))).bind fun t39 =>
        (guarded [(0, t39)] (some (0, true)) (M.lift (Ax.faddr 6 t1))).bind fun t41 =>
        (guarded [(0, t39)] (some (0, true)) (mload none t41)).bind fun t42 =>
        (guarded [(0, t39)] (some (0, true)) (M.lift (Ax.bin .neq t42 (V.int .i64 4096)))).bind fun t43 =>
        (M.lift (Ax.pick t39 t43 (V.bool false))).bind fun t44 =>
        M.ite t44
          (M.pure (.ret [(V.bool false)]))
          (M.pure (.nrm []))))) fun _ =>
  (M.lift (Ax.faddr 7 t1)).bind fun t45 =>
  (mload none t45).bind fun t46 =>
  (M.pure (.fn fn_rtp_Good_1 [t1])).bind fun t47 =>
  (G fn_slices_ContainsFunc_rtp_Ext_rtp_Ext [t46, t47]).bind fun t48 =>
  (M.lift (Ax.un .not t48)).bind fun t49 =>
  M.pure (.ret [t49])

theorem eq_rtp_Good (G : Sem') (t0 : V) : execK G ir_rtp_Good.rv ir_rtp_Good.body [] [] (params 0 [t0]) = f_rtp_Good G t0 := by kernel_rfl

theorem tb_rtp_Good : T fn_rtp_Good = some ir_rtp_Good := by kernel_rfl

theorem ok_rtp_Good {t0 : V} {H : Heap} {Q : V → Heap → Prop} (h : Ok (f_rtp_Good (sem T) t0) H fun r H' => ∃ L, r = .ret L ∧ Q (tupled L) H') : Ok (sem T fn_rtp_Good [t0]) H Q :=
  ok_sem tb_rtp_Good (Nat.le_of_ble_eq_true rfl) (eq_rtp_Good (sem T) t0) h

/-- palanquin/rtp.Good$1. -/
def ir_rtp_Good_1 : Fn' := ⟨9, [.tmp 3],
  .ops [⟨(some 2), none, .box ty_rtp_Ext (.s 0)⟩,
    ⟨(some 3), none, .mv (.c (V.bool false))⟩]
  (.ops [⟨(some 4), none, .faddr 6 (.s 1)⟩,
    ⟨(some 5), none, .load none (.s 4)⟩,
    ⟨(some 6), none, .load (some 2) (.s 2)⟩,
    ⟨(some 7), none, .call fn_rtp_goodExt [(.s 5), (.s 6)]⟩,
    ⟨(some 8), none, .un .not (.s 7)⟩,
    ⟨(some 3), none, .mv (.s 8)⟩]
  (.ret))⟩

noncomputable def f_rtp_Good_1 (G : Sem') (t0 t1 : V) : M Res :=
  (mbox ty_rtp_Ext t0).bind fun t2 =>
  (M.lift (Ax.faddr 6 t1)).bind fun t4 =>
  (mload none t4).bind fun t5 =>
  (mload (some 2) t2).bind fun t6 =>
  (G fn_rtp_goodExt [t5, t6]).bind fun t7 =>
  (M.lift (Ax.un .not t7)).bind fun t8 =>
  M.pure (.ret [t8])

theorem eq_rtp_Good_1 (G : Sem') (t0 t1 : V) : execK G ir_rtp_Good_1.rv ir_rtp_Good_1.body [] [] (params 0 [t0, t1]) = f_rtp_Good_1 G t0 t1 := by kernel_rfl

theorem tb_rtp_Good_1 : T fn_rtp_Good_1 = some ir_rtp_Good_1 := by kernel_rfl

theorem ok_rtp_Good_1 {t0 t1 : V} {H : Heap} {Q : V → Heap → Prop} (h : Ok (f_rtp_Good_1 (sem T) t0 t1) H fun r H' => ∃ L, r = .ret L ∧ Q (tupled L) H') : Ok (sem T fn_rtp_Good_1 [t0, t1]) H Q :=
  ok_sem tb_rtp_Good_1 (Nat.le_of_ble_eq_true rfl) (eq_rtp_Good_1 (sem T) t0 t1) h

/-- palanquin/rtp.goodExt. -/
def ir_rtp_goodExt : Fn' := ⟨41, [.tmp 4],
  .ops [⟨(some 3), none, .box ty_rtp_Ext (.s 1)⟩,
    ⟨(some 4), none, .mv (.c (V.bool false))⟩]
  (.ops [⟨(some 5), none, .mv (.s 0)⟩,
    ⟨(some 6), none, .bin .eql (.s 5) (.c (V.int .i64 48862))⟩]
  (.cond (.s 6)
  (.ops [⟨(some 7), none, .faddr 0 (.s 3)⟩,
     ⟨(some 8), none, .load none (.s 7)⟩,
     ⟨(some 9), none, .bin .geq (.s 8) (.c (V.int .i64 1))⟩,
     ⟨(some 10), none, .mv (.s 9)⟩,
     ⟨(some 11), (some (10, true)), .faddr 0 (.s 3)⟩,
     ⟨(some 12), (some (10, true)), .load none (.s 11)⟩,
     ⟨(some 13), (some (10, true)), .bin .leq (.s 12) (.c (V.int .i64 14))⟩,
     ⟨(some 14), none, .pick (.s 10) (.s 13) (.c (V.bool false))⟩,
     ⟨(some 15), none, .mv (.s 14)⟩,
     ⟨(some 16), (some (15, true)), .faddr 1 (.s 3)⟩,
     ⟨(some 17), (some (15, true)), .load none (.s 16)⟩,
     ⟨(some 18), (some (15, true)), .len (.s 17)⟩,
     ⟨(some 19), (some (15, true)), .bin .geq (.s 18) (.c (V.int .i64 1))⟩,
     ⟨(some 20), none, .pick (.s 15) (.s 19) (.c (V.bool false))⟩,
     ⟨(some 21), none, .mv (.s 20)⟩,
     ⟨(some 22), (some (21, true)), .faddr 1 (.s 3)⟩,
     ⟨(some 23), (some (21, true)), .load none (.s 22)⟩,
     ⟨(some 24), (some (21, true)), .len (.s 23)⟩,
     ⟨(some 25), (some (21, true)), .bin .leq (.s 24) (.c (V.int .i64 16))⟩,
     ⟨(some 26), none, .pick (.s 21) (.s 25) (.c (V.bool false))⟩,
     ⟨(some 4), none, .mv (.s 26)⟩]
   (.ret))
  (.ops [⟨(some 27), none, .faddr 0 (.s 3)⟩,
     ⟨(some 28), none, .load none (.s 27)⟩,
     ⟨(some 29), none, .bin .geq (.s 28) (.c (V.int .i64 1))⟩,
     ⟨(some 30), none, .mv (.s 29)⟩,
     ⟨(some 31), (some (30, true)), .faddr 0 (.s 3)⟩,
     ⟨(some 32), (some (30, true)), .load none (.s 31)⟩,
     ⟨(some 33), (some (30, true)), .bin .leq (.s 32) (.c (V.int .i64 255))⟩,
     ⟨(some 34), none, .pick (.s 30) (.s 33) (.c (V.bool false))⟩,
     ⟨(some 35), none, .mv (.s 34)⟩,
     ⟨(some 36), (some (35, true)), .faddr 1 (.s 3)⟩,
     ⟨(some 37), (some (35, true)), .load none (.s 36)⟩,
     ⟨(some 38), (some (35, true)), .len (.s 37)⟩,
     ⟨(some 39), (some (35, true)), .bin .leq (.s 38) (.c (V.int .i64 255))⟩,
     ⟨(some 40), none, .pick (.s 35) (.s 39) (.c (V.bool false))⟩,
     ⟨(some 4), none, .mv (.s 40)⟩]
   (.ret))))⟩

noncomputable def f_rtp_goodExt (G : Sem') (t0 t1 : V) : M Res :=
  (mbox ty_rtp_Ext t1).bind fun t3 =>
  (M.lift (Ax.bin .eql t0 (V.int .i64 48862))).bind fun t6 =>
  M.ite t6
    ((M.lift (Ax.faddr 0 t3)).bind fun t7 =>
    (mload none t7).bind fun t8 =>
    (M.lift (Ax.bin .geq t8 (V.int .i64 1))).bind fun t9 =>
    (guarded [(0, t9)] (some (0, true)) (M.lift (Ax.faddr 0 t3))).bind fun t11 =>
    (guarded [(0, t9)] (some (0, true)) (mload none t11)).bind fun t12 =>
    (guarded [(0, t9)] (some (0, true)) (M.lift (Ax.bin .leq t12 (V.int .i64 14)))).bind fun t13 =>
    (M.lift (Ax.pick t9 t13 (V.bool false))).bind fun t14 =>
    (guarded [(0, t14)] (some (0, true)) (M.lift (Ax.faddr 1 t3))).bind fun t16 =>
    (guarded [(0, t14)] (some (0, true)) (mload none t16)).bind fun t17 =>
    (guarded [(0, t14)] (some (0, true)) (M.lift (vlen t17))).bind fun t18 =>
    (guarded [(0, t14)] (some (0, true)) (M.lift (Ax.bin .geq t18 (V.int .i64 1)))).bind fun t19 =>
    (M.lift (Ax.pick t14 t19 (V.bool false))).bind fun t20 =>
    (guarded [(0, t20)] (some (0, true)) (M.lift (Ax.faddr 1 t3))).bind fun t22 =>
    (guarded [(0, t20)] (some (0, true)) (mload none t22)).bind fun t23 =>
    (guarded [(0, t20)] (some (0, true)) (M.lift (vlen t23))).bind fun t24 =>
    (guarded [(0, t20)] (some (0, true)) (M.lift (Ax.bin .leq t24 (V.int .i64 16)))).bind fun t25 =>
    (M.lift (Ax.pick t20 t25 (V.bool false))).bind fun t26 =>
    M.pure (.ret [t26]))
    ((M.lift (Ax.faddr 0 t3)).bind fun t27 =>
    (mload none t27).bind fun t28 =>
    (M.lift (Ax.bin .geq t28 (V.int .i64 1))).bind fun t29 =>
    (guarded [(0, t29)] (some (0, true)) (M.lift (Ax.faddr 0 t3))).bind fun t31 =>
    (guarded [(0, t29)] (some (0, true)) (mload none t31)).bind fun t32 =>
    (guarded [(0, t29)] (some (0, true)) (M.lift (Ax.bin .leq t32 (V.int .i64 255)))).bind fun t33 =>
    (M.lift (Ax.pick t29 t33 (V.bool false))).bind fun t34 =>
    (guarded [(0, t34)] (some (0, true)) (M.lift (Ax.faddr 1 t3))).bind fun t36 =>
    (guarded [(0, t34)] (some (0, true)) (mload none t36)).bind fun t37 =>
    (guarded [(0, t34)] (some (0, true)) (M.lift (vlen t37))).bind fun t38 =>
    (guarded [(0, t34)] (some (0, true)) (M.lift (Ax.bin .leq t38 (V.int .i64 255)))).bind fun t39 =>
    (M.lift (Ax.pick t34 t39 (V.bool false))).bind fun t40 =>
    M.pure (.ret [t40]))

theorem eq_rtp_goodExt (G : Sem') (t0 t1 : V) : execK G ir_rtp_goodExt.rv ir_rtp_goodExt.body [] [] (params 0 [t0, t1]) = f_rtp_goodExt G t0 t1 := by kernel_rfl

theorem tb_rtp_goodExt : T fn_rtp_goodExt = some ir_rtp_goodExt := by kernel_rfl

theorem ok_rtp_goodExt {t0 t1 : V} {H : Heap} {Q : V → Heap → Prop} (h : Ok (f_rtp_goodExt (sem T) t0 t1) H fun r H' => ∃ L, r = .ret L ∧ Q (tupled L) H') : Ok (sem T fn_rtp_goodExt [t0, t1]) H Q :=
  ok_sem tb_rtp_goodExt (Nat.le_of_ble_eq_true rfl) (eq_rtp_goodExt (sem T) t0 t1) h

/-- slices.ContainsFunc[[]palanquin/rtp.Ext,palanquin/rtp.Ext]. -/
def ir_slices_ContainsFunc_rtp_Ext_rtp_Ext : Fn' := ⟨9, [.tmp 4],
  .ops [⟨(some 4), none, .mv (.c (V.bool false))⟩]
  (.ops [⟨(some 5), none, .mv (.s 0)⟩,
    ⟨(some 6), none, .mv (.s 1)⟩,
    ⟨(some 7), none, .call fn_slices_IndexFunc_rtp_Ext_rtp_Ext [(.s 5), (.s 6)]⟩,
    ⟨(some 8), none, .bin .geq (.s 7) (.c (V.int .i64 0))⟩,
    ⟨(some 4), none, .mv (.s 8)⟩]
  (.ret))⟩

noncomputable def f_slices_ContainsFunc_rtp_Ext_rtp_Ext (G : Sem') (t0 t1 : V) : M Res :=
  (G fn_slices_IndexFunc_rtp_Ext_rtp_Ext [t0, t1]).bind fun t7 =>
  (M.lift (Ax.bin .geq t7 (V.int .i64 0))).bind fun t8 =>
  M.pure (.ret [t8])

theorem eq_slices_ContainsFunc_rtp_Ext_rtp_Ext (G : Sem') (t0 t1 : V) : execK G ir_slices_ContainsFunc_rtp_Ext_rtp_Ext.rv ir_slices_ContainsFunc_rtp_Ext_rtp_Ext.body [] [] (params 0 [t0, t1]) = f_slices_ContainsFunc_rtp_Ext_rtp_Ext G t0 t1 := by kernel_rfl

theorem tb_slices_ContainsFunc_rtp_Ext_rtp_Ext : T fn_slices_ContainsFunc_rtp_Ext_rtp_Ext = some ir_slices_ContainsFunc_rtp_Ext_rtp_Ext := by kernel_rfl

theorem ok_slices_ContainsFunc_rtp_Ext_rtp_Ext {t0 t1 : V} {H : Heap} {Q : V → Heap → Prop} (h : Ok (f_slices_ContainsFunc_rtp_Ext_rtp_Ext (sem T) t0 t1) H fun r H' => ∃ L, r = .ret L ∧ Q (tupled L) H') : Ok (sem T fn_slices_ContainsFunc_rtp_Ext_rtp_Ext [t0, t1]) H Q :=
  ok_sem tb_slices_ContainsFunc_rtp_Ext_rtp_Ext (Nat.le_of_ble_eq_true rfl) (eq_slices_ContainsFunc_rtp_Ext_rtp_Ext (sem T) t0 t1) h

/-- slices.IndexFunc[[]palanquin/rtp.Ext,palanquin/rtp.Ext]. -/
def loop_slices_IndexFunc_rtp_Ext_rtp_Ext_0 : C :=
  .ops [⟨(some 9), none, .bin .lss (.s 8) (.s 7)⟩]
  (.cond (.s 9)
  (.blk 1
   (.ops [⟨(some 10), none, .mv (.s 8)⟩,
      ⟨(some 5), none, .mv (.s 10)⟩]
    (.ops [⟨(some 11), none, .mv (.s 1)⟩,
      ⟨(some 12), none, .mv (.s 0)⟩,
      ⟨(some 13), none, .mv (.s 5)⟩,
      ⟨(some 14), none, .iaddr none 2 (.s 12) (.s 13)⟩,
      ⟨(some 15), none, .load (some 2) (.s 14)⟩,
      ⟨(some 16), none, .callv (.s 11) [(.s 15)]⟩]
    (.cond (.s 16)
    (.ops [⟨(some 17), none, .mv (.s 5)⟩,
       ⟨(some 4), none, .mv (.s 17)⟩]
     (.ret))
    (.done)))) [] [10, 5, 11, 12, 13, 14, 15, 16, 17, 4]
   (.ops [⟨(some 18), none, .bin .add (.s 8) (.c (V.int .i64 1))⟩,
     ⟨(some 8), none, .mv (.s 18)⟩]
   (.done)))
  (.exit 0))

def ir_slices_IndexFunc_rtp_Ext_rtp_Ext : Fn' := ⟨19, [.tmp 4],
  .ops [⟨(some 4), none, .mv (.c (V.int .i64 0))⟩]
  (.ops [⟨(some 6), none, .mv (.s 0)⟩,
    ⟨(some 7), none, .len (.s 6)⟩,
    ⟨(some 8), none, .mv (.c (V.int .i64 0))⟩]
  (.blk 0
  (.loop loop_slices_IndexFunc_rtp_Ext_rtp_Ext_0 [8] [9, 10, 5, 11, 12, 13, 14, 15, 16, 17, 4, 18, 8]) [] [9, 10, 5, 11, 12, 13, 14, 15, 16, 17, 4, 18, 8]
  (.ops [⟨(some 4), none, .mv (.c (V.int .i64 (-1)))⟩]
  (.ret))))⟩

noncomputable def f_slices_IndexFunc_rtp_Ext_rtp_Ext_0 (G : Sem') (t7 t1 t0 : V) (L : List V) : M Res :=
  (M.lift (Ax.bin .lss (L.getD 0 .undef) t7)).bind fun t9 =>
  M.ite t9
    (M.blk 1 (
      (M.lift (Ax.iaddr none 2 t0 (L.getD 0 .undef))).bind fun t14 =>
      (mload (some 2) t14).bind fun t15 =>
      (callv G t1 [t15]).bind fun t16 =>
      M.ite t16
        (M.pure (.ret [(L.getD 0 .undef)]))
        (M.pure (.nrm []))) fun _ =>
    (M.lift (Ax.bin .add (L.getD 0 .undef) (V.int .i64 1))).bind fun t18 =>
    M.pure (.nrm [t18]))
    (M.pure (.ex 0 []))

noncomputable def f_slices_IndexFunc_rtp_Ext_rtp_Ext (G : Sem') (t0 t1 : V) : M Res :=
  (M.lift (vlen t0)).bind fun t7 =>
  M.blk 0 (
    M.iter (f_slices_IndexFunc_rtp_Ext_rtp_Ext_0 G t7 t1 t0) [(V.int .i64 0)]) fun _ =>
  M.pure (.ret [(V.int .i64 (-1))])

theorem eq_slices_IndexFunc_rtp_Ext_rtp_Ext (G : Sem') (t0 t1 : V) : execK G ir_slices_IndexFunc_rtp_Ext_rtp_Ext.rv ir_slices_IndexFunc_rtp_Ext_rtp_Ext.body [] [] (params 0 [t0, t1]) = f_slices_IndexFunc_rtp_Ext_rtp_Ext G t0 t1 := by kernel_rfl

theorem tb_slices_IndexFunc_rtp_Ext_rtp_Ext : T fn_slices_IndexFunc_rtp_Ext_rtp_Ext = some ir_slices_IndexFunc_rtp_Ext_rtp_Ext := by kernel_rfl

theorem ok_slices_IndexFunc_rtp_Ext_rtp_Ext {t0 t1 : V} {H : Heap} {Q : V → Heap → Prop} (h : Ok (f_slices_IndexFunc_rtp_Ext_rtp_Ext (sem T) t0 t1) H fun r H' => ∃ L, r = .ret L ∧ Q (tupled L) H') : Ok (sem T fn_slices_IndexFunc_rtp_Ext_rtp_Ext [t0, t1]) H Q :=
  ok_sem tb_slices_IndexFunc_rtp_Ext_rtp_Ext (Nat.le_of_ble_eq_true rfl) (eq_slices_IndexFunc_rtp_Ext_rtp_Ext (sem T) t0 t1) h

/-- palanquin/rtp.first. -/
def ir_rtp_first : Fn' := ⟨30, [.tmp 2],
  .ops [⟨(some 1), none, .box ty_rtp_Packet (.s 0)⟩,
    ⟨(some 2), none, .mv (.c V.nils)⟩]
  (.draw [⟨(some 5), none, .faddr 5 (.s 1)⟩,
    ⟨(some 6), none, .load none (.s 5)⟩,
    ⟨(some 7), none, .len (.s 6)⟩,
    ⟨(some 8), none, .bin .or (.c (V.int .i64 128)) (.s 7)⟩,
    ⟨(some 9), none, .cint .u8 (.s 8)⟩,
    ⟨(some 10), none, .faddr 1 (.s 1)⟩,
    ⟨(some 11), none, .load none (.s 10)⟩,
    ⟨(some 12), none, .cint .u8 (.s 11)⟩,
    ⟨(some 3), none, .mv (.s 9)⟩,
    ⟨(some 4), none, .mv (.s 12)⟩] []
  (.ops [⟨(some 13), none, .faddr 8 (.s 1)⟩,
    ⟨(some 14), none, .load none (.s 13)⟩,
    ⟨(some 15), none, .bin .gtr (.s 14) (.c (V.int .i64 0))⟩]
  (.condJ (.s 15)
  (.ops [⟨(some 16), none, .mv (.s 3)⟩,
     ⟨(some 17), none, .bin .or (.s 16) (.c (V.int .u8 32))⟩,
     ⟨(some 3), none, .mv (.s 17)⟩]
   (.done))
  (.done) [3] [16, 17, 3]
  (.ops [⟨(some 18), none, .faddr 6 (.s 1)⟩,
    ⟨(some 19), none, .load none (.s 18)⟩,
    ⟨(some 20), none, .bin .neq (.s 19) (.c (V.int .i64 0))⟩]
  (.condJ (.s 20)
  (.ops [⟨(some 21), none, .mv (.s 3)⟩,
     ⟨(some 22), none, .bin .or (.s 21) (.c (V.int .u8 16))⟩,
     ⟨(some 3), none, .mv (.s 22)⟩]
   (.done))
  (.done) [3] [21, 22, 3]
  (.ops [⟨(some 23), none, .faddr 0 (.s 1)⟩,
    ⟨(some 24), none, .load none (.s 23)⟩]
  (.condJ (.s 24)
  (.ops [⟨(some 25), none, .mv (.s 4)⟩,
     ⟨(some 26), none, .bin .or (.s 25) (.c (V.int .u8 128))⟩,
     ⟨(some 4), none, .mv (.s 26)⟩]
   (.done))
  (.done) [4] [25, 26, 4]
  (.ops [⟨(some 27), none, .mv (.s 3)⟩,
    ⟨(some 28), none, .mv (.s 4)⟩,
    ⟨(some 29), none, .slit ty_uint8 2 [(V.int .u8 0)] [(0, 1, (.s 27)), (1, 1, (.s 28))]⟩,
    ⟨(some 2), none, .mv (.s 29)⟩]
  (.ret)))))))))⟩

noncomputable def f_rtp_first (G : Sem') (t0 : V) : M Res :=
  (mbox ty_rtp_Packet t0).bind fun t1 =>
  (M.lift (Ax.faddr 5 t1)).bind fun t5 =>
  (mload none t5).bind fun t6 =>
  (M.lift (vlen t6)).bind fun t7 =>
  (M.lift (Ax.bin .or (V.int .i64 128) t7)).bind fun t8 =>
  (M.lift (Ax.cint .u8 t8)).bind fun t9 =>
  (M.lift (Ax.faddr 1 t1)).bind fun t10 =>
  (mload none t10).bind fun t11 =>
  (M.lift (Ax.cint .u8 t11)).bind fun t12 =>
  (M.lift (Ax.faddr 8 t1)).bind fun t13 =>
  (mload none t13).bind fun t14 =>
  (M.lift (Ax.bin .gtr t14 (V.int .i64 0))).bind fun t15 =>
  M.join (M.ite t15
    ((M.lift (Ax.bin .or t9 (V.int .u8 32))).bind fun t17 =>
    M.pure (.nrm [t17]))
    (M.pure (.nrm [t9]))) fun L0 =>
  (M.lift (Ax.faddr 6 t1)).bind fun t18 =>
  (mload none t18).bind fun t19 =>
  (M.lift (Ax.bin .neq t19 (V.int .i64 0))).bind fun t20 =>
  M.join (M.ite t20
    ((M.lift (Ax.bin .or (L0.getD 0 .undef) (V.int .u8 16))).bind fun t22 =>
    M.pure (.nrm [t22]))
    (M.pure (.nrm [(L0.getD 0 .undef)]))) fun L1 =>
  (M.lift (Ax.faddr 0 t1)).bind fun t23 =>
  (mload none t23).bind fun t24 =>
  M.join (M.ite t24
    ((M.lift (Ax.bin .or t12 (V.int .u8 128))).bind fun t26 =>
    M.pure (.nrm [t26]))
    (M.pure (.nrm [t12]))) fun L2 =>
  (mslit ty_uint8 2 [(V.int .u8 0)] [(0, 1, (L1.getD 0 .undef)), (1, 1, (L2.getD 0 .undef))]).bind fun t29 =>
  M.pure (.ret [t29])

theorem eq_rtp_first (G : Sem') (t0 : V) : execK G ir_rtp_first.rv ir_rtp_first.body [] [] (params 0 [t0]) = f_rtp_first G t0 := by kernel_rfl

theorem tb_rtp_first : T fn_rtp_first = some ir_rtp_first := by kernel_rfl

theorem ok_rtp_first {t0 : V} {H : Heap} {Q : V → Heap → Prop} (h : Ok (f_rtp_first (sem T) t0) H fun r H' => ∃ L, r = .ret L ∧ Q (tupled L) H') : Ok (sem T fn_rtp_first [t0]) H Q :=
  ok_sem tb_rtp_first (Nat.le_of_ble_eq_true rfl) (eq_rtp_first (sem T) t0) h

/-- palanquin/rtp.put. -/
def loop_rtp_put_0 : C :=
  .ops [⟨(some 10), none, .mv (.s 7)⟩,
    ⟨(some 11), none, .bin .geq (.s 10) (.c (V.int .i64 0))⟩]
  (.cond (.s 11)
  (.blk 1
   (.ops [⟨(some 14), none, .mv (.s 0)⟩,
      ⟨(some 15), none, .mv (.s 1)⟩,
      ⟨(some 16), none, .mv (.s 7)⟩,
      ⟨(some 17), none, .bin .mul (.c (V.int .i64 8)) (.s 16)⟩,
      ⟨(some 18), none, .bin .shr (.s 15) (.s 17)⟩,
      ⟨(some 19), none, .cint .u8 (.s 18)⟩,
      ⟨(some 20), none, .slit ty_uint8 1 [(V.int .u8 0)] [(0, 1, (.s 19))]⟩,
      ⟨(some 21), none, .append ty_uint8 1 1 (.s 14) (.s 20)⟩,
      ⟨(some 0), none, .mv (.s 21)⟩]
    (.done)) [0] [14, 15, 16, 17, 18, 19, 20, 21, 0]
   (.ops [⟨(some 12), none, .mv (.s 7)⟩,
     ⟨(some 13), none, .bin .sub (.s 12) (.c (V.int .i64 1))⟩,
     ⟨(some 7), none, .mv (.s 13)⟩]
   (.done)))
  (.exit 0))

def ir_rtp_put : Fn' := ⟨23, [.tmp 6],
  .ops [⟨(some 6), none, .mv (.c V.nils)⟩]
  (.ops [⟨(some 8), none, .mv (.s 2)⟩,
    ⟨(some 9), none, .bin .sub (.s 8) (.c (V.int .i64 1))⟩,
    ⟨(some 7), none, .mv (.s 9)⟩]
  (.blk 0
  (.loop loop_rtp_put_0 [0, 7] [10, 11, 14, 15, 16, 17, 18, 19, 20, 21, 0, 12, 13, 7]) [0] [10, 11, 14, 15, 16, 17, 18, 19, 20, 21, 0, 12, 13, 7]
  (.ops [⟨(some 22), none, .mv (.s 0)⟩,
    ⟨(some 6), none, .mv (.s 22)⟩]
  (.ret))))⟩

noncomputable def f_rtp_put_0 (G : Sem') (t1 t6 : V) (L : List V) : M Res :=
  (M.lift (Ax.bin .geq (L.getD 1 .undef) (V.int .i64 0))).bind fun t11 =>
  M.ite t11
    (M.blk 1 (
      (M.lift (Ax.bin .mul (V.int .i64 8) (L.getD 1 .undef))).bind fun t17 =>
      (M.lift (Ax.bin .shr t1 t17)).bind fun t18 =>
      (M.lift (Ax.cint .u8 t18)).bind fun t19 =>
      (mslit ty_uint8 1 [(V.int .u8 0)] [(0, 1, t19)]).bind fun t20 =>
      (mappend ty_uint8 1 1 (L.getD 0 .undef) t20).bind fun t21 =>
      M.pure (.nrm [t21])) fun L0 =>
    (M.lift (Ax.bin .sub (L.getD 1 .undef) (V.int .i64 1))).bind fun t13 =>
    M.pure (.nrm [(L0.getD 0 .undef), t13]))
    (M.pure (.ex 0 [(L.getD 0 .undef)]))

noncomputable def f_rtp_put (G : Sem') (t0 t1 t2 : V) : M Res :=
  (M.lift (Ax.bin .sub t2 (V.int .i64 1))).bind fun t9 =>
  M.blk 0 (
    M.iter (f_rtp_put_0 G t1 V.nils) [t0, t9]) fun L1 =>
  M.pure (.ret [(L1.getD 0 .undef)])

theorem eq_rtp_put (G : Sem') (t0 t1 t2 : V) : execK G ir_rtp_put.rv ir_rtp_put.body [] [] (params 0 [t0, t1, t2]) = f_rtp_put G t0 t1 t2 := by kernel_rfl

theorem tb_rtp_put : T fn_rtp_put = some ir_rtp_put := by kernel_rfl

theorem ok_rtp_put {t0 t1 t2 : V} {H : Heap} {Q : V → Heap → Prop} (h : Ok (f_rtp_put (sem T) t0 t1 t2) H fun r H' => ∃ L, r = .ret L ∧ Q (tupled L) H') : Ok (sem T fn_rtp_put [t0, t1, t2]) H Q :=
  ok_sem tb_rtp_put (Nat.le_of_ble_eq_true rfl) (eq_rtp_put (sem T) t0 t1 t2) h

/-- palanquin/rtp.elements. -/
def loop_rtp_elements_0 : C :=
  .ops [⟨(some 10), none, .bin .lss (.s 9) (.s 8)⟩]
  (.cond (.s 10)
  (.blk 1
   (.ops [⟨(some 11), none, .iaddr none 2 (.s 7) (.s 9)⟩,
      ⟨(some 12), none, .load (some 2) (.s 11)⟩,
      ⟨(some 5), none, .box ty_rtp_Ext (.c (V.agg [(V.int .i64 0), V.nils]))⟩,
      ⟨none, none, .store 2 (.s 5) (.s 12)⟩]
    (.ops [⟨(some 13), none, .faddr 6 (.s 1)⟩,
      ⟨(some 14), none, .load none (.s 13)⟩,
      ⟨(some 15), none, .bin .eql (.s 14) (.c (V.int .i64 48862))⟩]
    (.condJ (.s 15)
    (.ops [⟨(some 16), none, .mv (.s 3)⟩,
       ⟨(some 17), none, .faddr 0 (.s 5)⟩,
       ⟨(some 18), none, .load none (.s 17)⟩,
       ⟨(some 19), none, .bin .shl (.s 18) (.c (V.int .u64 4))⟩,
       ⟨(some 20), none, .faddr 1 (.s 5)⟩,
       ⟨(some 21), none, .load none (.s 20)⟩,
       ⟨(some 22), none, .len (.s 21)⟩,
       ⟨(some 23), none, .bin .sub (.s 22) (.c (V.int .i64 1))⟩,
       ⟨(some 24), none, .bin .or (.s 19) (.s 23)⟩,
       ⟨(some 25), none, .cint .u8 (.s 24)⟩,
       ⟨(some 26), none, .slit ty_uint8 1 [(V.int .u8 0)] [(0, 1, (.s 25))]⟩,
       ⟨(some 27), none, .append ty_uint8 1 1 (.s 16) (.s 26)⟩,
       ⟨(some 3), none, .mv (.s 27)⟩]
     (.done))
    (.ops [⟨(some 28), none, .mv (.s 3)⟩,
       ⟨(some 29), none, .faddr 0 (.s 5)⟩,
       ⟨(some 30), none, .load none (.s 29)⟩,
       ⟨(some 31), none, .cint .u8 (.s 30)⟩,
       ⟨(some 32), none, .faddr 1 (.s 5)⟩,
       ⟨(some 33), none, .load none (.s 32)⟩,
       ⟨(some 34), none, .len (.s 33)⟩,
       ⟨(some 35), none, .cint .u8 (.s 34)⟩,
       ⟨(some 36), none, .slit ty_uint8 2 [(V.int .u8 0)] [(0, 1, (.s 31)), (1, 1, (.s 35))]⟩,
       ⟨(some 37), none, .append ty_uint8 1 1 (.s 28) (.s 36)⟩,
       ⟨(some 3), none, .mv (.s 37)⟩]
     (.done)) [3] [16, 17, 18, 19, 20, 21, 22, 23, 24, 25, 26, 27, 3, 28, 29, 30, 31, 32, 33, 34, 35, 36, 37, 3]
    (.ops [⟨(some 38), none, .mv (.s 3)⟩,
      ⟨(some 39), none, .faddr 1 (.s 5)⟩,
      ⟨(some 40), none, .load none (.s 39)⟩,
      ⟨(some 41), none, .append ty_uint8 1 1 (.s 38) (.s 40)⟩,
      ⟨(some 3), none, .mv (.s 41)⟩]
    (.done))))) [3] [11, 12, 5, 13, 14, 15, 16, 17, 18, 19, 20, 21, 22, 23, 24, 25, 26, 27, 3, 28, 29, 30, 31, 32, 33, 34, 35, 36, 37, 3, 38, 39, 40, 41, 3]
   (.ops [⟨(some 42), none, .bin .add (.s 9) (.c (V.int .i64 1))⟩,
     ⟨(some 9), none, .mv (.s 42)⟩]
   (.done)))
  (.exit 0))

def loop_rtp_elements_1 : C :=
  .ops [⟨(some 43), none, .mv (.s 3)⟩,
    ⟨(some 44), none, .len (.s 43)⟩,
    ⟨(some 45), none, .bin .rem (.s 44) (.c (V.int .i64 4))⟩,
    ⟨(some 46), none, .bin .neq (.s 45) (.c (V.int .i64 0))⟩]
  (.cond (.s 46)
  (.blk 3
   (.ops [⟨(some 47), none, .mv (.s 3)⟩,
      ⟨(some 48), none, .slit ty_uint8 1 [(V.int .u8 0)] [(0, 1, (.c (V.int .u8 0)))]⟩,
      ⟨(some 49), none, .append ty_uint8 1 1 (.s 47) (.s 48)⟩,
      ⟨(some 3), none, .mv (.s 49)⟩]
    (.done)) [3] [47, 48, 49, 3]
   (.done))
  (.exit 2))

def ir_rtp_elements : Fn' := ⟨51, [.tmp 2],
  .ops [⟨(some 1), none, .box ty_rtp_Packet (.s 0)⟩,
    ⟨(some 2), none, .mv (.c V.nils)⟩]
  (.ops [⟨(some 3), none, .mv (.c V.nils)⟩]
  (.ops [⟨(some 6), none, .faddr 7 (.s 1)⟩,
    ⟨(some 7), none, .load none (.s 6)⟩,
    ⟨(some 8), none, .len (.s 7)⟩,
    ⟨(some 9), none, .mv (.c (V.int .i64 0))⟩]
  (.blk 0
  (.loop loop_rtp_elements_0 [3, 9] [10, 11, 12, 5, 13, 14, 15, 16, 17, 18, 19, 20, 21, 22, 23, 24, 25, 26, 27, 3, 28, 29, 30, 31, 32, 33, 34, 35, 36, 37, 3, 38, 39, 40, 41, 3, 42, 9]) [3] [10, 11, 12, 5, 13, 14, 15, 16, 17, 18, 19, 20, 21, 22, 23, 24, 25, 26, 27, 3, 28, 29, 30, 31, 32, 33, 34, 35, 36, 37, 3, 38, 39, 40, 41, 3, 42, 9]
  (.blk 2
  (.loop loop_rtp_elements_1 [3] [43, 44, 45, 46, 47, 48, 49, 3]) [3] [43, 44, 45, 46, 47, 48, 49, 3]
  (.ops [⟨(some 50), none, .mv (.s 3)⟩,
    ⟨(some 2), none, .mv (.s 50)⟩]
  (.ret))))))⟩

noncomputable def f_rtp_elements_0 (G : Sem') (t8 t7 t1 t2 : V) (L : List V) : M Res :=
  (M.lift (Ax.bin .lss (L.getD 1 .undef) t8)).bind fun t10 =>
  M.ite t10
    (M.blk 1 (
      (M.lift (Ax.iaddr none 2 t7 (L.getD 1 .undef))).bind fun t11 =>
      (mload (some 2) t11).bind fun t12 =>
      (mbox ty_rtp_Ext (V.agg [(V.int .i64 0), V.nils])).bind fun t5 =>
      (mstore 2 t5 t12).bind fun _ =>
      (M.lift (Ax.faddr 6 t1)).bind fun t13 =>
      (mload none t13).bind fun t14 =>
      (M.lift (Ax.bin .eql t14 (V.int .i64 48862))).bind fun t15 =>
      M.join (M.ite t15
        ((M.lift (Ax.faddr 0 t5)).bind fun t17 =>
        (mload none t17).bind fun t18 =>
        (M.lift (Ax.bin .shl t18 (V.int .u64 4))).bind fun t19 =>
        (M.lift (Ax.faddr 1 t5)).bind fun t20 =>
        (mload none t20).bind fun t21 =>
        (M.lift (vlen t21)).bind fun t22 =>
        (M.lift (Ax.bin .sub t22 (V.int .i64 1))).bind fun t23 =>
        (M.lift (Ax.bin .or t19 t23)).bind fun t24 =>
        (M.lift (Ax.cint .u8 t24)).bind fun t25 =>
        (mslit ty_uint8 1 [(V.int .u8 0)] [(0, 1, t25)]).bind fun t26 =>
        (mappend ty_uint8 1 1 (L.getD 0 .undef) t26).bind fun t27 =>
        M.pure (.nrm [t27]))
        ((M.lift (Ax.faddr 0 t5)).bind fun t29 =>
        (mload none t29).bind fun t30 =>
        (M.lift (Ax.cint .u8 t30)).bind fun t31 =>
        (M.lift (Ax.faddr 1 t5)).bind fun t32 =>
        (mload none t32).bind fun t33 =>
        (M.lift (vlen t33)).bind fun t34 =>
        (M.lift (Ax.cint .u8 t34)).bind fun t35 =>
        (mslit ty_uint8 2 [(V.int .u8 0)] [(0, 1, t31), (1, 1, t35)]).bind fun t36 =>
        (mappend ty_uint8 1 1 (L.getD 0 .undef) t36).bind fun t37 =>
        M.pure (.nrm [t37]))) fun L0 =>
      (M.lift (Ax.faddr 1 t5)).bind fun t39 =>
      (mload none t39).bind fun t40 =>
      (mappend ty_uint8 1 1 (L0.getD 0 .undef) t40).bind fun t41 =>
      M.pure (.nrm [t41])) fun L1 =>
    (M.lift (Ax.bin .add (L.getD 1 .undef) (V.int .i64 1))).bind fun t42 =>
    M.pure (.nrm [(L1.getD 0 .undef), t42]))
    (M.pure (.ex 0 [(L.getD 0 .undef)]))

noncomputable def f_rtp_elements_1 (G : Sem') (t2 : V) (L : List V) : M Res :=
  (M.lift (vlen (L.getD 0 .undef))).bind fun t44 =>
  (M.lift (Ax.bin .rem t44 (V.int .i64 4))).bind fun t45 =>
  (M.lift (Ax.bin .neq t45 (V.int .i64 0))).bind fun t46 =>
  M.ite t46
    (M.blk 3 (
      (mslit ty_uint8 1 [(V.int .u8 0)] [(0, 1, (V.int .u8 0))]).bind fun t48 =>
      (mappend ty_uint8 1 1 (L.getD 0 .undef) t48).bind fun t49 =>
      M.pure (.nrm [t49])) fun L3 =>
    M.pure (.nrm [(L3.getD 0 .undef)]))
    (M.pure (.ex 2 [(L.getD 0 .undef)]))

noncomputable def f_rtp_elements (G : Sem') (t0 : V) : M Res :=
  (mbox ty_rtp_Packet t0).bind fun t1 =>
  (M.lift (Ax.faddr 7 t1)).bind fun t6 =>
  (mload none t6).bind fun t7 =>
  (M.lift (vlen t7)).bind fun t8 =>
  M.blk 0 (
    M.iter (f_rtp_elements_0 G t8 t7 t1 V.nils) [V.nils, (V.int .i64 0)]) fun L2 =>
  M.blk 2 (
    M.iter (f_rtp_elements_1 G V.nils) [(L2.getD 0 .undef)]) fun L4 =>
  M.pure (.ret [(L4.getD 0 .undef)])

theorem eq_rtp_elements (G : Sem') (t0 : V) : execK G ir_rtp_elements.rv ir_rtp_elements.body [] [] (params 0 [t0]) = f_rtp_elements G t0 := by kernel_rfl

theorem tb_rtp_elements : T fn_rtp_elements = some ir_rtp_elements := by kernel_rfl

theorem ok_rtp_elements {t0 : V} {H : Heap} {Q : V → Heap → Prop} (h : Ok (f_rtp_elements (sem T) t0) H fun r H' => ∃ L, r = .ret L ∧ Q (tupled L) H') : Ok (sem T fn_rtp_elements [t0]) H Q :=
  ok_sem tb_rtp_elements (Nat.le_of_ble_eq_true rfl) (eq_rtp_elements (sem T) t0) h

/-- palanquin/rtp.Find. -/
def ir_rtp_Find : Fn' := ⟨19, [.tmp 4, .tmp 5],
  .ops [⟨(some 2), none, .box ty_rtp_Packet (.s 0)⟩,
    ⟨(some 4), none, .mv (.c V.nils)⟩,
    ⟨(some 5), none, .mv (.c (V.bool false))⟩]
  (.ops [⟨(some 7), none, .load (some 10) (.s 2)⟩,
    ⟨(some 8), none, .mv (.s 1)⟩,
    ⟨(some 9), none, .call fn_rtp_at [(.s 7), (.s 8)]⟩,
    ⟨(some 6), none, .mv (.s 9)⟩]
  (.ops [⟨(some 10), none, .mv (.s 6)⟩,
    ⟨(some 11), none, .bin .lss (.s 10) (.c (V.int .i64 0))⟩]
  (.cond (.s 11)
  (.ops [⟨(some 4), none, .mv (.c V.nils)⟩,
     ⟨(some 5), none, .mv (.c (V.bool false))⟩]
   (.ret))
  (.ops [⟨(some 12), none, .faddr 7 (.s 2)⟩,
     ⟨(some 13), none, .load none (.s 12)⟩,
     ⟨(some 14), none, .mv (.s 6)⟩,
     ⟨(some 15), none, .iaddr none 2 (.s 13) (.s 14)⟩,
     ⟨(some 16), none, .faddr 1 (.s 15)⟩,
     ⟨(some 17), none, .load none (.s 16)⟩,
     ⟨(some 18), none, .call fn_bytes_Clone [(.s 17)]⟩,
     ⟨(some 4), none, .mv (.s 18)⟩,
     ⟨(some 5), none, .mv (.c (V.bool true))⟩]
   (.ret)))))⟩

noncomputable def f_rtp_Find (G : Sem') (t0 t1 : V) : M Res :=
  (mbox ty_rtp_Packet t0).bind fun t2 =>
  (mload (some 10) t2).bind fun t7 =>
  (G fn_rtp_at [t7, t1]).bind fun t9 =>
  (M.lift (Ax.bin .lss t9 (V.int .i64 0))).bind fun t11 =>
  M.ite t11
    (M.pure (.ret [V.nils, (V.bool false)]))
    ((M.lift (Ax.faddr 7 t2)).bind fun t12 =>
    (mload none t12).bind fun t13 =>
    (M.lift (Ax.iaddr none 2 t13 t9)).bind fun t15 =>
    (M.lift (Ax.faddr 1 t15)).bind fun t16 =>
    (mload none t16).bind fun t17 =>
    (G fn_bytes_Clone [t17]).bind fun t18 =>
    M.pure (.ret [t18, (V.bool true)]))

theorem eq_rtp_Find (G : Sem') (t0 t1 : V) : execK G ir_rtp_Find.rv ir_rtp_Find.body [] [] (params 0 [t0, t1]) = f_rtp_Find G t0 t1 := by kernel_rfl

theorem tb_rtp_Find : T fn_rtp_Find = some ir_rtp_Find := by kernel_rfl

theorem ok_rtp_Find {t0 t1 : V} {H : Heap} {Q : V → Heap → Prop} (h : Ok (f_rtp_Find (sem T) t0 t1) H fun r H' => ∃ L, r = .ret L ∧ Q (tupled L) H') : Ok (sem T fn_rtp_Find [t0, t1]) H Q :=
  ok_sem tb_rtp_Find (Nat.le_of_ble_eq_true rfl) (eq_rtp_Find (sem T) t0 t1) h

/-- palanquin/rtp.at. -/
def ir_rtp_at : Fn' := ⟨9, [.tmp 4],
  .ops [⟨(some 2), none, .box ty_rtp_Packet (.s 0)⟩,
    ⟨(some 3), none, .box ty_int (.s 1)⟩,
    ⟨(some 4), none, .mv (.c (V.int .i64 0))⟩]
  (.ops [⟨(some 5), none, .faddr 7 (.s 2)⟩,
    ⟨(some 6), none, .load none (.s 5)⟩,
    ⟨(some 7), none, .mkfn fn_rtp_at_1 [(.s 3)]⟩,
    ⟨(some 8), none, .call fn_slices_IndexFunc_rtp_Ext_rtp_Ext [(.s 6), (.s 7)]⟩,
    ⟨(some 4), none, .mv (.s 8)⟩]
  (.ret))⟩

noncomputable def f_rtp_at (G : Sem') (t0 t1 : V) : M Res :=
  (mbox ty_rtp_Packet t0).bind fun t2 =>
  (mbox ty_int t1).bind fun t3 =>
  (M.lift (Ax.faddr 7 t2)).bind fun t5 =>
  (mload none t5).bind fun t6 =>
  (M.pure (.fn fn_rtp_at_1 [t3])).bind fun t7 =>
  (G fn_slices_IndexFunc_rtp_Ext_rtp_Ext [t6, t7]).bind fun t8 =>
  M.pure (.ret [t8])

theorem eq_rtp_at (G : Sem') (t0 t1 : V) : execK G ir_rtp_at.rv ir_rtp_at.body [] [] (params 0 [t0, t1]) = f_rtp_at G t0 t1 := by kernel_rfl

theorem tb_rtp_at : T fn_rtp_at = some ir_rtp_at := by kernel_rfl

theorem ok_rtp_at {t0 t1 : V} {H : Heap} {Q : V → Heap → Prop} (h : Ok (f_rtp_at (sem T) t0 t1) H fun r H' => ∃ L, r = .ret L ∧ Q (tupled L) H') : Ok (sem T fn_rtp_at [t0, t1]) H Q :=
  ok_sem tb_rtp_at (Nat.le_of_ble_eq_true rfl) (eq_rtp_at (sem T) t0 t1) h

/-- palanquin/rtp.at$1. -/
def ir_rtp_at_1 : Fn' := ⟨8, [.tmp 3],
  .ops [⟨(some 2), none, .box ty_rtp_Ext (.s 0)⟩,
    ⟨(some 3), none, .mv (.c (V.bool false))⟩]
  (.ops [⟨(some 4), none, .faddr 0 (.s 2)⟩,
    ⟨(some 5), none, .load none (.s 4)⟩,
    ⟨(some 6), none, .load none (.s 1)⟩,
    ⟨(some 7), none, .bin .eql (.s 5) (.s 6)⟩,
    ⟨(some 3), none, .mv (.s 7)⟩]
  (.ret))⟩

noncomputable def f_rtp_at_1 (G : Sem') (t0 t1 : V) : M Res :=
  (mbox ty_rtp_Ext t0).bind fun t2 =>
  (M.lift (Ax.faddr 0 t2)).bind fun t4 =>
  (mload none t4).bind fun t5 =>
  (mload none t1).bind fun t6 =>
  (M.lift (Ax.bin .eql t5 t6)).bind fun t7 =>
  M.pure (.ret [t7])

theorem eq_rtp_at_1 (G : Sem') (t0 t1 : V) : execK G ir_rtp_at_1.rv ir_rtp_at_1.body [] [] (params 0 [t0, t1]) = f_rtp_at_1 G t0 t1 := by kernel_rfl

theorem tb_rtp_at_1 : T fn_rtp_at_1 = some ir_rtp_at_1 := by kernel_rfl

theorem ok_rtp_at_1 {t0 t1 : V} {H : Heap} {Q : V → Heap → Prop} (h : Ok (f_rtp_at_1 (sem T) t0 t1) H fun r H' => ∃ L, r = .ret L ∧ Q (tupled L) H') : Ok (sem T fn_rtp_at_1 [t0, t1]) H Q :=
  ok_sem tb_rtp_at_1 (Nat.le_of_ble_eq_true rfl) (eq_rtp_at_1 (sem T) t0 t1) h

/-- bytes.Clone. -/
def ir_bytes_Clone : Fn' := ⟨8, [.tmp 2],
  .ops [⟨(some 2), none, .mv (.c V.nils)⟩]
  (.ops [⟨(some 3), none, .mv (.s 0)⟩,
    ⟨(some 4), none, .eq .sl false (.s 3) (.c V.nils)⟩]
  (.cond (.s 4)
  (.ops [⟨(some 2), none, .mv (.c V.nils)⟩]
   (.ret))
  (.ops [⟨(some 5), none, .slit ty_uint8 0 [(V.int .u8 0)] []⟩,
     ⟨(some 6), none, .mv (.s 0)⟩,
     ⟨(some 7), none, .append ty_uint8 1 1 (.s 5) (.s 6)⟩,
     ⟨(some 2), none, .mv (.s 7)⟩]
   (.ret))))⟩

noncomputable def f_bytes_Clone (G : Sem') (t0 : V) : M Res :=
  (M.lift (eqr .sl false t0 V.nils)).bind fun t4 =>
  M.ite t4
    (M.pure (.ret [V.nils]))
    ((mslit ty_uint8 0 [(V.int .u8 0)] []).bind fun t5 =>
    (mappend ty_uint8 1 1 t5 t0).bind fun t7 =>
    M.pure (.ret [t7]))

theorem eq_bytes_Clone (G : Sem') (t0 : V) : execK G ir_bytes_Clone.rv ir_bytes_Clone.body [] [] (params 0 [t0]) = f_bytes_Clone G t0 := by kernel_rfl

theorem tb_bytes_Clone : T fn_bytes_Clone = some ir_bytes_Clone := by kernel_rfl

theorem ok_bytes_Clone {t0 : V} {H : Heap} {Q : V → Heap → Prop} (h : Ok (f_bytes_Clone (sem T) t0) H fun r H' => ∃ L, r = .ret L ∧ Q (tupled L) H') : Ok (sem T fn_bytes_Clone [t0]) H Q :=
  ok_sem tb_bytes_Clone (Nat.le_of_ble_eq_true rfl) (eq_bytes_Clone (sem T) t0) h

/-- palanquin/depend.Good. -/
def ir_depend_Good : Fn' := ⟨107, [.tmp 4],
  .ops [⟨(some 2), none, .box ty_depend_Frame (.s 0)⟩,
    ⟨(some 3), none, .box ty_depend_Structure (.s 1)⟩,
    ⟨(some 4), none, .mv (.c (V.bool false))⟩]
  (.ops [⟨(some 9), none, .load (some 19) (.s 2)⟩,
    ⟨(some 10), none, .load (some 6) (.s 3)⟩,
    ⟨(some 11), none, .call fn_depend_Of [(.s 9), (.s 10)]⟩,
    ⟨(some 8), none, .mv (.s 11)⟩,
    ⟨(some 12), none, .ext 0 (.s 8)⟩,
    ⟨(some 13), none, .ext 1 (.s 8)⟩,
    ⟨(some 5), none, .box ty_depend_Template (.c (V.agg [(V.int .i64 0), (V.int .i64 0), V.nils, V.nils, V.nils]))⟩,
    ⟨none, none, .store 5 (.s 5) (.s 12)⟩,
    ⟨(some 6), none, .mv (.s 13)⟩]
  (.ops [⟨(some 14), none, .load (some 19) (.s 2)⟩,
    ⟨(some 15), none, .load (some 6) (.s 3)⟩,
    ⟨(some 16), none, .call fn_depend_holds [(.s 14), (.s 15)]⟩,
    ⟨(some 7), none, .box ty_depend_Structure (.c (V.agg [(V.int .i64 0), (V.int .i64 0), V.nils, (V.int .i64 0), V.nils, V.nils]))⟩,
    ⟨none, none, .store 6 (.s 7) (.s 16)⟩]
  (.blk 0
  (.ops [⟨(some 18), none, .mv (.s 6)⟩,
     ⟨(some 19), none, .un .not (.s 18)⟩,
     ⟨(some 20), none, .mv (.s 19)⟩,
     ⟨(some 21), (some (20, false)), .faddr 4 (.s 2)⟩,
     ⟨(some 22), (some (20, false)), .load none (.s 21)⟩,
     ⟨(some 23), (some (20, false)), .un .not (.s 22)⟩,
     ⟨(some 24), (some (20, false)), .mv (.s 23)⟩,
     ⟨(some 25), (some (24, true)), .faddr 5 (.s 2)⟩,
     ⟨(some 26), (some (24, true)), .load (some 6) (.s 25)⟩,
     ⟨(some 27), (some (24, true)), .call fn_depend_none [(.s 26)]⟩,
     ⟨(some 28), (some (24, true)), .un .not (.s 27)⟩,
     ⟨(some 29), (some (20, false)), .pick (.s 24) (.s 28) (.c (V.bool false))⟩,
     ⟨(some 30), none, .pick (.s 20) (.c (V.bool true)) (.s 29)⟩,
     ⟨(some 17), none, .mv (.s 30)⟩]
   (.cond (.s 17)
   (.ops [⟨(some 4), none, .mv (.c (V.bool false))⟩]
    (.ret))
   (.ops [⟨(some 32), none, .faddr 11 (.s 2)⟩,
      ⟨(some 33), none, .load none (.s 32)⟩,
      ⟨(some 34), none, .un .not (.s 33)⟩,
      ⟨(some 35), none, .mv (.s 34)⟩,
      ⟨(some 36), (some (35, true)), .faddr 12 (.s 2)⟩,
      ⟨(some 37), (some (35, true)), .load none (.s 36)⟩,
      ⟨(some 38), (some (35, true)), .bin .neq (.s 37) (.c (V.int .u32 0))⟩,
      ⟨(some 39), none, .pick (.s 35) (.s 38) (.c (V.bool false))⟩,
      ⟨(some 40), none, .mv (.s 39)⟩,
      ⟨(some 41), (some (40, false)), .faddr 12 (.s 2)⟩,
      ⟨(some 42), (some (40, false)), .load none (.s 41)⟩,
      ⟨(some 43), (some (40, false)), .cint .u64 (.s 42)⟩,
      ⟨(some 44), (some (40, false)), .faddr 1 (.s 7)⟩,
      ⟨(some 45), (some (40, false)), .load none (.s 44)⟩,
      ⟨(some 46), (some (40, false)), .bin .shr (.s 43) (.s 45)⟩,
      ⟨(some 47), (some (40, false)), .bin .neq (.s 46) (.c (V.int .u64 0))⟩,
      ⟨(some 48), none, .pick (.s 40) (.c (V.bool true)) (.s 47)⟩,
      ⟨(some 31), none, .mv (.s 48)⟩]
    (.cond (.s 31)
    (.ops [⟨(some 4), none, .mv (.c (V.bool false))⟩]
     (.ret))
    (.ops [⟨(some 50), none, .faddr 13 (.s 2)⟩,
       ⟨(some 51), none, .load none (.s 50)⟩,
       ⟨(some 52), none, .mv (.s 51)⟩,
       ⟨(some 53), (some (52, true)), .faddr 16 (.s 2)⟩,
       ⟨(some 54), (some (52, true)), .load none (.s 53)⟩,
       ⟨(some 55), (some (52, true)), .faddr 1 (.s 7)⟩,
       ⟨(some 56), (some (52, true)), .load none (.s 55)⟩,
       ⟨(some 57), (some (52, true)), .call fn_depend_within [(.s 54), (.s 56), (.c (V.int .i64 0)), (.c (V.int .i64 3))]⟩,
       ⟨(some 58), (some (52, true)), .un .not (.s 57)⟩,
       ⟨(some 59), none, .pick (.s 52) (.s 58) (.c (V.bool false))⟩,
       ⟨(some 60), none, .mv (.s 59)⟩,
       ⟨(some 61), (some (60, false)), .faddr 13 (.s 2)⟩,
       ⟨(some 62), (some (60, false)), .load none (.s 61)⟩,
       ⟨(some 63), (some (60, false)), .un .not (.s 62)⟩,
       ⟨(some 64), (some (60, false)), .mv (.s 63)⟩,
       ⟨(some 65), (some (64, true)), .faddr 16 (.s 2)⟩,
       ⟨(some 66), (some (64, true)), .load none (.s 65)⟩,
       ⟨(some 67), (some (64, true)), .faddr 2 (.s 5)⟩,
       ⟨(some 68), (some (64, true)), .load none (.s 67)⟩,
       ⟨(some 69), (some (64, true)), .call fn_slices_Equal_int_int [(.s 66), (.s 68)]⟩,
       ⟨(some 70), (some (64, true)), .un .not (.s 69)⟩,
       ⟨(some 71), (some (60, false)), .pick (.s 64) (.s 70) (.c (V.bool false))⟩,
       ⟨(some 72), none, .pick (.s 60) (.c (V.bool true)) (.s 71)⟩,
       ⟨(some 49), none, .mv (.s 72)⟩]
     (.cond (.s 49)
     (.ops [⟨(some 4), none, .mv (.c (V.bool false))⟩]
      (.ret))
     (.ops [⟨(some 74), none, .faddr 14 (.s 2)⟩,
        ⟨(some 75), none, .load none (.s 74)⟩,
        ⟨(some 76), none, .mv (.s 75)⟩,
        ⟨(some 77), (some (76, true)), .faddr 17 (.s 2)⟩,
        ⟨(some 78), (some (76, true)), .load none (.s 77)⟩,
        ⟨(some 79), (some (76, true)), .call fn_depend_diffs [(.s 78), (.c (V.int .i64 16)), (.c (V.int .i64 4096))]⟩,
        ⟨(some 80), (some (76, true)), .un .not (.s 79)⟩,
        ⟨(some 81), none, .pick (.s 76) (.s 80) (.c (V.bool false))⟩,
        ⟨(some 82), none, .mv (.s 81)⟩,
        ⟨(some 83), (some (82, false)), .faddr 14 (.s 2)⟩,
        ⟨(some 84), (some (82, false)), .load none (.s 83)⟩,
        ⟨(some 85), (some (82, false)), .un .not (.s 84)⟩,
        ⟨(some 86), (some (82, false)), .mv (.s 85)⟩,
        ⟨(some 87), (some (86, true)), .faddr 17 (.s 2)⟩,
        ⟨(some 88), (some (86, true)), .load none (.s 87)⟩,
        ⟨(some 89), (some (86, true)), .faddr 3 (.s 5)⟩,
        ⟨(some 90), (some (86, true)), .load none (.s 89)⟩,
        ⟨(some 91), (some (86, true)), .call fn_slices_Equal_int_int [(.s 88), (.s 90)]⟩,
        ⟨(some 92), (some (86, true)), .un .not (.s 91)⟩,
        ⟨(some 93), (some (82, false)), .pick (.s 86) (.s 92) (.c (V.bool false))⟩,
        ⟨(some 94), none, .pick (.s 82) (.c (V.bool true)) (.s 93)⟩,
        ⟨(some 73), none, .mv (.s 94)⟩]
      (.cond (.s 73)
      (.ops [⟨(some 4), none, .mv (.c (V.bool false))⟩]
       (.ret))
      (.done))))))))) [] [18, 19, 20, 21, 22, 23, 24, 25, 26, 27, 28, 29, 30, 17, 4, 32, 33, 34, 35, 36, 37, 38, 39, 40, 41, 42, 43, 44, 45, 46, 47, 48, 31, 4, 50, 51, 52, 53, 54, 55, 56, 57, 58, 59, 60, 61, 62, 63, 64, 65, 66, 67, 68, 69, 70, 71, 72, 49, 4, 74, 75, 76, 77, 78, 79, 80, 81, 82, 83, 84, 85, 86, 87, 88, 89, 90, 91, 92, 93, 94, 73, 4]
  (.ops [⟨(some 95), none, .faddr 15 (.s 2)⟩,
    ⟨(some 96), none, .load none (.s 95)⟩]
  (.cond (.s 96)
  (.ops [⟨(some 97), none, .faddr 18 (.s 2)⟩,
     ⟨(some 98), none, .load none (.s 97)⟩,
     ⟨(some 99), none, .faddr 3 (.s 7)⟩,
     ⟨(some 100), none, .load none (.s 99)⟩,
     ⟨(some 101), none, .call fn_depend_within [(.s 98), (.s 100), (.c (V.int .i64 0)), (.c (V.int .i64 255))]⟩,
     ⟨(some 4), none, .mv (.s 101)⟩]
   (.ret))
  (.ops [⟨(some 102), none, .faddr 18 (.s 2)⟩,
     ⟨(some 103), none, .load none (.s 102)⟩,
     ⟨(some 104), none, .faddr 4 (.s 5)⟩,
     ⟨(some 105), none, .load none (.s 104)⟩,
     ⟨(some 106), none, .call fn_slices_Equal_int_int [(.s 103), (.s 105)]⟩,
     ⟨(some 4), none, .mv (.s 106)⟩]
   (.ret)))))))⟩

noncomputable def f_depend_Good (G : Sem') (t0 t1 : V) : M Res :=
  (mbox ty_depend_Frame t0).bind fun t2 =>
  (mbox ty_depend_Structure t1).bind fun t3 =>
  (mload (some 19) t2).bind fun t9 =>
  (mload (some 6) t3).bind fun t10 =>
  (G fn_depend_Of [t9, t10]).bind fun t11 =>
  (M.lift (Ax.ext 0 t11)).bind fun t12 =>
  (M.lift (Ax.ext 1 t11)).bind fun t13 =>
  (mbox ty_depend_Template (V.agg [(V.int .i64 0), (V.int .i64 0), V.nils, V.nils, V.nils])).bind fun t5 =>
  (mstore 5 t5 t12).bind fun _ =>
  (mload (some 19) t2).bind fun t14 =>
  (mload (some 6) t3).bind fun t15 =>
  (G fn_depend_holds [t14, t15]).bind fun t16 =>
  (mbox ty_depend_Structure (V.agg [(V.int .i64 0), (V.int .i64 0), V.nils, (V.int .i64 0), V.nils, V.nils])).bind fun t7 =>
  (mstore 6 t7 t16).bind fun _ =>
  M.blk 0 (
    (M.lift (Ax.un .not t13)).bind fun t19 =>
    (guarded [(0, t19)] (some (0, false)) (M.lift (Ax.faddr 4 t2))).bind fun t21 =>
    (guarded [(0, t19)] (some (0, false)) (mload none t21)).bind fun t22 =>
    (guarded [(0, t19)] (some (0, false)) (M.lift (Ax.un .not t22))).bind fun t23 =>
    (guarded [(0, t19)] (some (0, false)) (M.pure t23)).bind fun t24 =>
    (guarded [(0, t24)] (some (0, true)) (M.lift (Ax.faddr 5 t2))).bind fun t25 =>
    (guarded [(0, t24)] (some (0, true)) (mload (some 6) t25)).bind fun t26 =>
    (guarded [(0, t24)] (some (0, true)) (G fn_depend_none [t26])).bind fun t27 =>
    (guarded [(0, t24)] (some (0, true)) (M.lift (Ax.un .not t27))).bind fun t28 =>
    (guarded [(0, t19)] (some (0, false)) (M.lift (Ax.pick t24 t28 (V.bool false)))).bind fun t29 =>
    (M.lift (Ax.pick t19 (V.bool true) t29)).bind fun t30 =>
    M.ite t30
      (M.pure (.ret [(V.bool false)]))
      ((M.lift (Ax.faddr 11 t2)).bind fun t32 =>
      (mload none t32).bind fun t33 =>
      (M.lift (Ax.un .not t33)).bind fun t34 =>
      (guarded [(0, t34)] (some (0, true)) (M.lift (Ax.faddr 12 t2))).bind fun t36 =>
      (guarded [(0, t34)] (some (0, true)) (mload none t36)).bind fun t37 =>
      (guarded [(0, t34)] (some (0, true)) (M.lift (Ax.bin .neq t37 (V.int .u32 0)))).bind fun t38 =>
      (M.lift (Ax.pick t34 t38 (V.bool false))).bind fun t39 =>
      (guarded [(0, t39)] (some (0, false)) (M.lift (Ax.faddr 12 t2))).bind fun t41 =>
      (guarded [(0, t39)] (some (0, false)) (mload none t41)).bind fun t42 =>
      (guarded [(0, t39)] (some (0, false)) (M.lift (Ax.cint .u64 t42))).bind fun t43 =>
      (guarded [(0, t39)] (some (0, false)) (M.lift (Ax.faddr 1 t7))).bind fun t44 =>
      (guarded [(0, t39)] (some (0, false)) (mload none t44)).bind fun t45 =>
      (guarded [(0, t39)] (some (0, false)) (M.lift (Ax.bin .shr t43 t45))).bind fun t46 =>
      (guarded [(0, t39)] (some (0, false)) (M.lift (Ax.bin .neq t46 (V.int .u64 0)))).bind fun t47 =>
      (M.lift (Ax.pick t39 (V.bool true) t47)).bind fun t48 =>
      M.ite t48
        (M.pure (.ret [(V.bool false)]))
        ((M.lift (Ax.faddr 13 t2)).bind fun t50 =>
        (mload none t50).bind fun t51 =>
        (guarded [(0, t51)] (some (0, true)) (M.lift (Ax.faddr 16 t2))).bind fun t53 =>
        (guarded [(0, t51)] (some (0, true)) (mload none t53)).bind fun t54 =>
        (guarded [(0, t51)] (some (0, true)) (M.lift (Ax.faddr 1 t7))).bind fun t55 =>
        (guarded [(0, t51)] (some (0, true)) (mload none t55)).bind fun t56 =>
        (guarded [(0, t51)] (some (0, true)) (G fn_depend_within [t54, t56, (V.int .i64 0), (V.int .i64 3)])).bind fun t57 =>
        (guarded [(0, t51)] (some (0, true)) (M.lift (Ax.un .not t57))).bind fun t58 =>
        (M.lift (Ax.pick t51 t58 (V.bool false))).bind fun t59 =>
        (guarded [(0, t59)] (some (0, false)) (M.lift (Ax.faddr 13 t2))).bind fun t61 =>
        (guarded [(0, t59)] (some (0, false)) (mload none t61)).bind fun t62 =>
        (guarded [(0, t59)] (some (0, false)) (M.lift (Ax.un .not t62))).bind fun t63 =>
        (guarded [(0, t59)] (some (0, false)) (M.pure t63)).bind fun t64 =>
        (guarded [(0, t64)] (some (0, true)) (M.lift (Ax.faddr 16 t2))).bind fun t65 =>
        (guarded [(0, t64)] (some (0, true)) (mload none t65)).bind fun t66 =>
        (guarded [(0, t64)] (some (0, true)) (M.lift (Ax.faddr 2 t5))).bind fun t67 =>
        (guarded [(0, t64)] (some (0, true)) (mload none t67)).bind fun t68 =>
        (guarded [(0, t64)] (some (0, true)) (G fn_slices_Equal_int_int [t66, t68])).bind fun t69 =>
        (guarded [(0, t64)] (some (0, true)) (M.lift (Ax.un .not t69))).bind fun t70 =>
        (guarded [(0, t59)] (some (0, false)) (M.lift (Ax.pick t64 t70 (V.bool false)))).bind fun t71 =>
        (M.lift (Ax.pick t59 (V.bool true) t71)).bind fun t72 =>
        M.ite t72
          (M.pure (.ret [(V.bool false)]))
          ((M.lift (Ax.faddr 14 t2)).bind fun t74 =>
          (mload none t74).bind fun t75 =>
          (guarded [(0, t75)] (some (0, true)) (M.lift (Ax.faddr 17 t2))).bind fun t77 =>
          (guarded [(0, t75)] (some (0, true)) (mload none t77)).bind fun t78 =>
          (guarded [(0, t75)] (some (0, true)) (G fn_depend_diffs [t78, (V.int .i64 16), (V.int .i64 4096)])).bind fun t79 =>
          (guarded [(0, t75)] (some (0, true)) (M.lift (Ax.un .not t79))).bind fun t80 =>
          (M.lift (Ax.pick t75 t80 (V.bool false))).bind fun t81 =>
          (guarded [(0, t81)] (some (0, false)) (M.lift (Ax.faddr 14 t2))).bind fun t83 =>
          (guarded [(0, t81)] (some (0, false)) (mload none t83)).bind fun t84 =>
          (guarded [(0, t81)] (some (0, false)) (M.lift (Ax.un .not t84))).bind fun t85 =>
          (guarded [(0, t81)] (some (0, false)) (M.pure t85)).bind fun t86 =>
          (guarded [(0, t86)] (some (0, true)) (M.lift (Ax.faddr 17 t2))).bind fun t87 =>
          (guarded [(0, t86)] (some (0, true)) (mload none t87)).bind fun t88 =>
          (guarded [(0, t86)] (some (0, true)) (M.lift (Ax.faddr 3 t5))).bind fun t89 =>
          (guarded [(0, t86)] (some (0, true)) (mload none t89)).bind fun t90 =>
          (guarded [(0, t86)] (some (0, true)) (G fn_slices_Equal_int_int [t88, t90])).bind fun t91 =>
          (guarded [(0, t86)] (some (0, true)) (M.lift (Ax.un .not t91))).bind fun t92 =>
          (guarded [(0, t81)] (some (0, false)) (M.lift (Ax.pick t86 t92 (V.bool false)))).bind fun t93 =>
          (M.lift (Ax.pick t81 (V.bool true) t93)).bind fun t94 =>
          M.ite t94
            (M.pure (.ret [(V.bool false)]))
            (M.pure (.nrm [])))))) fun _ =>
  (M.lift (Ax.faddr 15 t2)).bind fun t95 =>
  (mload none t95).bind fun t96 =>
  M.ite t96
    ((M.lift (Ax.faddr 18 t2)).bind fun t97 =>
    (mload none t97).bind fun t98 =>
    (M.lift (Ax.faddr 3 t7)).bind fun t99 =>
    (mload none t99).bind fun t100 =>
    (G fn_depend_within [t98, t100, (V.int .i64 0), (V.int .i64 255)]).bind fun t101 =>
    M.pure (.ret [t101]))
    ((M.lift (Ax.faddr 18 t2)).bind fun t102 =>
    (mload none t102).bind fun t103 =>
    (M.lift (Ax.faddr 4 t5)).bind fun t104 =>
    (mload none t104).bind fun t105 =>
    (G fn_slices_Equal_int_int [t103, t105]).bind fun t106 =>
    M.pure (.ret [t106]))

theorem eq_depend_Good (G : Sem') (t0 t1 : V) : execK G ir_depend_Good.rv ir_depend_Good.body [] [] (params 0 [t0, t1]) = f_depend_Good G t0 t1 := by kernel_rfl

theorem tb_depend_Good : T fn_depend_Good = some ir_depend_Good := by kernel_rfl

theorem ok_depend_Good {t0 t1 : V} {H : Heap} {Q : V → Heap → Prop} (h : Ok (f_depend_Good (sem T) t0 t1) H fun r H' => ∃ L, r = .ret L ∧ Q (tupled L) H') : Ok (sem T fn_depend_Good [t0, t1]) H Q :=
  ok_sem tb_depend_Good (Nat.le_of_ble_eq_true rfl) (eq_depend_Good (sem T) t0 t1) h

end Go.Ax
