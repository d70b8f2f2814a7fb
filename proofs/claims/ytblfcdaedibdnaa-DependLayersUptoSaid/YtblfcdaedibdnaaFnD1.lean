/-
  The functions of this seat as plain texts: printed by program (wip/gen/Emit.lean): part 1.
-/
import Derived.Test.YtblfcdaedibdnaaFnD0
set_option maxRecDepth 100000
set_option linter.unusedVariables false
namespace Go.Ax
open Go.Proofs

/-- palanquin/palanquinlaw20.PickSays. -/
def ir_palanquinlaw20_PickSays : Fn' := ⟨75, [.tmp 16],
  .ops [⟨(some 8), none, .box ty_depend_Structure (.s 0)⟩,
    ⟨(some 12), none, .box ty_depend_Frame (.s 4)⟩,
    ⟨(some 16), none, .mv (.c (V.bool false))⟩]
  (.ops [⟨(some 21), none, .call fn_palanquinlaw20_awake []⟩,
    ⟨(some 22), none, .un .not (.s 21)⟩]
  (.cond (.s 22)
  (.ops [⟨(some 16), none, .mv (.c (V.bool false))⟩]
   (.ret))
  (.ops [⟨(some 23), none, .load (some 6) (.s 8)⟩,
     ⟨(some 24), none, .call fn_palanquinlaw20_heavy [(.s 23)]⟩,
     ⟨(some 25), none, .mv (.s 24)⟩,
     ⟨(some 26), (some (25, false)), .faddr 5 (.s 12)⟩,
     ⟨(some 27), (some (25, false)), .load (some 6) (.s 26)⟩,
     ⟨(some 28), (some (25, false)), .call fn_palanquinlaw20_heavy [(.s 27)]⟩,
     ⟨(some 29), none, .pick (.s 25) (.c (V.bool true)) (.s 28)⟩]
   (.cond (.s 29)
   (.ops [⟨(some 16), none, .mv (.c (V.bool true))⟩]
    (.ret))
   (.ops [⟨(some 31), none, .load (some 6) (.s 8)⟩,
      ⟨(some 32), none, .mv (.s 1)⟩,
      ⟨(some 33), none, .mv (.s 2)⟩,
      ⟨(some 34), none, .mv (.s 3)⟩,
      ⟨(some 35), none, .call fn_pick_Fits [(.s 31), (.s 32), (.s 33), (.s 34)]⟩,
      ⟨(some 30), none, .mv (.s 35)⟩,
      ⟨(some 36), none, .ext 0 (.s 30)⟩,
      ⟨(some 37), none, .ext 1 (.s 30)⟩,
      ⟨(some 17), none, .mv (.s 36)⟩,
      ⟨(some 18), none, .mv (.s 37)⟩]
    (.ops [⟨(some 39), none, .load (some 6) (.s 8)⟩,
      ⟨(some 40), none, .call fn_palanquinhelp_Structure [(.s 39)]⟩,
      ⟨(some 41), none, .mv (.s 1)⟩,
      ⟨(some 42), none, .mv (.s 2)⟩,
      ⟨(some 43), none, .mv (.s 3)⟩,
      ⟨(some 44), none, .call fn_palanquinref20_Fits [(.s 40), (.s 41), (.s 42), (.s 43)]⟩,
      ⟨(some 38), none, .mv (.s 44)⟩,
      ⟨(some 45), none, .ext 0 (.s 38)⟩,
      ⟨(some 46), none, .ext 1 (.s 38)⟩,
      ⟨(some 19), none, .mv (.s 45)⟩,
      ⟨(some 20), none, .mv (.s 46)⟩]
    (.draw [⟨(some 47), none, .mv (.s 17)⟩,
      ⟨(some 48), none, .mv (.s 19)⟩,
      ⟨(some 49), none, .bin .eql (.s 47) (.s 48)⟩,
      ⟨(some 50), none, .mv (.s 49)⟩,
      ⟨(some 51), (some (50, true)), .mv (.s 18)⟩,
      ⟨(some 52), (some (50, true)), .mv (.s 20)⟩,
      ⟨(some 53), (some (50, true)), .eq .bool false (.s 51) (.s 52)⟩,
      ⟨(some 54), none, .pick (.s 50) (.s 53) (.c (V.bool false))⟩,
      ⟨(some 55), none, .mv (.s 54)⟩,
      ⟨(some 56), (some (55, true)), .load (some 19) (.s 12)⟩,
      ⟨(some 57), (some (55, true)), .mv (.s 5)⟩,
      ⟨(some 59), (some (55, true)), .faddr 16 (.s 12)⟩,
      ⟨(some 60), (some (55, true)), .load none (.s 59)⟩,
      ⟨(some 61), (some (55, true)), .build [(V.bool false), (V.bool false), (V.int .i64 0), (V.int .u16 0), (V.bool false), (V.int .i64 0), (V.int .i64 0), V.nils, (V.int .i64 0), V.nils, V.nils, (V.bool false), (V.int .u32 0), (V.bool false), (V.bool false), (V.bool false), V.nils, V.nils, V.nils] [(16, 1, (.s 60))]⟩,
      ⟨(some 62), (some (55, true)), .mv (.s 5)⟩,
      ⟨(some 58), (some (55, true)), .call fn_pick_In [(.s 56), (.s 57)]⟩,
      ⟨(some 63), (some (55, true)), .call fn_palanquinref20_In [(.s 61), (.s 62)]⟩,
      ⟨(some 64), (some (55, true)), .eq .bool false (.s 58) (.s 63)⟩,
      ⟨(some 65), none, .pick (.s 55) (.s 64) (.c (V.bool false))⟩,
      ⟨(some 66), none, .mv (.s 65)⟩,
      ⟨(some 67), (some (66, true)), .mv (.s 6)⟩,
      ⟨(some 68), (some (66, true)), .mv (.s 7)⟩,
      ⟨(some 69), (some (66, true)), .call fn_pick_Source [(.s 67), (.s 68)]⟩,
      ⟨(some 70), (some (66, true)), .mv (.s 6)⟩,
      ⟨(some 71), (some (66, true)), .mv (.s 7)⟩,
      ⟨(some 72), (some (66, true)), .call fn_palanquinref20_Source [(.s 70), (.s 71)]⟩,
      ⟨(some 73), (some (66, true)), .bin .eql (.s 69) (.s 72)⟩,
      ⟨(some 74), none, .pick (.s 66) (.s 73) (.c (V.bool false))⟩,
      ⟨(some 16), none, .mv (.s 74)⟩] [(12, 15)]
    (.ret))))))))⟩

noncomputable def f_palanquinlaw20_PickSays (G : Sem') (t0 t1 t2 t3 t4 t5 t6 t7 : V) : M Res :=
  (mbox ty_depend_Structure t0).bind fun t8 =>
  (mbox ty_depend_Frame t4).bind fun t12 =>
  (G fn_palanquinlaw20_awake []).bind fun t21 =>
  (M.lift (Ax.un .not t21)).bind fun t22 =>
  M.ite t22
    (M.pure (.ret [(V.bool false)]))
    ((mload (some 6) t8).bind fun t23 =>
    (G fn_palanquinlaw20_heavy [t23]).bind fun t24 =>
    (guarded [(0, t24)] (some (0, false)) (M.lift (Ax.faddr 5 t12))).bind fun t26 =>
    (guarded [(0, t24)] (some (0, false)) (mload (some 6) t26)).bind fun t27 =>
    (guarded [(0, t24)] (some (0, false)) (G fn_palanquinlaw20_heavy [t27])).bind fun t28 =>
    (M.lift (Ax.pick t24 (V.bool true) t28)).bind fun t29 =>
    M.ite t29
      (M.pure (.ret [(V.bool true)]))
      ((mload (some 6) t8).bind fun t31 =>
      (G fn_pick_Fits [t31, t1, t2, t3]).bind fun t35 =>
      (M.lift (Ax.ext 0 t35)).bind fun t36 =>
      (M.lift (Ax.ext 1 t35)).bind fun t37 =>
      (mload (some 6) t8).bind fun t39 =>
      (G fn_palanquinhelp_Structure [t39]).bind fun t40 =>
      (G fn_palanquinref20_Fits [t40, t1, t2, t3]).bind fun t44 =>
      (M.lift (Ax.ext 0 t44)).bind fun t45 =>
      (M.lift (Ax.ext 1 t44)).bind fun t46 =>
      (M.lift (Ax.bin .eql t36 t45)).bind fun t49 =>
      (guarded [(0, t49)] (some (0, true)) (M.pure t37)).bind fun t51 =>
      (guarded [(0, t49)] (some (0, true)) (M.pure t46)).bind fun t52 =>
      (guarded [(0, t49)] (some (0, true)) (M.lift (eqr .bool false t51 t52))).bind fun t53 =>
      (M.lift (Ax.pick t49 t53 (V.bool false))).bind fun t54 =>
      (guarded [(0, t54)] (some (0, true)) (mload (some 19) t12)).bind fun t56 =>
      (guarded [(0, t54)] (some (0, true)) (M.pure t5)).bind fun t57 =>
      (guarded [(0, t54)] (some (0, true)) (M.lift (Ax.faddr 16 t12))).bind fun t59 =>
      (guarded [(0, t54)] (some (0, true)) (mload none t59)).bind fun t60 =>
      (guarded [(0, t54)] (some (0, true)) (M.lift (Ax.build [(V.bool false), (V.bool false), (V.int .i64 0), (V.int .u16 0), (V.bool false), (V.int .i64 0), (V.int .i64 0), V.nils, (V.int .i64 0), V.nils, V.nils, (V.bool false), (V.int .u32 0), (V.bool false), (V.bool false), (V.bool false), V.nils, V.nils, V.nils] [(16, 1, t60)]))).bind fun t61 =>
      (guarded [(0, t54)] (some (0, true)) (M.pure t5)).bind fun t62 =>
      M.getH.bind fun h0 =>
      (guarded [(0, t54)] (some (0, true)) (G fn_pick_In [t56, t57])).bind fun t58 =>
      M.getH.bind fun h0' =>
      (M.unch t59 h0 h0').bind fun _ =>
      (guarded [(0, t54)] (some (0, true)) (G fn_palanquinref20_In [t61, t62])).bind fun t63 =>
      (guarded [(0, t54)] (some (0, true)) (M.lift (eqr .bool false t58 t63))).bind fun t64 =>
      (M.lift (Ax.pick t54 t64 (V.bool false))).bind fun t65 =>
      (guarded [(0, t65)] (some (0, true)) (M.pure t6)).bind fun t67 =>
      (guarded [(0, t65)] (some (0, true)) (M.pure t7)).bind fun t68 =>
      (guarded [(0, t65)] (some (0, true)) (G fn_pick_Source [t67, t68])).bind fun t69 =>
      (guarded [(0, t65)] (some (0, true)) (M.pure t6)).bind fun t70 =>
      (guarded [(0, t65)] (some (0, true)) (M.pure t7)).bind fun t71 =>
      (guarded [(0, t65)] (some (0, true)) (G fn_palanquinref20_Source [t70, t71])).bind fun t72 =>
      (guarded [(0, t65)] (some (0, true)) (M.lift (Ax.bin .eql t69 t72))).bind fun t73 =>
      (M.lift (Ax.pick t65 t73 (V.bool false))).bind fun t74 =>
      M.pure (.ret [t74])))

theorem eq_palanquinlaw20_PickSays (G : Sem') (t0 t1 t2 t3 t4 t5 t6 t7 : V) : execK G ir_palanquinlaw20_PickSays.rv ir_palanquinlaw20_PickSays.body [] [] (params 0 [t0, t1, t2, t3, t4, t5, t6, t7]) = f_palanquinlaw20_PickSays G t0 t1 t2 t3 t4 t5 t6 t7 := by kernel_rfl

theorem tb_palanquinlaw20_PickSays : T fn_palanquinlaw20_PickSays = some ir_palanquinlaw20_PickSays := by kernel_rfl

theorem ok_palanquinlaw20_PickSays {t0 t1 t2 t3 t4 t5 t6 t7 : V} {H : Heap} {Q : V → Heap → Prop} (h : Ok (f_palanquinlaw20_PickSays (sem T) t0 t1 t2 t3 t4 t5 t6 t7) H fun r H' => ∃ L, r = .ret L ∧ Q (tupled L) H') : Ok (sem T fn_palanquinlaw20_PickSays [t0, t1, t2, t3, t4, t5, t6, t7]) H Q :=
  ok_sem tb_palanquinlaw20_PickSays (Nat.le_of_ble_eq_true rfl) (eq_palanquinlaw20_PickSays (sem T) t0 t1 t2 t3 t4 t5 t6 t7) h

/-- palanquin/palanquinlaw20.awake. -/
def ir_palanquinlaw20_awake : Fn' := ⟨37, [.tmp 0],
  .ops [⟨(some 0), none, .mv (.c (V.bool false))⟩]
  (.ops [⟨(some 6), none, .call fn_palanquinlaw20_three []⟩,
    ⟨(some 7), none, .call fn_pick_Fits [(.s 6), (.c (V.int .u32 7)), (.c (V.int .i64 3)), (.c (V.int .i64 7))]⟩,
    ⟨(some 5), none, .mv (.s 7)⟩,
    ⟨(some 8), none, .ext 0 (.s 5)⟩,
    ⟨(some 9), none, .ext 1 (.s 5)⟩,
    ⟨(some 1), none, .mv (.s 8)⟩,
    ⟨(some 2), none, .mv (.s 9)⟩]
  (.ops [⟨(some 11), none, .call fn_palanquinlaw20_three []⟩,
    ⟨(some 12), none, .call fn_pick_Fits [(.s 11), (.c (V.int .u32 7)), (.c (V.int .i64 0)), (.c (V.int .i64 7))]⟩,
    ⟨(some 10), none, .mv (.s 12)⟩,
    ⟨(some 13), none, .ext 0 (.s 10)⟩,
    ⟨(some 14), none, .ext 1 (.s 10)⟩,
    ⟨(some 3), none, .mv (.s 13)⟩,
    ⟨(some 4), none, .mv (.s 14)⟩]
  (.ops [⟨(some 15), none, .mv (.s 2)⟩,
    ⟨(some 16), none, .mv (.s 15)⟩,
    ⟨(some 17), (some (16, true)), .mv (.s 1)⟩,
    ⟨(some 18), (some (16, true)), .bin .eql (.s 17) (.c (V.int .i64 2))⟩,
    ⟨(some 19), none, .pick (.s 16) (.s 18) (.c (V.bool false))⟩,
    ⟨(some 20), none, .mv (.s 19)⟩,
    ⟨(some 21), (some (20, true)), .mv (.s 4)⟩,
    ⟨(some 22), none, .pick (.s 20) (.s 21) (.c (V.bool false))⟩,
    ⟨(some 23), none, .mv (.s 22)⟩,
    ⟨(some 24), (some (23, true)), .mv (.s 3)⟩,
    ⟨(some 25), (some (23, true)), .bin .eql (.s 24) (.c (V.int .i64 1))⟩,
    ⟨(some 26), none, .pick (.s 23) (.s 25) (.c (V.bool false))⟩,
    ⟨(some 27), none, .mv (.s 26)⟩,
    ⟨(some 28), (some (27, true)), .slit ty_int 3 [(V.int .i64 0)] [(0, 1, (.c (V.int .i64 2))), (1, 1, (.c (V.int .i64 5))), (2, 1, (.c (V.int .i64 6)))]⟩,
    ⟨(some 29), (some (27, true)), .call fn_pick_Source [(.c (V.int .u64 50000)), (.s 28)]⟩,
    ⟨(some 30), (some (27, true)), .bin .eql (.s 29) (.c (V.int .i64 1))⟩,
    ⟨(some 31), none, .pick (.s 27) (.s 30) (.c (V.bool false))⟩,
    ⟨(some 32), none, .mv (.s 31)⟩,
    ⟨(some 33), (some (32, true)), .slit ty_int 2 [(V.int .i64 0)] [(0, 1, (.c (V.int .i64 0))), (1, 1, (.c (V.int .i64 1)))]⟩,
    ⟨(some 34), (some (32, true)), .build [(V.bool false), (V.bool false), (V.int .i64 0), (V.int .u16 0), (V.bool false), (V.int .i64 0), (V.int .i64 0), V.nils, (V.int .i64 0), V.nils, V.nils, (V.bool false), (V.int .u32 0), (V.bool false), (V.bool false), (V.bool false), V.nils, V.nils, V.nils] [(16, 1, (.s 33))]⟩,
    ⟨(some 35), (some (32, true)), .call fn_pick_In [(.s 34), (.c (V.int .i64 1))]⟩,
    ⟨(some 36), none, .pick (.s 32) (.s 35) (.c (V.bool false))⟩,
    ⟨(some 0), none, .mv (.s 36)⟩]
  (.ret))))⟩

noncomputable def f_palanquinlaw20_awake (G : Sem') : M Res :=
  (G fn_palanquinlaw20_three []).bind fun t6 =>
  (G fn_pick_Fits [t6, (V.int .u32 7), (V.int .i64 3), (V.int .i64 7)]).bind fun t7 =>
  (M.lift (Ax.ext 0 t7)).bind fun t8 =>
  (M.lift (Ax.ext 1 t7)).bind fun t9 =>
  (G fn_palanquinlaw20_three []).bind fun t11 =>
  (G fn_pick_Fits [t11, (V.int .u32 7), (V.int .i64 0), (V.int .i64 7)]).bind fun t12 =>
  (M.lift (Ax.ext 0 t12)).bind fun t13 =>
  (M.lift (Ax.ext 1 t12)).bind fun t14 =>
  (guarded [(0, t9)] (some (0, true)) (M.pure t8)).bind fun t17 =>
  (guarded [(0, t9)] (some (0, true)) (M.lift (Ax.bin .eql t17 (V.int .i64 2)))).bind fun t18 =>
  (M.lift (Ax.pick t9 t18 (V.bool false))).bind fun t19 =>
  (guarded [(0, t19)] (some (0, true)) (M.pure t14)).bind fun t21 =>
  (M.lift (Ax.pick t19 t21 (V.bool false))).bind fun t22 =>
  (guarded [(0, t22)] (some (0, true)) (M.pure t13)).bind fun t24 =>
  (guarded [(0, t22)] (some (0, true)) (M.lift (Ax.bin .eql t24 (V.int .i64 1)))).bind fun t25 =>
  (M.lift (Ax.pick t22 t25 (V.bool false))).bind fun t26 =>
  (guarded [(0, t26)] (some (0, true)) (mslit ty_int 3 [(V.int .i64 0)] [(0, 1, (V.int .i64 2)), (1, 1, (V.int .i64 5)), (2, 1, (V.int .i64 6))])).bind fun t28 =>
  (guarded [(0, t26)] (some (0, true)) (G fn_pick_Source [(V.int .u64 50000), t28])).bind fun t29 =>
  (guarded [(0, t26)] (some (0, true)) (M.lift (Ax.bin .eql t29 (V.int .i64 1)))).bind fun t30 =>
  (M.lift (Ax.pick t26 t30 (V.bool false))).bind fun t31 =>
  (guarded [(0, t31)] (some (0, true)) (mslit ty_int 2 [(V.int .i64 0)] [(0, 1, (V.int .i64 0)), (1, 1, (V.int .i64 1))])).bind fun t33 =>
  (guarded [(0, t31)] (some (0, true)) (M.lift (Ax.build [(V.bool false), (V.bool false), (V.int .i64 0), (V.int .u16 0), (V.bool false), (V.int .i64 0), (V.int .i64 0), V.nils, (V.int .i64 0), V.nils, V.nils, (V.bool false), (V.int .u32 0), (V.bool false), (V.bool false), (V.bool false), V.nils, V.nils, V.nils] [(16, 1, t33)]))).bind fun t34 =>
  (guarded [(0, t31)] (some (0, true)) (G fn_pick_In [t34, (V.int .i64 1)])).bind fun t35 =>
  (M.lift (Ax.pick t31 t35 (V.bool false))).bind fun t36 =>
  M.pure (.ret [t36])

theorem eq_palanquinlaw20_awake (G : Sem') : execK G ir_palanquinlaw20_awake.rv ir_palanquinlaw20_awake.body [] [] (params 0 []) = f_palanquinlaw20_awake G := by kernel_rfl

theorem tb_palanquinlaw20_awake : T fn_palanquinlaw20_awake = some ir_palanquinlaw20_awake := by kernel_rfl

theorem ok_palanquinlaw20_awake {H : Heap} {Q : V → Heap → Prop} (h : Ok (f_palanquinlaw20_awake (sem T)) H fun r H' => ∃ L, r = .ret L ∧ Q (tupled L) H') : Ok (sem T fn_palanquinlaw20_awake []) H Q :=
  ok_sem tb_palanquinlaw20_awake (Nat.le_of_ble_eq_true rfl) (eq_palanquinlaw20_awake (sem T)) h

/-- palanquin/palanquinlaw20.three. -/
def ir_palanquinlaw20_three : Fn' := ⟨9, [.cell 0 (some 6)],
  .ops [⟨(some 0), none, .box ty_depend_Structure (.c (V.agg [(V.int .i64 0), (V.int .i64 0), V.nils, (V.int .i64 0), V.nils, V.nils]))⟩]
  (.ops [⟨(some 1), none, .slit ty_int 3 [(V.int .i64 0)] [(0, 1, (.c (V.int .i64 2))), (1, 1, (.c (V.int .i64 2))), (2, 1, (.c (V.int .i64 2)))]⟩,
    ⟨(some 2), none, .build [(V.int .i64 0), (V.int .i64 0), V.nils, V.nils, V.nils] [(2, 1, (.s 1))]⟩,
    ⟨(some 3), none, .slit ty_int 3 [(V.int .i64 0)] [(0, 1, (.c (V.int .i64 0))), (1, 1, (.c (V.int .i64 1))), (2, 1, (.c (V.int .i64 2)))]⟩,
    ⟨(some 4), none, .build [(V.int .i64 0), (V.int .i64 0), V.nils, V.nils, V.nils] [(1, 1, (.c (V.int .i64 1))), (2, 1, (.s 3))]⟩,
    ⟨(some 5), none, .slit ty_int 3 [(V.int .i64 0)] [(0, 1, (.c (V.int .i64 0))), (1, 1, (.c (V.int .i64 0))), (2, 1, (.c (V.int .i64 3)))]⟩,
    ⟨(some 6), none, .build [(V.int .i64 0), (V.int .i64 0), V.nils, V.nils, V.nils] [(0, 1, (.c (V.int .i64 1))), (2, 1, (.s 5))]⟩,
    ⟨(some 7), none, .slit ty_depend_Template 3 [(V.int .i64 0), (V.int .i64 0), V.nils, V.nils, V.nils] [(0, 5, (.s 2)), (5, 5, (.s 4)), (10, 5, (.s 6))]⟩,
    ⟨(some 8), none, .build [(V.int .i64 0), (V.int .i64 0), V.nils, (V.int .i64 0), V.nils, V.nils] [(1, 1, (.c (V.int .i64 3))), (2, 1, (.s 7))]⟩,
    ⟨none, none, .store 6 (.s 0) (.s 8)⟩]
  (.ret))⟩

noncomputable def f_palanquinlaw20_three (G : Sem') : M Res :=
  (mbox ty_depend_Structure (V.agg [(V.int .i64 0), (V.int .i64 0), V.nils, (V.int .i64 0), V.nils, V.nils])).bind fun t0 =>
  (mslit ty_int 3 [(V.int .i64 0)] [(0, 1, (V.int .i64 2)), (1, 1, (V.int .i64 2)), (2, 1, (V.int .i64 2))]).bind fun t1 =>
  (M.lift (Ax.build [(V.int .i64 0), (V.int .i64 0), V.nils, V.nils, V.nils] [(2, 1, t1)])).bind fun t2 =>
  (mslit ty_int 3 [(V.int .i64 0)] [(0, 1, (V.int .i64 0)), (1, 1, (V.int .i64 1)), (2, 1, (V.int .i64 2))]).bind fun t3 =>
  (M.lift (Ax.build [(V.int .i64 0), (V.int .i64 0), V.nils, V.nils, V.nils] [(1, 1, (V.int .i64 1)), (2, 1, t3)])).bind fun t4 =>
  (mslit ty_int 3 [(V.int .i64 0)] [(0, 1, (V.int .i64 0)), (1, 1, (V.int .i64 0)), (2, 1, (V.int .i64 3))]).bind fun t5 =>
  (M.lift (Ax.build [(V.int .i64 0), (V.int .i64 0), V.nils, V.nils, V.nils] [(0, 1, (V.int .i64 1)), (2, 1, t5)])).bind fun t6 =>
  (mslit ty_depend_Template 3 [(V.int .i64 0), (V.int .i64 0), V.nils, V.nils, V.nils] [(0, 5, t2), (5, 5, t4), (10, 5, t6)]).bind fun t7 =>
  (M.lift (Ax.build [(V.int .i64 0), (V.int .i64 0), V.nils, (V.int .i64 0), V.nils, V.nils] [(1, 1, (V.int .i64 3)), (2, 1, t7)])).bind fun t8 =>
  (mstore 6 t0 t8).bind fun _ =>
  (mload (some 6) t0).bind fun r0 =>
  M.pure (.ret [r0])

theorem eq_palanquinlaw20_three (G : Sem') : execK G ir_palanquinlaw20_three.rv ir_palanquinlaw20_three.body [] [] (params 0 []) = f_palanquinlaw20_three G := by kernel_rfl

theorem tb_palanquinlaw20_three : T fn_palanquinlaw20_three = some ir_palanquinlaw20_three := by kernel_rfl

theorem ok_palanquinlaw20_three {H : Heap} {Q : V → Heap → Prop} (h : Ok (f_palanquinlaw20_three (sem T)) H fun r H' => ∃ L, r = .ret L ∧ Q (tupled L) H') : Ok (sem T fn_palanquinlaw20_three []) H Q :=
  ok_sem tb_palanquinlaw20_three (Nat.le_of_ble_eq_true rfl) (eq_palanquinlaw20_three (sem T)) h

/-- palanquin/pick.Fits. -/
def loop_pick_Fits_0 : C :=
  .ops [⟨(some 24), none, .bin .lss (.s 23) (.s 22)⟩]
  (.cond (.s 24)
  (.blk 1
   (.ops [⟨(some 25), none, .mv (.s 23)⟩,
      ⟨(some 14), none, .mv (.s 25)⟩]
    (.ops [⟨(some 27), none, .load (some 6) (.s 4)⟩,
      ⟨(some 28), none, .mv (.s 14)⟩,
      ⟨(some 29), none, .call fn_depend_Layers [(.s 27), (.s 28)]⟩,
      ⟨(some 26), none, .mv (.s 29)⟩,
      ⟨(some 30), none, .ext 0 (.s 26)⟩,
      ⟨(some 31), none, .ext 1 (.s 26)⟩,
      ⟨(some 32), none, .ext 2 (.s 26)⟩,
      ⟨(some 15), none, .mv (.s 30)⟩,
      ⟨(some 16), none, .mv (.s 31)⟩,
      ⟨(some 17), none, .mv (.s 32)⟩]
    (.ops [⟨(some 33), none, .mv (.s 17)⟩,
      ⟨(some 34), none, .un .not (.s 33)⟩,
      ⟨(some 35), none, .mv (.s 34)⟩,
      ⟨(some 36), (some (35, false)), .mv (.s 1)⟩,
      ⟨(some 37), (some (35, false)), .mv (.s 14)⟩,
      ⟨(some 38), (some (35, false)), .bin .shr (.s 36) (.s 37)⟩,
      ⟨(some 39), (some (35, false)), .bin .and (.s 38) (.c (V.int .u32 1))⟩,
      ⟨(some 40), (some (35, false)), .bin .eql (.s 39) (.c (V.int .u32 0))⟩,
      ⟨(some 41), none, .pick (.s 35) (.c (V.bool true)) (.s 40)⟩,
      ⟨(some 42), none, .mv (.s 41)⟩,
      ⟨(some 43), (some (42, false)), .mv (.s 15)⟩,
      ⟨(some 44), (some (42, false)), .mv (.s 2)⟩,
      ⟨(some 45), (some (42, false)), .bin .gtr (.s 43) (.s 44)⟩,
      ⟨(some 46), none, .pick (.s 42) (.c (V.bool true)) (.s 45)⟩,
      ⟨(some 47), none, .mv (.s 46)⟩,
      ⟨(some 48), (some (47, false)), .mv (.s 16)⟩,
      ⟨(some 49), (some (47, false)), .mv (.s 3)⟩,
      ⟨(some 50), (some (47, false)), .bin .gtr (.s 48) (.s 49)⟩,
      ⟨(some 51), none, .pick (.s 47) (.c (V.bool true)) (.s 50)⟩]
    (.cond (.s 51)
    (.exit 1)
    (.ops [⟨(some 52), none, .mv (.s 13)⟩,
       ⟨(some 53), none, .un .not (.s 52)⟩,
       ⟨(some 54), none, .mv (.s 53)⟩,
       ⟨(some 55), (some (54, false)), .mv (.s 15)⟩,
       ⟨(some 56), (some (54, false)), .mv (.s 11)⟩,
       ⟨(some 57), (some (54, false)), .bin .gtr (.s 55) (.s 56)⟩,
       ⟨(some 58), none, .pick (.s 54) (.c (V.bool true)) (.s 57)⟩,
       ⟨(some 59), none, .mv (.s 58)⟩,
       ⟨(some 60), (some (59, false)), .mv (.s 15)⟩,
       ⟨(some 61), (some (59, false)), .mv (.s 11)⟩,
       ⟨(some 62), (some (59, false)), .bin .eql (.s 60) (.s 61)⟩,
       ⟨(some 63), (some (59, false)), .mv (.s 62)⟩,
       ⟨(some 64), (some (63, true)), .mv (.s 16)⟩,
       ⟨(some 65), (some (63, true)), .mv (.s 12)⟩,
       ⟨(some 66), (some (63, true)), .bin .gtr (.s 64) (.s 65)⟩,
       ⟨(some 67), (some (59, false)), .pick (.s 63) (.s 66) (.c (V.bool false))⟩,
       ⟨(some 68), none, .pick (.s 59) (.c (V.bool true)) (.s 67)⟩]
     (.condJ (.s 68)
     (.ops [⟨(some 69), none, .mv (.s 14)⟩,
        ⟨(some 70), none, .mv (.s 15)⟩,
        ⟨(some 71), none, .mv (.s 16)⟩,
        ⟨(some 10), none, .mv (.s 69)⟩,
        ⟨(some 11), none, .mv (.s 70)⟩,
        ⟨(some 12), none, .mv (.s 71)⟩,
        ⟨(some 13), none, .mv (.c (V.bool true))⟩]
      (.done))
     (.done) [10, 11, 12, 13] [69, 70, 71, 10, 11, 12, 13]
     (.done))))))) [10, 11, 12, 13] [25, 14, 27, 28, 29, 26, 30, 31, 32, 15, 16, 17, 33, 34, 35, 36, 37, 38, 39, 40, 41, 42, 43, 44, 45, 46, 47, 48, 49, 50, 51, 52, 53, 54, 55, 56, 57, 58, 59, 60, 61, 62, 63, 64, 65, 66, 67, 68, 69, 70, 71, 10, 11, 12, 13]
   (.ops [⟨(some 72), none, .bin .add (.s 23) (.c (V.int .i64 1))⟩,
     ⟨(some 23), none, .mv (.s 72)⟩]
   (.done)))
  (.exit 0))

def ir_pick_Fits : Fn' := ⟨75, [.tmp 8, .tmp 9],
  .ops [⟨(some 4), none, .box ty_depend_Structure (.s 0)⟩,
    ⟨(some 8), none, .mv (.c (V.int .i64 0))⟩,
    ⟨(some 9), none, .mv (.c (V.bool false))⟩]
  (.ops [⟨(some 18), none, .load (some 6) (.s 4)⟩,
    ⟨(some 19), none, .call fn_depend_Fine [(.s 18)]⟩,
    ⟨(some 20), none, .un .not (.s 19)⟩]
  (.cond (.s 20)
  (.ops [⟨(some 8), none, .mv (.c (V.int .i64 0))⟩,
     ⟨(some 9), none, .mv (.c (V.bool false))⟩]
   (.ret))
  (.ops [⟨(some 10), none, .mv (.c (V.int .i64 0))⟩,
     ⟨(some 11), none, .mv (.c (V.int .i64 0))⟩,
     ⟨(some 12), none, .mv (.c (V.int .i64 0))⟩,
     ⟨(some 13), none, .mv (.c (V.bool false))⟩]
   (.ops [⟨(some 21), none, .faddr 1 (.s 4)⟩,
     ⟨(some 22), none, .load none (.s 21)⟩,
     ⟨(some 23), none, .mv (.c (V.int .i64 0))⟩]
   (.blk 0
   (.loop loop_pick_Fits_0 [10, 11, 12, 13, 23] [24, 25, 14, 27, 28, 29, 26, 30, 31, 32, 15, 16, 17, 33, 34, 35, 36, 37, 38, 39, 40, 41, 42, 43, 44, 45, 46, 47, 48, 49, 50, 51, 52, 53, 54, 55, 56, 57, 58, 59, 60, 61, 62, 63, 64, 65, 66, 67, 68, 69, 70, 71, 10, 11, 12, 13, 72, 23]) [10, 13] [24, 25, 14, 27, 28, 29, 26, 30, 31, 32, 15, 16, 17, 33, 34, 35, 36, 37, 38, 39, 40, 41, 42, 43, 44, 45, 46, 47, 48, 49, 50, 51, 52, 53, 54, 55, 56, 57, 58, 59, 60, 61, 62, 63, 64, 65, 66, 67, 68, 69, 70, 71, 10, 11, 12, 13, 72, 23]
   (.ops [⟨(some 73), none, .mv (.s 10)⟩,
     ⟨(some 74), none, .mv (.s 13)⟩,
     ⟨(some 8), none, .mv (.s 73)⟩,
     ⟨(some 9), none, .mv (.s 74)⟩]
   (.ret)))))))⟩

noncomputable def f_pick_Fits_0 (G : Sem') (t22 t4 t1 t2 t3 t8 t9 : V) (L : List V) : M Res :=
  (M.lift (Ax.bin .lss (L.getD 4 .undef) t22)).bind fun t24 =>
  M.ite t24
    (M.blk 1 (
      (mload (some 6) t4).bind fun t27 =>
      (G fn_depend_Layers [t27, (L.getD 4 .undef)]).bind fun t29 =>
      (M.lift (Ax.ext 0 t29)).bind fun t30 =>
      (M.lift (Ax.ext 1 t29)).bind fun t31 =>
      (M.lift (Ax.ext 2 t29)).bind fun t32 =>
      (M.lift (Ax.un .not t32)).bind fun t34 =>
      (guarded [(0, t34)] (some (0, false)) (M.pure t1)).bind fun t36 =>
      (guarded [(0, t34)] (some (0, false)) (M.pure (L.getD 4 .undef))).bind fun t37 =>
      (guarded [(0, t34)] (some (0, false)) (M.lift (Ax.bin .shr t36 t37))).bind fun t38 =>
      (guarded [(0, t34)] (some (0, false)) (M.lift (Ax.bin .and t38 (V.int .u32 1)))).bind fun t39 =>
      (guarded [(0, t34)] (some (0, false)) (M.lift (Ax.bin .eql t39 (V.int .u32 0)))).bind fun t40 =>
      (M.lift (Ax.pick t34 (V.bool true) t40)).bind fun t41 =>
      (guarded [(0, t41)] (some (0, false)) (M.pure t30)).bind fun t43 =>
      (guarded [(0, t41)] (some (0, false)) (M.pure t2)).bind fun t44 =>
      (guarded [(0, t41)] (some (0, false)) (M.lift (Ax.bin .gtr t43 t44))).bind fun t45 =>
      (M.lift (Ax.pick t41 (V.bool true) t45)).bind fun t46 =>
      (guarded [(0, t46)] (some (0, false)) (M.pure t31)).bind fun t48 =>
      (guarded [(0, t46)] (some (0, false)) (M.pure t3)).bind fun t49 =>
      (guarded [(0, t46)] (some (0, false)) (M.lift (Ax.bin .gtr t48 t49))).bind fun t50 =>
      (M.lift (Ax.pick t46 (V.bool true) t50)).bind fun t51 =>
      M.ite t51
        (M.pure (.ex 1 [(L.getD 0 .undef), (L.getD 1 .undef), (L.getD 2 .undef), (L.getD 3 .undef)]))
        ((M.lift (Ax.un .not (L.getD 3 .undef))).bind fun t53 =>
        (guarded [(0, t53)] (some (0, false)) (M.pure t30)).bind fun t55 =>
        (guarded [(0, t53)] (some (0, false)) (M.pure (L.getD 1 .undef))).bind fun t56 =>
        (guarded [(0, t53)] (some (0, false)) (M.lift (Ax.bin .gtr t55 t56))).bind fun t57 =>
        (M.lift (Ax.pick t53 (V.bool true) t57)).bind fun t58 =>
        (guarded [(0, t58)] (some (0, false)) (M.pure t30)).bind fun t60 =>
        (guarded [(0, t58)] (some (0, false)) (M.pure (L.getD 1 .undef))).bind fun t61 =>
        (guarded [(0, t58)] (some (0, false)) (M.lift (Ax.bin .eql t60 t61))).bind fun t62 =>
        (guarded [(0, t58)] (some (0, false)) (M.pure t62)).bind fun t63 =>
        (guarded [(0, t63)] (some (0, true)) (M.pure t31)).bind fun t64 =>
        (guarded [(0, t63)] (some (0, true)) (M.pure (L.getD 2 .undef))).bind fun t65 =>
        (guarded [(0, t63)] (some (0, true)) (M.lift (Ax.bin .gtr t64 t65))).bind fun t66 =>
        (guarded [(0, t58)] (some (0, false)) (M.lift (Ax.pick t63 t66 (V.bool false)))).bind fun t67 =>
        (M.lift (Ax.pick t58 (V.bool true) t67)).bind fun t68 =>
        M.join (M.ite t68
          (M.pure (.nrm [(L.getD 4 .undef), t30, t31, (V.bool true)]))
          (M.pure (.nrm [(L.getD 0 .undef), (L.getD 1 .undef), (L.getD 2 .undef), (L.getD 3 .undef)]))) fun L0 =>
        M.pure (.nrm [(L0.getD 0 .undef), (L0.getD 1 .undef), (L0.getD 2 .undef), (L0.getD 3 .undef)]))) fun L1 =>
    (M.lift (Ax.bin .add (L.getD 4 .undef) (V.int .i64 1))).bind fun t72 =>
    M.pure (.nrm [(L1.getD 0 .undef), (L1.getD 1 .undef), (L1.getD 2 .undef), (L1.getD 3 .undef), t72]))
    (M.pure (.ex 0 [(L.getD 0 .undef), (L.getD 3 .undef)]))

noncomputable def f_pick_Fits (G : Sem') (t0 t1 t2 t3 : V) : M Res :=
  (mbox ty_depend_Structure t0).bind fun t4 =>
  (mload (some 6) t4).bind fun t18 =>
  (G fn_depend_Fine [t18]).bind fun t19 =>
  (M.lift (Ax.un .not t19)).bind fun t20 =>
  M.ite t20
    (M.pure (.ret [(V.int .i64 0), (V.bool false)]))
    ((M.lift (Ax.faddr 1 t4)).bind fun t21 =>
    (mload none t21).bind fun t22 =>
    M.blk 0 (
      M.iter (f_pick_Fits_0 G t22 t4 t1 t2 t3 (V.int .i64 0) (V.bool false)) [(V.int .i64 0), (V.int .i64 0), (V.int .i64 0), (V.bool false), (V.int .i64 0)]) fun L2 =>
    M.pure (.ret [(L2.getD 0 .undef), (L2.getD 1 .undef)]))

theorem eq_pick_Fits (G : Sem') (t0 t1 t2 t3 : V) : execK G ir_pick_Fits.rv ir_pick_Fits.body [] [] (params 0 [t0, t1, t2, t3]) = f_pick_Fits G t0 t1 t2 t3 := by kernel_rfl

theorem tb_pick_Fits : T fn_pick_Fits = some ir_pick_Fits := by kernel_rfl

theorem ok_pick_Fits {t0 t1 t2 t3 : V} {H : Heap} {Q : V → Heap → Prop} (h : Ok (f_pick_Fits (sem T) t0 t1 t2 t3) H fun r H' => ∃ L, r = .ret L ∧ Q (tupled L) H') : Ok (sem T fn_pick_Fits [t0, t1, t2, t3]) H Q :=
  ok_sem tb_pick_Fits (Nat.le_of_ble_eq_true rfl) (eq_pick_Fits (sem T) t0 t1 t2 t3) h

/-- palanquin/depend.Fine. -/
def loop_depend_Fine_0 : C :=
  .ops [⟨(some 72), none, .bin .lss (.s 71) (.s 70)⟩]
  (.cond (.s 72)
  (.blk 1
   (.ops [⟨(some 73), none, .iaddr none 2 (.s 69) (.s 71)⟩,
      ⟨(some 74), none, .load (some 2) (.s 73)⟩,
      ⟨(some 6), none, .box ty_2_int (.c (V.agg [(V.int .i64 0), (V.int .i64 0)]))⟩,
      ⟨none, none, .store 2 (.s 6) (.s 74)⟩]
    (.ops [⟨(some 75), none, .slice (.arr 2) 1 (.s 6) none none none⟩,
      ⟨(some 76), none, .call fn_depend_within [(.s 75), (.c (V.int .i64 2)), (.c (V.int .i64 1)), (.c (V.int .i64 65536))]⟩,
      ⟨(some 77), none, .un .not (.s 76)⟩]
    (.cond (.s 77)
    (.ops [⟨(some 2), none, .mv (.c (V.bool false))⟩]
     (.ret))
    (.done)))) [] [73, 74, 6, 75, 76, 77, 2]
   (.ops [⟨(some 78), none, .bin .add (.s 71) (.c (V.int .i64 1))⟩,
     ⟨(some 71), none, .mv (.s 78)⟩]
   (.done)))
  (.exit 0))

def ir_depend_Fine : Fn' := ⟨84, [.tmp 2],
  .ops [⟨(some 1), none, .box ty_depend_Structure (.s 0)⟩,
    ⟨(some 2), none, .mv (.c (V.bool false))⟩]
  (.ops [⟨(some 7), none, .faddr 1 (.s 1)⟩,
    ⟨(some 8), none, .load none (.s 7)⟩,
    ⟨(some 3), none, .mv (.s 8)⟩]
  (.ops [⟨(some 9), none, .faddr 3 (.s 1)⟩,
    ⟨(some 10), none, .load none (.s 9)⟩,
    ⟨(some 11), none, .bin .eql (.s 10) (.c (V.int .i64 0))⟩]
  (.condJ (.s 11)
  (.ops [⟨(some 3), none, .mv (.c (V.int .i64 0))⟩]
   (.done))
  (.done) [3] [3]
  (.ops [⟨(some 12), none, .faddr 0 (.s 1)⟩,
    ⟨(some 13), none, .load none (.s 12)⟩,
    ⟨(some 14), none, .bin .lss (.s 13) (.c (V.int .i64 0))⟩,
    ⟨(some 15), none, .mv (.s 14)⟩,
    ⟨(some 16), (some (15, false)), .faddr 0 (.s 1)⟩,
    ⟨(some 17), (some (15, false)), .load none (.s 16)⟩,
    ⟨(some 18), (some (15, false)), .bin .geq (.s 17) (.c (V.int .i64 64))⟩,
    ⟨(some 19), none, .pick (.s 15) (.c (V.bool true)) (.s 18)⟩,
    ⟨(some 20), none, .mv (.s 19)⟩,
    ⟨(some 21), (some (20, false)), .faddr 1 (.s 1)⟩,
    ⟨(some 22), (some (20, false)), .load none (.s 21)⟩,
    ⟨(some 23), (some (20, false)), .bin .lss (.s 22) (.c (V.int .i64 1))⟩,
    ⟨(some 24), none, .pick (.s 20) (.c (V.bool true)) (.s 23)⟩,
    ⟨(some 25), none, .mv (.s 24)⟩,
    ⟨(some 26), (some (25, false)), .faddr 1 (.s 1)⟩,
    ⟨(some 27), (some (25, false)), .load none (.s 26)⟩,
    ⟨(some 28), (some (25, false)), .bin .gtr (.s 27) (.c (V.int .i64 32))⟩,
    ⟨(some 29), none, .pick (.s 25) (.c (V.bool true)) (.s 28)⟩,
    ⟨(some 30), none, .mv (.s 29)⟩,
    ⟨(some 31), (some (30, false)), .faddr 3 (.s 1)⟩,
    ⟨(some 32), (some (30, false)), .load none (.s 31)⟩,
    ⟨(some 33), (some (30, false)), .bin .lss (.s 32) (.c (V.int .i64 0))⟩,
    ⟨(some 34), none, .pick (.s 30) (.c (V.bool true)) (.s 33)⟩,
    ⟨(some 35), none, .mv (.s 34)⟩,
    ⟨(some 36), (some (35, false)), .faddr 3 (.s 1)⟩,
    ⟨(some 37), (some (35, false)), .load none (.s 36)⟩,
    ⟨(some 38), (some (35, false)), .faddr 1 (.s 1)⟩,
    ⟨(some 39), (some (35, false)), .load none (.s 38)⟩,
    ⟨(some 40), (some (35, false)), .bin .gtr (.s 37) (.s 39)⟩,
    ⟨(some 41), none, .pick (.s 35) (.c (V.bool true)) (.s 40)⟩,
    ⟨(some 42), none, .mv (.s 41)⟩,
    ⟨(some 43), (some (42, false)), .faddr 4 (.s 1)⟩,
    ⟨(some 44), (some (42, false)), .load none (.s 43)⟩,
    ⟨(some 45), (some (42, false)), .mv (.s 3)⟩,
    ⟨(some 46), (some (42, false)), .faddr 3 (.s 1)⟩,
    ⟨(some 47), (some (42, false)), .load none (.s 46)⟩,
    ⟨(some 48), (some (42, false)), .bin .sub (.s 47) (.c (V.int .i64 1))⟩,
    ⟨(some 49), (some (42, false)), .call fn_depend_within [(.s 44), (.s 45), (.c (V.int .i64 0)), (.s 48)]⟩,
    ⟨(some 50), (some (42, false)), .un .not (.s 49)⟩,
    ⟨(some 51), none, .pick (.s 42) (.c (V.bool true)) (.s 50)⟩,
    ⟨(some 52), none, .mv (.s 51)⟩,
    ⟨(some 53), (some (52, false)), .load (some 6) (.s 1)⟩,
    ⟨(some 54), (some (52, false)), .call fn_depend_layers [(.s 53)]⟩,
    ⟨(some 55), (some (52, false)), .un .not (.s 54)⟩,
    ⟨(some 56), none, .pick (.s 52) (.c (V.bool true)) (.s 55)⟩]
  (.cond (.s 56)
  (.ops [⟨(some 2), none, .mv (.c (V.bool false))⟩]
   (.ret))
  (.ops [⟨(some 57), none, .faddr 5 (.s 1)⟩,
     ⟨(some 58), none, .load none (.s 57)⟩,
     ⟨(some 59), none, .len (.s 58)⟩,
     ⟨(some 4), none, .mv (.s 59)⟩]
   (.ops [⟨(some 60), none, .mv (.s 4)⟩,
     ⟨(some 61), none, .bin .neq (.s 60) (.c (V.int .i64 0))⟩,
     ⟨(some 62), none, .mv (.s 61)⟩,
     ⟨(some 63), (some (62, true)), .mv (.s 4)⟩,
     ⟨(some 64), (some (62, true)), .load (some 6) (.s 1)⟩,
     ⟨(some 65), (some (62, true)), .call fn_depend_spatial [(.s 64)]⟩,
     ⟨(some 66), (some (62, true)), .bin .neq (.s 63) (.s 65)⟩,
     ⟨(some 67), none, .pick (.s 62) (.s 66) (.c (V.bool false))⟩]
   (.cond (.s 67)
   (.ops [⟨(some 2), none, .mv (.c (V.bool false))⟩]
    (.ret))
   (.ops [⟨(some 68), none, .faddr 5 (.s 1)⟩,
      ⟨(some 69), none, .load none (.s 68)⟩,
      ⟨(some 70), none, .len (.s 69)⟩,
      ⟨(some 71), none, .mv (.c (V.int .i64 0))⟩]
    (.blk 0
    (.loop loop_depend_Fine_0 [71] [72, 73, 74, 6, 75, 76, 77, 2, 78, 71]) [] [72, 73, 74, 6, 75, 76, 77, 2, 78, 71]
    (.ops [⟨(some 79), none, .faddr 2 (.s 1)⟩,
      ⟨(some 80), none, .load none (.s 79)⟩,
      ⟨(some 81), none, .mkfn fn_depend_Fine_1 [(.s 1)]⟩,
      ⟨(some 82), none, .call fn_slices_ContainsFunc_depend_Template_depend_Template [(.s 80), (.s 81)]⟩,
      ⟨(some 83), none, .un .not (.s 82)⟩,
      ⟨(some 2), none, .mv (.s 83)⟩]
    (.ret))))))))))))⟩

noncomputable def f_depend_Fine_0 (G : Sem') (t70 t69 : V) (L : List V) : M Res :=
  (M.lift (Ax.bin .lss (L.getD 0 .undef) t70)).bind fun t72 =>
  M.ite t72
    (M.blk 1 (
      (M.lift (Ax.iaddr none 2 t69 (L.getD 0 .undef))).bind fun t73 =>
      (mload (some 2) t73).bind fun t74 =>
      (mbox ty_2_int (V.agg [(V.int .i64 0), (V.int .i64 0)])).bind fun t6 =>
      (mstore 2 t6 t74).bind fun _ =>
      (M.lift (vslice (.arr 2) 1 t6 none none none)).bind fun t75 =>
      (G fn_depend_within [t75, (V.int .i64 2), (V.int .i64 1), (V.int .i64 65536)]).bind fun t76 =>
      (M.lift (Ax.un .not t76)).bind fun t77 =>
      M.ite t77
        (M.pure (.ret [(V.bool false)]))
        (M.pure (.nrm []))) fun _ =>
    (M.lift (Ax.bin .add (L.getD 0 .undef) (V.int .i64 1))).bind fun t78 =>
    M.pure (.nrm [t78]))
    (M.pure (.ex 0 []))

noncomputable def f_depend_Fine (G : Sem') (t0 : V) : M Res :=
  (mbox ty_depend_Structure t0).bind fun t1 =>
  (M.lift (Ax.faddr 1 t1)).bind fun t7 =>
  (mload none t7).bind fun t8 =>
  (M.lift (Ax.faddr 3 t1)).bind fun t9 =>
  (mload none t9).bind fun t10 =>
  (M.lift (Ax.bin .eql t10 (V.int .i64 0))).bind fun t11 =>
  M.join (M.ite t11
    (M.pure (.nrm [(V.int .i64 0)]))
    (M.pure (.nrm [t8]))) fun L0 =>
  (M.lift (Ax.faddr 0 t1)).bind fun t12 =>
  (mload none t12).bind fun t13 =>
  (M.lift (Ax.bin .lss t13 (V.int .i64 0))).bind fun t14 =>
  (guarded [(0, t14)] (some (0, false)) (M.lift (Ax.faddr 0 t1))).bind fun t16 =>
  (guarded [(0, t14)] (some (0, false)) (mload none t16)).bind fun t17 =>
  (guarded [(0, t14)] (some (0, false)) (M.lift (Ax.bin .geq t17 (V.int .i64 64)))).bind fun t18 =>
  (M.lift (Ax.pick t14 (V.bool true) t18)).bind fun t19 =>
  (guarded [(0, t19)] (some (0, false)) (M.lift (Ax.faddr 1 t1))).bind fun t21 =>
  (guarded [(0, t19)] (some (0, false)) (mload none t21)).bind fun t22 =>
  (guarded [(0, t19)] (some (0, false)) (M.lift (Ax.bin .lss t22 (V.int .i64 1)))).bind fun t23 =>
  (M.lift (Ax.pick t19 (V.bool true) t23)).bind fun t24 =>
  (guarded [(0, t24)] (some (0, false)) (M.lift (Ax.faddr 1 t1))).bind fun t26 =>
  (guarded [(0, t24)] (some (0, false)) (mload none t26)).bind fun t27 =>
  (guarded [(0, t24)] (some (0, false)) (M.lift (Ax.bin .gtr t27 (V.int .i64 32)))).bind fun t28 =>
  (M.lift (Ax.pick t24 (V.bool true) t28)).bind fun t29 =>
  (guarded [(0, t29)] (some (0, false)) (M.lift (Ax.faddr 3 t1))).bind fun t31 =>
  (guarded [(0, t29)] (some (0, false)) (mload none t31)).bind fun t32 =>
  (guarded [(0, t29)] (some (0, false)) (M.lift (Ax.bin .lss t32 (V.int .i64 0)))).bind fun t33 =>
  (M.lift (Ax.pick t29 (V.bool true) t33)).bind fun t34 =>
  (guarded [(0, t34)] (some (0, false)) (M.lift (Ax.faddr 3 t1))).bind fun t36 =>
  (guarded [(0, t34)] (some (0, false)) (mload none t36)).bind fun t37 =>
  (guarded [(0, t34)] (some (0, false)) (M.lift (Ax.faddr 1 t1))).bind fun t38 =>
  (guarded [(0, t34)] (some (0, false)) (mload none t38)).bind fun t39 =>
  (guarded [(0, t34)] (some (0, false)) (M.lift (Ax.bin .gtr t37 t39))).bind fun t40 =>
  (M.lift (Ax.pick t34 (V.bool true) t40)).bind fun t41 =>
  (guarded [(0, t41)] (some (0, false)) (M.lift (Ax.faddr 4 t1))).bind fun t43 =>
  (guarded [(0, t41)] (some (0, false)) (mload none t43)).bind fun t44 =>
  (guarded [(0, t41)] (some (0, false)) (M.pure (L0.getD 0 .undef))).bind fun t45 =>
  (guarded [(0, t41)] (some (0, false)) (M.lift (Ax.faddr 3 t1))).bind fun t46 =>
  (guarded [(0, t41)] (some (0, false)) (mload none t46)).bind fun t47 =>
  (guarded [(0, t41)] (some (0, false)) (M.lift (Ax.bin .sub t47 (V.int .i64 1)))).bind fun t48 =>
  (guarded [(0, t41)] (some (0, false)) (G fn_depend_within [t44, t45, (V.int .i64 0), t48])).bind fun t49 =>
  (guarded [(0, t41)] (some (0, false)) (M.lift (Ax.un .not t49))).bind fun t50 =>
  (M.lift (Ax.pick t41 (V.bool true) t50)).bind fun t51 =>
  (guarded [(0, t51)] (some (0, false)) (mload (some 6) t1)).bind fun t53 =>
  (guarded [(0, t51)] (some (0, false)) (G fn_depend_layers [t53])).bind fun t54 =>
  (guarded [(0, t51)] (some (0, false)) (M.lift (Ax.un .not t54))).bind fun t55 =>
  (M.lift (Ax.pick t51 (V.bool true) t55)).bind fun t56 =>
  M.ite t56
    (M.pure (.ret [(V.bool false)]))
    ((M.lift (Ax.faddr 5 t1)).bind fun t57 =>
    (mload none t57).bind fun t58 =>
    (M.lift (vlen t58)).bind fun t59 =>
    (M.lift (Ax.bin .neq t59 (V.int .i64 0))).bind fun t61 =>
    (guarded [(0, t61)] (some (0, true)) (M.pure t59)).bind fun t63 =>
    (guarded [(0, t61)] (some (0, true)) (mload (some 6) t1)).bind fun t64 =>
    (guarded [(0, t61)] (some (0, true)) (G fn_depend_spatial [t64])).bind fun t65 =>
    (guarded [(0, t61)] (some (0, true)) (M.lift (Ax.bin .neq t63 t65))).bind fun t66 =>
    (M.lift (Ax.pick t61 t66 (V.bool false))).bind fun t67 =>
    M.ite t67
      (M.pure (.ret [(V.bool false)]))
      ((M.lift (Ax.faddr 5 t1)).bind fun t68 =>
      (mload none t68).bind fun t69 =>
      (M.lift (vlen t69)).bind fun t70 =>
      M.blk 0 (
        M.iter (f_depend_Fine_0 G t70 t69) [(V.int .i64 0)]) fun _ =>
      (M.lift (Ax.faddr 2 t1)).bind fun t79 =>
      (mload none t79).bind fun t80 =>
      (M.pure (.fn fn_depend_Fine_1 [t1])).bind fun t81 =>
      (G fn_slices_ContainsFunc_depend_Template_depend_Template [t80, t81]).bind fun t82 =>
      (M.lift (Ax.un .not t82)).bind fun t83 =>
      M.pure (.ret [t83])))

theorem eq_depend_Fine (G : Sem') (t0 : V) : execK G ir_depend_Fine.rv ir_depend_Fine.body [] [] (params 0 [t0]) = f_depend_Fine G t0 := by kernel_rfl

theorem tb_depend_Fine : T fn_depend_Fine = some ir_depend_Fine := by kernel_rfl

theorem ok_depend_Fine {t0 : V} {H : Heap} {Q : V → Heap → Prop} (h : Ok (f_depend_Fine (sem T) t0) H fun r H' => ∃ L, r = .ret L ∧ Q (tupled L) H') : Ok (sem T fn_depend_Fine [t0]) H Q :=
  ok_sem tb_depend_Fine (Nat.le_of_ble_eq_true rfl) (eq_depend_Fine (sem T) t0) h

/-- palanquin/depend.within. -/
def ir_depend_within : Fn' := ⟨19, [.tmp 8],
  .ops [⟨(some 6), none, .box ty_int (.s 2)⟩,
    ⟨(some 7), none, .box ty_int (.s 3)⟩,
    ⟨(some 8), none, .mv (.c (V.bool false))⟩]
  (.ops [⟨(some 9), none, .mv (.s 0)⟩,
    ⟨(some 10), none, .len (.s 9)⟩,
    ⟨(some 11), none, .mv (.s 1)⟩,
    ⟨(some 12), none, .bin .eql (.s 10) (.s 11)⟩,
    ⟨(some 13), none, .mv (.s 12)⟩,
    ⟨(some 14), (some (13, true)), .mv (.s 0)⟩,
    ⟨(some 15), (some (13, true)), .mkfn fn_depend_within_1 [(.s 6), (.s 7)]⟩,
    ⟨(some 16), (some (13, true)), .call fn_slices_ContainsFunc_int_int [(.s 14), (.s 15)]⟩,
    ⟨(some 17), (some (13, true)), .un .not (.s 16)⟩,
    ⟨(some 18), none, .pick (.s 13) (.s 17) (.c (V.bool false))⟩,
    ⟨(some 8), none, .mv (.s 18)⟩]
  (.ret))⟩

noncomputable def f_depend_within (G : Sem') (t0 t1 t2 t3 : V) : M Res :=
  (mbox ty_int t2).bind fun t6 =>
  (mbox ty_int t3).bind fun t7 =>
  (M.lift (vlen t0)).bind fun t10 =>
  (M.lift (Ax.bin .eql t10 t1)).bind fun t12 =>
  (guarded [(0, t12)] (some (0, true)) (M.pure t0)).bind fun t14 =>
  (guarded [(0, t12)] (some (0, true)) (M.pure (.fn fn_depend_within_1 [t6, t7]))).bind fun t15 =>
  (guarded [(0, t12)] (some (0, true)) (G fn_slices_ContainsFunc_int_int [t14, t15])).bind fun t16 =>
  (guarded [(0, t12)] (some (0, true)) (M.lift (Ax.un .not t16))).bind fun t17 =>
  (M.lift (Ax.pick t12 t17 (V.bool false))).bind fun t18 =>
  M.pure (.ret [t18])

theorem eq_depend_within (G : Sem') (t0 t1 t2 t3 : V) : execK G ir_depend_within.rv ir_depend_within.body [] [] (params 0 [t0, t1, t2, t3]) = f_depend_within G t0 t1 t2 t3 := by kernel_rfl

theorem tb_depend_within : T fn_depend_within = some ir_depend_within := by kernel_rfl

theorem ok_depend_within {t0 t1 t2 t3 : V} {H : Heap} {Q : V → Heap → Prop} (h : Ok (f_depend_within (sem T) t0 t1 t2 t3) H fun r H' => ∃ L, r = .ret L ∧ Q (tupled L) H') : Ok (sem T fn_depend_within [t0, t1, t2, t3]) H Q :=
  ok_sem tb_depend_within (Nat.le_of_ble_eq_true rfl) (eq_depend_within (sem T) t0 t1 t2 t3) h

/-- palanquin/depend.within$1. -/
def ir_depend_within_1 : Fn' := ⟨13, [.tmp 4],
  .ops [⟨(some 4), none, .mv (.c (V.bool false))⟩]
  (.ops [⟨(some 5), none, .mv (.s 0)⟩,
    ⟨(some 6), none, .load none (.s 1)⟩,
    ⟨(some 7), none, .bin .lss (.s 5) (.s 6)⟩,
    ⟨(some 8), none, .mv (.s 7)⟩,
    ⟨(some 9), (some (8, false)), .mv (.s 0)⟩,
    ⟨(some 10), (some (8, false)), .load none (.s 2)⟩,
    ⟨(some 11), (some (8, false)), .bin .gtr (.s 9) (.s 10)⟩,
    ⟨(some 12), none, .pick (.s 8) (.c (V.bool true)) (.s 11)⟩,
    ⟨(some 4), none, .mv (.s 12)⟩]
  (.ret))⟩

noncomputable def f_depend_within_1 (G : Sem') (t0 t1 t2 : V) : M Res :=
  (mload none t1).bind fun t6 =>
  (M.lift (Ax.bin .lss t0 t6)).bind fun t7 =>
  (guarded [(0, t7)] (some (0, false)) (M.pure t0)).bind fun t9 =>
  (guarded [(0, t7)] (some (0, false)) (mload none t2)).bind fun t10 =>
  (guarded [(0, t7)] (some (0, false)) (M.lift (Ax.bin .gtr t9 t10))).bind fun t11 =>
  (M.lift (Ax.pick t7 (V.bool true) t11)).bind fun t12 =>
  M.pure (.ret [t12])

theorem eq_depend_within_1 (G : Sem') (t0 t1 t2 : V) : execK G ir_depend_within_1.rv ir_depend_within_1.body [] [] (params 0 [t0, t1, t2]) = f_depend_within_1 G t0 t1 t2 := by kernel_rfl

theorem tb_depend_within_1 : T fn_depend_within_1 = some ir_depend_within_1 := by kernel_rfl

theorem ok_depend_within_1 {t0 t1 t2 : V} {H : Heap} {Q : V → Heap → Prop} (h : Ok (f_depend_within_1 (sem T) t0 t1 t2) H fun r H' => ∃ L, r = .ret L ∧ Q (tupled L) H') : Ok (sem T fn_depend_within_1 [t0, t1, t2]) H Q :=
  ok_sem tb_depend_within_1 (Nat.le_of_ble_eq_true rfl) (eq_depend_within_1 (sem T) t0 t1 t2) h

/-- slices.ContainsFunc[[]int,int]. -/
def ir_slices_ContainsFunc_int_int : Fn' := ⟨9, [.tmp 4],
  .ops [⟨(some 4), none, .mv (.c (V.bool false))⟩]
  (.ops [⟨(some 5), none, .mv (.s 0)⟩,
    ⟨(some 6), none, .mv (.s 1)⟩,
    ⟨(some 7), none, .call fn_slices_IndexFunc_int_int [(.s 5), (.s 6)]⟩,
    ⟨(some 8), none, .bin .geq (.s 7) (.c (V.int .i64 0))⟩,
    ⟨(some 4), none, .mv (.s 8)⟩]
  (.ret))⟩

noncomputable def f_slices_ContainsFunc_int_int (G : Sem') (t0 t1 : V) : M Res :=
  (G fn_slices_IndexFunc_int_int [t0, t1]).bind fun t7 =>
  (M.lift (Ax.bin .geq t7 (V.int .i64 0))).bind fun t8 =>
  M.pure (.ret [t8])

theorem eq_slices_ContainsFunc_int_int (G : Sem') (t0 t1 : V) : execK G ir_slices_ContainsFunc_int_int.rv ir_slices_ContainsFunc_int_int.body [] [] (params 0 [t0, t1]) = f_slices_ContainsFunc_int_int G t0 t1 := by kernel_rfl

theorem tb_slices_ContainsFunc_int_int : T fn_slices_ContainsFunc_int_int = some ir_slices_ContainsFunc_int_int := by kernel_rfl

theorem ok_slices_ContainsFunc_int_int {t0 t1 : V} {H : Heap} {Q : V → Heap → Prop} (h : Ok (f_slices_ContainsFunc_int_int (sem T) t0 t1) H fun r H' => ∃ L, r = .ret L ∧ Q (tupled L) H') : Ok (sem T fn_slices_ContainsFunc_int_int [t0, t1]) H Q :=
  ok_sem tb_slices_ContainsFunc_int_int (Nat.le_of_ble_eq_true rfl) (eq_slices_ContainsFunc_int_int (sem T) t0 t1) h

/-- slices.IndexFunc[[]int,int]. -/
def loop_slices_IndexFunc_int_int_0 : C :=
  .ops [⟨(some 9), none, .bin .lss (.s 8) (.s 7)⟩]
  (.cond (.s 9)
  (.blk 1
   (.ops [⟨(some 10), none, .mv (.s 8)⟩,
      ⟨(some 5), none, .mv (.s 10)⟩]
    (.ops [⟨(some 11), none, .mv (.s 1)⟩,
      ⟨(some 12), none, .mv (.s 0)⟩,
      ⟨(some 13), none, .mv (.s 5)⟩,
      ⟨(some 14), none, .iaddr none 1 (.s 12) (.s 13)⟩,
      ⟨(some 15), none, .load none (.s 14)⟩,
      ⟨(some 16), none, .callv (.s 11) [(.s 15)]⟩]
    (.cond (.s 16)
    (.ops [⟨(some 17), none, .mv (.s 5)⟩,
       ⟨(some 4), none, .mv (.s 17)⟩]
     (.ret))
    (.done)))) [] [10, 5, 11, 12, 13, 14, 15, 16, 17, 4]
   (.ops [⟨(some 18), none, .bin .add (.s 8) (.c (V.int .i64 1))⟩,
     ⟨(some 8), none, .mv (.s 18)⟩]
   (.done)))
  (.exit 0))

def ir_slices_IndexFunc_int_int : Fn' := ⟨19, [.tmp 4],
  .ops [⟨(some 4), none, .mv (.c (V.int .i64 0))⟩]
  (.ops [⟨(some 6), none, .mv (.s 0)⟩,
    ⟨(some 7), none, .len (.s 6)⟩,
    ⟨(some 8), none, .mv (.c (V.int .i64 0))⟩]
  (.blk 0
  (.loop loop_slices_IndexFunc_int_int_0 [8] [9, 10, 5, 11, 12, 13, 14, 15, 16, 17, 4, 18, 8]) [] [9, 10, 5, 11, 12, 13, 14, 15, 16, 17, 4, 18, 8]
  (.ops [⟨(some 4), none, .mv (.c (V.int .i64 (-1)))⟩]
  (.ret))))⟩

noncomputable def f_slices_IndexFunc_int_int_0 (G : Sem') (t7 t1 t0 : V) (L : List V) : M Res :=
  (M.lift (Ax.bin .lss (L.getD 0 .undef) t7)).bind fun t9 =>
  M.ite t9
    (M.blk 1 (
      (M.lift (Ax.iaddr none 1 t0 (L.getD 0 .undef))).bind fun t14 =>
      (mload none t14).bind fun t15 =>
      (callv G t1 [t15]).bind fun t16 =>
      M.ite t16
        (M.pure (.ret [(L.getD 0 .undef)]))
        (M.pure (.nrm []))) fun _ =>
    (M.lift (Ax.bin .add (L.getD 0 .undef) (V.int .i64 1))).bind fun t18 =>
    M.pure (.nrm [t18]))
    (M.pure (.ex 0 []))

noncomputable def f_slices_IndexFunc_int_int (G : Sem') (t0 t1 : V) : M Res :=
  (M.lift (vlen t0)).bind fun t7 =>
  M.blk 0 (
    M.iter (f_slices_IndexFunc_int_int_0 G t7 t1 t0) [(V.int .i64 0)]) fun _ =>
  M.pure (.ret [(V.int .i64 (-1))])

theorem eq_slices_IndexFunc_int_int (G : Sem') (t0 t1 : V) : execK G ir_slices_IndexFunc_int_int.rv ir_slices_IndexFunc_int_int.body [] [] (params 0 [t0, t1]) = f_slices_IndexFunc_int_int G t0 t1 := by kernel_rfl

theorem tb_slices_IndexFunc_int_int : T fn_slices_IndexFunc_int_int = some ir_slices_IndexFunc_int_int := by kernel_rfl

theorem ok_slices_IndexFunc_int_int {t0 t1 : V} {H : Heap} {Q : V → Heap → Prop} (h : Ok (f_slices_IndexFunc_int_int (sem T) t0 t1) H fun r H' => ∃ L, r = .ret L ∧ Q (tupled L) H') : Ok (sem T fn_slices_IndexFunc_int_int [t0, t1]) H Q :=
  ok_sem tb_slices_IndexFunc_int_int (Nat.le_of_ble_eq_true rfl) (eq_slices_IndexFunc_int_int (sem T) t0 t1) h

/-- palanquin/depend.layers. -/
def loop_depend_layers_0 : C :=
  .ops [⟨(some 13), none, .bin .lss (.s 12) (.s 11)⟩]
  (.cond (.s 13)
  (.blk 1
   (.ops [⟨(some 14), none, .mv (.s 12)⟩,
      ⟨(some 15), none, .iaddr none 5 (.s 10) (.s 12)⟩,
      ⟨(some 16), none, .load (some 5) (.s 15)⟩,
      ⟨(some 5), none, .box ty_depend_Template (.c (V.agg [(V.int .i64 0), (V.int .i64 0), V.nils, V.nils, V.nils]))⟩,
      ⟨(some 4), none, .mv (.s 14)⟩,
      ⟨none, none, .store 5 (.s 5) (.s 16)⟩]
    (.ops [⟨(some 18), none, .load (some 5) (.s 3)⟩,
      ⟨(some 19), none, .load (some 5) (.s 5)⟩,
      ⟨(some 20), none, .call fn_depend_next [(.s 18), (.s 19)]⟩,
      ⟨(some 17), none, .mv (.s 20)⟩,
      ⟨(some 21), none, .ext 0 (.s 17)⟩,
      ⟨(some 22), none, .ext 1 (.s 17)⟩,
      ⟨(some 6), none, .mv (.s 21)⟩,
      ⟨(some 7), none, .mv (.s 22)⟩]
    (.ops [⟨(some 23), none, .mv (.s 7)⟩,
      ⟨(some 24), none, .un .not (.s 23)⟩,
      ⟨(some 25), none, .mv (.s 24)⟩,
      ⟨(some 26), (some (25, false)), .mv (.s 4)⟩,
      ⟨(some 27), (some (25, false)), .bin .eql (.s 26) (.c (V.int .i64 0))⟩,
      ⟨(some 28), (some (25, false)), .mv (.s 27)⟩,
      ⟨(some 29), (some (28, true)), .mv (.s 6)⟩,
      ⟨(some 30), (some (28, true)), .bin .neq (.s 29) (.c (V.int .i64 0))⟩,
      ⟨(some 31), (some (25, false)), .pick (.s 28) (.s 30) (.c (V.bool false))⟩,
      ⟨(some 32), none, .pick (.s 25) (.c (V.bool true)) (.s 31)⟩,
      ⟨(some 33), none, .mv (.s 32)⟩,
      ⟨(some 34), (some (33, false)), .faddr 0 (.s 5)⟩,
      ⟨(some 35), (some (33, false)), .load none (.s 34)⟩,
      ⟨(some 36), (some (33, false)), .bin .gtr (.s 35) (.c (V.int .i64 3))⟩,
      ⟨(some 37), none, .pick (.s 33) (.c (V.bool true)) (.s 36)⟩,
      ⟨(some 38), none, .mv (.s 37)⟩,
      ⟨(some 39), (some (38, false)), .faddr 1 (.s 5)⟩,
      ⟨(some 40), (some (38, false)), .load none (.s 39)⟩,
      ⟨(some 41), (some (38, false)), .bin .gtr (.s 40) (.c (V.int .i64 7))⟩,
      ⟨(some 42), none, .pick (.s 38) (.c (V.bool true)) (.s 41)⟩]
    (.cond (.s 42)
    (.ops [⟨(some 2), none, .mv (.c (V.bool false))⟩]
     (.ret))
    (.ops [⟨(some 43), none, .load (some 5) (.s 5)⟩,
       ⟨none, none, .store 5 (.s 3) (.s 43)⟩]
     (.done)))))) [] [14, 15, 16, 5, 4, 18, 19, 20, 17, 21, 22, 6, 7, 23, 24, 25, 26, 27, 28, 29, 30, 31, 32, 33, 34, 35, 36, 37, 38, 39, 40, 41, 42, 2, 43]
   (.ops [⟨(some 44), none, .bin .add (.s 12) (.c (V.int .i64 1))⟩,
     ⟨(some 12), none, .mv (.s 44)⟩]
   (.done)))
  (.exit 0))

def ir_depend_layers : Fn' := ⟨55, [.tmp 2],
  .ops [⟨(some 1), none, .box ty_depend_Structure (.s 0)⟩,
    ⟨(some 2), none, .mv (.c (V.bool false))⟩]
  (.ops [⟨(some 8), none, .build [(V.int .i64 0), (V.int .i64 0), V.nils, V.nils, V.nils] []⟩,
    ⟨(some 3), none, .box ty_depend_Template (.c (V.agg [(V.int .i64 0), (V.int .i64 0), V.nils, V.nils, V.nils]))⟩,
    ⟨none, none, .store 5 (.s 3) (.s 8)⟩]
  (.ops [⟨(some 9), none, .faddr 2 (.s 1)⟩,
    ⟨(some 10), none, .load none (.s 9)⟩,
    ⟨(some 11), none, .len (.s 10)⟩,
    ⟨(some 12), none, .mv (.c (V.int .i64 0))⟩]
  (.blk 0
  (.loop loop_depend_layers_0 [12] [13, 14, 15, 16, 5, 4, 18, 19, 20, 17, 21, 22, 6, 7, 23, 24, 25, 26, 27, 28, 29, 30, 31, 32, 33, 34, 35, 36, 37, 38, 39, 40, 41, 42, 2, 43, 44, 12]) [] [13, 14, 15, 16, 5, 4, 18, 19, 20, 17, 21, 22, 6, 7, 23, 24, 25, 26, 27, 28, 29, 30, 31, 32, 33, 34, 35, 36, 37, 38, 39, 40, 41, 42, 2, 43, 44, 12]
  (.ops [⟨(some 45), none, .faddr 2 (.s 1)⟩,
    ⟨(some 46), none, .load none (.s 45)⟩,
    ⟨(some 47), none, .len (.s 46)⟩,
    ⟨(some 48), none, .bin .geq (.s 47) (.c (V.int .i64 1))⟩,
    ⟨(some 49), none, .mv (.s 48)⟩,
    ⟨(some 50), (some (49, true)), .faddr 2 (.s 1)⟩,
    ⟨(some 51), (some (49, true)), .load none (.s 50)⟩,
    ⟨(some 52), (some (49, true)), .len (.s 51)⟩,
    ⟨(some 53), (some (49, true)), .bin .leq (.s 52) (.c (V.int .i64 64))⟩,
    ⟨(some 54), none, .pick (.s 49) (.s 53) (.c (V.bool false))⟩,
    ⟨(some 2), none, .mv (.s 54)⟩]
  (.ret)))))⟩

noncomputable def f_depend_layers_0 (G : Sem') (t11 t10 t3 : V) (L : List V) : M Res :=
  (M.lift (Ax.bin .lss (L.getD 0 .undef) t11)).bind fun t13 =>
  M.ite t13
    (M.blk 1 (
      (M.lift (Ax.iaddr none 5 t10 (L.getD 0 .undef))).bind fun t15 =>
      (mload (some 5) t15).bind fun t16 =>
      (mbox ty_depend_Template (V.agg [(V.int .i64 0), (V.int .i64 0), V.nils, V.nils, V.nils])).bind fun t5 =>
      (mstore 5 t5 t16).bind fun _ =>
      (mload (some 5) t3).bind fun t18 =>
      (mload (some 5) t5).bind fun t19 =>
      (G fn_depend_next [t18, t19]).bind fun t20 =>
      (M.lift (Ax.ext 0 t20)).bind fun t21 =>
      (M.lift (Ax.ext 1 t20)).bind fun t22 =>
      (M.lift (Ax.un .not t22)).bind fun t24 =>
      (guarded [(0, t24)] (some (0, false)) (M.pure (L.getD 0 .undef))).bind fun t26 =>
      (guarded [(0, t24)] (some (0, false)) (M.lift (Ax.bin .eql t26 (V.int .i64 0)))).bind fun t27 =>
      (guarded [(0, t24)] (some (0, false)) (M.pure t27)).bind fun t28 =>
      (guarded [(0, t28)] (some (0, true)) (M.pure t21)).bind fun t29 =>
      (guarded [(0, t28)] (some (0, true)) (M.lift (Ax.bin .neq t29 (V.int .i64 0)))).bind fun t30 =>
      (guarded [(0, t24)] (some (0, false)) (M.lift (Ax.pick t28 t30 (V.bool false)))).bind fun t31 =>
      (M.lift (Ax.pick t24 (V.bool true) t31)).bind fun t32 =>
      (guarded [(0, t32)] (some (0, false)) (M.lift (Ax.faddr 0 t5))).bind fun t34 =>
      (guarded [(0, t32)] (some (0, false)) (mload none t34)).bind fun t35 =>
      (guarded [(0, t32)] (some (0, false)) (M.lift (Ax.bin .gtr t35 (V.int .i64 3)))).bind fun t36 =>
      (M.lift (Ax.pick t32 (V.bool true) t36)).bind fun t37 =>
      (guarded [(0, t37)] (some (0, false)) (M.lift (Ax.faddr 1 t5))).bind fun t39 =>
      (guarded [(0, t37)] (some (0, false)) (mload none t39)).bind fun t40 =>
      (guarded [(0, t37)] (some (0, false)) (M.lift (Ax.bin .gtr t40 (V.int .i64 7)))).bind fun t41 =>
      (M.lift (Ax.pick t37 (V.bool true) t41)).bind fun t42 =>
      M.ite t42
        (M.pure (.ret [(V.bool false)]))
        ((mload (some 5) t5).bind fun t43 =>
        (mstore 5 t3 t43).bind fun _ =>
        M.pure (.nrm []))) fun _ =>
    (M.lift (Ax.bin .add (L.getD 0 .undef) (V.int .i64 1))).bind fun t44 =>
    M.pure (.nrm [t44]))
    (M.pure (.ex 0 []))

noncomputable def f_depend_layers (G : Sem') (t0 : V) : M Res :=
  (mbox ty_depend_Structure t0).bind fun t1 =>
  (M.lift (Ax.build [(V.int .i64 0), (V.int .i64 0), V.nils, V.nils, V.nils] [])).bind fun t8 =>
  (mbox ty_depend_Template (V.agg [(V.int .i64 0), (V.int .i64 0), V.nils, V.nils, V.nils])).bind fun t3 =>
  (mstore 5 t3 t8).bind fun _ =>
  (M.lift (Ax.faddr 2 t1)).bind fun t9 =>
  (mload none t9).bind fun t10 =>
  (M.lift (vlen t10)).bind fun t11 =>
  M.blk 0 (
    M.iter (f_depend_layers_0 G t11 t10 t3) [(V.int .i64 0)]) fun _ =>
  (M.lift (Ax.faddr 2 t1)).bind fun t45 =>
  (mload none t45).bind fun t46 =>
  (M.lift (vlen t46)).bind fun t47 =>
  (M.lift (Ax.bin .geq t47 (V.int .i64 1))).bind fun t48 =>
  (guarded [(0, t48)] (some (0, true)) (M.lift (Ax.faddr 2 t1))).bind fun t50 =>
  (guarded [(0, t48)] (some (0, true)) (mload none t50)).bind fun t51 =>
  (guarded [(0, t48)] (some (0, true)) (M.lift (vlen t51))).bind fun t52 =>
  (guarded [(0, t48)] (some (0, true)) (M.lift (Ax.bin .leq t52 (V.int .i64 64)))).bind fun t53 =>
  (M.lift (Ax.pick t48 t53 (V.bool false))).bind fun t54 =>
  M.pure (.ret [t54])

theorem eq_depend_layers (G : Sem') (t0 : V) : execK G ir_depend_layers.rv ir_depend_layers.body [] [] (params 0 [t0]) = f_depend_layers G t0 := by kernel_rfl

theorem tb_depend_layers : T fn_depend_layers = some ir_depend_layers := by kernel_rfl

theorem ok_depend_layers {t0 : V} {H : Heap} {Q : V → Heap → Prop} (h : Ok (f_depend_layers (sem T) t0) H fun r H' => ∃ L, r = .ret L ∧ Q (tupled L) H') : Ok (sem T fn_depend_layers [t0]) H Q :=
  ok_sem tb_depend_layers (Nat.le_of_ble_eq_true rfl) (eq_depend_layers (sem T) t0) h

/-- palanquin/depend.next. -/
def ir_depend_next : Fn' := ⟨45, [.tmp 4, .tmp 5],
  .ops [⟨(some 2), none, .box ty_depend_Template (.s 0)⟩,
    ⟨(some 3), none, .box ty_depend_Template (.s 1)⟩,
    ⟨(some 4), none, .mv (.c (V.int .i64 0))⟩,
    ⟨(some 5), none, .mv (.c (V.bool false))⟩]
  (.blk 0
  (.ops [⟨(some 7), none, .faddr 0 (.s 3)⟩,
     ⟨(some 8), none, .load none (.s 7)⟩,
     ⟨(some 9), none, .faddr 0 (.s 2)⟩,
     ⟨(some 10), none, .load none (.s 9)⟩,
     ⟨(some 11), none, .bin .eql (.s 8) (.s 10)⟩,
     ⟨(some 12), none, .mv (.s 11)⟩,
     ⟨(some 13), (some (12, true)), .faddr 1 (.s 3)⟩,
     ⟨(some 14), (some (12, true)), .load none (.s 13)⟩,
     ⟨(some 15), (some (12, true)), .faddr 1 (.s 2)⟩,
     ⟨(some 16), (some (12, true)), .load none (.s 15)⟩,
     ⟨(some 17), (some (12, true)), .bin .eql (.s 14) (.s 16)⟩,
     ⟨(some 18), none, .pick (.s 12) (.s 17) (.c (V.bool false))⟩,
     ⟨(some 6), none, .mv (.s 18)⟩]
   (.cond (.s 6)
   (.ops [⟨(some 4), none, .mv (.c (V.int .i64 0))⟩,
      ⟨(some 5), none, .mv (.c (V.bool true))⟩]
    (.ret))
   (.ops [⟨(some 20), none, .faddr 0 (.s 3)⟩,
      ⟨(some 21), none, .load none (.s 20)⟩,
      ⟨(some 22), none, .faddr 0 (.s 2)⟩,
      ⟨(some 23), none, .load none (.s 22)⟩,
      ⟨(some 24), none, .bin .eql (.s 21) (.s 23)⟩,
      ⟨(some 25), none, .mv (.s 24)⟩,
      ⟨(some 26), (some (25, true)), .faddr 1 (.s 3)⟩,
      ⟨(some 27), (some (25, true)), .load none (.s 26)⟩,
      ⟨(some 28), (some (25, true)), .faddr 1 (.s 2)⟩,
      ⟨(some 29), (some (25, true)), .load none (.s 28)⟩,
      ⟨(some 30), (some (25, true)), .bin .add (.s 29) (.c (V.int .i64 1))⟩,
      ⟨(some 31), (some (25, true)), .bin .eql (.s 27) (.s 30)⟩,
      ⟨(some 32), none, .pick (.s 25) (.s 31) (.c (V.bool false))⟩,
      ⟨(some 19), none, .mv (.s 32)⟩]
    (.cond (.s 19)
    (.ops [⟨(some 4), none, .mv (.c (V.int .i64 1))⟩,
       ⟨(some 5), none, .mv (.c (V.bool true))⟩]
     (.ret))
    (.ops [⟨(some 34), none, .faddr 0 (.s 3)⟩,
       ⟨(some 35), none, .load none (.s 34)⟩,
       ⟨(some 36), none, .faddr 0 (.s 2)⟩,
       ⟨(some 37), none, .load none (.s 36)⟩,
       ⟨(some 38), none, .bin .add (.s 37) (.c (V.int .i64 1))⟩,
       ⟨(some 39), none, .bin .eql (.s 35) (.s 38)⟩,
       ⟨(some 40), none, .mv (.s 39)⟩,
       ⟨(some 41), (some (40, true)), .faddr 1 (.s 3)⟩,
       ⟨(some 42), (some (40, true)), .load none (.s 41)⟩,
       ⟨(some 43), (some (40, true)), .bin .eql (.s 42) (.c (V.int .i64 0))⟩,
       ⟨(some 44), none, .pick (.s 40) (.s 43) (.c (V.bool false))⟩,
       ⟨(some 33), none, .mv (.s 44)⟩]
     (.cond (.s 33)
     (.ops [⟨(some 4), none, .mv (.c (V.int .i64 2))⟩,
        ⟨(some 5), none, .mv (.c (V.bool true))⟩]
      (.ret))
     (.done))))))) [] [7, 8, 9, 10, 11, 12, 13, 14, 15, 16, 17, 18, 6, 4, 5, 20, 21, 22, 23, 24, 25, 26, 27, 28, 29, 30, 31, 32, 19, 4, 5, 34, 35, 36, 37, 38, 39, 40, 41, 42, 43, 44, 33, 4, 5]
  (.ops [⟨(some 4), none, .mv (.c (V.int .i64 0))⟩,
    ⟨(some 5), none, .mv (.c (V.bool false))⟩]
  (.ret)))⟩

noncomputable def f_depend_next (G : Sem') (t0 t1 : V) : M Res :=
  (mbox ty_depend_Template t0).bind fun t2 =>
  (mbox ty_depend_Template t1).bind fun t3 =>
  M.blk 0 (
    (M.lift (Ax.faddr 0 t3)).bind fun t7 =>
    (mload none t7).bind fun t8 =>
    (M.lift (Ax.faddr 0 t2)).bind fun t9 =>
    (mload none t9).bind fun t10 =>
    (M.lift (Ax.bin .eql t8 t10)).bind fun t11 =>
    (guarded [(0, t11)] (some (0, true)) (M.lift (Ax.faddr 1 t3))).bind fun t13 =>
    (guarded [(0, t11)] (some (0, true)) (mload none t13)).bind fun t14 =>
    (guarded [(0, t11)] (some (0, true)) (M.lift (Ax.faddr 1 t2))).bind fun t15 =>
    (guarded [(0, t11)] (some (0, true)) (mload none t15)).bind fun t16 =>
    (guarded [(0, t11)] (some (0, true)) (M.lift (Ax.bin .eql t14 t16))).bind fun t17 =>
    (M.lift (Ax.pick t11 t17 (V.bool false))).bind fun t18 =>
    M.ite t18
      (M.pure (.ret [(V.int .i64 0), (V.bool true)]))
      ((M.lift (Ax.faddr 0 t3)).bind fun t20 =>
      (mload none t20).bind fun t21 =>
      (M.lift (Ax.faddr 0 t2)).bind fun t22 =>
      (mload none t22).bind fun t23 =>
      (M.lift (Ax.bin .eql t21 t23)).bind fun t24 =>
      (guarded [(0, t24)] (some (0, true)) (M.lift (Ax.faddr 1 t3))).bind fun t26 =>
      (guarded [(0, t24)] (some (0, true)) (mload none t26)).bind fun t27 =>
      (guarded [(0, t24)] (some (0, true)) (M.lift (Ax.faddr 1 t2))).bind fun t28 =>
      (guarded [(0, t24)] (some (0, true)) (mload none t28)).bind fun t29 =>
      (guarded [(0, t24)] (some (0, true)) (M.lift (Ax.bin .add t29 (V.int .i64 1)))).bind fun t30 =>
      (guarded [(0, t24)] (some (0, true)) (M.lift (Ax.bin .eql t27 t30))).bind fun t31 =>
      (M.lift (Ax.pick t24 t31 (V.bool false))).bind fun t32 =>
      M.ite t32
        (M.pure (.ret [(V.int .i64 1), (V.bool true)]))
        ((M.lift (Ax.faddr 0 t3)).bind fun t34 =>
        (mload none t34).bind fun t35 =>
        (M.lift (Ax.faddr 0 t2)).bind fun t36 =>
        (mload none t36).bind fun t37 =>
        (M.lift (Ax.bin .add t37 (V.int .i64 1))).bind fun t38 =>
        (M.lift (Ax.bin .eql t35 t38)).bind fun t39 =>
        (guarded [(0, t39)] (some (0, true)) (M.lift (Ax.faddr 1 t3))).bind fun t41 =>
        (guarded [(0, t39)] (some (0, true)) (mload none t41)).bind fun t42 =>
        (guarded [(0, t39)] (some (0, true)) (M.lift (Ax.bin .eql t42 (V.int .i64 0)))).bind fun t43 =>
        (M.lift (Ax.pick t39 t43 (V.bool false))).bind fun t44 =>
        M.ite t44
          (M.pure (.ret [(V.int .i64 2), (V.bool true)]))
          (M.pure (.nrm []))))) fun _ =>
  M.pure (.ret [(V.int .i64 0), (V.bool false)])

theorem eq_depend_next (G : Sem') (t0 t1 : V) : execK G ir_depend_next.rv ir_depend_next.body [] [] (params 0 [t0, t1]) = f_depend_next G t0 t1 := by kernel_rfl

theorem tb_depend_next : T fn_depend_next = some ir_depend_next := by kernel_rfl

theorem ok_depend_next {t0 t1 : V} {H : Heap} {Q : V → Heap → Prop} (h : Ok (f_depend_next (sem T) t0 t1) H fun r H' => ∃ L, r = .ret L ∧ Q (tupled L) H') : Ok (sem T fn_depend_next [t0, t1]) H Q :=
  ok_sem tb_depend_next (Nat.le_of_ble_eq_true rfl) (eq_depend_next (sem T) t0 t1) h

/-- palanquin/depend.spatial. -/
def loop_depend_spatial_0 : C :=
  .ops [⟨(some 10), none, .bin .lss (.s 9) (.s 8)⟩]
  (.cond (.s 10)
  (.blk 1
   (.ops [⟨(some 11), none, .iaddr none 5 (.s 7) (.s 9)⟩,
      ⟨(some 12), none, .load (some 5) (.s 11)⟩,
      ⟨(some 5), none, .box ty_depend_Template (.c (V.agg [(V.int .i64 0), (V.int .i64 0), V.nils, V.nils, V.nils]))⟩,
      ⟨none, none, .store 5 (.s 5) (.s 12)⟩]
    (.ops [⟨(some 13), none, .mv (.s 3)⟩,
      ⟨(some 14), none, .faddr 0 (.s 5)⟩,
      ⟨(some 15), none, .load none (.s 14)⟩,
      ⟨(some 16), none, .bin .add (.s 15) (.c (V.int .i64 1))⟩,
      ⟨(some 17), none, .minmax true (.s 13) [(.s 16)]⟩,
      ⟨(some 3), none, .mv (.s 17)⟩]
    (.done))) [3] [11, 12, 5, 13, 14, 15, 16, 17, 3]
   (.ops [⟨(some 18), none, .bin .add (.s 9) (.c (V.int .i64 1))⟩,
     ⟨(some 9), none, .mv (.s 18)⟩]
   (.done)))
  (.exit 0))

def ir_depend_spatial : Fn' := ⟨20, [.tmp 2],
  .ops [⟨(some 1), none, .box ty_depend_Structure (.s 0)⟩,
    ⟨(some 2), none, .mv (.c (V.int .i64 0))⟩]
  (.ops [⟨(some 3), none, .mv (.c (V.int .i64 0))⟩]
  (.ops [⟨(some 6), none, .faddr 2 (.s 1)⟩,
    ⟨(some 7), none, .load none (.s 6)⟩,
    ⟨(some 8), none, .len (.s 7)⟩,
    ⟨(some 9), none, .mv (.c (V.int .i64 0))⟩]
  (.blk 0
  (.loop loop_depend_spatial_0 [3, 9] [10, 11, 12, 5, 13, 14, 15, 16, 17, 3, 18, 9]) [3] [10, 11, 12, 5, 13, 14, 15, 16, 17, 3, 18, 9]
  (.ops [⟨(some 19), none, .mv (.s 3)⟩,
    ⟨(some 2), none, .mv (.s 19)⟩]
  (.ret)))))⟩

noncomputable def f_depend_spatial_0 (G : Sem') (t8 t7 t2 : V) (L : List V) : M Res :=
  (M.lift (Ax.bin .lss (L.getD 1 .undef) t8)).bind fun t10 =>
  M.ite t10
    (M.blk 1 (
      (M.lift (Ax.iaddr none 5 t7 (L.getD 1 .undef))).bind fun t11 =>
      (mload (some 5) t11).bind fun t12 =>
      (mbox ty_depend_Template (V.agg [(V.int .i64 0), (V.int .i64 0), V.nils, V.nils, V.nils])).bind fun t5 =>
      (mstore 5 t5 t12).bind fun _ =>
      (M.lift (Ax.faddr 0 t5)).bind fun t14 =>
      (mload none t14).bind fun t15 =>
      (M.lift (Ax.bin .add t15 (V.int .i64 1))).bind fun t16 =>
      (M.lift (Ax.minmax true (L.getD 0 .undef) [t16])).bind fun t17 =>
      M.pure (.nrm [t17])) fun L0 =>
    (M.lift (Ax.bin .add (L.getD 1 .undef) (V.int .i64 1))).bind fun t18 =>
    M.pure (.nrm [(L0.getD 0 .undef), t18]))
    (M.pure (.ex 0 [(L.getD 0 .undef)]))

noncomputable def f_depend_spatial (G : Sem') (t0 : V) : M Res :=
  (mbox ty_depend_Structure t0).bind fun t1 =>
  (M.lift (Ax.faddr 2 t1)).bind fun t6 =>
  (mload none t6).bind fun t7 =>
  (M.lift (vlen t7)).bind fun t8 =>
  M.blk 0 (
    M.iter (f_depend_spatial_0 G t8 t7 (V.int .i64 0)) [(V.int .i64 0), (V.int .i64 0)]) fun L1 =>
  M.pure (.ret [(L1.getD 0 .undef)])

theorem eq_depend_spatial (G : Sem') (t0 : V) : execK G ir_depend_spatial.rv ir_depend_spatial.body [] [] (params 0 [t0]) = f_depend_spatial G t0 := by kernel_rfl

theorem tb_depend_spatial : T fn_depend_spatial = some ir_depend_spatial := by kernel_rfl

theorem ok_depend_spatial {t0 : V} {H : Heap} {Q : V → Heap → Prop} (h : Ok (f_depend_spatial (sem T) t0) H fun r H' => ∃ L, r = .ret L ∧ Q (tupled L) H') : Ok (sem T fn_depend_spatial [t0]) H Q :=
  ok_sem tb_depend_spatial (Nat.le_of_ble_eq_true rfl) (eq_depend_spatial (sem T) t0) h

/-- palanquin/depend.Fine$1. -/
def ir_depend_Fine_1 : Fn' := ⟨8, [.tmp 3],
  .ops [⟨(some 2), none, .box ty_depend_Template (.s 0)⟩,
    ⟨(some 3), none, .mv (.c (V.bool false))⟩]
  (.ops [⟨(some 4), none, .load (some 6) (.s 1)⟩,
    ⟨(some 5), none, .load (some 5) (.s 2)⟩,
    ⟨(some 6), none, .call fn_depend_Structure_fine [(.s 4), (.s 5)]⟩,
    ⟨(some 7), none, .un .not (.s 6)⟩,
    ⟨(some 3), none, .mv (.s 7)⟩]
  (.ret))⟩

noncomputable def f_depend_Fine_1 (G : Sem') (t0 t1 : V) : M Res :=
  (mbox ty_depend_Template t0).bind fun t2 =>
  (mload (some 6) t1).bind fun t4 =>
  (mload (some 5) t2).bind fun t5 =>
  (G fn_depend_Structure_fine [t4, t5]).bind fun t6 =>
  (M.lift (Ax.un .not t6)).bind fun t7 =>
  M.pure (.ret [t7])

theorem eq_depend_Fine_1 (G : Sem') (t0 t1 : V) : execK G ir_depend_Fine_1.rv ir_depend_Fine_1.body [] [] (params 0 [t0, t1]) = f_depend_Fine_1 G t0 t1 := by kernel_rfl

theorem tb_depend_Fine_1 : T fn_depend_Fine_1 = some ir_depend_Fine_1 := by kernel_rfl

theorem ok_depend_Fine_1 {t0 t1 : V} {H : Heap} {Q : V → Heap → Prop} (h : Ok (f_depend_Fine_1 (sem T) t0 t1) H fun r H' => ∃ L, r = .ret L ∧ Q (tupled L) H') : Ok (sem T fn_depend_Fine_1 [t0, t1]) H Q :=
  ok_sem tb_depend_Fine_1 (Nat.le_of_ble_eq_true rfl) (eq_depend_Fine_1 (sem T) t0 t1) h

/-- (palanquin/depend.Structure).fine. -/
def ir_depend_Structure_fine : Fn' := ⟨22, [.tmp 4],
  .ops [⟨(some 2), none, .box ty_depend_Structure (.s 0)⟩,
    ⟨(some 3), none, .box ty_depend_Template (.s 1)⟩,
    ⟨(some 4), none, .mv (.c (V.bool false))⟩]
  (.ops [⟨(some 5), none, .faddr 2 (.s 3)⟩,
    ⟨(some 6), none, .load none (.s 5)⟩,
    ⟨(some 7), none, .faddr 1 (.s 2)⟩,
    ⟨(some 8), none, .load none (.s 7)⟩,
    ⟨(some 9), none, .call fn_depend_within [(.s 6), (.s 8), (.c (V.int .i64 0)), (.c (V.int .i64 3))]⟩,
    ⟨(some 10), none, .mv (.s 9)⟩,
    ⟨(some 11), (some (10, true)), .faddr 3 (.s 3)⟩,
    ⟨(some 12), (some (10, true)), .load none (.s 11)⟩,
    ⟨(some 13), (some (10, true)), .call fn_depend_diffs [(.s 12), (.c (V.int .i64 8)), (.c (V.int .i64 16))]⟩,
    ⟨(some 14), none, .pick (.s 10) (.s 13) (.c (V.bool false))⟩,
    ⟨(some 15), none, .mv (.s 14)⟩,
    ⟨(some 16), (some (15, true)), .faddr 4 (.s 3)⟩,
    ⟨(some 17), (some (15, true)), .load none (.s 16)⟩,
    ⟨(some 18), (some (15, true)), .faddr 3 (.s 2)⟩,
    ⟨(some 19), (some (15, true)), .load none (.s 18)⟩,
    ⟨(some 20), (some (15, true)), .call fn_depend_within [(.s 17), (.s 19), (.c (V.int .i64 0)), (.c (V.int .i64 15))]⟩,
    ⟨(some 21), none, .pick (.s 15) (.s 20) (.c (V.bool false))⟩,
    ⟨(some 4), none, .mv (.s 21)⟩]
  (.ret))⟩

noncomputable def f_depend_Structure_fine (G : Sem') (t0 t1 : V) : M Res :=
  (mbox ty_depend_Structure t0).bind fun t2 =>
  (mbox ty_depend_Template t1).bind fun t3 =>
  (M.lift (Ax.faddr 2 t3)).bind fun t5 =>
  (mload none t5).bind fun t6 =>
  (M.lift (Ax.faddr 1 t2)).bind fun t7 =>
  (mload none t7).bind fun t8 =>
  (G fn_depend_within [t6, t8, (V.int .i64 0), (V.int .i64 3)]).bind fun t9 =>
  (guarded [(0, t9)] (some (0, true)) (M.lift (Ax.faddr 3 t3))).bind fun t11 =>
  (guarded [(0, t9)] (some (0, true)) (mload none t11)).bind fun t12 =>
  (guarded [(0, t9)] (some (0, true)) (G fn_depend_diffs [t12, (V.int .i64 8), (V.int .i64 16)])).bind fun t13 =>
  (M.lift (Ax.pick t9 t13 (V.bool false))).bind fun t14 =>
  (guarded [(0, t14)] (some (0, true)) (M.lift (Ax.faddr 4 t3))).bind fun t16 =>
  (guarded [(0, t14)] (some (0, true)) (mload none t16)).bind fun t17 =>
  (guarded [(0, t14)] (some (0, true)) (M.lift (Ax.faddr 3 t2))).bind fun t18 =>
  (guarded [(0, t14)] (some (0, true)) (mload none t18)).bind fun t19 =>
  (guarded [(0, t14)] (some (0, true)) (G fn_depend_within [t17, t19, (V.int .i64 0), (V.int .i64 15)])).bind fun t20 =>
  (M.lift (Ax.pick t14 t20 (V.bool false))).bind fun t21 =>
  M.pure (.ret [t21])

theorem eq_depend_Structure_fine (G : Sem') (t0 t1 : V) : execK G ir_depend_Structure_fine.rv ir_depend_Structure_fine.body [] [] (params 0 [t0, t1]) = f_depend_Structure_fine G t0 t1 := by kernel_rfl

theorem tb_depend_Structure_fine : T fn_depend_Structure_fine = some ir_depend_Structure_fine := by kernel_rfl

theorem ok_depend_Structure_fine {t0 t1 : V} {H : Heap} {Q : V → Heap → Prop} (h : Ok (f_depend_Structure_fine (sem T) t0 t1) H fun r H' => ∃ L, r = .ret L ∧ Q (tupled L) H') : Ok (sem T fn_depend_Structure_fine [t0, t1]) H Q :=
  ok_sem tb_depend_Structure_fine (Nat.le_of_ble_eq_true rfl) (eq_depend_Structure_fine (sem T) t0 t1) h

/-- palanquin/depend.diffs. -/
def ir_depend_diffs : Fn' := ⟨18, [.tmp 6],
  .ops [⟨(some 6), none, .mv (.c (V.bool false))⟩]
  (.ops [⟨(some 7), none, .mv (.s 0)⟩,
    ⟨(some 8), none, .len (.s 7)⟩,
    ⟨(some 9), none, .mv (.s 1)⟩,
    ⟨(some 10), none, .bin .leq (.s 8) (.s 9)⟩,
    ⟨(some 11), none, .mv (.s 10)⟩,
    ⟨(some 12), (some (11, true)), .mv (.s 0)⟩,
    ⟨(some 13), (some (11, true)), .mv (.s 0)⟩,
    ⟨(some 14), (some (11, true)), .len (.s 13)⟩,
    ⟨(some 15), (some (11, true)), .mv (.s 2)⟩,
    ⟨(some 16), (some (11, true)), .call fn_depend_within [(.s 12), (.s 14), (.c (V.int .i64 1)), (.s 15)]⟩,
    ⟨(some 17), none, .pick (.s 11) (.s 16) (.c (V.bool false))⟩,
    ⟨(some 6), none, .mv (.s 17)⟩]
  (.ret))⟩

noncomputable def f_depend_diffs (G : Sem') (t0 t1 t2 : V) : M Res :=
  (M.lift (vlen t0)).bind fun t8 =>
  (M.lift (Ax.bin .leq t8 t1)).bind fun t10 =>
  (guarded [(0, t10)] (some (0, true)) (M.pure t0)).bind fun t12 =>
  (guarded [(0, t10)] (some (0, true)) (M.pure t0)).bind fun t13 =>
  (guarded [(0, t10)] (some (0, true)) (M.lift (vlen t13))).bind fun t14 =>
  (guarded [(0, t10)] (some (0, true)) (M.pure t2)).bind fun t15 =>
  (guarded [(0, t10)] (some (0, true)) (G fn_depend_within [t12, t14, (V.int .i64 1), t15])).bind fun t16 =>
  (M.lift (Ax.pick t10 t16 (V.bool false))).bind fun t17 =>
  M.pure (.ret [t17])

theorem eq_depend_diffs (G : Sem') (t0 t1 t2 : V) : execK G ir_depend_diffs.rv ir_depend_diffs.body [] [] (params 0 [t0, t1, t2]) = f_depend_diffs G t0 t1 t2 := by kernel_rfl

theorem tb_depend_diffs : T fn_depend_diffs = some ir_depend_diffs := by kernel_rfl

theorem ok_depend_diffs {t0 t1 t2 : V} {H : Heap} {Q : V → Heap → Prop} (h : Ok (f_depend_diffs (sem T) t0 t1 t2) H fun r H' => ∃ L, r = .ret L ∧ Q (tupled L) H') : Ok (sem T fn_depend_diffs [t0, t1, t2]) H Q :=
  ok_sem tb_depend_diffs (Nat.le_of_ble_eq_true rfl) (eq_depend_diffs (sem T) t0 t1 t2) h

/-- slices.ContainsFunc[[]palanquin/depend.Template,palanquin/depend.Template]. -/
def ir_slices_ContainsFunc_depend_Template_depend_Template : Fn' := ⟨9, [.tmp 4],
  .ops [⟨(some 4), none, .mv (.c (V.bool false))⟩]
  (.ops [⟨(some 5), none, .mv (.s 0)⟩,
    ⟨(some 6), none, .mv (.s 1)⟩,
    ⟨(some 7), none, .call fn_slices_IndexFunc_depend_Template_depend_Template [(.s 5), (.s 6)]⟩,
    ⟨(some 8), none, .bin .geq (.s 7) (.c (V.int .i64 0))⟩,
    ⟨(some 4), none, .mv (.s 8)⟩]
  (.ret))⟩

noncomputable def f_slices_ContainsFunc_depend_Template_depend_Template (G : Sem') (t0 t1 : V) : M Res :=
  (G fn_slices_IndexFunc_depend_Template_depend_Template [t0, t1]).bind fun t7 =>
  (M.lift (Ax.bin .geq t7 (V.int .i64 0))).bind fun t8 =>
  M.pure (.ret [t8])

theorem eq_slices_ContainsFunc_depend_Template_depend_Template (G : Sem') (t0 t1 : V) : execK G ir_slices_ContainsFunc_depend_Template_depend_Template.rv ir_slices_ContainsFunc_depend_Template_depend_Template.body [] [] (params 0 [t0, t1]) = f_slices_ContainsFunc_depend_Template_depend_Template G t0 t1 := by kernel_rfl

theorem tb_slices_ContainsFunc_depend_Template_depend_Template : T fn_slices_ContainsFunc_depend_Template_depend_Template = some ir_slices_ContainsFunc_depend_Template_depend_Template := by kernel_rfl

theorem ok_slices_ContainsFunc_depend_Template_depend_Template {t0 t1 : V} {H : Heap} {Q : V → Heap → Prop} (h : Ok (f_slices_ContainsFunc_depend_Template_depend_Template (sem T) t0 t1) H fun r H' => ∃ L, r = .ret L ∧ Q (tupled L) H') : Ok (sem T fn_slices_ContainsFunc_depend_Template_depend_Template [t0, t1]) H Q :=
  ok_sem tb_slices_ContainsFunc_depend_Template_depend_Template (Nat.le_of_ble_eq_true rfl) (eq_slices_ContainsFunc_depend_Template_depend_Template (sem T) t0 t1) h

/-- slices.IndexFunc[[]palanquin/depend.Template,palanquin/depend.Template]. -/
def loop_slices_IndexFunc_depend_Template_depend_Template_0 : C :=
  .ops [⟨(some 9), none, .bin .lss (.s 8) (.s 7)⟩]
  (.cond (.s 9)
  (.blk 1
   (.ops [⟨(some 10), none, .mv (.s 8)⟩,
      ⟨(some 5), none, .mv (.s 10)⟩]
    (.ops [⟨(some 11), none, .mv (.s 1)⟩,
      ⟨(some 12), none, .mv (.s 0)⟩,
      ⟨(some 13), none, .mv (.s 5)⟩,
      ⟨(some 14), none, .iaddr none 5 (.s 12) (.s 13)⟩,
      ⟨(some 15), none, .load (some 5) (.s 14)⟩,
      ⟨(some 16), none, .callv (.s 11) [(.s 15)]⟩]
    (.cond (.s 16)
    (.ops [⟨(some 17), none, .mv (.s 5)⟩,
       ⟨(some 4), none, .mv (.s 17)⟩]
     (.ret))
    (.done)))) [] [10, 5, 11, 12, 13, 14, 15, 16, 17, 4]
   (.ops [⟨(some 18), none, .bin .add (.s 8) (.c (V.int .i64 1))⟩,
     ⟨(some 8), none, .mv (.s 18)⟩]
   (.done)))
  (.exit 0))

def ir_slices_IndexFunc_depend_Template_depend_Template : Fn' := ⟨19, [.tmp 4],
  .ops [⟨(some 4), none, .mv (.c (V.int .i64 0))⟩]
  (.ops [⟨(some 6), none, .mv (.s 0)⟩,
    ⟨(some 7), none, .len (.s 6)⟩,
    ⟨(some 8), none, .mv (.c (V.int .i64 0))⟩]
  (.blk 0
  (.loop loop_slices_IndexFunc_depend_Template_depend_Template_0 [8] [9, 10, 5, 11, 12, 13, 14, 15, 16, 17, 4, 18, 8]) [] [9, 10, 5, 11, 12, 13, 14, 15, 16, 17, 4, 18, 8]
  (.ops [⟨(some 4), none, .mv (.c (V.int .i64 (-1)))⟩]
  (.ret))))⟩

noncomputable def f_slices_IndexFunc_depend_Template_depend_Template_0 (G : Sem') (t7 t1 t0 : V) (L : List V) : M Res :=
  (M.lift (Ax.bin .lss (L.getD 0 .undef) t7)).bind fun t9 =>
  M.ite t9
    (M.blk 1 (
      (M.lift (Ax.iaddr none 5 t0 (L.getD 0 .undef))).bind fun t14 =>
      (mload (some 5) t14).bind fun t15 =>
      (callv G t1 [t15]).bind fun t16 =>
      M.ite t16
        (M.pure (.ret [(L.getD 0 .undef)]))
        (M.pure (.nrm []))) fun _ =>
    (M.lift (Ax.bin .add (L.getD 0 .undef) (V.int .i64 1))).bind fun t18 =>
    M.pure (.nrm [t18]))
    (M.pure (.ex 0 []))

noncomputable def f_slices_IndexFunc_depend_Template_depend_Template (G : Sem') (t0 t1 : V) : M Res :=
  (M.lift (vlen t0)).bind fun t7 =>
  M.blk 0 (
    M.iter (f_slices_IndexFunc_depend_Template_depend_Template_0 G t7 t1 t0) [(V.int .i64 0)]) fun _ =>
  M.pure (.ret [(V.int .i64 (-1))])

theorem eq_slices_IndexFunc_depend_Template_depend_Template (G : Sem') (t0 t1 : V) : execK G ir_slices_IndexFunc_depend_Template_depend_Template.rv ir_slices_IndexFunc_depend_Template_depend_Template.body [] [] (params 0 [t0, t1]) = f_slices_IndexFunc_depend_Template_depend_Template G t0 t1 := by kernel_rfl

theorem tb_slices_IndexFunc_depend_Template_depend_Template : T fn_slices_IndexFunc_depend_Template_depend_Template = some ir_slices_IndexFunc_depend_Template_depend_Template := by kernel_rfl

theorem ok_slices_IndexFunc_depend_Template_depend_Template {t0 t1 : V} {H : Heap} {Q : V → Heap → Prop} (h : Ok (f_slices_IndexFunc_depend_Template_depend_Template (sem T) t0 t1) H fun r H' => ∃ L, r = .ret L ∧ Q (tupled L) H') : Ok (sem T fn_slices_IndexFunc_depend_Template_depend_Template [t0, t1]) H Q :=
  ok_sem tb_slices_IndexFunc_depend_Template_depend_Template (Nat.le_of_ble_eq_true rfl) (eq_slices_IndexFunc_depend_Template_depend_Template (sem T) t0 t1) h

/-- palanquin/depend.Layers. -/
def loop_depend_Layers_0 : C :=
  .ops [⟨(some 26), none, .bin .lss (.s 25) (.s 24)⟩]
  (.cond (.s 26)
  (.blk 1
   (.ops [⟨(some 27), none, .iaddr none 5 (.s 23) (.s 25)⟩,
      ⟨(some 28), none, .load (some 5) (.s 27)⟩,
      ⟨(some 8), none, .box ty_depend_Template (.c (V.agg [(V.int .i64 0), (V.int .i64 0), V.nils, V.nils, V.nils]))⟩,
      ⟨none, none, .store 5 (.s 8) (.s 28)⟩]
    (.ops [⟨(some 29), none, .faddr 2 (.s 8)⟩,
      ⟨(some 30), none, .load none (.s 29)⟩,
      ⟨(some 31), none, .mv (.s 1)⟩,
      ⟨(some 32), none, .iaddr none 1 (.s 30) (.s 31)⟩,
      ⟨(some 33), none, .load none (.s 32)⟩,
      ⟨(some 34), none, .bin .neq (.s 33) (.c (V.int .i64 0))⟩]
    (.condJ (.s 34)
    (.draw [⟨(some 35), none, .mv (.s 4)⟩,
       ⟨(some 36), none, .faddr 0 (.s 8)⟩,
       ⟨(some 37), none, .load none (.s 36)⟩,
       ⟨(some 38), none, .minmax true (.s 35) [(.s 37)]⟩,
       ⟨(some 39), none, .mv (.s 5)⟩,
       ⟨(some 40), none, .faddr 1 (.s 8)⟩,
       ⟨(some 41), none, .load none (.s 40)⟩,
       ⟨(some 42), none, .minmax true (.s 39) [(.s 41)]⟩,
       ⟨(some 4), none, .mv (.s 38)⟩,
       ⟨(some 5), none, .mv (.s 42)⟩,
       ⟨(some 6), none, .mv (.c (V.bool true))⟩] []
     (.done))
    (.done) [4, 5, 6] [35, 36, 37, 38, 39, 40, 41, 42, 4, 5, 6]
    (.done)))) [4, 5, 6] [27, 28, 8, 29, 30, 31, 32, 33, 34, 35, 36, 37, 38, 39, 40, 41, 42, 4, 5, 6]
   (.ops [⟨(some 43), none, .bin .add (.s 25) (.c (V.int .i64 1))⟩,
     ⟨(some 25), none, .mv (.s 43)⟩]
   (.done)))
  (.exit 0))

def ir_depend_Layers : Fn' := ⟨47, [.tmp 4, .tmp 5, .tmp 6],
  .ops [⟨(some 2), none, .box ty_depend_Structure (.s 0)⟩,
    ⟨(some 4), none, .mv (.c (V.int .i64 0))⟩,
    ⟨(some 5), none, .mv (.c (V.int .i64 0))⟩,
    ⟨(some 6), none, .mv (.c (V.bool false))⟩]
  (.ops [⟨(some 9), none, .load (some 6) (.s 2)⟩,
    ⟨(some 10), none, .call fn_depend_Fine [(.s 9)]⟩,
    ⟨(some 11), none, .un .not (.s 10)⟩,
    ⟨(some 12), none, .mv (.s 11)⟩,
    ⟨(some 13), (some (12, false)), .mv (.s 1)⟩,
    ⟨(some 14), (some (12, false)), .bin .lss (.s 13) (.c (V.int .i64 0))⟩,
    ⟨(some 15), none, .pick (.s 12) (.c (V.bool true)) (.s 14)⟩,
    ⟨(some 16), none, .mv (.s 15)⟩,
    ⟨(some 17), (some (16, false)), .mv (.s 1)⟩,
    ⟨(some 18), (some (16, false)), .faddr 1 (.s 2)⟩,
    ⟨(some 19), (some (16, false)), .load none (.s 18)⟩,
    ⟨(some 20), (some (16, false)), .bin .geq (.s 17) (.s 19)⟩,
    ⟨(some 21), none, .pick (.s 16) (.c (V.bool true)) (.s 20)⟩]
  (.cond (.s 21)
  (.ops [⟨(some 4), none, .mv (.c (V.int .i64 0))⟩,
     ⟨(some 5), none, .mv (.c (V.int .i64 0))⟩,
     ⟨(some 6), none, .mv (.c (V.bool false))⟩]
   (.ret))
  (.ops [⟨(some 22), none, .faddr 2 (.s 2)⟩,
     ⟨(some 23), none, .load none (.s 22)⟩,
     ⟨(some 24), none, .len (.s 23)⟩,
     ⟨(some 25), none, .mv (.c (V.int .i64 0))⟩]
   (.blk 0
   (.loop loop_depend_Layers_0 [4, 5, 6, 25] [26, 27, 28, 8, 29, 30, 31, 32, 33, 34, 35, 36, 37, 38, 39, 40, 41, 42, 4, 5, 6, 43, 25]) [4, 5, 6] [26, 27, 28, 8, 29, 30, 31, 32, 33, 34, 35, 36, 37, 38, 39, 40, 41, 42, 4, 5, 6, 43, 25]
   (.ops [⟨(some 44), none, .mv (.s 4)⟩,
     ⟨(some 45), none, .mv (.s 5)⟩,
     ⟨(some 46), none, .mv (.s 6)⟩,
     ⟨(some 4), none, .mv (.s 44)⟩,
     ⟨(some 5), none, .mv (.s 45)⟩,
     ⟨(some 6), none, .mv (.s 46)⟩]
   (.ret))))))⟩

noncomputable def f_depend_Layers_0 (G : Sem') (t24 t23 t1 : V) (L : List V) : M Res :=
  (M.lift (Ax.bin .lss (L.getD 3 .undef) t24)).bind fun t26 =>
  M.ite t26
    (M.blk 1 (
      (M.lift (Ax.iaddr none 5 t23 (L.getD 3 .undef))).bind fun t27 =>
      (mload (some 5) t27).bind fun t28 =>
      (mbox ty_depend_Template (V.agg [(V.int .i64 0), (V.int .i64 0), V.nils, V.nils, V.nils])).bind fun t8 =>
      (mstore 5 t8 t28).bind fun _ =>
      (M.lift (Ax.faddr 2 t8)).bind fun t29 =>
      (mload none t29).bind fun t30 =>
      (M.lift (Ax.iaddr none 1 t30 t1)).bind fun t32 =>
      (mload none t32).bind fun t33 =>
      (M.lift (Ax.bin .neq t33 (V.int .i64 0))).bind fun t34 =>
      M.join (M.ite t34
        ((M.lift (Ax.faddr 0 t8)).bind fun t36 =>
        (mload none t36).bind fun t37 =>
        (M.lift (Ax.minmax true (L.getD 0 .undef) [t37])).bind fun t38 =>
        (M.lift (Ax.faddr 1 t8)).bind fun t40 =>
        (mload none t40).bind fun t41 =>
        (M.lift (Ax.minmax true (L.getD 1 .undef) [t41])).bind fun t42 =>
        M.pure (.nrm [t38, t42, (V.bool true)]))
        (M.pure (.nrm [(L.getD 0 .undef), (L.getD 1 .undef), (L.getD 2 .undef)]))) fun L0 =>
      M.pure (.nrm [(L0.getD 0 .undef), (L0.getD 1 .undef), (L0.getD 2 .undef)])) fun L1 =>
    (M.lift (Ax.bin .add (L.getD 3 .undef) (V.int .i64 1))).bind fun t43 =>
    M.pure (.nrm [(L1.getD 0 .undef), (L1.getD 1 .undef), (L1.getD 2 .undef), t43]))
    (M.pure (.ex 0 [(L.getD 0 .undef), (L.getD 1 .undef), (L.getD 2 .undef)]))

noncomputable def f_depend_Layers (G : Sem') (t0 t1 : V) : M Res :=
  (mbox ty_depend_Structure t0).bind fun t2 =>
  (mload (some 6) t2).bind fun t9 =>
  (G fn_depend_Fine [t9]).bind fun t10 =>
  (M.lift (Ax.un .not t10)).bind fun t11 =>
  (guarded [(0, t11)] (some (0, false)) (M.pure t1)).bind fun t13 =>
  (guarded [(0, t11)] (some (0, false)) (M.lift (Ax.bin .lss t13 (V.int .i64 0)))).bind fun t14 =>
  (M.lift (Ax.pick t11 (V.bool true) t14)).bind fun t15 =>
  (guarded [(0, t15)] (some (0, false)) (M.pure t1)).bind fun t17 =>
  (guarded [(0, t15)] (some (0, false)) (M.lift (Ax.faddr 1 t2))).bind fun t18 =>
  (guarded [(0, t15)] (some (0, false)) (mload none t18)).bind fun t19 =>
  (guarded [(0, t15)] (some (0, false)) (M.lift (Ax.bin .geq t17 t19))).bind fun t20 =>
  (M.lift (Ax.pick t15 (V.bool true) t20)).bind fun t21 =>
  M.ite t21
    (M.pure (.ret [(V.int .i64 0), (V.int .i64 0), (V.bool false)]))
    ((M.lift (Ax.faddr 2 t2)).bind fun t22 =>
    (mload none t22).bind fun t23 =>
    (M.lift (vlen t23)).bind fun t24 =>
    M.blk 0 (
      M.iter (f_depend_Layers_0 G t24 t23 t1) [(V.int .i64 0), (V.int .i64 0), (V.bool false), (V.int .i64 0)]) fun L2 =>
    M.pure (.ret [(L2.getD 0 .undef), (L2.getD 1 .undef), (L2.getD 2 .undef)]))

theorem eq_depend_Layers (G : Sem') (t0 t1 : V) : execK G ir_depend_Layers.rv ir_depend_Layers.body [] [] (params 0 [t0, t1]) = f_depend_Layers G t0 t1 := by kernel_rfl

theorem tb_depend_Layers : T fn_depend_Layers = some ir_depend_Layers := by kernel_rfl

theorem ok_depend_Layers {t0 t1 : V} {H : Heap} {Q : V → Heap → Prop} (h : Ok (f_depend_Layers (sem T) t0 t1) H fun r H' => ∃ L, r = .ret L ∧ Q (tupled L) H') : Ok (sem T fn_depend_Layers [t0, t1]) H Q :=
  ok_sem tb_depend_Layers (Nat.le_of_ble_eq_true rfl) (eq_depend_Layers (sem T) t0 t1) h

/-- palanquin/pick.Source. -/
def loop_pick_Source_0 : C :=
  .ops [⟨(some 12), none, .bin .lss (.s 11) (.s 10)⟩]
  (.cond (.s 12)
  (.blk 1
   (.ops [⟨(some 13), none, .mv (.s 11)⟩,
      ⟨(some 14), none, .iaddr none 1 (.s 9) (.s 11)⟩,
      ⟨(some 15), none, .load none (.s 14)⟩,
      ⟨(some 7), none, .mv (.s 13)⟩,
      ⟨(some 8), none, .mv (.s 15)⟩]
    (.ops [⟨(some 16), none, .mv (.s 8)⟩,
      ⟨(some 17), none, .bin .lss (.s 16) (.c (V.int .i64 0))⟩]
    (.cond (.s 17)
    (.exit 1)
    (.ops [⟨(some 18), none, .mv (.s 6)⟩,
       ⟨(some 19), none, .bin .lss (.s 18) (.c (V.int .i64 0))⟩]
     (.condJ (.s 19)
     (.ops [⟨(some 20), none, .mv (.s 7)⟩,
        ⟨(some 6), none, .mv (.s 20)⟩]
      (.done))
     (.done) [6] [20, 6]
     (.ops [⟨(some 21), none, .mv (.s 8)⟩,
       ⟨(some 22), none, .cint .u64 (.s 21)⟩,
       ⟨(some 23), none, .mv (.s 0)⟩,
       ⟨(some 24), none, .bin .quo (.s 23) (.c (V.int .u64 10000))⟩,
       ⟨(some 25), none, .bin .leq (.s 22) (.s 24)⟩]
     (.condJ (.s 25)
     (.ops [⟨(some 26), none, .mv (.s 7)⟩,
        ⟨(some 5), none, .mv (.s 26)⟩]
      (.done))
     (.done) [5] [26, 5]
     (.done)))))))) [5, 6] [13, 14, 15, 7, 8, 16, 17, 18, 19, 20, 6, 21, 22, 23, 24, 25, 26, 5]
   (.ops [⟨(some 27), none, .bin .add (.s 11) (.c (V.int .i64 1))⟩,
     ⟨(some 11), none, .mv (.s 27)⟩]
   (.done)))
  (.exit 0))

def ir_pick_Source : Fn' := ⟨31, [.tmp 4],
  .ops [⟨(some 4), none, .mv (.c (V.int .i64 0))⟩]
  (.ops [⟨(some 5), none, .mv (.c (V.int .i64 (-1)))⟩,
    ⟨(some 6), none, .mv (.c (V.int .i64 (-1)))⟩]
  (.ops [⟨(some 9), none, .mv (.s 1)⟩,
    ⟨(some 10), none, .len (.s 9)⟩,
    ⟨(some 11), none, .mv (.c (V.int .i64 0))⟩]
  (.blk 0
  (.loop loop_pick_Source_0 [5, 6, 11] [12, 13, 14, 15, 7, 8, 16, 17, 18, 19, 20, 6, 21, 22, 23, 24, 25, 26, 5, 27, 11]) [5, 6] [12, 13, 14, 15, 7, 8, 16, 17, 18, 19, 20, 6, 21, 22, 23, 24, 25, 26, 5, 27, 11]
  (.ops [⟨(some 28), none, .mv (.s 5)⟩,
    ⟨(some 29), none, .mv (.s 6)⟩,
    ⟨(some 30), none, .minmax true (.s 28) [(.s 29), (.c (V.int .i64 0))]⟩,
    ⟨(some 4), none, .mv (.s 30)⟩]
  (.ret)))))⟩

noncomputable def f_pick_Source_0 (G : Sem') (t10 t9 t0 t4 : V) (L : List V) : M Res :=
  (M.lift (Ax.bin .lss (L.getD 2 .undef) t10)).bind fun t12 =>
  M.ite t12
    (M.blk 1 (
      (M.lift (Ax.iaddr none 1 t9 (L.getD 2 .undef))).bind fun t14 =>
      (mload none t14).bind fun t15 =>
      (M.lift (Ax.bin .lss t15 (V.int .i64 0))).bind fun t17 =>
      M.ite t17
        (M.pure (.ex 1 [(L.getD 0 .undef), (L.getD 1 .undef)]))
        ((M.lift (Ax.bin .lss (L.getD 1 .undef) (V.int .i64 0))).bind fun t19 =>
        M.join (M.ite t19
          (M.pure (.nrm [(L.getD 2 .undef)]))
          (M.pure (.nrm [(L.getD 1 .undef)]))) fun L0 =>
        (M.lift (Ax.cint .u64 t15)).bind fun t22 =>
        (M.lift (Ax.bin .quo t0 (V.int .u64 10000))).bind fun t24 =>
        (M.lift (Ax.bin .leq t22 t24)).bind fun t25 =>
        M.join (M.ite t25
          (M.pure (.nrm [(L.getD 2 .undef)]))
          (M.pure (.nrm [(L.getD 0 .undef)]))) fun L1 =>
        M.pure (.nrm [(L1.getD 0 .undef), (L0.getD 0 .undef)]))) fun L2 =>
    (M.lift (Ax.bin .add (L.getD 2 .undef) (V.int .i64 1))).bind fun t27 =>
    M.pure (.nrm [(L2.getD 0 .undef), (L2.getD 1 .undef), t27]))
    (M.pure (.ex 0 [(L.getD 0 .undef), (L.getD 1 .undef)]))

noncomputable def f_pick_Source (G : Sem') (t0 t1 : V) : M Res :=
  (M.lift (vlen t1)).bind fun t10 =>
  M.blk 0 (
    M.iter (f_pick_Source_0 G t10 t1 t0 (V.int .i64 0)) [(V.int .i64 (-1)), (V.int .i64 (-1)), (V.int .i64 0)]) fun L3 =>
  (M.lift (Ax.minmax true (L3.getD 0 .undef) [(L3.getD 1 .undef), (V.int .i64 0)])).bind fun t30 =>
  M.pure (.ret [t30])

theorem eq_pick_Source (G : Sem') (t0 t1 : V) : execK G ir_pick_Source.rv ir_pick_Source.body [] [] (params 0 [t0, t1]) = f_pick_Source G t0 t1 := by kernel_rfl

theorem tb_pick_Source : T fn_pick_Source = some ir_pick_Source := by kernel_rfl

theorem ok_pick_Source {t0 t1 : V} {H : Heap} {Q : V → Heap → Prop} (h : Ok (f_pick_Source (sem T) t0 t1) H fun r H' => ∃ L, r = .ret L ∧ Q (tupled L) H') : Ok (sem T fn_pick_Source [t0, t1]) H Q :=
  ok_sem tb_pick_Source (Nat.le_of_ble_eq_true rfl) (eq_pick_Source (sem T) t0 t1) h

/-- palanquin/pick.In. -/
def ir_pick_In : Fn' := ⟨22, [.tmp 4],
  .ops [⟨(some 2), none, .box ty_depend_Frame (.s 0)⟩,
    ⟨(some 4), none, .mv (.c (V.bool false))⟩]
  (.ops [⟨(some 5), none, .mv (.s 1)⟩,
    ⟨(some 6), none, .bin .geq (.s 5) (.c (V.int .i64 0))⟩,
    ⟨(some 7), none, .mv (.s 6)⟩,
    ⟨(some 8), (some (7, true)), .mv (.s 1)⟩,
    ⟨(some 9), (some (7, true)), .faddr 16 (.s 2)⟩,
    ⟨(some 10), (some (7, true)), .load none (.s 9)⟩,
    ⟨(some 11), (some (7, true)), .len (.s 10)⟩,
    ⟨(some 12), (some (7, true)), .bin .lss (.s 8) (.s 11)⟩,
    ⟨(some 13), none, .pick (.s 7) (.s 12) (.c (V.bool false))⟩,
    ⟨(some 14), none, .mv (.s 13)⟩,
    ⟨(some 15), (some (14, true)), .faddr 16 (.s 2)⟩,
    ⟨(some 16), (some (14, true)), .load none (.s 15)⟩,
    ⟨(some 17), (some (14, true)), .mv (.s 1)⟩,
    ⟨(some 18), (some (14, true)), .iaddr none 1 (.s 16) (.s 17)⟩,
    ⟨(some 19), (some (14, true)), .load none (.s 18)⟩,
    ⟨(some 20), (some (14, true)), .bin .neq (.s 19) (.c (V.int .i64 0))⟩,
    ⟨(some 21), none, .pick (.s 14) (.s 20) (.c (V.bool false))⟩,
    ⟨(some 4), none, .mv (.s 21)⟩]
  (.ret))⟩

noncomputable def f_pick_In (G : Sem') (t0 t1 : V) : M Res :=
  (mbox ty_depend_Frame t0).bind fun t2 =>
  (M.lift (Ax.bin .geq t1 (V.int .i64 0))).bind fun t6 =>
  (guarded [(0, t6)] (some (0, true)) (M.pure t1)).bind fun t8 =>
  (guarded [(0, t6)] (some (0, true)) (M.lift (Ax.faddr 16 t2))).bind fun t9 =>
  (guarded [(0, t6)] (some (0, true)) (mload none t9)).bind fun t10 =>
  (guarded [(0, t6)] (some (0, true)) (M.lift (vlen t10))).bind fun t11 =>
  (guarded [(0, t6)] (some (0, true)) (M.lift (Ax.bin .lss t8 t11))).bind fun t12 =>
  (M.lift (Ax.pick t6 t12 (V.bool false))).bind fun t13 =>
  (guarded [(0, t13)] (some (0, true)) (M.lift (Ax.faddr 16 t2))).bind fun t15 =>
  (guarded [(0, t13)] (some (0, true)) (mload none t15)).bind fun t16 =>
  (guarded [(0, t13)] (some (0, true)) (M.pure t1)).bind fun t17 =>
  (guarded [(0, t13)] (some (0, true)) (M.lift (Ax.iaddr none 1 t16 t17))).bind fun t18 =>
  (guarded [(0, t13)] (some (0, true)) (mload none t18)).bind fun t19 =>
  (guarded [(0, t13)] (some (0, true)) (M.lift (Ax.bin .neq t19 (V.int .i64 0)))).bind fun t20 =>
  (M.lift (Ax.pick t13 t20 (V.bool false))).bind fun t21 =>
  M.pure (.ret [t21])

theorem eq_pick_In (G : Sem') (t0 t1 : V) : execK G ir_pick_In.rv ir_pick_In.body [] [] (params 0 [t0, t1]) = f_pick_In G t0 t1 := by kernel_rfl

theorem tb_pick_In : T fn_pick_In = some ir_pick_In := by kernel_rfl

theorem ok_pick_In {t0 t1 : V} {H : Heap} {Q : V → Heap → Prop} (h : Ok (f_pick_In (sem T) t0 t1) H fun r H' => ∃ L, r = .ret L ∧ Q (tupled L) H') : Ok (sem T fn_pick_In [t0, t1]) H Q :=
  ok_sem tb_pick_In (Nat.le_of_ble_eq_true rfl) (eq_pick_In (sem T) t0 t1) h

/-- palanquin/palanquinlaw20.heavy. -/
def loop_palanquinlaw20_heavy_0 : C :=
  .ops [⟨(some 17), none, .mv (.s 4)⟩,
    ⟨(some 18), none, .faddr 2 (.s 1)⟩,
    ⟨(some 19), none, .load none (.s 18)⟩,
    ⟨(some 20), none, .len (.s 19)⟩,
    ⟨(some 21), none, .bin .lss (.s 17) (.s 20)⟩,
    ⟨(some 22), none, .mv (.s 21)⟩,
    ⟨(some 23), (some (22, true)), .mv (.s 4)⟩,
    ⟨(some 24), (some (22, true)), .bin .lss (.s 23) (.c (V.int .i64 100))⟩,
    ⟨(some 25), none, .pick (.s 22) (.s 24) (.c (V.bool false))⟩]
  (.cond (.s 25)
  (.blk 1
   (.ops [⟨(some 28), none, .faddr 2 (.s 1)⟩,
      ⟨(some 29), none, .load none (.s 28)⟩,
      ⟨(some 30), none, .mv (.s 4)⟩,
      ⟨(some 31), none, .iaddr none 5 (.s 29) (.s 30)⟩,
      ⟨(some 32), none, .load (some 5) (.s 31)⟩,
      ⟨(some 5), none, .box ty_depend_Template (.c (V.agg [(V.int .i64 0), (V.int .i64 0), V.nils, V.nils, V.nils]))⟩,
      ⟨none, none, .store 5 (.s 5) (.s 32)⟩]
    (.ops [⟨(some 33), none, .mv (.s 3)⟩,
      ⟨(some 34), none, .faddr 2 (.s 5)⟩,
      ⟨(some 35), none, .load none (.s 34)⟩,
      ⟨(some 36), none, .len (.s 35)⟩,
      ⟨(some 37), none, .bin .add (.s 33) (.s 36)⟩,
      ⟨(some 38), none, .faddr 3 (.s 5)⟩,
      ⟨(some 39), none, .load none (.s 38)⟩,
      ⟨(some 40), none, .len (.s 39)⟩,
      ⟨(some 41), none, .bin .add (.s 37) (.s 40)⟩,
      ⟨(some 42), none, .faddr 4 (.s 5)⟩,
      ⟨(some 43), none, .load none (.s 42)⟩,
      ⟨(some 44), none, .len (.s 43)⟩,
      ⟨(some 45), none, .bin .add (.s 41) (.s 44)⟩,
      ⟨(some 3), none, .mv (.s 45)⟩]
    (.done))) [3] [28, 29, 30, 31, 32, 5, 33, 34, 35, 36, 37, 38, 39, 40, 41, 42, 43, 44, 45, 3]
   (.ops [⟨(some 26), none, .mv (.s 4)⟩,
     ⟨(some 27), none, .bin .add (.s 26) (.c (V.int .i64 1))⟩,
     ⟨(some 4), none, .mv (.s 27)⟩]
   (.done)))
  (.exit 0))

def ir_palanquinlaw20_heavy : Fn' := ⟨54, [.tmp 2],
  .ops [⟨(some 1), none, .box ty_depend_Structure (.s 0)⟩,
    ⟨(some 2), none, .mv (.c (V.bool false))⟩]
  (.ops [⟨(some 6), none, .faddr 2 (.s 1)⟩,
    ⟨(some 7), none, .load none (.s 6)⟩,
    ⟨(some 8), none, .len (.s 7)⟩,
    ⟨(some 9), none, .faddr 4 (.s 1)⟩,
    ⟨(some 10), none, .load none (.s 9)⟩,
    ⟨(some 11), none, .len (.s 10)⟩,
    ⟨(some 12), none, .bin .add (.s 8) (.s 11)⟩,
    ⟨(some 13), none, .faddr 5 (.s 1)⟩,
    ⟨(some 14), none, .load none (.s 13)⟩,
    ⟨(some 15), none, .len (.s 14)⟩,
    ⟨(some 16), none, .bin .add (.s 12) (.s 15)⟩,
    ⟨(some 3), none, .mv (.s 16)⟩]
  (.ops [⟨(some 4), none, .mv (.c (V.int .i64 0))⟩]
  (.blk 0
  (.loop loop_palanquinlaw20_heavy_0 [3, 4] [17, 18, 19, 20, 21, 22, 23, 24, 25, 28, 29, 30, 31, 32, 5, 33, 34, 35, 36, 37, 38, 39, 40, 41, 42, 43, 44, 45, 3, 26, 27, 4]) [3] [17, 18, 19, 20, 21, 22, 23, 24, 25, 28, 29, 30, 31, 32, 5, 33, 34, 35, 36, 37, 38, 39, 40, 41, 42, 43, 44, 45, 3, 26, 27, 4]
  (.ops [⟨(some 46), none, .mv (.s 3)⟩,
    ⟨(some 47), none, .bin .gtr (.s 46) (.c (V.int .i64 6000))⟩,
    ⟨(some 48), none, .mv (.s 47)⟩,
    ⟨(some 49), (some (48, false)), .faddr 2 (.s 1)⟩,
    ⟨(some 50), (some (48, false)), .load none (.s 49)⟩,
    ⟨(some 51), (some (48, false)), .len (.s 50)⟩,
    ⟨(some 52), (some (48, false)), .bin .gtr (.s 51) (.c (V.int .i64 80))⟩,
    ⟨(some 53), none, .pick (.s 48) (.c (V.bool true)) (.s 52)⟩,
    ⟨(some 2), none, .mv (.s 53)⟩]
  (.ret)))))⟩

noncomputable def f_palanquinlaw20_heavy_0 (G : Sem') (t1 t2 : V) (L : List V) : M Res :=
  (M.lift (Ax.faddr 2 t1)).bind fun t18 =>
  (mload none t18).bind fun t19 =>
  (M.lift (vlen t19)).bind fun t20 =>
  (M.lift (Ax.bin .lss (L.getD 1 .undef) t20)).bind fun t21 =>
  (guarded [(0, t21)] (some (0, true)) (M.pure (L.getD 1 .undef))).bind fun t23 =>
  (guarded [(0, t21)] (some (0, true)) (M.lift (Ax.bin .lss t23 (V.int .i64 100)))).bind fun t24 =>
  (M.lift (Ax.pick t21 t24 (V.bool false))).bind fun t25 =>
  M.ite t25
    (M.blk 1 (
      (M.lift (Ax.faddr 2 t1)).bind fun t28 =>
      (mload none t28).bind fun t29 =>
      (M.lift (Ax.iaddr none 5 t29 (L.getD 1 .undef))).bind fun t31 =>
      (mload (some 5) t31).bind fun t32 =>
      (mbox ty_depend_Template (V.agg [(V.int .i64 0), (V.int .i64 0), V.nils, V.nils, V.nils])).bind fun t5 =>
      (mstore 5 t5 t32).bind fun _ =>
      (M.lift (Ax.faddr 2 t5)).bind fun t34 =>
      (mload none t34).bind fun t35 =>
      (M.lift (vlen t35)).bind fun t36 =>
      (M.lift (Ax.bin .add (L.getD 0 .undef) t36)).bind fun t37 =>
      (M.lift (Ax.faddr 3 t5)).bind fun t38 =>
      (mload none t38).bind fun t39 =>
      (M.lift (vlen t39)).bind fun t40 =>
      (M.lift (Ax.bin .add t37 t40)).bind fun t41 =>
      (M.lift (Ax.faddr 4 t5)).bind fun t42 =>
      (mload none t42).bind fun t43 =>
      (M.lift (vlen t43)).bind fun t44 =>
      (M.lift (Ax.bin .add t41 t44)).bind fun t45 =>
      M.pure (.nrm [t45])) fun L0 =>
    (M.lift (Ax.bin .add (L.getD 1 .undef) (V.int .i64 1))).bind fun t27 =>
    M.pure (.nrm [(L0.getD 0 .undef), t27]))
    (M.pure (.ex 0 [(L.getD 0 .undef)]))

noncomputable def f_palanquinlaw20_heavy (G : Sem') (t0 : V) : M Res :=
  (mbox ty_depend_Structure t0).bind fun t1 =>
  (M.lift (Ax.faddr 2 t1)).bind fun t6 =>
  (mload none t6).bind fun t7 =>
  (M.lift (vlen t7)).bind fun t8 =>
  (M.lift (Ax.faddr 4 t1)).bind fun t9 =>
  (mload none t9).bind fun t10 =>
  (M.lift (vlen t10)).bind fun t11 =>
  (M.lift (Ax.bin .add t8 t11)).bind fun t12 =>
  (M.lift (Ax.faddr 5 t1)).bind fun t13 =>
  (mload none t13).bind fun t14 =>
  (M.lift (vlen t14)).bind fun t15 =>
  (M.lift (Ax.bin .add t12 t15)).bind fun t16 =>
  M.blk 0 (
    M.iter (f_palanquinlaw20_heavy_0 G t1 (V.bool false)) [t16, (V.int .i64 0)]) fun L1 =>
  (M.lift (Ax.bin .gtr (L1.getD 0 .undef) (V.int .i64 6000))).bind fun t47 =>
  (guarded [(0, t47)] (some (0, false)) (M.lift (Ax.faddr 2 t1))).bind fun t49 =>
  (guarded [(0, t47)] (some (0, false)) (mload none t49)).bind fun t50 =>
  (guarded [(0, t47)] (some (0, false)) (M.lift (vlen t50))).bind fun t51 =>
  (guarded [(0, t47)] (some (0, false)) (M.lift (Ax.bin .gtr t51 (V.int .i64 80)))).bind fun t52 =>
  (M.lift (Ax.pick t47 (V.bool true) t52)).bind fun t53 =>
  M.pure (.ret [t53])

theorem eq_palanquinlaw20_heavy (G : Sem') (t0 : V) : execK G ir_palanquinlaw20_heavy.rv ir_palanquinlaw20_heavy.body [] [] (params 0 [t0]) = f_palanquinlaw20_heavy G t0 := by kernel_rfl

theorem tb_palanquinlaw20_heavy : T fn_palanquinlaw20_heavy = some ir_palanquinlaw20_heavy := by kernel_rfl

theorem ok_palanquinlaw20_heavy {t0 : V} {H : Heap} {Q : V → Heap → Prop} (h : Ok (f_palanquinlaw20_heavy (sem T) t0) H fun r H' => ∃ L, r = .ret L ∧ Q (tupled L) H') : Ok (sem T fn_palanquinlaw20_heavy [t0]) H Q :=
  ok_sem tb_palanquinlaw20_heavy (Nat.le_of_ble_eq_true rfl) (eq_palanquinlaw20_heavy (sem T) t0) h

/-- palanquin/palanquinhelp.Structure. -/
def loop_palanquinhelp_Structure_0 : C :=
  .ops [⟨(some 16), none, .mv (.s 4)⟩,
    ⟨(some 17), none, .faddr 2 (.s 1)⟩,
    ⟨(some 18), none, .load none (.s 17)⟩,
    ⟨(some 19), none, .len (.s 18)⟩,
    ⟨(some 20), none, .bin .lss (.s 16) (.s 19)⟩]
  (.cond (.s 20)
  (.blk 1
   (.draw [⟨(some 23), none, .faddr 2 (.s 3)⟩,
      ⟨(some 24), none, .load none (.s 23)⟩,
      ⟨(some 25), none, .faddr 2 (.s 1)⟩,
      ⟨(some 26), none, .load none (.s 25)⟩,
      ⟨(some 27), none, .mv (.s 4)⟩,
      ⟨(some 28), none, .iaddr none 5 (.s 26) (.s 27)⟩,
      ⟨(some 29), none, .load (some 5) (.s 28)⟩,
      ⟨(some 30), none, .slit ty_palanquinref9_Template 1 [(V.int .i64 0), (V.int .i64 0), V.nils, V.nils, V.nils] [(0, 5, (.s 29))]⟩,
      ⟨(some 31), none, .append ty_palanquinref9_Template 5 88 (.s 24) (.s 30)⟩,
      ⟨(some 32), none, .faddr 2 (.s 3)⟩,
      ⟨none, none, .store 1 (.s 32) (.s 31)⟩] []
    (.done)) [] [23, 24, 25, 26, 27, 28, 29, 30, 31, 32]
   (.ops [⟨(some 21), none, .mv (.s 4)⟩,
     ⟨(some 22), none, .bin .add (.s 21) (.c (V.int .i64 1))⟩,
     ⟨(some 4), none, .mv (.s 22)⟩]
   (.done)))
  (.exit 0))

def ir_palanquinhelp_Structure : Fn' := ⟨34, [.cell 2 (some 6)],
  .ops [⟨(some 1), none, .box ty_depend_Structure (.s 0)⟩,
    ⟨(some 2), none, .box ty_palanquinref9_Structure (.c (V.agg [(V.int .i64 0), (V.int .i64 0), V.nils, (V.int .i64 0), V.nils, V.nils]))⟩]
  (.ops [⟨(some 5), none, .faddr 0 (.s 1)⟩,
    ⟨(some 6), none, .load none (.s 5)⟩,
    ⟨(some 7), none, .faddr 1 (.s 1)⟩,
    ⟨(some 8), none, .load none (.s 7)⟩,
    ⟨(some 9), none, .faddr 3 (.s 1)⟩,
    ⟨(some 10), none, .load none (.s 9)⟩,
    ⟨(some 11), none, .faddr 4 (.s 1)⟩,
    ⟨(some 12), none, .load none (.s 11)⟩,
    ⟨(some 13), none, .faddr 5 (.s 1)⟩,
    ⟨(some 14), none, .load none (.s 13)⟩,
    ⟨(some 15), none, .build [(V.int .i64 0), (V.int .i64 0), V.nils, (V.int .i64 0), V.nils, V.nils] [(0, 1, (.s 6)), (1, 1, (.s 8)), (3, 1, (.s 10)), (4, 1, (.s 12)), (5, 1, (.s 14))]⟩,
    ⟨(some 3), none, .box ty_palanquinref9_Structure (.c (V.agg [(V.int .i64 0), (V.int .i64 0), V.nils, (V.int .i64 0), V.nils, V.nils]))⟩,
    ⟨none, none, .store 6 (.s 3) (.s 15)⟩]
  (.ops [⟨(some 4), none, .mv (.c (V.int .i64 0))⟩]
  (.blk 0
  (.loop loop_palanquinhelp_Structure_0 [4] [16, 17, 18, 19, 20, 23, 24, 25, 26, 27, 28, 29, 30, 31, 32, 21, 22, 4]) [] [16, 17, 18, 19, 20, 23, 24, 25, 26, 27, 28, 29, 30, 31, 32, 21, 22, 4]
  (.ops [⟨(some 33), none, .load (some 6) (.s 3)⟩,
    ⟨none, none, .store 6 (.s 2) (.s 33)⟩]
  (.ret)))))⟩

noncomputable def f_palanquinhelp_Structure_0 (G : Sem') (t1 t3 t2 : V) (L : List V) : M Res :=
  (M.lift (Ax.faddr 2 t1)).bind fun t17 =>
  (mload none t17).bind fun t18 =>
  (M.lift (vlen t18)).bind fun t19 =>
  (M.lift (Ax.bin .lss (L.getD 0 .undef) t19)).bind fun t20 =>
  M.ite t20
    (M.blk 1 (
      (M.lift (Ax.faddr 2 t3)).bind fun t23 =>
      (mload none t23).bind fun t24 =>
      (M.lift (Ax.faddr 2 t1)).bind fun t25 =>
      (mload none t25).bind fun t26 =>
      (M.lift (Ax.iaddr none 5 t26 (L.getD 0 .undef))).bind fun t28 =>
      (mload (some 5) t28).bind fun t29 =>
      (mslit ty_palanquinref9_Template 1 [(V.int .i64 0), (V.int .i64 0), V.nils, V.nils, V.nils] [(0, 5, t29)]).bind fun t30 =>
      (mappend ty_palanquinref9_Template 5 88 t24 t30).bind fun t31 =>
      (M.lift (Ax.faddr 2 t3)).bind fun t32 =>
      (mstore 1 t32 t31).bind fun _ =>
      M.pure (.nrm [])) fun _ =>
    (M.lift (Ax.bin .add (L.getD 0 .undef) (V.int .i64 1))).bind fun t22 =>
    M.pure (.nrm [t22]))
    (M.pure (.ex 0 []))

noncomputable def f_palanquinhelp_Structure (G : Sem') (t0 : V) : M Res :=
  (mbox ty_depend_Structure t0).bind fun t1 =>
  (mbox ty_palanquinref9_Structure (V.agg [(V.int .i64 0), (V.int .i64 0), V.nils, (V.int .i64 0), V.nils, V.nils])).bind fun t2 =>
  (M.lift (Ax.faddr 0 t1)).bind fun t5 =>
  (mload none t5).bind fun t6 =>
  (M.lift (Ax.faddr 1 t1)).bind fun t7 =>
  (mload none t7).bind fun t8 =>
  (M.lift (Ax.faddr 3 t1)).bind fun t9 =>
  (mload none t9).bind fun t10 =>
  (M.lift (Ax.faddr 4 t1)).bind fun t11 =>
  (mload none t11).bind fun t12 =>
  (M.lift (Ax.faddr 5 t1)).bind fun t13 =>
  (mload none t13).bind fun t14 =>
  (M.lift (Ax.build [(V.int .i64 0), (V.int .i64 0), V.nils, (V.int .i64 0), V.nils, V.nils] [(0, 1, t6), (1, 1, t8), (3, 1, t10), (4, 1, t12), (5, 1, t14)])).bind fun t15 =>
  (mbox ty_palanquinref9_Structure (V.agg [(V.int .i64 0), (V.int .i64 0), V.nils, (V.int .i64 0), V.nils, V.nils])).bind fun t3 =>
  (mstore 6 t3 t15).bind fun _ =>
  M.blk 0 (
    M.iter (f_palanquinhelp_Structure_0 G t1 t3 t2) [(V.int .i64 0)]) fun _ =>
  (mload (some 6) t3).bind fun t33 =>
  (mstore 6 t2 t33).bind fun _ =>
  (mload (some 6) t2).bind fun r0 =>
  M.pure (.ret [r0])

theorem eq_palanquinhelp_Structure (G : Sem') (t0 : V) : execK G ir_palanquinhelp_Structure.rv ir_palanquinhelp_Structure.body [] [] (params 0 [t0]) = f_palanquinhelp_Structure G t0 := by kernel_rfl

theorem tb_palanquinhelp_Structure : T fn_palanquinhelp_Structure = some ir_palanquinhelp_Structure := by kernel_rfl

theorem ok_palanquinhelp_Structure {t0 : V} {H : Heap} {Q : V → Heap → Prop} (h : Ok (f_palanquinhelp_Structure (sem T) t0) H fun r H' => ∃ L, r = .ret L ∧ Q (tupled L) H') : Ok (sem T fn_palanquinhelp_Structure [t0]) H Q :=
  ok_sem tb_palanquinhelp_Structure (Nat.le_of_ble_eq_true rfl) (eq_palanquinhelp_Structure (sem T) t0) h

/-- palanquin/palanquinref20.Fits. -/
def loop_palanquinref20_Fits_0 : C :=
  .ops [⟨(some 18), none, .mv (.s 14)⟩,
    ⟨(some 19), none, .bin .lss (.s 18) (.c (V.int .i64 32))⟩]
  (.cond (.s 19)
  (.blk 1
   (.ops [⟨(some 23), none, .load (some 6) (.s 4)⟩,
      ⟨(some 24), none, .mv (.s 14)⟩,
      ⟨(some 25), none, .call fn_palanquinref9_Layers [(.s 23), (.s 24)]⟩,
      ⟨(some 22), none, .mv (.s 25)⟩,
      ⟨(some 26), none, .ext 0 (.s 22)⟩,
      ⟨(some 27), none, .ext 1 (.s 22)⟩,
      ⟨(some 28), none, .ext 2 (.s 22)⟩,
      ⟨(some 15), none, .mv (.s 26)⟩,
      ⟨(some 16), none, .mv (.s 27)⟩,
      ⟨(some 17), none, .mv (.s 28)⟩]
    (.ops [⟨(some 29), none, .mv (.s 17)⟩,
      ⟨(some 30), none, .un .not (.s 29)⟩,
      ⟨(some 31), none, .mv (.s 30)⟩,
      ⟨(some 32), (some (31, false)), .mv (.s 1)⟩,
      ⟨(some 33), (some (31, false)), .mv (.s 14)⟩,
      ⟨(some 34), (some (31, false)), .cint .u64 (.s 33)⟩,
      ⟨(some 35), (some (31, false)), .bin .shr (.s 32) (.s 34)⟩,
      ⟨(some 36), (some (31, false)), .bin .and (.s 35) (.c (V.int .u32 1))⟩,
      ⟨(some 37), (some (31, false)), .bin .eql (.s 36) (.c (V.int .u32 0))⟩,
      ⟨(some 38), none, .pick (.s 31) (.c (V.bool true)) (.s 37)⟩,
      ⟨(some 39), none, .mv (.s 38)⟩,
      ⟨(some 40), (some (39, false)), .mv (.s 15)⟩,
      ⟨(some 41), (some (39, false)), .mv (.s 2)⟩,
      ⟨(some 42), (some (39, false)), .bin .gtr (.s 40) (.s 41)⟩,
      ⟨(some 43), none, .pick (.s 39) (.c (V.bool true)) (.s 42)⟩,
      ⟨(some 44), none, .mv (.s 43)⟩,
      ⟨(some 45), (some (44, false)), .mv (.s 16)⟩,
      ⟨(some 46), (some (44, false)), .mv (.s 3)⟩,
      ⟨(some 47), (some (44, false)), .bin .gtr (.s 45) (.s 46)⟩,
      ⟨(some 48), none, .pick (.s 44) (.c (V.bool true)) (.s 47)⟩]
    (.cond (.s 48)
    (.exit 1)
    (.ops [⟨(some 49), none, .mv (.s 13)⟩,
       ⟨(some 50), none, .un .not (.s 49)⟩,
       ⟨(some 51), none, .mv (.s 50)⟩,
       ⟨(some 52), (some (51, false)), .mv (.s 15)⟩,
       ⟨(some 53), (some (51, false)), .mv (.s 11)⟩,
       ⟨(some 54), (some (51, false)), .bin .gtr (.s 52) (.s 53)⟩,
       ⟨(some 55), none, .pick (.s 51) (.c (V.bool true)) (.s 54)⟩,
       ⟨(some 56), none, .mv (.s 55)⟩,
       ⟨(some 57), (some (56, false)), .mv (.s 15)⟩,
       ⟨(some 58), (some (56, false)), .mv (.s 11)⟩,
       ⟨(some 59), (some (56, false)), .bin .eql (.s 57) (.s 58)⟩,
       ⟨(some 60), (some (56, false)), .mv (.s 59)⟩,
       ⟨(some 61), (some (60, true)), .mv (.s 16)⟩,
       ⟨(some 62), (some (60, true)), .mv (.s 12)⟩,
       ⟨(some 63), (some (60, true)), .bin .gtr (.s 61) (.s 62)⟩,
       ⟨(some 64), (some (56, false)), .pick (.s 60) (.s 63) (.c (V.bool false))⟩,
       ⟨(some 65), none, .pick (.s 56) (.c (V.bool true)) (.s 64)⟩]
     (.condJ (.s 65)
     (.ops [⟨(some 66), none, .mv (.s 14)⟩,
        ⟨(some 67), none, .mv (.s 15)⟩,
        ⟨(some 68), none, .mv (.s 16)⟩,
        ⟨(some 10), none, .mv (.s 66)⟩,
        ⟨(some 11), none, .mv (.s 67)⟩,
        ⟨(some 12), none, .mv (.s 68)⟩,
        ⟨(some 13), none, .mv (.c (V.bool true))⟩]
      (.done))
     (.done) [10, 11, 12, 13] [66, 67, 68, 10, 11, 12, 13]
     (.done)))))) [10, 11, 12, 13] [23, 24, 25, 22, 26, 27, 28, 15, 16, 17, 29, 30, 31, 32, 33, 34, 35, 36, 37, 38, 39, 40, 41, 42, 43, 44, 45, 46, 47, 48, 49, 50, 51, 52, 53, 54, 55, 56, 57, 58, 59, 60, 61, 62, 63, 64, 65, 66, 67, 68, 10, 11, 12, 13]
   (.ops [⟨(some 20), none, .mv (.s 14)⟩,
     ⟨(some 21), none, .bin .add (.s 20) (.c (V.int .i64 1))⟩,
     ⟨(some 14), none, .mv (.s 21)⟩]
   (.done)))
  (.exit 0))

def ir_palanquinref20_Fits : Fn' := ⟨71, [.tmp 8, .tmp 9],
  .ops [⟨(some 4), none, .box ty_palanquinref9_Structure (.s 0)⟩,
    ⟨(some 8), none, .mv (.c (V.int .i64 0))⟩,
    ⟨(some 9), none, .mv (.c (V.bool false))⟩]
  (.ops [⟨(some 10), none, .mv (.c (V.int .i64 0))⟩,
    ⟨(some 11), none, .mv (.c (V.int .i64 0))⟩,
    ⟨(some 12), none, .mv (.c (V.int .i64 0))⟩,
    ⟨(some 13), none, .mv (.c (V.bool false))⟩]
  (.ops [⟨(some 14), none, .mv (.c (V.int .i64 0))⟩]
  (.blk 0
  (.loop loop_palanquinref20_Fits_0 [10, 11, 12, 13, 14] [18, 19, 23, 24, 25, 22, 26, 27, 28, 15, 16, 17, 29, 30, 31, 32, 33, 34, 35, 36, 37, 38, 39, 40, 41, 42, 43, 44, 45, 46, 47, 48, 49, 50, 51, 52, 53, 54, 55, 56, 57, 58, 59, 60, 61, 62, 63, 64, 65, 66, 67, 68, 10, 11, 12, 13, 20, 21, 14]) [10, 13] [18, 19, 23, 24, 25, 22, 26, 27, 28, 15, 16, 17, 29, 30, 31, 32, 33, 34, 35, 36, 37, 38, 39, 40, 41, 42, 43, 44, 45, 46, 47, 48, 49, 50, 51, 52, 53, 54, 55, 56, 57, 58, 59, 60, 61, 62, 63, 64, 65, 66, 67, 68, 10, 11, 12, 13, 20, 21, 14]
  (.ops [⟨(some 69), none, .mv (.s 10)⟩,
    ⟨(some 70), none, .mv (.s 13)⟩,
    ⟨(some 8), none, .mv (.s 69)⟩,
    ⟨(some 9), none, .mv (.s 70)⟩]
  (.ret)))))⟩

noncomputable def f_palanquinref20_Fits_0 (G : Sem') (t4 t1 t2 t3 t8 t9 : V) (L : List V) : M Res :=
  (M.lift (Ax.bin .lss (L.getD 4 .undef) (V.int .i64 32))).bind fun t19 =>
  M.ite t19
    (M.blk 1 (
      (mload (some 6) t4).bind fun t23 =>
      (G fn_palanquinref9_Layers [t23, (L.getD 4 .undef)]).bind fun t25 =>
      (M.lift (Ax.ext 0 t25)).bind fun t26 =>
      (M.lift (Ax.ext 1 t25)).bind fun t27 =>
      (M.lift (Ax.ext 2 t25)).bind fun t28 =>
      (M.lift (Ax.un .not t28)).bind fun t30 =>
      (guarded [(0, t30)] (some (0, false)) (M.pure t1)).bind fun t32 =>
      (guarded [(0, t30)] (some (0, false)) (M.pure (L.getD 4 .undef))).bind fun t33 =>
      (guarded [(0, t30)] (some (0, false)) (M.lift (Ax.cint .u64 t33))).bind fun t34 =>
      (guarded [(0, t30)] (some (0, false)) (M.lift (Ax.bin .shr t32 t34))).bind fun t35 =>
      (guarded [(0, t30)] (some (0, false)) (M.lift (Ax.bin .and t35 (V.int .u32 1)))).bind fun t36 =>
      (guarded [(0, t30)] (some (0, false)) (M.lift (Ax.bin .eql t36 (V.int .u32 0)))).bind fun t37 =>
      (M.lift (Ax.pick t30 (V.bool true) t37)).bind fun t38 =>
      (guarded [(0, t38)] (some (0, false)) (M.pure t26)).bind fun t40 =>
      (guarded [(0, t38)] (some (0, false)) (M.pure t2)).bind fun t41 =>
      (guarded [(0, t38)] (some (0, false)) (M.lift (Ax.bin .gtr t40 t41))).bind fun t42 =>
      (M.lift (Ax.pick t38 (V.bool true) t42)).bind fun t43 =>
      (guarded [(0, t43)] (some (0, false)) (M.pure t27)).bind fun t45 =>
      (guarded [(0, t43)] (some (0, false)) (M.pure t3)).bind fun t46 =>
      (guarded [(0, t43)] (some (0, false)) (M.lift (Ax.bin .gtr t45 t46))).bind fun t47 =>
      (M.lift (Ax.pick t43 (V.bool true) t47)).bind fun t48 =>
      M.ite t48
        (M.pure (.ex 1 [(L.getD 0 .undef), (L.getD 1 .undef), (L.getD 2 .undef), (L.getD 3 .undef)]))
        ((M.lift (Ax.un .not (L.getD 3 .undef))).bind fun t50 =>
        (guarded [(0, t50)] (some (0, false)) (M.pure t26)).bind fun t52 =>
        (guarded [(0, t50)] (some (0, false)) (M.pure (L.getD 1 .undef))).bind fun t53 =>
        (guarded [(0, t50)] (some (0, false)) (M.lift (Ax.bin .gtr t52 t53))).bind fun t54 =>
        (M.lift (Ax.pick t50 (V.bool true) t54)).bind fun t55 =>
        (guarded [(0, t55)] (some (0, false)) (M.pure t26)).bind fun t57 =>
        (guarded [(0, t55)] (some (0, false)) (M.pure (L.getD 1 .undef))).bind fun t58 =>
        (guarded [(0, t55)] (some (0, false)) (M.lift (Ax.bin .eql t57 t58))).bind fun t59 =>
        (guarded [(0, t55)] (some (0, false)) (M.pure t59)).bind fun t60 =>
        (guarded [(0, t60)] (some (0, true)) (M.pure t27)).bind fun t61 =>
        (guarded [(0, t60)] (some (0, true)) (M.pure (L.getD 2 .undef))).bind fun t62 =>
        (guarded [(0, t60)] (some (0, true)) (M.lift (Ax.bin .gtr t61 t62))).bind fun t63 =>
        (guarded [(0, t55)] (some (0, false)) (M.lift (Ax.pick t60 t63 (V.bool false)))).bind fun t64 =>
        (M.lift (Ax.pick t55 (V.bool true) t64)).bind fun t65 =>
        M.join (M.ite t65
          (M.pure (.nrm [(L.getD 4 .undef), t26, t27, (V.bool true)]))
          (M.pure (.nrm [(L.getD 0 .undef), (L.getD 1 .undef), (L.getD 2 .undef), (L.getD 3 .undef)]))) fun L0 =>
        M.pure (.nrm [(L0.getD 0 .undef), (L0.getD 1 .undef), (L0.getD 2 .undef), (L0.getD 3 .undef)]))) fun L1 =>
    (M.lift (Ax.bin .add (L.getD 4 .undef) (V.int .i64 1))).bind fun t21 =>
    M.pure (.nrm [(L1.getD 0 .undef), (L1.getD 1 .undef), (L1.getD 2 .undef), (L1.getD 3 .undef), t21]))
    (M.pure (.ex 0 [(L.getD 0 .undef), (L.getD 3 .undef)]))

noncomputable def f_palanquinref20_Fits (G : Sem') (t0 t1 t2 t3 : V) : M Res :=
  (mbox ty_palanquinref9_Structure t0).bind fun t4 =>
  M.blk 0 (
    M.iter (f_palanquinref20_Fits_0 G t4 t1 t2 t3 (V.int .i64 0) (V.bool false)) [(V.int .i64 0), (V.int .i64 0), (V.int .i64 0), (V.bool false), (V.int .i64 0)]) fun L2 =>
  M.pure (.ret [(L2.getD 0 .undef), (L2.getD 1 .undef)])

theorem eq_palanquinref20_Fits (G : Sem') (t0 t1 t2 t3 : V) : execK G ir_palanquinref20_Fits.rv ir_palanquinref20_Fits.body [] [] (params 0 [t0, t1, t2, t3]) = f_palanquinref20_Fits G t0 t1 t2 t3 := by kernel_rfl

theorem tb_palanquinref20_Fits : T fn_palanquinref20_Fits = some ir_palanquinref20_Fits := by kernel_rfl

theorem ok_palanquinref20_Fits {t0 t1 t2 t3 : V} {H : Heap} {Q : V → Heap → Prop} (h : Ok (f_palanquinref20_Fits (sem T) t0 t1 t2 t3) H fun r H' => ∃ L, r = .ret L ∧ Q (tupled L) H') : Ok (sem T fn_palanquinref20_Fits [t0, t1, t2, t3]) H Q :=
  ok_sem tb_palanquinref20_Fits (Nat.le_of_ble_eq_true rfl) (eq_palanquinref20_Fits (sem T) t0 t1 t2 t3) h

/-- palanquin/palanquinref9.Layers. -/
def loop_palanquinref9_Layers_0 : C :=
  .ops [⟨(some 24), none, .mv (.s 10)⟩,
    ⟨(some 25), none, .faddr 2 (.s 2)⟩,
    ⟨(some 26), none, .load none (.s 25)⟩,
    ⟨(some 27), none, .len (.s 26)⟩,
    ⟨(some 28), none, .bin .lss (.s 24) (.s 27)⟩]
  (.cond (.s 28)
  (.blk 1
   (.ops [⟨(some 31), none, .faddr 2 (.s 2)⟩,
      ⟨(some 32), none, .load none (.s 31)⟩,
      ⟨(some 33), none, .mv (.s 10)⟩,
      ⟨(some 34), none, .iaddr none 5 (.s 32) (.s 33)⟩,
      ⟨(some 35), none, .faddr 2 (.s 34)⟩,
      ⟨(some 36), none, .load none (.s 35)⟩,
      ⟨(some 37), none, .mv (.s 1)⟩,
      ⟨(some 38), none, .iaddr none 1 (.s 36) (.s 37)⟩,
      ⟨(some 39), none, .load none (.s 38)⟩,
      ⟨(some 40), none, .bin .neq (.s 39) (.c (V.int .i64 0))⟩]
    (.condJ (.s 40)
    (.draw [⟨(some 41), none, .mv (.s 7)⟩,
       ⟨(some 42), none, .faddr 2 (.s 2)⟩,
       ⟨(some 43), none, .load none (.s 42)⟩,
       ⟨(some 44), none, .mv (.s 10)⟩,
       ⟨(some 45), none, .iaddr none 5 (.s 43) (.s 44)⟩,
       ⟨(some 46), none, .faddr 0 (.s 45)⟩,
       ⟨(some 47), none, .load none (.s 46)⟩,
       ⟨(some 48), none, .minmax true (.s 41) [(.s 47)]⟩,
       ⟨(some 49), none, .mv (.s 8)⟩,
       ⟨(some 50), none, .faddr 2 (.s 2)⟩,
       ⟨(some 51), none, .load none (.s 50)⟩,
       ⟨(some 52), none, .mv (.s 10)⟩,
       ⟨(some 53), none, .iaddr none 5 (.s 51) (.s 52)⟩,
       ⟨(some 54), none, .faddr 1 (.s 53)⟩,
       ⟨(some 55), none, .load none (.s 54)⟩,
       ⟨(some 56), none, .minmax true (.s 49) [(.s 55)]⟩,
       ⟨(some 7), none, .mv (.s 48)⟩,
       ⟨(some 8), none, .mv (.s 56)⟩,
       ⟨(some 9), none, .mv (.c (V.bool true))⟩] []
     (.done))
    (.done) [7, 8, 9] [41, 42, 43, 44, 45, 46, 47, 48, 49, 50, 51, 52, 53, 54, 55, 56, 7, 8, 9]
    (.done))) [7, 8, 9] [31, 32, 33, 34, 35, 36, 37, 38, 39, 40, 41, 42, 43, 44, 45, 46, 47, 48, 49, 50, 51, 52, 53, 54, 55, 56, 7, 8, 9]
   (.ops [⟨(some 29), none, .mv (.s 10)⟩,
     ⟨(some 30), none, .bin .add (.s 29) (.c (V.int .i64 1))⟩,
     ⟨(some 10), none, .mv (.s 30)⟩]
   (.done)))
  (.exit 0))

def ir_palanquinref9_Layers : Fn' := ⟨60, [.tmp 4, .tmp 5, .tmp 6],
  .ops [⟨(some 2), none, .box ty_palanquinref9_Structure (.s 0)⟩,
    ⟨(some 4), none, .mv (.c (V.int .i64 0))⟩,
    ⟨(some 5), none, .mv (.c (V.int .i64 0))⟩,
    ⟨(some 6), none, .mv (.c (V.bool false))⟩]
  (.ops [⟨(some 11), none, .load (some 6) (.s 2)⟩,
    ⟨(some 12), none, .call fn_palanquinref9_Fine [(.s 11)]⟩,
    ⟨(some 13), none, .un .not (.s 12)⟩,
    ⟨(some 14), none, .mv (.s 13)⟩,
    ⟨(some 15), (some (14, false)), .mv (.s 1)⟩,
    ⟨(some 16), (some (14, false)), .bin .lss (.s 15) (.c (V.int .i64 0))⟩,
    ⟨(some 17), none, .pick (.s 14) (.c (V.bool true)) (.s 16)⟩,
    ⟨(some 18), none, .mv (.s 17)⟩,
    ⟨(some 19), (some (18, false)), .mv (.s 1)⟩,
    ⟨(some 20), (some (18, false)), .faddr 1 (.s 2)⟩,
    ⟨(some 21), (some (18, false)), .load none (.s 20)⟩,
    ⟨(some 22), (some (18, false)), .bin .geq (.s 19) (.s 21)⟩,
    ⟨(some 23), none, .pick (.s 18) (.c (V.bool true)) (.s 22)⟩]
  (.cond (.s 23)
  (.ops [⟨(some 4), none, .mv (.c (V.int .i64 0))⟩,
     ⟨(some 5), none, .mv (.c (V.int .i64 0))⟩,
     ⟨(some 6), none, .mv (.c (V.bool false))⟩]
   (.ret))
  (.ops [⟨(some 7), none, .mv (.c (V.int .i64 0))⟩,
     ⟨(some 8), none, .mv (.c (V.int .i64 0))⟩,
     ⟨(some 9), none, .mv (.c (V.bool false))⟩]
   (.ops [⟨(some 10), none, .mv (.c (V.int .i64 0))⟩]
   (.blk 0
   (.loop loop_palanquinref9_Layers_0 [7, 8, 9, 10] [24, 25, 26, 27, 28, 31, 32, 33, 34, 35, 36, 37, 38, 39, 40, 41, 42, 43, 44, 45, 46, 47, 48, 49, 50, 51, 52, 53, 54, 55, 56, 7, 8, 9, 29, 30, 10]) [7, 8, 9] [24, 25, 26, 27, 28, 31, 32, 33, 34, 35, 36, 37, 38, 39, 40, 41, 42, 43, 44, 45, 46, 47, 48, 49, 50, 51, 52, 53, 54, 55, 56, 7, 8, 9, 29, 30, 10]
   (.ops [⟨(some 57), none, .mv (.s 7)⟩,
     ⟨(some 58), none, .mv (.s 8)⟩,
     ⟨(some 59), none, .mv (.s 9)⟩,
     ⟨(some 4), none, .mv (.s 57)⟩,
     ⟨(some 5), none, .mv (.s 58)⟩,
     ⟨(some 6), none, .mv (.s 59)⟩]
   (.ret)))))))⟩

noncomputable def f_palanquinref9_Layers_0 (G : Sem') (t1 t2 t4 t5 t6 : V) (L : List V) : M Res :=
  (M.lift (Ax.faddr 2 t2)).bind fun t25 =>
  (mload none t25).bind fun t26 =>
  (M.lift (vlen t26)).bind fun t27 =>
  (M.lift (Ax.bin .lss (L.getD 3 .undef) t27)).bind fun t28 =>
  M.ite t28
    (M.blk 1 (
      (M.lift (Ax.faddr 2 t2)).bind fun t31 =>
      (mload none t31).bind fun t32 =>
      (M.lift (Ax.iaddr none 5 t32 (L.getD 3 .undef))).bind fun t34 =>
      (M.lift (Ax.faddr 2 t34)).bind fun t35 =>
      (mload none t35).bind fun t36 =>
      (M.lift (Ax.iaddr none 1 t36 t1)).bind fun t38 =>
      (mload none t38).bind fun t39 =>
      (M.lift (Ax.bin .neq t39 (V.int .i64 0))).bind fun t40 =>
      M.join (M.ite t40
        ((M.lift (Ax.faddr 2 t2)).bind fun t42 =>
        (mload none t42).bind fun t43 =>
        (M.lift (Ax.iaddr none 5 t43 (L.getD 3 .undef))).bind fun t45 =>
        (M.lift (Ax.faddr 0 t45)).bind fun t46 =>
        (mload none t46).bind fun t47 =>
        (M.lift (Ax.minmax true (L.getD 0 .undef) [t47])).bind fun t48 =>
        (M.lift (Ax.faddr 2 t2)).bind fun t50 =>
        (mload none t50).bind fun t51 =>
        (M.lift (Ax.iaddr none 5 t51 (L.getD 3 .undef))).bind fun t53 =>
        (M.lift (Ax.faddr 1 t53)).bind fun t54 =>
        (mload none t54).bind fun t55 =>
        (M.lift (Ax.minmax true (L.getD 1 .undef) [t55])).bind fun t56 =>
        M.pure (.nrm [t48, t56, (V.bool true)]))
        (M.pure (.nrm [(L.getD 0 .undef), (L.getD 1 .undef), (L.getD 2 .undef)]))) fun L0 =>
      M.pure (.nrm [(L0.getD 0 .undef), (L0.getD 1 .undef), (L0.getD 2 .undef)])) fun L1 =>
    (M.lift (Ax.bin .add (L.getD 3 .undef) (V.int .i64 1))).bind fun t30 =>
    M.pure (.nrm [(L1.getD 0 .undef), (L1.getD 1 .undef), (L1.getD 2 .undef), t30]))
    (M.pure (.ex 0 [(L.getD 0 .undef), (L.getD 1 .undef), (L.getD 2 .undef)]))

noncomputable def f_palanquinref9_Layers (G : Sem') (t0 t1 : V) : M Res :=
  (mbox ty_palanquinref9_Structure t0).bind fun t2 =>
  (mload (some 6) t2).bind fun t11 =>
  (G fn_palanquinref9_Fine [t11]).bind fun t12 =>
  (M.lift (Ax.un .not t12)).bind fun t13 =>
  (guarded [(0, t13)] (some (0, false)) (M.pure t1)).bind fun t15 =>
  (guarded [(0, t13)] (some (0, false)) (M.lift (Ax.bin .lss t15 (V.int .i64 0)))).bind fun t16 =>
  (M.lift (Ax.pick t13 (V.bool true) t16)).bind fun t17 =>
  (guarded [(0, t17)] (some (0, false)) (M.pure t1)).bind fun t19 =>
  (guarded [(0, t17)] (some (0, false)) (M.lift (Ax.faddr 1 t2))).bind fun t20 =>
  (guarded [(0, t17)] (some (0, false)) (mload none t20)).bind fun t21 =>
  (guarded [(0, t17)] (some (0, false)) (M.lift (Ax.bin .geq t19 t21))).bind fun t22 =>
  (M.lift (Ax.pick t17 (V.bool true) t22)).bind fun t23 =>
  M.ite t23
    (M.pure (.ret [(V.int .i64 0), (V.int .i64 0), (V.bool false)]))
    (M.blk 0 (
      M.iter (f_palanquinref9_Layers_0 G t1 t2 (V.int .i64 0) (V.int .i64 0) (V.bool false)) [(V.int .i64 0), (V.int .i64 0), (V.bool false), (V.int .i64 0)]) fun L2 =>
    M.pure (.ret [(L2.getD 0 .undef), (L2.getD 1 .undef), (L2.getD 2 .undef)]))

theorem eq_palanquinref9_Layers (G : Sem') (t0 t1 : V) : execK G ir_palanquinref9_Layers.rv ir_palanquinref9_Layers.body [] [] (params 0 [t0, t1]) = f_palanquinref9_Layers G t0 t1 := by kernel_rfl

theorem tb_palanquinref9_Layers : T fn_palanquinref9_Layers = some ir_palanquinref9_Layers := by kernel_rfl

theorem ok_palanquinref9_Layers {t0 t1 : V} {H : Heap} {Q : V → Heap → Prop} (h : Ok (f_palanquinref9_Layers (sem T) t0 t1) H fun r H' => ∃ L, r = .ret L ∧ Q (tupled L) H') : Ok (sem T fn_palanquinref9_Layers [t0, t1]) H Q :=
  ok_sem tb_palanquinref9_Layers (Nat.le_of_ble_eq_true rfl) (eq_palanquinref9_Layers (sem T) t0 t1) h

/-- palanquin/palanquinref9.Fine. -/
def loop_palanquinref9_Fine_0 : C :=
  .ops [⟨(some 49), none, .mv (.s 4)⟩,
    ⟨(some 50), none, .mv (.s 3)⟩,
    ⟨(some 51), none, .bin .lss (.s 49) (.s 50)⟩]
  (.cond (.s 51)
  (.blk 1
   (.ops [⟨(some 54), none, .faddr 2 (.s 1)⟩,
      ⟨(some 55), none, .load none (.s 54)⟩,
      ⟨(some 56), none, .mv (.s 4)⟩,
      ⟨(some 57), none, .iaddr none 5 (.s 55) (.s 56)⟩,
      ⟨(some 58), none, .load (some 5) (.s 57)⟩,
      ⟨(some 5), none, .box ty_palanquinref9_Template (.c (V.agg [(V.int .i64 0), (V.int .i64 0), V.nils, V.nils, V.nils]))⟩,
      ⟨none, none, .store 5 (.s 5) (.s 58)⟩]
    (.ops [⟨(some 59), none, .faddr 0 (.s 5)⟩,
      ⟨(some 60), none, .load none (.s 59)⟩,
      ⟨(some 61), none, .bin .lss (.s 60) (.c (V.int .i64 0))⟩,
      ⟨(some 62), none, .mv (.s 61)⟩,
      ⟨(some 63), (some (62, false)), .faddr 0 (.s 5)⟩,
      ⟨(some 64), (some (62, false)), .load none (.s 63)⟩,
      ⟨(some 65), (some (62, false)), .bin .gtr (.s 64) (.c (V.int .i64 3))⟩,
      ⟨(some 66), none, .pick (.s 62) (.c (V.bool true)) (.s 65)⟩,
      ⟨(some 67), none, .mv (.s 66)⟩,
      ⟨(some 68), (some (67, false)), .faddr 1 (.s 5)⟩,
      ⟨(some 69), (some (67, false)), .load none (.s 68)⟩,
      ⟨(some 70), (some (67, false)), .bin .lss (.s 69) (.c (V.int .i64 0))⟩,
      ⟨(some 71), none, .pick (.s 67) (.c (V.bool true)) (.s 70)⟩,
      ⟨(some 72), none, .mv (.s 71)⟩,
      ⟨(some 73), (some (72, false)), .faddr 1 (.s 5)⟩,
      ⟨(some 74), (some (72, false)), .load none (.s 73)⟩,
      ⟨(some 75), (some (72, false)), .bin .gtr (.s 74) (.c (V.int .i64 7))⟩,
      ⟨(some 76), none, .pick (.s 72) (.c (V.bool true)) (.s 75)⟩,
      ⟨(some 77), none, .mv (.s 76)⟩,
      ⟨(some 78), (some (77, false)), .mv (.s 4)⟩,
      ⟨(some 79), (some (77, false)), .bin .eql (.s 78) (.c (V.int .i64 0))⟩,
      ⟨(some 80), (some (77, false)), .mv (.s 79)⟩,
      ⟨(some 81), (some (80, true)), .faddr 0 (.s 5)⟩,
      ⟨(some 82), (some (80, true)), .load none (.s 81)⟩,
      ⟨(some 83), (some (80, true)), .bin .neq (.s 82) (.c (V.int .i64 0))⟩,
      ⟨(some 84), (some (80, true)), .mv (.s 83)⟩,
      ⟨(some 85), (some (84, false)), .faddr 1 (.s 5)⟩,
      ⟨(some 86), (some (84, false)), .load none (.s 85)⟩,
      ⟨(some 87), (some (84, false)), .bin .neq (.s 86) (.c (V.int .i64 0))⟩,
      ⟨(some 88), (some (80, true)), .pick (.s 84) (.c (V.bool true)) (.s 87)⟩,
      ⟨(some 89), (some (77, false)), .pick (.s 80) (.s 88) (.c (V.bool false))⟩,
      ⟨(some 90), none, .pick (.s 77) (.c (V.bool true)) (.s 89)⟩]
    (.cond (.s 90)
    (.ops [⟨(some 2), none, .mv (.c (V.bool false))⟩]
     (.ret))
    (.draw [⟨(some 91), none, .mv (.s 4)⟩,
       ⟨(some 92), none, .bin .gtr (.s 91) (.c (V.int .i64 0))⟩,
       ⟨(some 93), none, .mv (.s 92)⟩,
       ⟨(some 94), (some (93, true)), .faddr 2 (.s 1)⟩,
       ⟨(some 95), (some (93, true)), .load none (.s 94)⟩,
       ⟨(some 96), (some (93, true)), .mv (.s 4)⟩,
       ⟨(some 97), (some (93, true)), .bin .sub (.s 96) (.c (V.int .i64 1))⟩,
       ⟨(some 98), (some (93, true)), .iaddr none 5 (.s 95) (.s 97)⟩,
       ⟨(some 99), (some (93, true)), .load (some 5) (.s 98)⟩,
       ⟨(some 100), (some (93, true)), .load (some 5) (.s 5)⟩,
       ⟨(some 101), (some (93, true)), .call fn_palanquinref9_step [(.s 99), (.s 100)]⟩,
       ⟨(some 102), (some (93, true)), .bin .eql (.s 101) (.c (V.int .i64 3))⟩,
       ⟨(some 103), none, .pick (.s 93) (.s 102) (.c (V.bool false))⟩] []
     (.cond (.s 103)
     (.ops [⟨(some 2), none, .mv (.c (V.bool false))⟩]
      (.ret))
     (.ops [⟨(some 104), none, .faddr 2 (.s 5)⟩,
        ⟨(some 105), none, .load none (.s 104)⟩,
        ⟨(some 106), none, .faddr 1 (.s 1)⟩,
        ⟨(some 107), none, .load none (.s 106)⟩,
        ⟨(some 108), none, .call fn_palanquinref9_within [(.s 105), (.s 107), (.c (V.int .i64 0)), (.c (V.int .i64 3))]⟩,
        ⟨(some 109), none, .un .not (.s 108)⟩,
        ⟨(some 110), none, .mv (.s 109)⟩,
        ⟨(some 111), (some (110, false)), .faddr 3 (.s 5)⟩,
        ⟨(some 112), (some (110, false)), .load none (.s 111)⟩,
        ⟨(some 113), (some (110, false)), .len (.s 112)⟩,
        ⟨(some 114), (some (110, false)), .bin .gtr (.s 113) (.c (V.int .i64 8))⟩,
        ⟨(some 115), none, .pick (.s 110) (.c (V.bool true)) (.s 114)⟩,
        ⟨(some 116), none, .mv (.s 115)⟩,
        ⟨(some 117), (some (116, false)), .faddr 3 (.s 5)⟩,
        ⟨(some 118), (some (116, false)), .load none (.s 117)⟩,
        ⟨(some 119), (some (116, false)), .call fn_palanquinref9_within [(.s 118), (.c (V.int .i64 (-1))), (.c (V.int .i64 1)), (.c (V.int .i64 16))]⟩,
        ⟨(some 120), (some (116, false)), .un .not (.s 119)⟩,
        ⟨(some 121), none, .pick (.s 116) (.c (V.bool true)) (.s 120)⟩,
        ⟨(some 122), none, .mv (.s 121)⟩,
        ⟨(some 123), (some (122, false)), .faddr 4 (.s 5)⟩,
        ⟨(some 124), (some (122, false)), .load none (.s 123)⟩,
        ⟨(some 125), (some (122, false)), .faddr 3 (.s 1)⟩,
        ⟨(some 126), (some (122, false)), .load none (.s 125)⟩,
        ⟨(some 127), (some (122, false)), .call fn_palanquinref9_within [(.s 124), (.s 126), (.c (V.int .i64 0)), (.c (V.int .i64 15))]⟩,
        ⟨(some 128), (some (122, false)), .un .not (.s 127)⟩,
        ⟨(some 129), none, .pick (.s 122) (.c (V.bool true)) (.s 128)⟩]
      (.cond (.s 129)
      (.ops [⟨(some 2), none, .mv (.c (V.bool false))⟩]
       (.ret))
      (.done)))))))) [] [54, 55, 56, 57, 58, 5, 59, 60, 61, 62, 63, 64, 65, 66, 67, 68, 69, 70, 71, 72, 73, 74, 75, 76, 77, 78, 79, 80, 81, 82, 83, 84, 85, 86, 87, 88, 89, 90, 2, 91, 92, 93, 94, 95, 96, 97, 98, 99, 100, 101, 102, 103, 2, 104, 105, 106, 107, 108, 109, 110, 111, 112, 113, 114, 115, 116, 117, 118, 119, 120, 121, 122, 123, 124, 125, 126, 127, 128, 129, 2]
   (.ops [⟨(some 52), none, .mv (.s 4)⟩,
     ⟨(some 53), none, .bin .add (.s 52) (.c (V.int .i64 1))⟩,
     ⟨(some 4), none, .mv (.s 53)⟩]
   (.done)))
  (.exit 0))

def loop_palanquinref9_Fine_1 : C :=
  .ops [⟨(some 158), none, .mv (.s 7)⟩,
    ⟨(some 159), none, .faddr 5 (.s 1)⟩,
    ⟨(some 160), none, .load none (.s 159)⟩,
    ⟨(some 161), none, .len (.s 160)⟩,
    ⟨(some 162), none, .bin .lss (.s 158) (.s 161)⟩]
  (.cond (.s 162)
  (.blk 3
   (.draw [⟨(some 165), none, .faddr 5 (.s 1)⟩,
      ⟨(some 166), none, .load none (.s 165)⟩,
      ⟨(some 167), none, .mv (.s 7)⟩,
      ⟨(some 168), none, .iaddr none 2 (.s 166) (.s 167)⟩,
      ⟨(some 169), none, .iaddr (some 2) 1 (.s 168) (.c (V.int .i64 0))⟩,
      ⟨(some 170), none, .load none (.s 169)⟩,
      ⟨(some 171), none, .faddr 5 (.s 1)⟩,
      ⟨(some 172), none, .load none (.s 171)⟩,
      ⟨(some 173), none, .mv (.s 7)⟩,
      ⟨(some 174), none, .iaddr none 2 (.s 172) (.s 173)⟩,
      ⟨(some 175), none, .iaddr (some 2) 1 (.s 174) (.c (V.int .i64 1))⟩,
      ⟨(some 176), none, .load none (.s 175)⟩,
      ⟨(some 177), none, .slit ty_int 2 [(V.int .i64 0)] [(0, 1, (.s 170)), (1, 1, (.s 176))]⟩,
      ⟨(some 178), none, .call fn_palanquinref9_within [(.s 177), (.c (V.int .i64 2)), (.c (V.int .i64 1)), (.c (V.int .i64 65536))]⟩,
      ⟨(some 179), none, .un .not (.s 178)⟩] []
    (.cond (.s 179)
    (.ops [⟨(some 2), none, .mv (.c (V.bool false))⟩]
     (.ret))
    (.done))) [] [165, 166, 167, 168, 169, 170, 171, 172, 173, 174, 175, 176, 177, 178, 179, 2]
   (.ops [⟨(some 163), none, .mv (.s 7)⟩,
     ⟨(some 164), none, .bin .add (.s 163) (.c (V.int .i64 1))⟩,
     ⟨(some 7), none, .mv (.s 164)⟩]
   (.done)))
  (.exit 2))

def ir_palanquinref9_Fine : Fn' := ⟨180, [.tmp 2],
  .ops [⟨(some 1), none, .box ty_palanquinref9_Structure (.s 0)⟩,
    ⟨(some 2), none, .mv (.c (V.bool false))⟩]
  (.ops [⟨(some 8), none, .faddr 2 (.s 1)⟩,
    ⟨(some 9), none, .load none (.s 8)⟩,
    ⟨(some 10), none, .len (.s 9)⟩,
    ⟨(some 3), none, .mv (.s 10)⟩]
  (.ops [⟨(some 11), none, .faddr 0 (.s 1)⟩,
    ⟨(some 12), none, .load none (.s 11)⟩,
    ⟨(some 13), none, .bin .lss (.s 12) (.c (V.int .i64 0))⟩,
    ⟨(some 14), none, .mv (.s 13)⟩,
    ⟨(some 15), (some (14, false)), .faddr 0 (.s 1)⟩,
    ⟨(some 16), (some (14, false)), .load none (.s 15)⟩,
    ⟨(some 17), (some (14, false)), .bin .gtr (.s 16) (.c (V.int .i64 63))⟩,
    ⟨(some 18), none, .pick (.s 14) (.c (V.bool true)) (.s 17)⟩,
    ⟨(some 19), none, .mv (.s 18)⟩,
    ⟨(some 20), (some (19, false)), .faddr 1 (.s 1)⟩,
    ⟨(some 21), (some (19, false)), .load none (.s 20)⟩,
    ⟨(some 22), (some (19, false)), .bin .lss (.s 21) (.c (V.int .i64 1))⟩,
    ⟨(some 23), none, .pick (.s 19) (.c (V.bool true)) (.s 22)⟩,
    ⟨(some 24), none, .mv (.s 23)⟩,
    ⟨(some 25), (some (24, false)), .faddr 1 (.s 1)⟩,
    ⟨(some 26), (some (24, false)), .load none (.s 25)⟩,
    ⟨(some 27), (some (24, false)), .bin .gtr (.s 26) (.c (V.int .i64 32))⟩,
    ⟨(some 28), none, .pick (.s 24) (.c (V.bool true)) (.s 27)⟩,
    ⟨(some 29), none, .mv (.s 28)⟩,
    ⟨(some 30), (some (29, false)), .mv (.s 3)⟩,
    ⟨(some 31), (some (29, false)), .bin .lss (.s 30) (.c (V.int .i64 1))⟩,
    ⟨(some 32), none, .pick (.s 29) (.c (V.bool true)) (.s 31)⟩,
    ⟨(some 33), none, .mv (.s 32)⟩,
    ⟨(some 34), (some (33, false)), .mv (.s 3)⟩,
    ⟨(some 35), (some (33, false)), .bin .gtr (.s 34) (.c (V.int .i64 64))⟩,
    ⟨(some 36), none, .pick (.s 33) (.c (V.bool true)) (.s 35)⟩,
    ⟨(some 37), none, .mv (.s 36)⟩,
    ⟨(some 38), (some (37, false)), .faddr 3 (.s 1)⟩,
    ⟨(some 39), (some (37, false)), .load none (.s 38)⟩,
    ⟨(some 40), (some (37, false)), .bin .lss (.s 39) (.c (V.int .i64 0))⟩,
    ⟨(some 41), none, .pick (.s 37) (.c (V.bool true)) (.s 40)⟩,
    ⟨(some 42), none, .mv (.s 41)⟩,
    ⟨(some 43), (some (42, false)), .faddr 3 (.s 1)⟩,
    ⟨(some 44), (some (42, false)), .load none (.s 43)⟩,
    ⟨(some 45), (some (42, false)), .faddr 1 (.s 1)⟩,
    ⟨(some 46), (some (42, false)), .load none (.s 45)⟩,
    ⟨(some 47), (some (42, false)), .bin .gtr (.s 44) (.s 46)⟩,
    ⟨(some 48), none, .pick (.s 42) (.c (V.bool true)) (.s 47)⟩]
  (.cond (.s 48)
  (.ops [⟨(some 2), none, .mv (.c (V.bool false))⟩]
   (.ret))
  (.ops [⟨(some 4), none, .mv (.c (V.int .i64 0))⟩]
   (.blk 0
   (.loop loop_palanquinref9_Fine_0 [4] [49, 50, 51, 54, 55, 56, 57, 58, 5, 59, 60, 61, 62, 63, 64, 65, 66, 67, 68, 69, 70, 71, 72, 73, 74, 75, 76, 77, 78, 79, 80, 81, 82, 83, 84, 85, 86, 87, 88, 89, 90, 2, 91, 92, 93, 94, 95, 96, 97, 98, 99, 100, 101, 102, 103, 2, 104, 105, 106, 107, 108, 109, 110, 111, 112, 113, 114, 115, 116, 117, 118, 119, 120, 121, 122, 123, 124, 125, 126, 127, 128, 129, 2, 52, 53, 4]) [] [49, 50, 51, 54, 55, 56, 57, 58, 5, 59, 60, 61, 62, 63, 64, 65, 66, 67, 68, 69, 70, 71, 72, 73, 74, 75, 76, 77, 78, 79, 80, 81, 82, 83, 84, 85, 86, 87, 88, 89, 90, 2, 91, 92, 93, 94, 95, 96, 97, 98, 99, 100, 101, 102, 103, 2, 104, 105, 106, 107, 108, 109, 110, 111, 112, 113, 114, 115, 116, 117, 118, 119, 120, 121, 122, 123, 124, 125, 126, 127, 128, 129, 2, 52, 53, 4]
   (.ops [⟨(some 6), none, .mv (.c (V.int .i64 0))⟩]
   (.ops [⟨(some 130), none, .faddr 3 (.s 1)⟩,
     ⟨(some 131), none, .load none (.s 130)⟩,
     ⟨(some 132), none, .bin .gtr (.s 131) (.c (V.int .i64 0))⟩]
   (.condJ (.s 132)
   (.ops [⟨(some 133), none, .faddr 1 (.s 1)⟩,
      ⟨(some 134), none, .load none (.s 133)⟩,
      ⟨(some 6), none, .mv (.s 134)⟩]
    (.done))
   (.done) [6] [133, 134, 6]
   (.draw [⟨(some 135), none, .faddr 4 (.s 1)⟩,
     ⟨(some 136), none, .load none (.s 135)⟩,
     ⟨(some 137), none, .mv (.s 6)⟩,
     ⟨(some 138), none, .faddr 3 (.s 1)⟩,
     ⟨(some 139), none, .load none (.s 138)⟩,
     ⟨(some 140), none, .bin .sub (.s 139) (.c (V.int .i64 1))⟩,
     ⟨(some 141), none, .call fn_palanquinref9_within [(.s 136), (.s 137), (.c (V.int .i64 0)), (.s 140)]⟩,
     ⟨(some 142), none, .un .not (.s 141)⟩,
     ⟨(some 143), none, .mv (.s 142)⟩,
     ⟨(some 144), (some (143, false)), .faddr 5 (.s 1)⟩,
     ⟨(some 145), (some (143, false)), .load none (.s 144)⟩,
     ⟨(some 146), (some (143, false)), .len (.s 145)⟩,
     ⟨(some 147), (some (143, false)), .bin .gtr (.s 146) (.c (V.int .i64 0))⟩,
     ⟨(some 148), (some (143, false)), .mv (.s 147)⟩,
     ⟨(some 152), (some (148, true)), .load (some 6) (.s 1)⟩,
     ⟨(some 153), (some (148, true)), .call fn_palanquinref9_top [(.s 152)]⟩,
     ⟨(some 149), (some (148, true)), .faddr 5 (.s 1)⟩,
     ⟨(some 150), (some (148, true)), .load none (.s 149)⟩,
     ⟨(some 151), (some (148, true)), .len (.s 150)⟩,
     ⟨(some 154), (some (148, true)), .bin .add (.s 153) (.c (V.int .i64 1))⟩,
     ⟨(some 155), (some (148, true)), .bin .neq (.s 151) (.s 154)⟩,
     ⟨(some 156), (some (143, false)), .pick (.s 148) (.s 155) (.c (V.bool false))⟩,
     ⟨(some 157), none, .pick (.s 143) (.c (V.bool true)) (.s 156)⟩] [(17, 15)]
   (.cond (.s 157)
   (.ops [⟨(some 2), none, .mv (.c (V.bool false))⟩]
    (.ret))
   (.ops [⟨(some 7), none, .mv (.c (V.int .i64 0))⟩]
    (.blk 2
    (.loop loop_palanquinref9_Fine_1 [7] [158, 159, 160, 161, 162, 165, 166, 167, 168, 169, 170, 171, 172, 173, 174, 175, 176, 177, 178, 179, 2, 163, 164, 7]) [] [158, 159, 160, 161, 162, 165, 166, 167, 168, 169, 170, 171, 172, 173, 174, 175, 176, 177, 178, 179, 2, 163, 164, 7]
    (.ops [⟨(some 2), none, .mv (.c (V.bool true))⟩]
    (.ret))))))))))))))⟩

noncomputable def f_palanquinref9_Fine_0 (G : Sem') (t3 t1 : V) (L : List V) : M Res :=
  (M.lift (Ax.bin .lss (L.getD 0 .undef) t3)).bind fun t51 =>
  M.ite t51
    (M.blk 1 (
      (M.lift (Ax.faddr 2 t1)).bind fun t54 =>
      (mload none t54).bind fun t55 =>
      (M.lift (Ax.iaddr none 5 t55 (L.getD 0 .undef))).bind fun t57 =>
      (mload (some 5) t57).bind fun t58 =>
      (mbox ty_palanquinref9_Template (V.agg [(V.int .i64 0), (V.int .i64 0), V.nils, V.nils, V.nils])).bind fun t5 =>
      (mstore 5 t5 t58).bind fun _ =>
      (M.lift (Ax.faddr 0 t5)).bind fun t59 =>
      (mload none t59).bind fun t60 =>
      (M.lift (Ax.bin .lss t60 (V.int .i64 0))).bind fun t61 =>
      (guarded [(0, t61)] (some (0, false)) (M.lift (Ax.faddr 0 t5))).bind fun t63 =>
      (guarded [(0, t61)] (some (0, false)) (mload none t63)).bind fun t64 =>
      (guarded [(0, t61)] (some (0, false)) (M.lift (Ax.bin .gtr t64 (V.int .i64 3)))).bind fun t65 =>
      (M.lift (Ax.pick t61 (V.bool true) t65)).bind fun t66 =>
      (guarded [(0, t66)] (some (0, false)) (M.lift (Ax.faddr 1 t5))).bind fun t68 =>
      (guarded [(0, t66)] (some (0, false)) (mload none t68)).bind fun t69 =>
      (guarded [(0, t66)] (some (0, false)) (M.lift (Ax.bin .lss t69 (V.int .i64 0)))).bind fun t70 =>
      (M.lift (Ax.pick t66 (V.bool true) t70)).bind fun t71 =>
      (guarded [(0, t71)] (some (0, false)) (M.lift (Ax.faddr 1 t5))).bind fun t73 =>
      (guarded [(0, t71)] (some (0, false)) (mload none t73)).bind fun t74 =>
      (guarded [(0, t71)] (some (0, false)) (M.lift (Ax.bin .gtr t74 (V.int .i64 7)))).bind fun t75 =>
      (M.lift (Ax.pick t71 (V.bool true) t75)).bind fun t76 =>
      (guarded [(0, t76)] (some (0, false)) (M.pure (L.getD 0 .undef))).bind fun t78 =>
      (guarded [(0, t76)] (some (0, false)) (M.lift (Ax.bin .eql t78 (V.int .i64 0)))).bind fun t79 =>
      (guarded [(0, t76)] (some (0, false)) (M.pure t79)).bind fun t80 =>
      (guarded [(0, t80)] (some (0, true)) (M.lift (Ax.faddr 0 t5))).bind fun t81 =>
      (guarded [(0, t80)] (some (0, true)) (mload none t81)).bind fun t82 =>
      (guarded [(0, t80)] (some (0, true)) (M.lift (Ax.bin .neq t82 (V.int .i64 0)))).bind fun t83 =>
      (guarded [(0, t80)] (some (0, true)) (M.pure t83)).bind fun t84 =>
      (guarded [(0, t84)] (some (0, false)) (M.lift (Ax.faddr 1 t5))).bind fun t85 =>
      (guarded [(0, t84)] (some (0, false)) (mload none t85)).bind fun t86 =>
      (guarded [(0, t84)] (some (0, false)) (M.lift (Ax.bin .neq t86 (V.int .i64 0)))).bind fun t87 =>
      (guarded [(0, t80)] (some (0, true)) (M.lift (Ax.pick t84 (V.bool true) t87))).bind fun t88 =>
      (guarded [(0, t76)] (some (0, false)) (M.lift (Ax.pick t80 t88 (V.bool false)))).bind fun t89 =>
      (M.lift (Ax.pick t76 (V.bool true) t89)).bind fun t90 =>
      M.ite t90
        (M.pure (.ret [(V.bool false)]))
        ((M.lift (Ax.bin .gtr (L.getD 0 .undef) (V.int .i64 0))).bind fun t92 =>
        (guarded [(0, t92)] (some (0, true)) (M.lift (Ax.faddr 2 t1))).bind fun t94 =>
        (guarded [(0, t92)] (some (0, true)) (mload none t94)).bind fun t95 =>
        (guarded [(0, t92)] (some (0, true)) (M.pure (L.getD 0 .undef))).bind fun t96 =>
        (guarded [(0, t92)] (some (0, true)) (M.lift (Ax.bin .sub t96 (V.int .i64 1)))).bind fun t97 =>
        (guarded [(0, t92)] (some (0, true)) (M.lift (Ax.iaddr none 5 t95 t97))).bind fun t98 =>
        (guarded [(0, t92)] (some (0, true)) (mload (some 5) t98)).bind fun t99 =>
        (guarded [(0, t92)] (some (0, true)) (mload (some 5) t5)).bind fun t100 =>
        (guarded [(0, t92)] (some (0, true)) (G fn_palanquinref9_step [t99, t100])).bind fun t101 =>
        (guarded [(0, t92)] (some (0, true)) (M.lift (Ax.bin .eql t101 (V.int .i64 3)))).bind fun t102 =>
        (M.lift (Ax.pick t92 t102 (V.bool false))).bind fun t103 =>
        M.ite t103
          (M.pure (.ret [(V.bool false)]))
          ((M.lift (Ax.faddr 2 t5)).bind fun t104 =>
          (mload none t104).bind fun t105 =>
          (M.lift (Ax.faddr 1 t1)).bind fun t106 =>
          (mload none t106).bind fun t107 =>
          (G fn_palanquinref9_within [t105, t107, (V.int .i64 0), (V.int .i64 3)]).bind fun t108 =>
          (M.lift (Ax.un .not t108)).bind fun t109 =>
          (guarded [(0, t109)] (some (0, false)) (M.lift (Ax.faddr 3 t5))).bind fun t111 =>
          (guarded [(0, t109)] (some (0, false)) (mload none t111)).bind fun t112 =>
          (guarded [(0, t109)] (some (0, false)) (M.lift (vlen t112))).bind fun t113 =>
          (guarded [(0, t109)] (some (0, false)) (M.lift (Ax.bin .gtr t113 (V.int .i64 8)))).bind fun t114 =>
          (M.lift (Ax.pick t109 (V.bool true) t114)).bind fun t115 =>
          (guarded [(0, t115)] (some (0, false)) (M.lift (Ax.faddr 3 t5))).bind fun t117 =>
          (guarded [(0, t115)] (some (0, false)) (mload none t117)).bind fun t118 =>
          (guarded [(0, t115)] (some (0, false)) (G fn_palanquinref9_within [t118, (V.int .i64 (-1)), (V.int .i64 1), (V.int .i64 16)])).bind fun t119 =>
          (guarded [(0, t115)] (some (0, false)) (M.lift (Ax.un .not t119))).bind fun t120 =>
          (M.lift (Ax.pick t115 (V.bool true) t120)).bind fun t121 =>
          (guarded [(0, t121)] (some (0, false)) (M.lift (Ax.faddr 4 t5))).bind fun t123 =>
          (guarded [(0, t121)] (some (0, false)) (mload none t123)).bind fun t124 =>
          (guarded [(0, t121)] (some (0, false)) (M.lift (Ax.faddr 3 t1))).bind fun t125 =>
          (guarded [(0, t121)] (some (0, false)) (mload none t125)).bind fun t126 =>
          (guarded [(0, t121)] (some (0, false)) (G fn_palanquinref9_within [t124, t126, (V.int .i64 0), (V.int .i64 15)])).bind fun t127 =>
          (guarded [(0, t121)] (some (0, false)) (M.lift (Ax.un .not t127))).bind fun t128 =>
          (M.lift (Ax.pick t121 (V.bool true) t128)).bind fun t129 =>
          M.ite t129
            (M.pure (.ret [(V.bool false)]))
            (M.pure (.nrm []))))) fun _ =>
    (M.lift (Ax.bin .add (L.getD 0 .undef) (V.int .i64 1))).bind fun t53 =>
    M.pure (.nrm [t53]))
    (M.pure (.ex 0 []))

noncomputable def f_palanquinref9_Fine_1 (G : Sem') (t1 : V) (L : List V) : M Res :=
  (M.lift (Ax.faddr 5 t1)).bind fun t159 =>
  (mload none t159).bind fun t160 =>
  (M.lift (vlen t160)).bind fun t161 =>
  (M.lift (Ax.bin .lss (L.getD 0 .undef) t161)).bind fun t162 =>
  M.ite t162
    (M.blk 3 (
      (M.lift (Ax.faddr 5 t1)).bind fun t165 =>
      (mload none t165).bind fun t166 =>
      (M.lift (Ax.iaddr none 2 t166 (L.getD 0 .undef))).bind fun t168 =>
      (M.lift (Ax.iaddr (some 2) 1 t168 (V.int .i64 0))).bind fun t169 =>
      (mload none t169).bind fun t170 =>
      (M.lift (Ax.faddr 5 t1)).bind fun t171 =>
      (mload none t171).bind fun t172 =>
      (M.lift (Ax.iaddr none 2 t172 (L.getD 0 .undef))).bind fun t174 =>
      (M.lift (Ax.iaddr (some 2) 1 t174 (V.int .i64 1))).bind fun t175 =>
      (mload none t175).bind fun t176 =>
      (mslit ty_int 2 [(V.int .i64 0)] [(0, 1, t170), (1, 1, t176)]).bind fun t177 =>
      (G fn_palanquinref9_within [t177, (V.int .i64 2), (V.int .i64 1), (V.int .i64 65536)]).bind fun t178 =>
      (M.lift (Ax.un .not t178)).bind fun t179 =>
      M.ite t179
        (M.pure (.ret [(V.bool false)]))
        (M.pure (.nrm []))) fun _ =>
    (M.lift (Ax.bin .add (L.getD 0 .undef) (V.int .i64 1))).bind fun t164 =>
    M.pure (.nrm [t164]))
    (M.pure (.ex 2 []))

noncomputable def f_palanquinref9_Fine (G : Sem') (t0 : V) : M Res :=
  (mbox ty_palanquinref9_Structure t0).bind fun t1 =>
  (M.lift (Ax.faddr 2 t1)).bind fun t8 =>
  (mload none t8).bind fun t9 =>
  (M.lift (vlen t9)).bind fun t10 =>
  (M.lift (Ax.faddr 0 t1)).bind fun t11 =>
  (mload none t11).bind fun t12 =>
  (M.lift (Ax.bin .lss t12 (V.int .i64 0))).bind fun t13 =>
  (guarded [(0, t13)] (some (0, false)) (M.lift (Ax.faddr 0 t1))).bind fun t15 =>
  (guarded [(0, t13)] (some (0, false)) (mload none t15)).bind fun t16 =>
  (guarded [(0, t13)] (some (0, false)) (M.lift (Ax.bin .gtr t16 (V.int .i64 63)))).bind fun t17 =>
  (M.lift (Ax.pick t13 (V.bool true) t17)).bind fun t18 =>
  (guarded [(0, t18)] (some (0, false)) (M.lift (Ax.faddr 1 t1))).bind fun t20 =>
  (guarded [(0, t18)] (some (0, false)) (mload none t20)).bind fun t21 =>
  (guarded [(0, t18)] (some (0, false)) (M.lift (Ax.bin .lss t21 (V.int .i64 1)))).bind fun t22 =>
  (M.lift (Ax.pick t18 (V.bool true) t22)).bind fun t23 =>
  (guarded [(0, t23)] (some (0, false)) (M.lift (Ax.faddr 1 t1))).bind fun t25 =>
  (guarded [(0, t23)] (some (0, false)) (mload none t25)).bind fun t26 =>
  (guarded [(0, t23)] (some (0, false)) (M.lift (Ax.bin .gtr t26 (V.int .i64 32)))).bind fun t27 =>
  (M.lift (Ax.pick t23 (V.bool true) t27)).bind fun t28 =>
  (guarded [(0, t28)] (some (0, false)) (M.pure t10)).bind fun t30 =>
  (guarded [(0, t28)] (some (0, false)) (M.lift (Ax.bin .lss t30 (V.int .i64 1)))).bind fun t31 =>
  (M.lift (Ax.pick t28 (V.bool true) t31)).bind fun t32 =>
  (guarded [(0, t32)] (some (0, false)) (M.pure t10)).bind fun t34 =>
  (guarded [(0, t32)] (some (0, false)) (M.lift (Ax.bin .gtr t34 (V.int .i64 64)))).bind fun t35 =>
  (M.lift (Ax.pick t32 (V.bool true) t35)).bind fun t36 =>
  (guarded [(0, t36)] (some (0, false)) (M.lift (Ax.faddr 3 t1))).bind fun t38 =>
  (guarded [(0, t36)] (some (0, false)) (mload none t38)).bind fun t39 =>
  (guarded [(0, t36)] (some (0, false)) (M.lift (Ax.bin .lss t39 (V.int .i64 0)))).bind fun t40 =>
  (M.lift (Ax.pick t36 (V.bool true) t40)).bind fun t41 =>
  (guarded [(0, t41)] (some (0, false)) (M.lift (Ax.faddr 3 t1))).bind fun t43 =>
  (guarded [(0, t41)] (some (0, false)) (mload none t43)).bind fun t44 =>
  (guarded [(0, t41)] (some (0, false)) (M.lift (Ax.faddr 1 t1))).bind fun t45 =>
  (guarded [(0, t41)] (some (0, false)) (mload none t45)).bind fun t46 =>
  (guarded [(0, t41)] (some (0, false)) (M.lift (Ax.bin .gtr t44 t46))).bind fun t47 =>
  (M.lift (Ax.pick t41 (V.bool true) t47)).bind fun t48 =>
  M.ite t48
    (M.pure (.ret [(V.bool false)]))
    (M.blk 0 (
      M.iter (f_palanquinref9_Fine_0 G t10 t1) [(V.int .i64 0)]) fun _ =>
    (M.lift (Ax.faddr 3 t1)).bind fun t130 =>
    (mload none t130).bind fun t131 =>
    (M.lift (Ax.bin .gtr t131 (V.int .i64 0))).bind fun t132 =>
    M.join (M.ite t132
      ((M.lift (Ax.faddr 1 t1)).bind fun t133 =>
      (mload none t133).bind fun t134 =>
      M.pure (.nrm [t134]))
      (M.pure (.nrm [(V.int .i64 0)]))) fun L2 =>
    (M.lift (Ax.faddr 4 t1)).bind fun t135 =>
    (mload none t135).bind fun t136 =>
    (M.lift (Ax.faddr 3 t1)).bind fun t138 =>
    (mload none t138).bind fun t139 =>
    (M.lift (Ax.bin .sub t139 (V.int .i64 1))).bind fun t140 =>
    (G fn_palanquinref9_within [t136, (L2.getD 0 .undef), (V.int .i64 0), t140]).bind fun t141 =>
    (M.lift (Ax.un .not t141)).bind fun t142 =>
    (guarded [(0, t142)] (some (0, false)) (M.lift (Ax.faddr 5 t1))).bind fun t144 =>
    (guarded [(0, t142)] (some (0, false)) (mload none t144)).bind fun t145 =>
    (guarded [(0, t142)] (some (0, false)) (M.lift (vlen t145))).bind fun t146 =>
    (guarded [(0, t142)] (some (0, false)) (M.lift (Ax.bin .gtr t146 (V.int .i64 0)))).bind fun t147 =>
    (guarded [(0, t142)] (some (0, false)) (M.pure t147)).bind fun t148 =>
    (guarded [(0, t148)] (some (0, true)) (mload (some 6) t1)).bind fun t152 =>
    M.getH.bind fun h0 =>
    (guarded [(0, t148)] (some (0, true)) (G fn_palanquinref9_top [t152])).bind fun t153 =>
    M.getH.bind fun h0' =>
    (guarded [(0, t148)] (some (0, true)) (M.lift (Ax.faddr 5 t1))).bind fun t149 =>
    (guarded [(0, t148)] (some (0, true)) (mload none t149)).bind fun t150 =>
    (M.unch t149 h0 h0').bind fun _ =>
    (guarded [(0, t148)] (some (0, true)) (M.lift (vlen t150))).bind fun t151 =>
    (guarded [(0, t148)] (some (0, true)) (M.lift (Ax.bin .add t153 (V.int .i64 1)))).bind fun t154 =>
    (guarded [(0, t148)] (some (0, true)) (M.lift (Ax.bin .neq t151 t154))).bind fun t155 =>
    (guarded [(0, t142)] (some (0, false)) (M.lift (Ax.pick t148 t155 (V.bool false)))).bind fun t156 =>
    (M.lift (Ax.pick t142 (V.bool true) t156)).bind fun t157 =>
    M.ite t157
      (M.pure (.ret [(V.bool false)]))
      (M.blk 2 (
        M.iter (f_palanquinref9_Fine_1 G t1) [(V.int .i64 0)]) fun _ =>
      M.pure (.ret [(V.bool true)])))

theorem eq_palanquinref9_Fine (G : Sem') (t0 : V) : execK G ir_palanquinref9_Fine.rv ir_palanquinref9_Fine.body [] [] (params 0 [t0]) = f_palanquinref9_Fine G t0 := by kernel_rfl

theorem tb_palanquinref9_Fine : T fn_palanquinref9_Fine = some ir_palanquinref9_Fine := by kernel_rfl

theorem ok_palanquinref9_Fine {t0 : V} {H : Heap} {Q : V → Heap → Prop} (h : Ok (f_palanquinref9_Fine (sem T) t0) H fun r H' => ∃ L, r = .ret L ∧ Q (tupled L) H') : Ok (sem T fn_palanquinref9_Fine [t0]) H Q :=
  ok_sem tb_palanquinref9_Fine (Nat.le_of_ble_eq_true rfl) (eq_palanquinref9_Fine (sem T) t0) h

end Go.Ax
