/-
  The functions of this seat as plain texts: printed by program (wip/gen/Emit.lean): part 1.
-/
import Derived.Test.YtecklladobbpbaaFn0
set_option maxRecDepth 100000
set_option linter.unusedVariables false
namespace Go.Ax
open Go.Proofs

/-- palanquin/palanquinlaw20.PickKnown. -/
def ir_palanquinlaw20_PickKnown : Fn' := ⟨103, [.tmp 0],
  .ops [⟨(some 0), none, .mv (.c (V.bool false))⟩]
  (.ops [⟨(some 11), none, .call fn_palanquinlaw20_awake []⟩,
    ⟨(some 12), none, .un .not (.s 11)⟩]
  (.cond (.s 12)
  (.ops [⟨(some 0), none, .mv (.c (V.bool false))⟩]
   (.ret))
  (.ops [⟨(some 14), none, .call fn_palanquinlaw20_three []⟩,
     ⟨(some 15), none, .call fn_pick_Fits [(.s 14), (.c (V.int .u32 1)), (.c (V.int .i64 3)), (.c (V.int .i64 7))]⟩,
     ⟨(some 13), none, .mv (.s 15)⟩,
     ⟨(some 16), none, .ext 0 (.s 13)⟩,
     ⟨(some 17), none, .ext 1 (.s 13)⟩,
     ⟨(some 1), none, .mv (.s 16)⟩,
     ⟨(some 2), none, .mv (.s 17)⟩]
   (.ops [⟨(some 19), none, .call fn_palanquinlaw20_three []⟩,
     ⟨(some 20), none, .call fn_pick_Fits [(.s 19), (.c (V.int .u32 0)), (.c (V.int .i64 3)), (.c (V.int .i64 7))]⟩,
     ⟨(some 18), none, .mv (.s 20)⟩,
     ⟨(some 21), none, .ext 0 (.s 18)⟩,
     ⟨(some 22), none, .ext 1 (.s 18)⟩,
     ⟨(some 3), none, .mv (.s 21)⟩,
     ⟨(some 4), none, .mv (.s 22)⟩]
   (.ops [⟨(some 24), none, .build [(V.int .i64 0), (V.int .i64 0), V.nils, (V.int .i64 0), V.nils, V.nils] []⟩,
     ⟨(some 25), none, .call fn_pick_Fits [(.s 24), (.c (V.int .u32 7)), (.c (V.int .i64 3)), (.c (V.int .i64 7))]⟩,
     ⟨(some 23), none, .mv (.s 25)⟩,
     ⟨(some 26), none, .ext 0 (.s 23)⟩,
     ⟨(some 27), none, .ext 1 (.s 23)⟩,
     ⟨(some 5), none, .mv (.s 26)⟩,
     ⟨(some 6), none, .mv (.s 27)⟩]
   (.ops [⟨(some 29), none, .call fn_palanquinlaw20_three []⟩,
     ⟨(some 30), none, .call fn_pick_Fits [(.s 29), (.c (V.int .u32 6)), (.c (V.int .i64 0)), (.c (V.int .i64 0))]⟩,
     ⟨(some 28), none, .mv (.s 30)⟩,
     ⟨(some 31), none, .ext 0 (.s 28)⟩,
     ⟨(some 32), none, .ext 1 (.s 28)⟩,
     ⟨(some 7), none, .mv (.s 31)⟩,
     ⟨(some 8), none, .mv (.s 32)⟩]
   (.ops [⟨(some 34), none, .call fn_palanquinlaw20_three []⟩,
     ⟨(some 35), none, .call fn_pick_Fits [(.s 34), (.c (V.int .u32 7)), (.c (V.int .i64 1)), (.c (V.int .i64 0))]⟩,
     ⟨(some 33), none, .mv (.s 35)⟩,
     ⟨(some 36), none, .ext 0 (.s 33)⟩,
     ⟨(some 37), none, .ext 1 (.s 33)⟩,
     ⟨(some 9), none, .mv (.s 36)⟩,
     ⟨(some 10), none, .mv (.s 37)⟩]
   (.ops [⟨(some 38), none, .mv (.s 2)⟩,
     ⟨(some 39), none, .mv (.s 38)⟩,
     ⟨(some 40), (some (39, true)), .mv (.s 1)⟩,
     ⟨(some 41), (some (39, true)), .bin .eql (.s 40) (.c (V.int .i64 0))⟩,
     ⟨(some 42), none, .pick (.s 39) (.s 41) (.c (V.bool false))⟩,
     ⟨(some 43), none, .mv (.s 42)⟩,
     ⟨(some 44), (some (43, true)), .mv (.s 4)⟩,
     ⟨(some 45), (some (43, true)), .un .not (.s 44)⟩,
     ⟨(some 46), none, .pick (.s 43) (.s 45) (.c (V.bool false))⟩,
     ⟨(some 47), none, .mv (.s 46)⟩,
     ⟨(some 48), (some (47, true)), .mv (.s 6)⟩,
     ⟨(some 49), (some (47, true)), .un .not (.s 48)⟩,
     ⟨(some 50), none, .pick (.s 47) (.s 49) (.c (V.bool false))⟩,
     ⟨(some 51), none, .mv (.s 50)⟩,
     ⟨(some 52), (some (51, true)), .mv (.s 8)⟩,
     ⟨(some 53), (some (51, true)), .un .not (.s 52)⟩,
     ⟨(some 54), none, .pick (.s 51) (.s 53) (.c (V.bool false))⟩,
     ⟨(some 55), none, .mv (.s 54)⟩,
     ⟨(some 56), (some (55, true)), .mv (.s 7)⟩,
     ⟨(some 57), (some (55, true)), .bin .eql (.s 56) (.c (V.int .i64 0))⟩,
     ⟨(some 58), none, .pick (.s 55) (.s 57) (.c (V.bool false))⟩,
     ⟨(some 59), none, .mv (.s 58)⟩,
     ⟨(some 60), (some (59, true)), .mv (.s 10)⟩,
     ⟨(some 61), none, .pick (.s 59) (.s 60) (.c (V.bool false))⟩,
     ⟨(some 62), none, .mv (.s 61)⟩,
     ⟨(some 63), (some (62, true)), .mv (.s 9)⟩,
     ⟨(some 64), (some (62, true)), .bin .eql (.s 63) (.c (V.int .i64 0))⟩,
     ⟨(some 65), none, .pick (.s 62) (.s 64) (.c (V.bool false))⟩,
     ⟨(some 66), none, .mv (.s 65)⟩,
     ⟨(some 67), (some (66, true)), .slit ty_int 2 [(V.int .i64 0)] [(0, 1, (.c (V.int .i64 (-1)))), (1, 1, (.c (V.int .i64 3)))]⟩,
     ⟨(some 68), (some (66, true)), .call fn_pick_Source [(.c (V.int .u64 0)), (.s 67)]⟩,
     ⟨(some 69), (some (66, true)), .bin .eql (.s 68) (.c (V.int .i64 1))⟩,
     ⟨(some 70), none, .pick (.s 66) (.s 69) (.c (V.bool false))⟩,
     ⟨(some 71), none, .mv (.s 70)⟩,
     ⟨(some 72), (some (71, true)), .slit ty_int 3 [(V.int .i64 0)] [(0, 1, (.c (V.int .i64 1))), (1, 1, (.c (V.int .i64 2))), (2, 1, (.c (V.int .i64 (-5))))]⟩,
     ⟨(some 73), (some (71, true)), .call fn_pick_Source [(.c (V.int .u64 18446744073709551615)), (.s 72)]⟩,
     ⟨(some 74), (some (71, true)), .bin .eql (.s 73) (.c (V.int .i64 1))⟩,
     ⟨(some 75), none, .pick (.s 71) (.s 74) (.c (V.bool false))⟩,
     ⟨(some 76), none, .mv (.s 75)⟩,
     ⟨(some 77), (some (76, true)), .call fn_pick_Source [(.c (V.int .u64 9)), (.c V.nils)]⟩,
     ⟨(some 78), (some (76, true)), .bin .eql (.s 77) (.c (V.int .i64 0))⟩,
     ⟨(some 79), none, .pick (.s 76) (.s 78) (.c (V.bool false))⟩,
     ⟨(some 80), none, .mv (.s 79)⟩,
     ⟨(some 81), (some (80, true)), .slit ty_int 1 [(V.int .i64 0)] [(0, 1, (.c (V.int .i64 (-1))))]⟩,
     ⟨(some 82), (some (80, true)), .call fn_pick_Source [(.c (V.int .u64 9)), (.s 81)]⟩,
     ⟨(some 83), (some (80, true)), .bin .eql (.s 82) (.c (V.int .i64 0))⟩,
     ⟨(some 84), none, .pick (.s 80) (.s 83) (.c (V.bool false))⟩,
     ⟨(some 85), none, .mv (.s 84)⟩,
     ⟨(some 86), (some (85, true)), .slit ty_int 1 [(V.int .i64 0)] [(0, 1, (.c (V.int .i64 1)))]⟩,
     ⟨(some 87), (some (85, true)), .build [(V.bool false), (V.bool false), (V.int .i64 0), (V.int .u16 0), (V.bool false), (V.int .i64 0), (V.int .i64 0), V.nils, (V.int .i64 0), V.nils, V.nils, (V.bool false), (V.int .u32 0), (V.bool false), (V.bool false), (V.bool false), V.nils, V.nils, V.nils] [(16, 1, (.s 86))]⟩,
     ⟨(some 88), (some (85, true)), .call fn_pick_In [(.s 87), (.c (V.int .i64 1))]⟩,
     ⟨(some 89), (some (85, true)), .un .not (.s 88)⟩,
     ⟨(some 90), none, .pick (.s 85) (.s 89) (.c (V.bool false))⟩,
     ⟨(some 91), none, .mv (.s 90)⟩,
     ⟨(some 92), (some (91, true)), .slit ty_int 1 [(V.int .i64 0)] [(0, 1, (.c (V.int .i64 1)))]⟩,
     ⟨(some 93), (some (91, true)), .build [(V.bool false), (V.bool false), (V.int .i64 0), (V.int .u16 0), (V.bool false), (V.int .i64 0), (V.int .i64 0), V.nils, (V.int .i64 0), V.nils, V.nils, (V.bool false), (V.int .u32 0), (V.bool false), (V.bool false), (V.bool false), V.nils, V.nils, V.nils] [(16, 1, (.s 92))]⟩,
     ⟨(some 94), (some (91, true)), .call fn_pick_In [(.s 93), (.c (V.int .i64 (-1)))]⟩,
     ⟨(some 95), (some (91, true)), .un .not (.s 94)⟩,
     ⟨(some 96), none, .pick (.s 91) (.s 95) (.c (V.bool false))⟩,
     ⟨(some 97), none, .mv (.s 96)⟩,
     ⟨(some 98), (some (97, true)), .slit ty_int 1 [(V.int .i64 0)] [(0, 1, (.c (V.int .i64 0)))]⟩,
     ⟨(some 99), (some (97, true)), .build [(V.bool false), (V.bool false), (V.int .i64 0), (V.int .u16 0), (V.bool false), (V.int .i64 0), (V.int .i64 0), V.nils, (V.int .i64 0), V.nils, V.nils, (V.bool false), (V.int .u32 0), (V.bool false), (V.bool false), (V.bool false), V.nils, V.nils, V.nils] [(16, 1, (.s 98))]⟩,
     ⟨(some 100), (some (97, true)), .call fn_pick_In [(.s 99), (.c (V.int .i64 0))]⟩,
     ⟨(some 101), (some (97, true)), .un .not (.s 100)⟩,
     ⟨(some 102), none, .pick (.s 97) (.s 101) (.c (V.bool false))⟩,
     ⟨(some 0), none, .mv (.s 102)⟩]
   (.ret)))))))))⟩

noncomputable def f_palanquinlaw20_PickKnown (G : Sem') : M Res :=
  (G fn_palanquinlaw20_awake []).bind fun t11 =>
  (M.lift (Ax.un .not t11)).bind fun t12 =>
  M.ite t12
    (M.pure (.ret [(V.bool false)]))
    ((G fn_palanquinlaw20_three []).bind fun t14 =>
    (G fn_pick_Fits [t14, (V.int .u32 1), (V.int .i64 3), (V.int .i64 7)]).bind fun t15 =>
    (M.lift (Ax.ext 0 t15)).bind fun t16 =>
    (M.lift (Ax.ext 1 t15)).bind fun t17 =>
    (G fn_palanquinlaw20_three []).bind fun t19 =>
    (G fn_pick_Fits [t19, (V.int .u32 0), (V.int .i64 3), (V.int .i64 7)]).bind fun t20 =>
    (M.lift (Ax.ext 0 t20)).bind fun t21 =>
    (M.lift (Ax.ext 1 t20)).bind fun t22 =>
    (M.lift (Ax.build [(V.int .i64 0), (V.int .i64 0), V.nils, (V.int .i64 0), V.nils, V.nils] [])).bind fun t24 =>
    (G fn_pick_Fits [t24, (V.int .u32 7), (V.int .i64 3), (V.int .i64 7)]).bind fun t25 =>
    (M.lift (Ax.ext 0 t25)).bind fun t26 =>
    (M.lift (Ax.ext 1 t25)).bind fun t27 =>
    (G fn_palanquinlaw20_three []).bind fun t29 =>
    (G fn_pick_Fits [t29, (V.int .u32 6), (V.int .i64 0), (V.int .i64 0)]).bind fun t30 =>
    (M.lift (Ax.ext 0 t30)).bind fun t31 =>
    (M.lift (Ax.ext 1 t30)).bind fun t32 =>
    (G fn_palanquinlaw20_three []).bind fun t34 =>
    (G fn_pick_Fits [t34, (V.int .u32 7), (V.int .i64 1), (V.int .i64 0)]).bind fun t35 =>
    (M.lift (Ax.ext 0 t35)).bind fun t36 =>
    (M.lift (Ax.ext 1 t35)).bind fun t37 =>
    (guarded [(0, t17)] (some (0, true)) (M.pure t16)).bind fun t40 =>
    (guarded [(0, t17)] (some (0, true)) (M.lift (Ax.bin .eql t40 (V.int .i64 0)))).bind fun t41 =>
    (M.lift (Ax.pick t17 t41 (V.bool false))).bind fun t42 =>
    (guarded [(0, t42)] (some (0, true)) (M.pure t22)).bind fun t44 =>
    (guarded [(0, t42)] (some (0, true)) (M.lift (Ax.un .not t44))).bind fun t45 =>
    (M.lift (Ax.pick t42 t45 (V.bool false))).bind fun t46 =>
    (guarded [(0, t46)] (some (0, true)) (M.pure t27)).bind fun t48 =>
    (guarded [(0, t46)] (some (0, true)) (M.lift (Ax.un .not t48))).bind fun t49 =>
    (M.lift (Ax.pick t46 t49 (V.bool false))).bind fun t50 =>
    (guarded [(0, t50)] (some (0, true)) (M.pure t32)).bind fun t52 =>
    (guarded [(0, t50)] (some (0, true)) (M.lift (Ax.un .not t52))).bind fun t53 =>
    (M.lift (Ax.pick t50 t53 (V.bool false))).bind fun t54 =>
    (guarded [(0, t54)] (some (0, true)) (M.pure t31)).bind fun t56 =>
    (guarded [(0, t54)] (some (0, true)) (M.lift (Ax.bin .eql t56 (V.int .i64 0)))).bind fun t57 =>
    (M.lift (Ax.pick t54 t57 (V.bool false))).bind fun t58 =>
    (guarded [(0, t58)] (some (0, true)) (M.pure t37)).bind fun t60 =>
    (M.lift (Ax.pick t58 t60 (V.bool false))).bind fun t61 =>
    (guarded [(0, t61)] (some (0, true)) (M.pure t36)).bind fun t63 =>
    (guarded [(0, t61)] (some (0, true)) (M.lift (Ax.bin .eql t63 (V.int .i64 0)))).bind fun t64 =>
    (M.lift (Ax.pick t61 t64 (V.bool false))).bind fun t65 =>
    (guarded [(0, t65)] (some (0, true)) (mslit ty_int 2 [(V.int .i64 0)] [(0, 1, (V.int .i64 (-1))), (1, 1, (V.int .i64 3))])).bind fun t67 =>
    (guarded [(0, t65)] (some (0, true)) (G fn_pick_Source [(V.int .u64 0), t67])).bind fun t68 =>
    (guarded [(0, t65)] (some (0, true)) (M.lift (Ax.bin .eql t68 (V.int .i64 1)))).bind fun t69 =>
    (M.lift (Ax.pick t65 t69 (V.bool false))).bind fun t70 =>
    (guarded [(0, t70)] (some (0, true)) (mslit ty_int 3 [(V.int .i64 0)] [(0, 1, (V.int .i64 1)), (1, 1, (V.int .i64 2)), (2, 1, (V.int .i64 (-5)))])).bind fun t72 =>
    (guarded [(0, t70)] (some (0, true)) (G fn_pick_Source [(V.int .u64 18446744073709551615), t72])).bind fun t73 =>
    (guarded [(0, t70)] (some (0, true)) (M.lift (Ax.bin .eql t73 (V.int .i64 1)))).bind fun t74 =>
    (M.lift (Ax.pick t70 t74 (V.bool false))).bind fun t75 =>
    (guarded [(0, t75)] (some (0, true)) (G fn_pick_Source [(V.int .u64 9), V.nils])).bind fun t77 =>
    (guarded [(0, t75)] (some (0, true)) (M.lift (Ax.bin .eql t77 (V.int .i64 0)))).bind fun t78 =>
    (M.lift (Ax.pick t75 t78 (V.bool false))).bind fun t79 =>
    (guarded [(0, t79)] (some (0, true)) (mslit ty_int 1 [(V.int .i64 0)] [(0, 1, (V.int .i64 (-1)))])).bind fun t81 =>
    (guarded [(0, t79)] (some (0, true)) (G fn_pick_Source [(V.int .u64 9), t81])).bind fun t82 =>
    (guarded [(0, t79)] (some (0, true)) (M.lift (Ax.bin .eql t82 (V.int .i64 0)))).bind fun t83 =>
    (M.lift (Ax.pick t79 t83 (V.bool false))).bind fun t84 =>
    (guarded [(0, t84)] (some (0, true)) (mslit ty_int 1 [(V.int .i64 0)] [(0, 1, (V.int .i64 1))])).bind fun t86 =>
    (guarded [(0, t84)] (some (0, true)) (M.lift (Ax.build [(V.bool false), (V.bool false), (V.int .i64 0), (V.int .u16 0), (V.bool false), (V.int .i64 0), (V.int .i64 0), V.nils, (V.int .i64 0), V.nils, V.nils, (V.bool false), (V.int .u32 0), (V.bool false), (V.bool false), (V.bool false), V.nils, V.nils, V.nils] [(16, 1, t86)]))).bind fun t87 =>
    (guarded [(0, t84)] (some (0, true)) (G fn_pick_In [t87, (V.int .i64 1)])).bind fun t88 =>
    (guarded [(0, t84)] (some (0, true)) (M.lift (Ax.un .not t88))).bind fun t89 =>
    (M.lift (Ax.pick t84 t89 (V.bool false))).bind fun t90 =>
    (guarded [(0, t90)] (some (0, true)) (mslit ty_int 1 [(V.int .i64 0)] [(0, 1, (V.int .i64 1))])).bind fun t92 =>
    (guarded [(0, t90)] (some (0, true)) (M.lift (Ax.build [(V.bool false), (V.bool false), (V.int .i64 0), (V.int .u16 0), (V.bool false), (V.int .i64 0), (V.int .i64 0), V.nils, (V.int .i64 0), V.nils, V.nils, (V.bool false), (V.int .u32 0), (V.bool false), (V.bool false), (V.bool false), V.nils, V.nils, V.nils] [(16, 1, t92)]))).bind fun t93 =>
    (guarded [(0, t90)] (some (0, true)) (G fn_pick_In [t93, (V.int .i64 (-1))])).bind fun t94 =>
    (guarded [(0, t90)] (some (0, true)) (M.lift (Ax.un .not t94))).bind fun t95 =>
    (M.lift (Ax.pick t90 t95 (V.bool false))).bind fun t96 =>
    (guarded [(0, t96)] (some (0, true)) (mslit ty_int 1 [(V.int .i64 0)] [(0, 1, (V.int .i64 0))])).bind fun t98 =>
    (guarded [(0, t96)] (some (0, true)) (M.lift (Ax.build [(V.bool false), (V.bool false), (V.int .i64 0), (V.int .u16 0), (V.bool false), (V.int .i64 0), (V.int .i64 0), V.nils, (V.int .i64 0), V.nils, V.nils, (V.bool false), (V.int .u32 0), (V.bool false), (V.bool false), (V.bool false), V.nils, V.nils, V.nils] [(16, 1, t98)]))).bind fun t99 =>
    (guarded [(0, t96)] (some (0, true)) (G fn_pick_In [t99, (V.int .i64 0)])).bind fun t100 =>
    (guarded [(0, t96)] (some (0, true)) (M.lift (Ax.un .not t100))).bind fun t101 =>
    (M.lift (Ax.pick t96 t101 (V.bool false))).bind fun t102 =>
    M.pure (.ret [t102]))

theorem eq_palanquinlaw20_PickKnown (G : Sem') : execK G ir_palanquinlaw20_PickKnown.rv ir_palanquinlaw20_PickKnown.body [] [] (params 0 []) = f_palanquinlaw20_PickKnown G := by kernel_rfl

theorem tb_palanquinlaw20_PickKnown : T fn_palanquinlaw20_PickKnown = some ir_palanquinlaw20_PickKnown := by kernel_rfl

theorem ok_palanquinlaw20_PickKnown {H : Heap} {Q : V → Heap → Prop} (h : Ok (f_palanquinlaw20_PickKnown (sem T)) H fun r H' => ∃ L, r = .ret L ∧ Q (tupled L) H') : Ok (sem T fn_palanquinlaw20_PickKnown []) H Q :=
  ok_sem tb_palanquinlaw20_PickKnown (Nat.le_of_ble_eq_true rfl) (eq_palanquinlaw20_PickKnown (sem T)) h

/-- palanquin/palanquinlaw20.awake. -/
def ir_palanquinlaw20_awake : Fn' := ⟨37, [.tmp 0],
  .ops [⟨(some 0), none, .mv (.c (V.bool false))⟩]
  (.ops [⟨(some 6), none, .call fn_palanquinlaw20_three []⟩,
    ⟨(some 7), none, .call fn_pick_Fits [(.s 6), (.c (V.int .u32 7)), (.c (V.int .i64 3)), (.c (V.int .i64 7))]⟩,
    ⟨(some 5), none, .mv (.s 7)⟩,
    ⟨(some 8), none, .ext 0 (.s 5)⟩,
    ⟨(some 9), none, .ext 1 (.s 5)⟩,
    ⟨(some 1), none, .mv (.s 8)⟩,
    ⟨(some 2), none, .mv (.s 9)⟩]
  (.ops [⟨(some 11), none, .call fn_palanquinlaw20_three []⟩,
    ⟨(some 12), none, .call fn_pick_Fits [(.s 11), (.c (V.int .u32 7)), (.c (V.int .i64 0)), (.c (V.int .i64 7))]⟩,
    ⟨(some 10), none, .mv (.s 12)⟩,
    ⟨(some 13), none, .ext 0 (.s 10)⟩,
    ⟨(some 14), none, .ext 1 (.s 10)⟩,
    ⟨(some 3), none, .mv (.s 13)⟩,
    ⟨(some 4), none, .mv (.s 14)⟩]
  (.ops [⟨(some 15), none, .mv (.s 2)⟩,
    ⟨(some 16), none, .mv (.s 15)⟩,
    ⟨(some 17), (some (16, true)), .mv (.s 1)⟩,
    ⟨(some 18), (some (16, true)), .bin .eql (.s 17) (.c (V.int .i64 2))⟩,
    ⟨(some 19), none, .pick (.s 16) (.s 18) (.c (V.bool false))⟩,
    ⟨(some 20), none, .mv (.s 19)⟩,
    ⟨(some 21), (some (20, true)), .mv (.s 4)⟩,
    ⟨(some 22), none, .pick (.s 20) (.s 21) (.c (V.bool false))⟩,
    ⟨(some 23), none, .mv (.s 22)⟩,
    ⟨(some 24), (some (23, true)), .mv (.s 3)⟩,
    ⟨(some 25), (some (23, true)), .bin .eql (.s 24) (.c (V.int .i64 1))⟩,
    ⟨(some 26), none, .pick (.s 23) (.s 25) (.c (V.bool false))⟩,
    ⟨(some 27), none, .mv (.s 26)⟩,
    ⟨(some 28), (some (27, true)), .slit ty_int 3 [(V.int .i64 0)] [(0, 1, (.c (V.int .i64 2))), (1, 1, (.c (V.int .i64 5))), (2, 1, (.c (V.int .i64 6)))]⟩,
    ⟨(some 29), (some (27, true)), .call fn_pick_Source [(.c (V.int .u64 50000)), (.s 28)]⟩,
    ⟨(some 30), (some (27, true)), .bin .eql (.s 29) (.c (V.int .i64 1))⟩,
    ⟨(some 31), none, .pick (.s 27) (.s 30) (.c (V.bool false))⟩,
    ⟨(some 32), none, .mv (.s 31)⟩,
    ⟨(some 33), (some (32, true)), .slit ty_int 2 [(V.int .i64 0)] [(0, 1, (.c (V.int .i64 0))), (1, 1, (.c (V.int .i64 1)))]⟩,
    ⟨(some 34), (some (32, true)), .build [(V.bool false), (V.bool false), (V.int .i64 0), (V.int .u16 0), (V.bool false), (V.int .i64 0), (V.int .i64 0), V.nils, (V.int .i64 0), V.nils, V.nils, (V.bool false), (V.int .u32 0), (V.bool false), (V.bool false), (V.bool false), V.nils, V.nils, V.nils] [(16, 1, (.s 33))]⟩,
    ⟨(some 35), (some (32, true)), .call fn_pick_In [(.s 34), (.c (V.int .i64 1))]⟩,
    ⟨(some 36), none, .pick (.s 32) (.s 35) (.c (V.bool false))⟩,
    ⟨(some 0), none, .mv (.s 36)⟩]
  (.ret))))⟩

noncomputable def f_palanquinlaw20_awake (G : Sem') : M Res :=
  (G fn_palanquinlaw20_three []).bind fun t6 =>
  (G fn_pick_Fits [t6, (V.int .u32 7), (V.int .i64 3), (V.int .i64 7)]).bind fun t7 =>
  (M.lift (Ax.ext 0 t7)).bind fun t8 =>
  (M.lift (Ax.ext 1 t7)).bind fun t9 =>
  (G fn_palanquinlaw20_three []).bind fun t11 =>
  (G fn_pick_Fits [t11, (V.int .u32 7), (V.int .i64 0), (V.int .i64 7)]).bind fun t12 =>
  (M.lift (Ax.ext 0 t12)).bind fun t13 =>
  (M.lift (Ax.ext 1 t12)).bind fun t14 =>
  (guarded [(0, t9)] (some (0, true)) (M.pure t8)).bind fun t17 =>
  (guarded [(0, t9)] (some (0, true)) (M.lift (Ax.bin .eql t17 (V.int .i64 2)))).bind fun t18 =>
  (M.lift (Ax.pick t9 t18 (V.bool false))).bind fun t19 =>
  (guarded [(0, t19)] (some (0, true)) (M.pure t14)).bind fun t21 =>
  (M.lift (Ax.pick t19 t21 (V.bool false))).bind fun t22 =>
  (guarded [(0, t22)] (some (0, true)) (M.pure t13)).bind fun t24 =>
  (guarded [(0, t22)] (some (0, true)) (M.lift (Ax.bin .eql t24 (V.int .i64 1)))).bind fun t25 =>
  (M.lift (Ax.pick t22 t25 (V.bool false))).bind fun t26 =>
  (guarded [(0, t26)] (some (0, true)) (mslit ty_int 3 [(V.int .i64 0)] [(0, 1, (V.int .i64 2)), (1, 1, (V.int .i64 5)), (2, 1, (V.int .i64 6))])).bind fun t28 =>
  (guarded [(0, t26)] (some (0, true)) (G fn_pick_Source [(V.int .u64 50000), t28])).bind fun t29 =>
  (guarded [(0, t26)] (some (0, true)) (M.lift (Ax.bin .eql t29 (V.int .i64 1)))).bind fun t30 =>
  (M.lift (Ax.pick t26 t30 (V.bool false))).bind fun t31 =>
  (guarded [(0, t31)] (some (0, true)) (mslit ty_int 2 [(V.int .i64 0)] [(0, 1, (V.int .i64 0)), (1, 1, (V.int .i64 1))])).bind fun t33 =>
  (guarded [(0, t31)] (some (0, true)) (M.lift (Ax.build [(V.bool false), (V.bool false), (V.int .i64 0), (V.int .u16 0), (V.bool false), (V.int .i64 0), (V.int .i64 0), V.nils, (V.int .i64 0), V.nils, V.nils, (V.bool false), (V.int .u32 0), (V.bool false), (V.bool false), (V.bool false), V.nils, V.nils, V.nils] [(16, 1, t33)]))).bind fun t34 =>
  (guarded [(0, t31)] (some (0, true)) (G fn_pick_In [t34, (V.int .i64 1)])).bind fun t35 =>
  (M.lift (Ax.pick t31 t35 (V.bool false))).bind fun t36 =>
  M.pure (.ret [t36])

theorem eq_palanquinlaw20_awake (G : Sem') : execK G ir_palanquinlaw20_awake.rv ir_palanquinlaw20_awake.body [] [] (params 0 []) = f_palanquinlaw20_awake G := by kernel_rfl

theorem tb_palanquinlaw20_awake : T fn_palanquinlaw20_awake = some ir_palanquinlaw20_awake := by kernel_rfl

theorem ok_palanquinlaw20_awake {H : Heap} {Q : V → Heap → Prop} (h : Ok (f_palanquinlaw20_awake (sem T)) H fun r H' => ∃ L, r = .ret L ∧ Q (tupled L) H') : Ok (sem T fn_palanquinlaw20_awake []) H Q :=
  ok_sem tb_palanquinlaw20_awake (Nat.le_of_ble_eq_true rfl) (eq_palanquinlaw20_awake (sem T)) h

/-- palanquin/palanquinlaw20.three. -/
def ir_palanquinlaw20_three : Fn' := ⟨9, [.cell 0 (some 6)],
  .ops [⟨(some 0), none, .box ty_depend_Structure (.c (V.agg [(V.int .i64 0), (V.int .i64 0), V.nils, (V.int .i64 0), V.nils, V.nils]))⟩]
  (.ops [⟨(some 1), none, .slit ty_int 3 [(V.int .i64 0)] [(0, 1, (.c (V.int .i64 2))), (1, 1, (.c (V.int .i64 2))), (2, 1, (.c (V.int .i64 2)))]⟩,
    ⟨(some 2), none, .build [(V.int .i64 0), (V.int .i64 0), V.nils, V.nils, V.nils] [(2, 1, (.s 1))]⟩,
    ⟨(some 3), none, .slit ty_int 3 [(V.int .i64 0)] [(0, 1, (.c (V.int .i64 0))), (1, 1, (.c (V.int .i64 1))), (2, 1, (.c (V.int .i64 2)))]⟩,
    ⟨(some 4), none, .build [(V.int .i64 0), (V.int .i64 0), V.nils, V.nils, V.nils] [(1, 1, (.c (V.int .i64 1))), (2, 1, (.s 3))]⟩,
    ⟨(some 5), none, .slit ty_int 3 [(V.int .i64 0)] [(0, 1, (.c (V.int .i64 0))), (1, 1, (.c (V.int .i64 0))), (2, 1, (.c (V.int .i64 3)))]⟩,
    ⟨(some 6), none, .build [(V.int .i64 0), (V.int .i64 0), V.nils, V.nils, V.nils] [(0, 1, (.c (V.int .i64 1))), (2, 1, (.s 5))]⟩,
    ⟨(some 7), none, .slit ty_depend_Template 3 [(V.int .i64 0), (V.int .i64 0), V.nils, V.nils, V.nils] [(0, 5, (.s 2)), (5, 5, (.s 4)), (10, 5, (.s 6))]⟩,
    ⟨(some 8), none, .build [(V.int .i64 0), (V.int .i64 0), V.nils, (V.int .i64 0), V.nils, V.nils] [(1, 1, (.c (V.int .i64 3))), (2, 1, (.s 7))]⟩,
    ⟨none, none, .store 6 (.s 0) (.s 8)⟩]
  (.ret))⟩

noncomputable def f_palanquinlaw20_three (G : Sem') : M Res :=
  (mbox ty_depend_Structure (V.agg [(V.int .i64 0), (V.int .i64 0), V.nils, (V.int .i64 0), V.nils, V.nils])).bind fun t0 =>
  (mslit ty_int 3 [(V.int .i64 0)] [(0, 1, (V.int .i64 2)), (1, 1, (V.int .i64 2)), (2, 1, (V.int .i64 2))]).bind fun t1 =>
  (M.lift (Ax.build [(V.int .i64 0), (V.int .i64 0), V.nils, V.nils, V.nils] [(2, 1, t1)])).bind fun t2 =>
  (mslit ty_int 3 [(V.int .i64 0)] [(0, 1, (V.int .i64 0)), (1, 1, (V.int .i64 1)), (2, 1, (V.int .i64 2))]).bind fun t3 =>
  (M.lift (Ax.build [(V.int .i64 0), (V.int .i64 0), V.nils, V.nils, V.nils] [(1, 1, (V.int .i64 1)), (2, 1, t3)])).bind fun t4 =>
  (mslit ty_int 3 [(V.int .i64 0)] [(0, 1, (V.int .i64 0)), (1, 1, (V.int .i64 0)), (2, 1, (V.int .i64 3))]).bind fun t5 =>
  (M.lift (Ax.build [(V.int .i64 0), (V.int .i64 0), V.nils, V.nils, V.nils] [(0, 1, (V.int .i64 1)), (2, 1, t5)])).bind fun t6 =>
  (mslit ty_depend_Template 3 [(V.int .i64 0), (V.int .i64 0), V.nils, V.nils, V.nils] [(0, 5, t2), (5, 5, t4), (10, 5, t6)]).bind fun t7 =>
  (M.lift (Ax.build [(V.int .i64 0), (V.int .i64 0), V.nils, (V.int .i64 0), V.nils, V.nils] [(1, 1, (V.int .i64 3)), (2, 1, t7)])).bind fun t8 =>
  (mstore 6 t0 t8).bind fun _ =>
  (mload (some 6) t0).bind fun r0 =>
  M.pure (.ret [r0])

theorem eq_palanquinlaw20_three (G : Sem') : execK G ir_palanquinlaw20_three.rv ir_palanquinlaw20_three.body [] [] (params 0 []) = f_palanquinlaw20_three G := by kernel_rfl

theorem tb_palanquinlaw20_three : T fn_palanquinlaw20_three = some ir_palanquinlaw20_three := by kernel_rfl

theorem ok_palanquinlaw20_three {H : Heap} {Q : V → Heap → Prop} (h : Ok (f_palanquinlaw20_three (sem T)) H fun r H' => ∃ L, r = .ret L ∧ Q (tupled L) H') : Ok (sem T fn_palanquinlaw20_three []) H Q :=
  ok_sem tb_palanquinlaw20_three (Nat.le_of_ble_eq_true rfl) (eq_palanquinlaw20_three (sem T)) h

/-- palanquin/pick.Fits. -/
def loop_pick_Fits_0 : C :=
  .ops [⟨(some 24), none, .bin .lss (.s 23) (.s 22)⟩]
  (.cond (.s 24)
  (.blk 1
   (.ops [⟨(some 25), none, .mv (.s 23)⟩,
      ⟨(some 14), none, .mv (.s 25)⟩]
    (.ops [⟨(some 27), none, .load (some 6) (.s 4)⟩,
      ⟨(some 28), none, .mv (.s 14)⟩,
      ⟨(some 29), none, .call fn_depend_Layers [(.s 27), (.s 28)]⟩,
      ⟨(some 26), none, .mv (.s 29)⟩,
      ⟨(some 30), none, .ext 0 (.s 26)⟩,
      ⟨(some 31), none, .ext 1 (.s 26)⟩,
      ⟨(some 32), none, .ext 2 (.s 26)⟩,
      ⟨(some 15), none, .mv (.s 30)⟩,
      ⟨(some 16), none, .mv (.s 31)⟩,
      ⟨(some 17), none, .mv (.s 32)⟩]
    (.ops [⟨(some 33), none, .mv (.s 17)⟩,
      ⟨(some 34), none, .un .not (.s 33)⟩,
      ⟨(some 35), none, .mv (.s 34)⟩,
      ⟨(some 36), (some (35, false)), .mv (.s 1)⟩,
      ⟨(some 37), (some (35, false)), .mv (.s 14)⟩,
      ⟨(some 38), (some (35, false)), .bin .shr (.s 36) (.s 37)⟩,
      ⟨(some 39), (some (35, false)), .bin .and (.s 38) (.c (V.int .u32 1))⟩,
      ⟨(some 40), (some (35, false)), .bin .eql (.s 39) (.c (V.int .u32 0))⟩,
      ⟨(some 41), none, .pick (.s 35) (.c (V.bool true)) (.s 40)⟩,
      ⟨(some 42), none, .mv (.s 41)⟩,
      ⟨(some 43), (some (42, false)), .mv (.s 15)⟩,
      ⟨(some 44), (some (42, false)), .mv (.s 2)⟩,
      ⟨(some 45), (some (42, false)), .bin .gtr (.s 43) (.s 44)⟩,
      ⟨(some 46), none, .pick (.s 42) (.c (V.bool true)) (.s 45)⟩,
      ⟨(some 47), none, .mv (.s 46)⟩,
      ⟨(some 48), (some (47, false)), .mv (.s 16)⟩,
      ⟨(some 49), (some (47, false)), .mv (.s 3)⟩,
      ⟨(some 50), (some (47, false)), .bin .gtr (.s 48) (.s 49)⟩,
      ⟨(some 51), none, .pick (.s 47) (.c (V.bool true)) (.s 50)⟩]
    (.cond (.s 51)
    (.exit 1)
    (.ops [⟨(some 52), none, .mv (.s 13)⟩,
       ⟨(some 53), none, .un .not (.s 52)⟩,
       ⟨(some 54), none, .mv (.s 53)⟩,
       ⟨(some 55), (some (54, false)), .mv (.s 15)⟩,
       ⟨(some 56), (some (54, false)), .mv (.s 11)⟩,
       ⟨(some 57), (some (54, false)), .bin .gtr (.s 55) (.s 56)⟩,
       ⟨(some 58), none, .pick (.s 54) (.c (V.bool true)) (.s 57)⟩,
       ⟨(some 59), none, .mv (.s 58)⟩,
       ⟨(some 60), (some (59, false)), .mv (.s 15)⟩,
       ⟨(some 61), (some (59, false)), .mv (.s 11)⟩,
       ⟨(some 62), (some (59, false)), .bin .eql (.s 60) (.s 61)⟩,
       ⟨(some 63), (some (59, false)), .mv (.s 62)⟩,
       ⟨(some 64), (some (63, true)), .mv (.s 16)⟩,
       ⟨(some 65), (some (63, true)), .mv (.s 12)⟩,
       ⟨(some 66), (some (63, true)), .bin .gtr (.s 64) (.s 65)⟩,
       ⟨(some 67), (some (59, false)), .pick (.s 63) (.s 66) (.c (V.bool false))⟩,
       ⟨(some 68), none, .pick (.s 59) (.c (V.bool true)) (.s 67)⟩]
     (.condJ (.s 68)
     (.ops [⟨(some 69), none, .mv (.s 14)⟩,
        ⟨(some 70), none, .mv (.s 15)⟩,
        ⟨(some 71), none, .mv (.s 16)⟩,
        ⟨(some 10), none, .mv (.s 69)⟩,
        ⟨(some 11), none, .mv (.s 70)⟩,
        ⟨(some 12), none, .mv (.s 71)⟩,
        ⟨(some 13), none, .mv (.c (V.bool true))⟩]
      (.done))
     (.done) [10, 11, 12, 13] [69, 70, 71, 10, 11, 12, 13]
     (.done))))))) [10, 11, 12, 13] [25, 14, 27, 28, 29, 26, 30, 31, 32, 15, 16, 17, 33, 34, 35, 36, 37, 38, 39, 40, 41, 42, 43, 44, 45, 46, 47, 48, 49, 50, 51, 52, 53, 54, 55, 56, 57, 58, 59, 60, 61, 62, 63, 64, 65, 66, 67, 68, 69, 70, 71, 10, 11, 12, 13]
   (.ops [⟨(some 72), none, .bin .add (.s 23) (.c (V.int .i64 1))⟩,
     ⟨(some 23), none, .mv (.s 72)⟩]
   (.done)))
  (.exit 0))

def ir_pick_Fits : Fn' := ⟨75, [.tmp 8, .tmp 9],
  .ops [⟨(some 4), none, .box ty_depend_Structure (.s 0)⟩,
    ⟨(some 8), none, .mv (.c (V.int .i64 0))⟩,
    ⟨(some 9), none, .mv (.c (V.bool false))⟩]
  (.ops [⟨(some 18), none, .load (some 6) (.s 4)⟩,
    ⟨(some 19), none, .call fn_depend_Fine [(.s 18)]⟩,
    ⟨(some 20), none, .un .not (.s 19)⟩]
  (.cond (.s 20)
  (.ops [⟨(some 8), none, .mv (.c (V.int .i64 0))⟩,
     ⟨(some 9), none, .mv (.c (V.bool false))⟩]
   (.ret))
  (.ops [⟨(some 10), none, .mv (.c (V.int .i64 0))⟩,
     ⟨(some 11), none, .mv (.c (V.int .i64 0))⟩,
     ⟨(some 12), none, .mv (.c (V.int .i64 0))⟩,
     ⟨(some 13), none, .mv (.c (V.bool false))⟩]
   (.ops [⟨(some 21), none, .faddr 1 (.s 4)⟩,
     ⟨(some 22), none, .load none (.s 21)⟩,
     ⟨(some 23), none, .mv (.c (V.int .i64 0))⟩]
   (.blk 0
   (.loop loop_pick_Fits_0 [10, 11, 12, 13, 23] [24, 25, 14, 27, 28, 29, 26, 30, 31, 32, 15, 16, 17, 33, 34, 35, 36, 37, 38, 39, 40, 41, 42, 43, 44, 45, 46, 47, 48, 49, 50, 51, 52, 53, 54, 55, 56, 57, 58, 59, 60, 61, 62, 63, 64, 65, 66, 67, 68, 69, 70, 71, 10, 11, 12, 13, 72, 23]) [10, 13] [24, 25, 14, 27, 28, 29, 26, 30, 31, 32, 15, 16, 17, 33, 34, 35, 36, 37, 38, 39, 40, 41, 42, 43, 44, 45, 46, 47, 48, 49, 50, 51, 52, 53, 54, 55, 56, 57, 58, 59, 60, 61, 62, 63, 64, 65, 66, 67, 68, 69, 70, 71, 10, 11, 12, 13, 72, 23]
   (.ops [⟨(some 73), none, .mv (.s 10)⟩,
     ⟨(some 74), none, .mv (.s 13)⟩,
     ⟨(some 8), none, .mv (.s 73)⟩,
     ⟨(some 9), none, .mv (.s 74)⟩]
   (.ret)))))))⟩

noncomputable def f_pick_Fits_0 (G : Sem') (t22 t4 t1 t2 t3 t8 t9 : V) (L : List V) : M Res :=
  (M.lift (Ax.bin .lss (L.getD 4 .undef) t22)).bind fun t24 =>
  M.ite t24
    (M.blk 1 (
      (mload (some 6) t4).bind fun t27 =>
      (G fn_depend_Layers [t27, (L.getD 4 .undef)]).bind fun t29 =>
      (M.lift (Ax.ext 0 t29)).bind fun t30 =>
      (M.lift (Ax.ext 1 t29)).bind fun t31 =>
      (M.lift (Ax.ext 2 t29)).bind fun t32 =>
      (M.lift (Ax.un .not t32)).bind fun t34 =>
      (guarded [(0, t34)] (some (0, false)) (M.pure t1)).bind fun t36 =>
      (guarded [(0, t34)] (some (0, false)) (M.pure (L.getD 4 .undef))).bind fun t37 =>
      (guarded [(0, t34)] (some (0, false)) (M.lift (Ax.bin .shr t36 t37))).bind fun t38 =>
      (guarded [(0, t34)] (some (0, false)) (M.lift (Ax.bin .and t38 (V.int .u32 1)))).bind fun t39 =>
      (guarded [(0, t34)] (some (0, false)) (M.lift (Ax.bin .eql t39 (V.int .u32 0)))).bind fun t40 =>
      (M.lift (Ax.pick t34 (V.bool true) t40)).bind fun t41 =>
      (guarded [(0, t41)] (some (0, false)) (M.pure t30)).bind fun t43 =>
      (guarded [(0, t41)] (some (0, false)) (M.pure t2)).bind fun t44 =>
      (guarded [(0, t41)] (some (0, false)) (M.lift (Ax.bin .gtr t43 t44))).bind fun t45 =>
      (M.lift (Ax.pick t41 (V.bool true) t45)).bind fun t46 =>
      (guarded [(0, t46)] (some (0, false)) (M.pure t31)).bind fun t48 =>
      (guarded [(0, t46)] (some (0, false)) (M.pure t3)).bind fun t49 =>
      (guarded [(0, t46)] (some (0, false)) (M.lift (Ax.bin .gtr t48 t49))).bind fun t50 =>
      (M.lift (Ax.pick t46 (V.bool true) t50)).bind fun t51 =>
      M.ite t51
        (M.pure (.ex 1 [(L.getD 0 .undef), (L.getD 1 .undef), (L.getD 2 .undef), (L.getD 3 .undef)]))
        ((M.lift (Ax.un .not (L.getD 3 .undef))).bind fun t53 =>
        (guarded [(0, t53)] (some (0, false)) (M.pure t30)).bind fun t55 =>
        (guarded [(0, t53)] (some (0, false)) (M.pure (L.getD 1 .undef))).bind fun t56 =>
        (guarded [(0, t53)] (some (0, false)) (M.lift (Ax.bin .gtr t55 t56))).bind fun t57 =>
        (M.lift (Ax.pick t53 (V.bool true) t57)).bind fun t58 =>
        (guarded [(0, t58)] (some (0, false)) (M.pure t30)).bind fun t60 =>
        (guarded [(0, t58)] (some (0, false)) (M.pure (L.getD 1 .undef))).bind fun t61 =>
        (guarded [(0, t58)] (some (0, false)) (M.lift (Ax.bin .eql t60 t61))).bind fun t62 =>
        (guarded [(0, t58)] (some (0, false)) (M.pure t62)).bind fun t63 =>
        (guarded [(0, t63)] (some (0, true)) (M.pure t31)).bind fun t64 =>
        (guarded [(0, t63)] (some (0, true)) (M.pure (L.getD 2 .undef))).bind fun t65 =>
        (guarded [(0, t63)] (some (0, true)) (M.lift (Ax.bin .gtr t64 t65))).bind fun t66 =>
        (guarded [(0, t58)] (some (0, false)) (M.lift (Ax.pick t63 t66 (V.bool false)))).bind fun t67 =>
        (M.lift (Ax.pick t58 (V.bool true) t67)).bind fun t68 =>
        M.join (M.ite t68
          (M.pure (.nrm [(L.getD 4 .undef), t30, t31, (V.bool true)]))
          (M.pure (.nrm [(L.getD 0 .undef), (L.getD 1 .undef), (L.getD 2 .undef), (L.getD 3 .undef)]))) fun L0 =>
        M.pure (.nrm [(L0.getD 0 .undef), (L0.getD 1 .undef), (L0.getD 2 .undef), (L0.getD 3 .undef)]))) fun L1 =>
    (M.lift (Ax.bin .add (L.getD 4 .undef) (V.int .i64 1))).bind fun t72 =>
    M.pure (.nrm [(L1.getD 0 .undef), (L1.getD 1 .undef), (L1.getD 2 .undef), (L1.getD 3 .undef), t72]))
    (M.pure (.ex 0 [(L.getD 0 .undef), (L.getD 3 .undef)]))

noncomputable def f_pick_Fits (G : Sem') (t0 t1 t2 t3 : V) : M Res :=
  (mbox ty_depend_Structure t0).bind fun t4 =>
  (mload (some 6) t4).bind fun t18 =>
  (G fn_depend_Fine [t18]).bind fun t19 =>
  (M.lift (Ax.un .not t19)).bind fun t20 =>
  M.ite t20
    (M.pure (.ret [(V.int .i64 0), (V.bool false)]))
    ((M.lift (Ax.faddr 1 t4)).bind fun t21 =>
    (mload none t21).bind fun t22 =>
    M.blk 0 (
      M.iter (f_pick_Fits_0 G t22 t4 t1 t2 t3 (V.int .i64 0) (V.bool false)) [(V.int .i64 0), (V.int .i64 0), (V.int .i64 0), (V.bool false), (V.int .i64 0)]) fun L2 =>
    M.pure (.ret [(L2.getD 0 .undef), (L2.getD 1 .undef)]))

theorem eq_pick_Fits (G : Sem') (t0 t1 t2 t3 : V) : execK G ir_pick_Fits.rv ir_pick_Fits.body [] [] (params 0 [t0, t1, t2, t3]) = f_pick_Fits G t0 t1 t2 t3 := by kernel_rfl

theorem tb_pick_Fits : T fn_pick_Fits = some ir_pick_Fits := by kernel_rfl

theorem ok_pick_Fits {t0 t1 t2 t3 : V} {H : Heap} {Q : V → Heap → Prop} (h : Ok (f_pick_Fits (sem T) t0 t1 t2 t3) H fun r H' => ∃ L, r = .ret L ∧ Q (tupled L) H') : Ok (sem T fn_pick_Fits [t0, t1, t2, t3]) H Q :=
  ok_sem tb_pick_Fits (Nat.le_of_ble_eq_true rfl) (eq_pick_Fits (sem T) t0 t1 t2 t3) h

/-- palanquin/depend.Fine. -/
def loop_depend_Fine_0 : C :=
  .ops [⟨(some 72), none, .bin .lss (.s 71) (.s 70)⟩]
  (.cond (.s 72)
  (.blk 1
   (.ops [⟨(some 73), none, .iaddr none 2 (.s 69) (.s 71)⟩,
      ⟨(some 74), none, .load (some 2) (.s 73)⟩,
      ⟨(some 6), none, .box ty_2_int (.c (V.agg [(V.int .i64 0), (V.int .i64 0)]))⟩,
      ⟨none, none, .store 2 (.s 6) (.s 74)⟩]
    (.ops [⟨(some 75), none, .slice (.arr 2) 1 (.s 6) none none none⟩,
      ⟨(some 76), none, .call fn_depend_within [(.s 75), (.c (V.int .i64 2)), (.c (V.int .i64 1)), (.c (V.int .i64 65536))]⟩,
      ⟨(some 77), none, .un .not (.s 76)⟩]
    (.cond (.s 77)
    (.ops [⟨(some 2), none, .mv (.c (V.bool false))⟩]
     (.ret))
    (.done)))) [] [73, 74, 6, 75, 76, 77, 2]
   (.ops [⟨(some 78), none, .bin .add (.s 71) (.c (V.int .i64 1))⟩,
     ⟨(some 71), none, .mv (.s 78)⟩]
   (.done)))
  (.exit 0))

def ir_depend_Fine : Fn' := ⟨84, [.tmp 2],
  .ops [⟨(some 1), none, .box ty_depend_Structure (.s 0)⟩,
    ⟨(some 2), none, .mv (.c (V.bool false))⟩]
  (.ops [⟨(some 7), none, .faddr 1 (.s 1)⟩,
    ⟨(some 8), none, .load none (.s 7)⟩,
    ⟨(some 3), none, .mv (.s 8)⟩]
  (.ops [⟨(some 9), none, .faddr 3 (.s 1)⟩,
    ⟨(some 10), none, .load none (.s 9)⟩,
    ⟨(some 11), none, .bin .eql (.s 10) (.c (V.int .i64 0))⟩]
  (.condJ (.s 11)
  (.ops [⟨(some 3), none, .mv (.c (V.int .i64 0))⟩]
   (.done))
  (.done) [3] [3]
  (.ops [⟨(some 12), none, .faddr 0 (.s 1)⟩,
    ⟨(some 13), none, .load none (.s 12)⟩,
    ⟨(some 14), none, .bin .lss (.s 13) (.c (V.int .i64 0))⟩,
    ⟨(some 15), none, .mv (.s 14)⟩,
    ⟨(some 16), (some (15, false)), .faddr 0 (.s 1)⟩,
    ⟨(some 17), (some (15, false)), .load none (.s 16)⟩,
    ⟨(some 18), (some (15, false)), .bin .geq (.s 17) (.c (V.int .i64 64))⟩,
    ⟨(some 19), none, .pick (.s 15) (.c (V.bool true)) (.s 18)⟩,
    ⟨(some 20), none, .mv (.s 19)⟩,
    ⟨(some 21), (some (20, false)), .faddr 1 (.s 1)⟩,
    ⟨(some 22), (some (20, false)), .load none (.s 21)⟩,
    ⟨(some 23), (some (20, false)), .bin .lss (.s 22) (.c (V.int .i64 1))⟩,
    ⟨(some 24), none, .pick (.s 20) (.c (V.bool true)) (.s 23)⟩,
    ⟨(some 25), none, .mv (.s 24)⟩,
    ⟨(some 26), (some (25, false)), .faddr 1 (.s 1)⟩,
    ⟨(some 27), (some (25, false)), .load none (.s 26)⟩,
    ⟨(some 28), (some (25, false)), .bin .gtr (.s 27) (.c (V.int .i64 32))⟩,
    ⟨(some 29), none, .pick (.s 25) (.c (V.bool true)) (.s 28)⟩,
    ⟨(some 30), none, .mv (.s 29)⟩,
    ⟨(some 31), (some (30, false)), .faddr 3 (.s 1)⟩,
    ⟨(some 32), (some (30, false)), .load none (.s 31)⟩,
    ⟨(some 33), (some (30, false)), .bin .lss (.s 32) (.c (V.int .i64 0))⟩,
    ⟨(some 34), none, .pick (.s 30) (.c (V.bool true)) (.s 33)⟩,
    ⟨(some 35), none, .mv (.s 34)⟩,
    ⟨(some 36), (some (35, false)), .faddr 3 (.s 1)⟩,
    ⟨(some 37), (some (35, false)), .load none (.s 36)⟩,
    ⟨(some 38), (some (35, false)), .faddr 1 (.s 1)⟩,
    ⟨(some 39), (some (35, false)), .load none (.s 38)⟩,
    ⟨(some 40), (some (35, false)), .bin .gtr (.s 37) (.s 39)⟩,
    ⟨(some 41), none, .pick (.s 35) (.c (V.bool true)) (.s 40)⟩,
    ⟨(some 42), none, .mv (.s 41)⟩,
    ⟨(some 43), (some (42, false)), .faddr 4 (.s 1)⟩,
    ⟨(some 44), (some (42, false)), .load none (.s 43)⟩,
    ⟨(some 45), (some (42, false)), .mv (.s 3)⟩,
    ⟨(some 46), (some (42, false)), .faddr 3 (.s 1)⟩,
    ⟨(some 47), (some (42, false)), .load none (.s 46)⟩,
    ⟨(some 48), (some (42, false)), .bin .sub (.s 47) (.c (V.int .i64 1))⟩,
    ⟨(some 49), (some (42, false)), .call fn_depend_within [(.s 44), (.s 45), (.c (V.int .i64 0)), (.s 48)]⟩,
    ⟨(some 50), (some (42, false)), .un .not (.s 49)⟩,
    ⟨(some 51), none, .pick (.s 42) (.c (V.bool true)) (.s 50)⟩,
    ⟨(some 52), none, .mv (.s 51)⟩,
    ⟨(some 53), (some (52, false)), .load (some 6) (.s 1)⟩,
    ⟨(some 54), (some (52, false)), .call fn_depend_layers [(.s 53)]⟩,
    ⟨(some 55), (some (52, false)), .un .not (.s 54)⟩,
    ⟨(some 56), none, .pick (.s 52) (.c (V.bool true)) (.s 55)⟩]
  (.cond (.s 56)
  (.ops [⟨(some 2), none, .mv (.c (V.bool false))⟩]
   (.ret))
  (.ops [⟨(some 57), none, .faddr 5 (.s 1)⟩,
     ⟨(some 58), none, .load none (.s 57)⟩,
     ⟨(some 59), none, .len (.s 58)⟩,
     ⟨(some 4), none, .mv (.s 59)⟩]
   (.ops [⟨(some 60), none, .mv (.s 4)⟩,
     ⟨(some 61), none, .bin .neq (.s 60) (.c (V.int .i64 0))⟩,
     ⟨(some 62), none, .mv (.s 61)⟩,
     ⟨(some 63), (some (62, true)), .mv (.s 4)⟩,
     ⟨(some 64), (some (62, true)), .load (some 6) (.s 1)⟩,
     ⟨(some 65), (some (62, true)), .call fn_depend_spatial [(.s 64)]⟩,
     ⟨(some 66), (some (62, true)), .bin .neq (.s 63) (.s 65)⟩,
     ⟨(some 67), none, .pick (.s 62) (.s 66) (.c (V.bool false))⟩]
   (.cond (.s 67)
   (.ops [⟨(some 2), none, .mv (.c (V.bool false))⟩]
    (.ret))
   (.ops [⟨(some 68), none, .faddr 5 (.s 1)⟩,
      ⟨(some 69), none, .load none (.s 68)⟩,
      ⟨(some 70), none, .len (.s 69)⟩,
      ⟨(some 71), none, .mv (.c (V.int .i64 0))⟩]
    (.blk 0
    (.loop loop_depend_Fine_0 [71] [72, 73, 74, 6, 75, 76, 77, 2, 78, 71]) [] [72, 73, 74, 6, 75, 76, 77, 2, 78, 71]
    (.ops [⟨(some 79), none, .faddr 2 (.s 1)⟩,
      ⟨(some 80), none, .load none (.s 79)⟩,
      ⟨(some 81), none, .mkfn fn_depend_Fine_1 [(.s 1)]⟩,
      ⟨(some 82), none, .call fn_slices_ContainsFunc_depend_Template_depend_Template [(.s 80), (.s 81)]⟩,
      ⟨(some 83), none, .un .not (.s 82)⟩,
      ⟨(some 2), none, .mv (.s 83)⟩]
    (.ret))))))))))))⟩

noncomputable def f_depend_Fine_0 (G : Sem') (t70 t69 : V) (L : List V) : M Res :=
  (M.lift (Ax.bin .lss (L.getD 0 .undef) t70)).bind fun t72 =>
  M.ite t72
    (M.blk 1 (
      (M.lift (Ax.iaddr none 2 t69 (L.getD 0 .undef))).bind fun t73 =>
      (mload (some 2) t73).bind fun t74 =>
      (mbox ty_2_int (V.agg [(V.int .i64 0), (V.int .i64 0)])).bind fun t6 =>
      (mstore 2 t6 t74).bind fun _ =>
      (M.lift (vslice (.arr 2) 1 t6 none none none)).bind fun t75 =>
      (G fn_depend_within [t75, (V.int .i64 2), (V.int .i64 1), (V.int .i64 65536)]).bind fun t76 =>
      (M.lift (Ax.un .not t76)).bind fun t77 =>
      M.ite t77
        (M.pure (.ret [(V.bool false)]))
        (M.pure (.nrm []))) fun _ =>
    (M.lift (Ax.bin .add (L.getD 0 .undef) (V.int .i64 1))).bind fun t78 =>
    M.pure (.nrm [t78]))
    (M.pure (.ex 0 []))

noncomputable def f_depend_Fine (G : Sem') (t0 : V) : M Res :=
  (mbox ty_depend_Structure t0).bind fun t1 =>
  (M.lift (Ax.faddr 1 t1)).bind fun t7 =>
  (mload none t7).bind fun t8 =>
  (M.lift (Ax.faddr 3 t1)).bind fun t9 =>
  (mload none t9).bind fun t10 =>
  (M.lift (Ax.bin .eql t10 (V.int .i64 0))).bind fun t11 =>
  M.join (M.ite t11
    (M.pure (.nrm [(V.int .i64 0)]))
    (M.pure (.nrm [t8]))) fun L0 =>
  (M.lift (Ax.faddr 0 t1)).bind fun t12 =>
  (mload none t12).bind fun t13 =>
  (M.lift (Ax.bin .lss t13 (V.int .i64 0))).bind fun t14 =>
  (guarded [(0, t14)] (some (0, false)) (M.lift (Ax.faddr 0 t1))).bind fun t16 =>
  (guarded [(0, t14)] (some (0, false)) (mload none t16)).bind fun t17 =>
  (guarded [(0, t14)] (some (0, false)) (M.lift (Ax.bin .geq t17 (V.int .i64 64)))).bind fun t18 =>
  (M.lift (Ax.pick t14 (V.bool true) t18)).bind fun t19 =>
  (guarded [(0, t19)] (some (0, false)) (M.lift (Ax.faddr 1 t1))).bind fun t21 =>
  (guarded [(0, t19)] (some (0, false)) (mload none t21)).bind fun t22 =>
  (guarded [(0, t19)] (some (0, false)) (M.lift (Ax.bin .lss t22 (V.int .i64 1)))).bind fun t23 =>
  (M.lift (Ax.pick t19 (V.bool true) t23)).bind fun t24 =>
  (guarded [(0, t24)] (some (0, false)) (M.lift (Ax.faddr 1 t1))).bind fun t26 =>
  (guarded [(0, t24)] (some (0, false)) (mload none t26)).bind fun t27 =>
  (guarded [(0, t24)] (some (0, false)) (M.lift (Ax.bin .gtr t27 (V.int .i64 32)))).bind fun t28 =>
  (M.lift (Ax.pick t24 (V.bool true) t28)).bind fun t29 =>
  (guarded [(0, t29)] (some (0, false)) (M.lift (Ax.faddr 3 t1))).bind fun t31 =>
  (guarded [(0, t29)] (some (0, false)) (mload none t31)).bind fun t32 =>
  (guarded [(0, t29)] (some (0, false)) (M.lift (Ax.bin .lss t32 (V.int .i64 0)))).bind fun t33 =>
  (M.lift (Ax.pick t29 (V.bool true) t33)).bind fun t34 =>
  (guarded [(0, t34)] (some (0, false)) (M.lift (Ax.faddr 3 t1))).bind fun t36 =>
  (guarded [(0, t34)] (some (0, false)) (mload none t36)).bind fun t37 =>
  (guarded [(0, t34)] (some (0, false)) (M.lift (Ax.faddr 1 t1))).bind fun t38 =>
  (guarded [(0, t34)] (some (0, false)) (mload none t38)).bind fun t39 =>
  (guarded [(0, t34)] (some (0, false)) (M.lift (Ax.bin .gtr t37 t39))).bind fun t40 =>
  (M.lift (Ax.pick t34 (V.bool true) t40)).bind fun t41 =>
  (guarded [(0, t41)] (some (0, false)) (M.lift (Ax.faddr 4 t1))).bind fun t43 =>
  (guarded [(0, t41)] (some (0, false)) (mload none t43)).bind fun t44 =>
  (guarded [(0, t41)] (some (0, false)) (M.pure (L0.getD 0 .undef))).bind fun t45 =>
  (guarded [(0, t41)] (some (0, false)) (M.lift (Ax.faddr 3 t1))).bind fun t46 =>
  (guarded [(0, t41)] (some (0, false)) (mload none t46)).bind fun t47 =>
  (guarded [(0, t41)] (some (0, false)) (M.lift (Ax.bin .sub t47 (V.int .i64 1)))).bind fun t48 =>
  (guarded [(0, t41)] (some (0, false)) (G fn_depend_within [t44, t45, (V.int .i64 0), t48])).bind fun t49 =>
  (guarded [(0, t41)] (some (0, false)) (M.lift (Ax.un .not t49))).bind fun t50 =>
  (M.lift (Ax.pick t41 (V.bool true) t50)).bind fun t51 =>
  (guarded [(0, t51)] (some (0, false)) (mload (some 6) t1)).bind fun t53 =>
  (guarded [(0, t51)] (some (0, false)) (G fn_depend_layers [t53])).bind fun t54 =>
  (guarded [(0, t51)] (some (0, false)) (M.lift (Ax.un .not t54))).bind fun t55 =>
  (M.lift (Ax.pick t51 (V.bool true) t55)).bind fun t56 =>
  M.ite t56
    (M.pure (.ret [(V.bool false)]))
    ((M.lift (Ax.faddr 5 t1)).bind fun t57 =>
    (mload none t57).bind fun t58 =>
    (M.lift (vlen t58)).bind fun t59 =>
    (M.lift (Ax.bin .neq t59 (V.int .i64 0))).bind fun t61 =>
    (guarded [(0, t61)] (some (0, true)) (M.pure t59)).bind fun t63 =>
    (guarded [(0, t61)] (some (0, true)) (mload (some 6) t1)).bind fun t64 =>
    (guarded [(0, t61)] (some (0, true)) (G fn_depend_spatial [t64])).bind fun t65 =>
    (guarded [(0, t61)] (some (0, true)) (M.lift (Ax.bin .neq t63 t65))).bind fun t66 =>
    (M.lift (Ax.pick t61 t66 (V.bool false))).bind fun t67 =>
    M.ite t67
      (M.pure (.ret [(V.bool false)]))
      ((M.lift (Ax.faddr 5 t1)).bind fun t68 =>
      (mload none t68).bind fun t69 =>
      (M.lift (vlen t69)).bind fun t70 =>
      M.blk 0 (
        M.iter (f_depend_Fine_0 G t70 t69) [(V.int .i64 0)]) fun _ =>
      (M.lift (Ax.faddr 2 t1)).bind fun t79 =>
      (mload none t79).bind fun t80 =>
      (M.pure (.fn fn_depend_Fine_1 [t1])).bind fun t81 =>
      (G fn_slices_ContainsFunc_depend_Template_depend_Template [t80, t81]).bind fun t82 =>
      (M.lift (Ax.un .not t82)).bind fun t83 =>
      M.pure (.ret [t83])))

theorem eq_depend_Fine (G : Sem') (t0 : V) : execK G ir_depend_Fine.rv ir_depend_Fine.body [] [] (params 0 [t0]) = f_depend_Fine G t0 := by kernel_rfl

theorem tb_depend_Fine : T fn_depend_Fine = some ir_depend_Fine := by kernel_rfl

theorem ok_depend_Fine {t0 : V} {H : Heap} {Q : V → Heap → Prop} (h : Ok (f_depend_Fine (sem T) t0) H fun r H' => ∃ L, r = .ret L ∧ Q (tupled L) H') : Ok (sem T fn_depend_Fine [t0]) H Q :=
  ok_sem tb_depend_Fine (Nat.le_of_ble_eq_true rfl) (eq_depend_Fine (sem T) t0) h

/-- palanquin/depend.within. -/
def ir_depend_within : Fn' := ⟨19, [.tmp 8],
  .ops [⟨(some 6), none, .box ty_int (.s 2)⟩,
    ⟨(some 7), none, .box ty_int (.s 3)⟩,
    ⟨(some 8), none, .mv (.c (V.bool false))⟩]
  (.ops [⟨(some 9), none, .mv (.s 0)⟩,
    ⟨(some 10), none, .len (.s 9)⟩,
    ⟨(some 11), none, .mv (.s 1)⟩,
    ⟨(some 12), none, .bin .eql (.s 10) (.s 11)⟩,
    ⟨(some 13), none, .mv (.s 12)⟩,
    ⟨(some 14), (some (13, true)), .mv (.s 0)⟩,
    ⟨(some 15), (some (13, true)), .mkfn fn_depend_within_1 [(.s 6), (.s 7)]⟩,
    ⟨(some 16), (some (13, true)), .call fn_slices_ContainsFunc_int_int [(.s 14), (.s 15)]⟩,
    ⟨(some 17), (some (13, true)), .un .not (.s 16)⟩,
    ⟨(some 18), none, .pick (.s 13) (.s 17) (.c (V.bool false))⟩,
    ⟨(some 8), none, .mv (.s 18)⟩]
  (.ret))⟩

noncomputable def f_depend_within (G : Sem') (t0 t1 t2 t3 : V) : M Res :=
  (mbox ty_int t2).bind fun t6 =>
  (mbox ty_int t3).bind fun t7 =>
  (M.lift (vlen t0)).bind fun t10 =>
  (M.lift (Ax.bin .eql t10 t1)).bind fun t12 =>
  (guarded [(0, t12)] (some (0, true)) (M.pure t0)).bind fun t14 =>
  (guarded [(0, t12)] (some (0, true)) (M.pure (.fn fn_depend_within_1 [t6, t7]))).bind fun t15 =>
  (guarded [(0, t12)] (some (0, true)) (G fn_slices_ContainsFunc_int_int [t14, t15])).bind fun t16 =>
  (guarded [(0, t12)] (some (0, true)) (M.lift (Ax.un .not t16))).bind fun t17 =>
  (M.lift (Ax.pick t12 t17 (V.bool false))).bind fun t18 =>
  M.pure (.ret [t18])

theorem eq_depend_within (G : Sem') (t0 t1 t2 t3 : V) : execK G ir_depend_within.rv ir_depend_within.body [] [] (params 0 [t0, t1, t2, t3]) = f_depend_within G t0 t1 t2 t3 := by kernel_rfl

theorem tb_depend_within : T fn_depend_within = some ir_depend_within := by kernel_rfl

theorem ok_depend_within {t0 t1 t2 t3 : V} {H : Heap} {Q : V → Heap → Prop} (h : Ok (f_depend_within (sem T) t0 t1 t2 t3) H fun r H' => ∃ L, r = .ret L ∧ Q (tupled L) H') : Ok (sem T fn_depend_within [t0, t1, t2, t3]) H Q :=
  ok_sem tb_depend_within (Nat.le_of_ble_eq_true rfl) (eq_depend_within (sem T) t0 t1 t2 t3) h

/-- palanquin/depend.within$1. -/
def ir_depend_within_1 : Fn' := ⟨13, [.tmp 4],
  .ops [⟨(some 4), none, .mv (.c (V.bool false))⟩]
  (.ops [⟨(some 5), none, .mv (.s 0)⟩,
    ⟨(some 6), none, .load none (.s 1)⟩,
    ⟨(some 7), none, .bin .lss (.s 5) (.s 6)⟩,
    ⟨(some 8), none, .mv (.s 7)⟩,
    ⟨(some 9), (some (8, false)), .mv (.s 0)⟩,
    ⟨(some 10), (some (8, false)), .load none (.s 2)⟩,
    ⟨(some 11), (some (8, false)), .bin .gtr (.s 9) (.s 10)⟩,
    ⟨(some 12), none, .pick (.s 8) (.c (V.bool true)) (.s 11)⟩,
    ⟨(some 4), none, .mv (.s 12)⟩]
  (.ret))⟩

noncomputable def f_depend_within_1 (G : Sem') (t0 t1 t2 : V) : M Res :=
  (mload none t1).bind fun t6 =>
  (M.lift (Ax.bin .lss t0 t6)).bind fun t7 =>
  (guarded [(0, t7)] (some (0, false)) (M.pure t0)).bind fun t9 =>
  (guarded [(0, t7)] (some (0, false)) (mload none t2)).bind fun t10 =>
  (guarded [(0, t7)] (some (0, false)) (M.lift (Ax.bin .gtr t9 t10))).bind fun t11 =>
  (M.lift (Ax.pick t7 (V.bool true) t11)).bind fun t12 =>
  M.pure (.ret [t12])

theorem eq_depend_within_1 (G : Sem') (t0 t1 t2 : V) : execK G ir_depend_within_1.rv ir_depend_within_1.body [] [] (params 0 [t0, t1, t2]) = f_depend_within_1 G t0 t1 t2 := by kernel_rfl

theorem tb_depend_within_1 : T fn_depend_within_1 = some ir_depend_within_1 := by kernel_rfl

theorem ok_depend_within_1 {t0 t1 t2 : V} {H : Heap} {Q : V → Heap → Prop} (h : Ok (f_depend_within_1 (sem T) t0 t1 t2) H fun r H' => ∃ L, r = .ret L ∧ Q (tupled L) H') : Ok (sem T fn_depend_within_1 [t0, t1, t2]) H Q :=
  ok_sem tb_depend_within_1 (Nat.le_of_ble_eq_true rfl) (eq_depend_within_1 (sem T) t0 t1 t2) h

/-- slices.ContainsFunc[[]int,int]. -/
def ir_slices_ContainsFunc_int_int : Fn' := ⟨9, [.tmp 4],
  .ops [⟨(some 4), none, .mv (.c (V.bool false))⟩]
  (.ops [⟨(some 5), none, .mv (.s 0)⟩,
    ⟨(some 6), none, .mv (.s 1)⟩,
    ⟨(some 7), none, .call fn_slices_IndexFunc_int_int [(.s 5), (.s 6)]⟩,
    ⟨(some 8), none, .bin .geq (.s 7) (.c (V.int .i64 0))⟩,
    ⟨(some 4), none, .mv (.s 8)⟩]
  (.ret))⟩

noncomputable def f_slices_ContainsFunc_int_int (G : Sem') (t0 t1 : V) : M Res :=
  (G fn_slices_IndexFunc_int_int [t0, t1]).bind fun t7 =>
  (M.lift (Ax.bin .geq t7 (V.int .i64 0))).bind fun t8 =>
  M.pure (.ret [t8])

theorem eq_slices_ContainsFunc_int_int (G : Sem') (t0 t1 : V) : execK G ir_slices_ContainsFunc_int_int.rv ir_slices_ContainsFunc_int_int.body [] [] (params 0 [t0, t1]) = f_slices_ContainsFunc_int_int G t0 t1 := by kernel_rfl

theorem tb_slices_ContainsFunc_int_int : T fn_slices_ContainsFunc_int_int = some ir_slices_ContainsFunc_int_int := by kernel_rfl

theorem ok_slices_ContainsFunc_int_int {t0 t1 : V} {H : Heap} {Q : V → Heap → Prop} (h : Ok (f_slices_ContainsFunc_int_int (sem T) t0 t1) H fun r H' => ∃ L, r = .ret L ∧ Q (tupled L) H') : Ok (sem T fn_slices_ContainsFunc_int_int [t0, t1]) H Q :=
  ok_sem tb_slices_ContainsFunc_int_int (Nat.le_of_ble_eq_true rfl) (eq_slices_ContainsFunc_int_int (sem T) t0 t1) h

/-- slices.IndexFunc[[]int,int]. -/
def loop_slices_IndexFunc_int_int_0 : C :=
  .ops [⟨(some 9), none, .bin .lss (.s 8) (.s 7)⟩]
  (.cond (.s 9)
  (.blk 1
   (.ops [⟨(some 10), none, .mv (.s 8)⟩,
      ⟨(some 5), none, .mv (.s 10)⟩]
    (.ops [⟨(some 11), none, .mv (.s 1)⟩,
      ⟨(some 12), none, .mv (.s 0)⟩,
      ⟨(some 13), none, .mv (.s 5)⟩,
      ⟨(some 14), none, .iaddr none 1 (.s 12) (.s 13)⟩,
      ⟨(some 15), none, .load none (.s 14)⟩,
      ⟨(some 16), none, .callv (.s 11) [(.s 15)]⟩]
    (.cond (.s 16)
    (.ops [⟨(some 17), none, .mv (.s 5)⟩,
       ⟨(some 4), none, .mv (.s 17)⟩]
     (.ret))
    (.done)))) [] [10, 5, 11, 12, 13, 14, 15, 16, 17, 4]
   (.ops [⟨(some 18), none, .bin .add (.s 8) (.c (V.int .i64 1))⟩,
     ⟨(some 8), none, .mv (.s 18)⟩]
   (.done)))
  (.exit 0))

def ir_slices_IndexFunc_int_int : Fn' := ⟨19, [.tmp 4],
  .ops [⟨(some 4), none, .mv (.c (V.int .i64 0))⟩]
  (.ops [⟨(some 6), none, .mv (.s 0)⟩,
    ⟨(some 7), none, .len (.s 6)⟩,
    ⟨(some 8), none, .mv (.c (V.int .i64 0))⟩]
  (.blk 0
  (.loop loop_slices_IndexFunc_int_int_0 [8] [9, 10, 5, 11, 12, 13, 14, 15, 16, 17, 4, 18, 8]) [] [9, 10, 5, 11, 12, 13, 14, 15, 16, 17, 4, 18, 8]
  (.ops [⟨(some 4), none, .mv (.c (V.int .i64 (-1)))⟩]
  (.ret))))⟩

noncomputable def f_slices_IndexFunc_int_int_0 (G : Sem') (t7 t1 t0 : V) (L : List V) : M Res :=
  (M.lift (Ax.bin .lss (L.getD 0 .undef) t7)).bind fun t9 =>
  M.ite t9
    (M.blk 1 (
      (M.lift (Ax.iaddr none 1 t0 (L.getD 0 .undef))).bind fun t14 =>
      (mload none t14).bind fun t15 =>
      (callv G t1 [t15]).bind fun t16 =>
      M.ite t16
        (M.pure (.ret [(L.getD 0 .undef)]))
        (M.pure (.nrm []))) fun _ =>
    (M.lift (Ax.bin .add (L.getD 0 .undef) (V.int .i64 1))).bind fun t18 =>
    M.pure (.nrm [t18]))
    (M.pure (.ex 0 []))

noncomputable def f_slices_IndexFunc_int_int (G : Sem') (t0 t1 : V) : M Res :=
  (M.lift (vlen t0)).bind fun t7 =>
  M.blk 0 (
    M.iter (f_slices_IndexFunc_int_int_0 G t7 t1 t0) [(V.int .i64 0)]) fun _ =>
  M.pure (.ret [(V.int .i64 (-1))])

theorem eq_slices_IndexFunc_int_int (G : Sem') (t0 t1 : V) : execK G ir_slices_IndexFunc_int_int.rv ir_slices_IndexFunc_int_int.body [] [] (params 0 [t0, t1]) = f_slices_IndexFunc_int_int G t0 t1 := by kernel_rfl

theorem tb_slices_IndexFunc_int_int : T fn_slices_IndexFunc_int_int = some ir_slices_IndexFunc_int_int := by kernel_rfl

theorem ok_slices_IndexFunc_int_int {t0 t1 : V} {H : Heap} {Q : V → Heap → Prop} (h : Ok (f_slices_IndexFunc_int_int (sem T) t0 t1) H fun r H' => ∃ L, r = .ret L ∧ Q (tupled L) H') : Ok (sem T fn_slices_IndexFunc_int_int [t0, t1]) H Q :=
  ok_sem tb_slices_IndexFunc_int_int (Nat.le_of_ble_eq_true rfl) (eq_slices_IndexFunc_int_int (sem T) t0 t1) h

/-- palanquin/depend.layers. -/
def loop_depend_layers_0 : C :=
  .ops [⟨(some 13), none, .bin .lss (.s 12) (.s 11)⟩]
  (.cond (.s 13)
  (.blk 1
   (.ops [⟨(some 14), none, .mv (.s 12)⟩,
      ⟨(some 15), none, .iaddr none 5 (.s 10) (.s 12)⟩,
      ⟨(some 16), none, .load (some 5) (.s 15)⟩,
      ⟨(some 5), none, .box ty_depend_Template (.c (V.agg [(V.int .i64 0), (V.int .i64 0), V.nils, V.nils, V.nils]))⟩,
      ⟨(some 4), none, .mv (.s 14)⟩,
      ⟨none, none, .store 5 (.s 5) (.s 16)⟩]
    (.ops [⟨(some 18), none, .load (some 5) (.s 3)⟩,
      ⟨(some 19), none, .load (some 5) (.s 5)⟩,
      ⟨(some 20), none, .call fn_depend_next [(.s 18), (.s 19)]⟩,
      ⟨(some 17), none, .mv (.s 20)⟩,
      ⟨(some 21), none, .ext 0 (.s 17)⟩,
      ⟨(some 22), none, .ext 1 (.s 17)⟩,
      ⟨(some 6), none, .mv (.s 21)⟩,
      ⟨(some 7), none, .mv (.s 22)⟩]
    (.ops [⟨(some 23), none, .mv (.s 7)⟩,
      ⟨(some 24), none, .un .not (.s 23)⟩,
      ⟨(some 25), none, .mv (.s 24)⟩,
      ⟨(some 26), (some (25, false)), .mv (.s 4)⟩,
      ⟨(some 27), (some (25, false)), .bin .eql (.s 26) (.c (V.int .i64 0))⟩,
      ⟨(some 28), (some (25, false)), .mv (.s 27)⟩,
      ⟨(some 29), (some (28, true)), .mv (.s 6)⟩,
      ⟨(some 30), (some (28, true)), .bin .neq (.s 29) (.c (V.int .i64 0))⟩,
      ⟨(some 31), (some (25, false)), .pick (.s 28) (.s 30) (.c (V.bool false))⟩,
      ⟨(some 32), none, .pick (.s 25) (.c (V.bool true)) (.s 31)⟩,
      ⟨(some 33), none, .mv (.s 32)⟩,
      ⟨(some 34), (some (33, false)), .faddr 0 (.s 5)⟩,
      ⟨(some 35), (some (33, false)), .load none (.s 34)⟩,
      ⟨(some 36), (some (33, false)), .bin .gtr (.s 35) (.c (V.int .i64 3))⟩,
      ⟨(some 37), none, .pick (.s 33) (.c (V.bool true)) (.s 36)⟩,
      ⟨(some 38), none, .mv (.s 37)⟩,
      ⟨(some 39), (some (38, false)), .faddr 1 (.s 5)⟩,
      ⟨(some 40), (some (38, false)), .load none (.s 39)⟩,
      ⟨(some 41), (some (38, false)), .bin .gtr (.s 40) (.c (V.int .i64 7))⟩,
      ⟨(some 42), none, .pick (.s 38) (.c (V.bool true)) (.s 41)⟩]
    (.cond (.s 42)
    (.ops [⟨(some 2), none, .mv (.c (V.bool false))⟩]
     (.ret))
    (.ops [⟨(some 43), none, .load (some 5) (.s 5)⟩,
       ⟨none, none, .store 5 (.s 3) (.s 43)⟩]
     (.done)))))) [] [14, 15, 16, 5, 4, 18, 19, 20, 17, 21, 22, 6, 7, 23, 24, 25, 26, 27, 28, 29, 30, 31, 32, 33, 34, 35, 36, 37, 38, 39, 40, 41, 42, 2, 43]
   (.ops [⟨(some 44), none, .bin .add (.s 12) (.c (V.int .i64 1))⟩,
     ⟨(some 12), none, .mv (.s 44)⟩]
   (.done)))
  (.exit 0))

def ir_depend_layers : Fn' := ⟨55, [.tmp 2],
  .ops [⟨(some 1), none, .box ty_depend_Structure (.s 0)⟩,
    ⟨(some 2), none, .mv (.c (V.bool false))⟩]
  (.ops [⟨(some 8), none, .build [(V.int .i64 0), (V.int .i64 0), V.nils, V.nils, V.nils] []⟩,
    ⟨(some 3), none, .box ty_depend_Template (.c (V.agg [(V.int .i64 0), (V.int .i64 0), V.nils, V.nils, V.nils]))⟩,
    ⟨none, none, .store 5 (.s 3) (.s 8)⟩]
  (.ops [⟨(some 9), none, .faddr 2 (.s 1)⟩,
    ⟨(some 10), none, .load none (.s 9)⟩,
    ⟨(some 11), none, .len (.s 10)⟩,
    ⟨(some 12), none, .mv (.c (V.int .i64 0))⟩]
  (.blk 0
  (.loop loop_depend_layers_0 [12] [13, 14, 15, 16, 5, 4, 18, 19, 20, 17, 21, 22, 6, 7, 23, 24, 25, 26, 27, 28, 29, 30, 31, 32, 33, 34, 35, 36, 37, 38, 39, 40, 41, 42, 2, 43, 44, 12]) [] [13, 14, 15, 16, 5, 4, 18, 19, 20, 17, 21, 22, 6, 7, 23, 24, 25, 26, 27, 28, 29, 30, 31, 32, 33, 34, 35, 36, 37, 38, 39, 40, 41, 42, 2, 43, 44, 12]
  (.ops [⟨(some 45), none, .faddr 2 (.s 1)⟩,
    ⟨(some 46), none, .load none (.s 45)⟩,
    ⟨(some 47), none, .len (.s 46)⟩,
    ⟨(some 48), none, .bin .geq (.s 47) (.c (V.int .i64 1))⟩,
    ⟨(some 49), none, .mv (.s 48)⟩,
    ⟨(some 50), (some (49, true)), .faddr 2 (.s 1)⟩,
    ⟨(some 51), (some (49, true)), .load none (.s 50)⟩,
    ⟨(some 52), (some (49, true)), .len (.s 51)⟩,
    ⟨(some 53), (some (49, true)), .bin .leq (.s 52) (.c (V.int .i64 64))⟩,
    ⟨(some 54), none, .pick (.s 49) (.s 53) (.c (V.bool false))⟩,
    ⟨(some 2), none, .mv (.s 54)⟩]
  (.ret)))))⟩

noncomputable def f_depend_layers_0 (G : Sem') (t11 t10 t3 : V) (L : List V) : M Res :=
  (M.lift (Ax.bin .lss (L.getD 0 .undef) t11)).bind fun t13 =>
  M.ite t13
    (M.blk 1 (
      (M.lift (Ax.iaddr none 5 t10 (L.getD 0 .undef))).bind fun t15 =>
      (mload (some 5) t15).bind fun t16 =>
      (mbox ty_depend_Template (V.agg [(V.int .i64 0), (V.int .i64 0), V.nils, V.nils, V.nils])).bind fun t5 =>
      (mstore 5 t5 t16).bind fun _ =>
      (mload (some 5) t3).bind fun t18 =>
      (mload (some 5) t5).bind fun t19 =>
      (G fn_depend_next [t18, t19]).bind fun t20 =>
      (M.lift (Ax.ext 0 t20)).bind fun t21 =>
      (M.lift (Ax.ext 1 t20)).bind fun t22 =>
      (M.lift (Ax.un .not t22)).bind fun t24 =>
      (guarded [(0, t24)] (some (0, false)) (M.pure (L.getD 0 .undef))).bind fun t26 =>
      (guarded [(0, t24)] (some (0, false)) (M.lift (Ax.bin .eql t26 (V.int .i64 0)))).bind fun t27 =>
      (guarded [(0, t24)] (some (0, false)) (M.pure t27)).bind fun t28 =>
      (guarded [(0, t28)] (some (0, true)) (M.pure t21)).bind fun t29 =>
      (guarded [(0, t28)] (some (0, true)) (M.lift (Ax.bin .neq t29 (V.int .i64 0)))).bind fun t30 =>
      (guarded [(0, t24)] (some (0, false)) (M.lift (Ax.pick t28 t30 (V.bool false)))).bind fun t31 =>
      (M.lift (Ax.pick t24 (V.bool true) t31)).bind fun t32 =>
      (guarded [(0, t32)] (some (0, false)) (M.lift (Ax.faddr 0 t5))).bind fun t34 =>
      (guarded [(0, t32)] (some (0, false)) (mload none t34)).bind fun t35 =>
      (guarded [(0, t32)] (some (0, false)) (M.lift (Ax.bin .gtr t35 (V.int .i64 3)))).bind fun t36 =>
      (M.lift (Ax.pick t32 (V.bool true) t36)).bind fun t37 =>
      (guarded [(0, t37)] (some (0, false)) (M.lift (Ax.faddr 1 t5))).bind fun t39 =>
      (guarded [(0, t37)] (some (0, false)) (mload none t39)).bind fun t40 =>
      (guarded [(0, t37)] (some (0, false)) (M.lift (Ax.bin .gtr t40 (V.int .i64 7)))).bind fun t41 =>
      (M.lift (Ax.pick t37 (V.bool true) t41)).bind fun t42 =>
      M.ite t42
        (M.pure (.ret [(V.bool false)]))
        ((mload (some 5) t5).bind fun t43 =>
        (mstore 5 t3 t43).bind fun _ =>
        M.pure (.nrm []))) fun _ =>
    (M.lift (Ax.bin .add (L.getD 0 .undef) (V.int .i64 1))).bind fun t44 =>
    M.pure (.nrm [t44]))
    (M.pure (.ex 0 []))

noncomputable def f_depend_layers (G : Sem') (t0 : V) : M Res :=
  (mbox ty_depend_Structure t0).bind fun t1 =>
  (M.lift (Ax.build [(V.int .i64 0), (V.int .i64 0), V.nils, V.nils, V.nils] [])).bind fun t8 =>
  (mbox ty_depend_Template (V.agg [(V.int .i64 0), (V.int .i64 0), V.nils, V.nils, V.nils])).bind fun t3 =>
  (mstore 5 t3 t8).bind fun _ =>
  (M.lift (Ax.faddr 2 t1)).bind fun t9 =>
  (mload none t9).bind fun t10 =>
  (M.lift (vlen t10)).bind fun t11 =>
  M.blk 0 (
    M.iter (f_depend_layers_0 G t11 t10 t3) [(V.int .i64 0)]) fun _ =>
  (M.lift (Ax.faddr 2 t1)).bind fun t45 =>
  (mload none t45).bind fun t46 =>
  (M.lift (vlen t46)).bind fun t47 =>
  (M.lift (Ax.bin .geq t47 (V.int .i64 1))).bind fun t48 =>
  (guarded [(0, t48)] (some (0, true)) (M.lift (Ax.faddr 2 t1))).bind fun t50 =>
  (guarded [(0, t48)] (some (0, true)) (mload none t50)).bind fun t51 =>
  (guarded [(0, t48)] (some (0, true)) (M.lift (vlen t51))).bind fun t52 =>
  (guarded [(0, t48)] (some (0, true)) (M.lift (Ax.bin .leq t52 (V.int .i64 64)))).bind fun t53 =>
  (M.lift (Ax.pick t48 t53 (V.bool false))).bind fun t54 =>
  M.pure (.ret [t54])

theorem eq_depend_layers (G : Sem') (t0 : V) : execK G ir_depend_layers.rv ir_depend_layers.body [] [] (params 0 [t0]) = f_depend_layers G t0 := by kernel_rfl

theorem tb_depend_layers : T fn_depend_layers = some ir_depend_layers := by kernel_rfl

theorem ok_depend_layers {t0 : V} {H : Heap} {Q : V → Heap → Prop} (h : Ok (f_depend_layers (sem T) t0) H fun r H' => ∃ L, r = .ret L ∧ Q (tupled L) H') : Ok (sem T fn_depend_layers [t0]) H Q :=
  ok_sem tb_depend_layers (Nat.le_of_ble_eq_true rfl) (eq_depend_layers (sem T) t0) h

/-- palanquin/depend.next. -/
def ir_depend_next : Fn' := ⟨45, [.tmp 4, .tmp 5],
  .ops [⟨(some 2), none, .box ty_depend_Template (.s 0)⟩,
    ⟨(some 3), none, .box ty_depend_Template (.s 1)⟩,
    ⟨(some 4), none, .mv (.c (V.int .i64 0))⟩,
    ⟨(some 5), none, .mv (.c (V.bool false))⟩]
  (.blk 0
  (.ops [⟨(some 7), none, .faddr 0 (.s 3)⟩,
     ⟨(some 8), none, .load none (.s 7)⟩,
     ⟨(some 9), none, .faddr 0 (.s 2)⟩,
     ⟨(some 10), none, .load none (.s 9)⟩,
     ⟨(some 11), none, .bin .eql (.s 8) (.s 10)⟩,
     ⟨(some 12), none, .mv (.s 11)⟩,
     ⟨(some 13), (some (12, true)), .faddr 1 (.s 3)⟩,
     ⟨(some 14), (some (12, true)), .load none (.s 13)⟩,
     ⟨(some 15), (some (12, true)), .faddr 1 (.s 2)⟩,
     ⟨(some 16), (some (12, true)), .load none (.s 15)⟩,
     ⟨(some 17), (some (12, true)), .bin .eql (.s 14) (.s 16)⟩,
     ⟨(some 18), none, .pick (.s 12) (.s 17) (.c (V.bool false))⟩,
     ⟨(some 6), none, .mv (.s 18)⟩]
   (.cond (.s 6)
   (.ops [⟨(some 4), none, .mv (.c (V.int .i64 0))⟩,
      ⟨(some 5), none, .mv (.c (V.bool true))⟩]
    (.ret))
   (.ops [⟨(some 20), none, .faddr 0 (.s 3)⟩,
      ⟨(some 21), none, .load none (.s 20)⟩,
      ⟨(some 22), none, .faddr 0 (.s 2)⟩,
      ⟨(some 23), none, .load none (.s 22)⟩,
      ⟨(some 24), none, .bin .eql (.s 21) (.s 23)⟩,
      ⟨(some 25), none, .mv (.s 24)⟩,
      ⟨(some 26), (some (25, true)), .faddr 1 (.s 3)⟩,
      ⟨(some 27), (some (25, true)), .load none (.s 26)⟩,
      ⟨(some 28), (some (25, true)), .faddr 1 (.s 2)⟩,
      ⟨(some 29), (some (25, true)), .load none (.s 28)⟩,
      ⟨(some 30), (some (25, true)), .bin .add (.s 29) (.c (V.int .i64 1))⟩,
      ⟨(some 31), (some (25, true)), .bin .eql (.s 27) (.s 30)⟩,
      ⟨(some 32), none, .pick (.s 25) (.s 31) (.c (V.bool false))⟩,
      ⟨(some 19), none, .mv (.s 32)⟩]
    (.cond (.s 19)
    (.ops [⟨(some 4), none, .mv (.c (V.int .i64 1))⟩,
       ⟨(some 5), none, .mv (.c (V.bool true))⟩]
     (.ret))
    (.ops [⟨(some 34), none, .faddr 0 (.s 3)⟩,
       ⟨(some 35), none, .load none (.s 34)⟩,
       ⟨(some 36), none, .faddr 0 (.s 2)⟩,
       ⟨(some 37), none, .load none (.s 36)⟩,
       ⟨(some 38), none, .bin .add (.s 37) (.c (V.int .i64 1))⟩,
       ⟨(some 39), none, .bin .eql (.s 35) (.s 38)⟩,
       ⟨(some 40), none, .mv (.s 39)⟩,
       ⟨(some 41), (some (40, true)), .faddr 1 (.s 3)⟩,
       ⟨(some 42), (some (40, true)), .load none (.s 41)⟩,
       ⟨(some 43), (some (40, true)), .bin .eql (.s 42) (.c (V.int .i64 0))⟩,
       ⟨(some 44), none, .pick (.s 40) (.s 43) (.c (V.bool false))⟩,
       ⟨(some 33), none, .mv (.s 44)⟩]
     (.cond (.s 33)
     (.ops [⟨(some 4), none, .mv (.c (V.int .i64 2))⟩,
        ⟨(some 5), none, .mv (.c (V.bool true))⟩]
      (.ret))
     (.done))))))) [] [7, 8, 9, 10, 11, 12, 13, 14, 15, 16, 17, 18, 6, 4, 5, 20, 21, 22, 23, 24, 25, 26, 27, 28, 29, 30, 31, 32, 19, 4, 5, 34, 35, 36, 37, 38, 39, 40, 41, 42, 43, 44, 33, 4, 5]
  (.ops [⟨(some 4), none, .mv (.c (V.int .i64 0))⟩,
    ⟨(some 5), none, .mv (.c (V.bool false))⟩]
  (.ret)))⟩

noncomputable def f_depend_next (G : Sem') (t0 t1 : V) : M Res :=
  (mbox ty_depend_Template t0).bind fun t2 =>
  (mbox ty_depend_Template t1).bind fun t3 =>
  M.blk 0 (
    (M.lift (Ax.faddr 0 t3)).bind fun t7 =>
    (mload none t7).bind fun t8 =>
    (M.lift (Ax.faddr 0 t2)).bind fun t9 =>
    (mload none t9).bind fun t10 =>
    (M.lift (Ax.bin .eql t8 t10)).bind fun t11 =>
    (guarded [(0, t11)] (some (0, true)) (M.lift (Ax.faddr 1 t3))).bind fun t13 =>
    (guarded [(0, t11)] (some (0, true)) (mload none t13)).bind fun t14 =>
    (guarded [(0, t11)] (some (0, true)) (M.lift (Ax.faddr 1 t2))).bind fun t15 =>
    (guarded [(0, t11)] (some (0, true)) (mload none t15)).bind fun t16 =>
    (guarded [(0, t11)] (some (0, true)) (M.lift (Ax.bin .eql t14 t16))).bind fun t17 =>
    (M.lift (Ax.pick t11 t17 (V.bool false))).bind fun t18 =>
    M.ite t18
      (M.pure (.ret [(V.int .i64 0), (V.bool true)]))
      ((M.lift (Ax.faddr 0 t3)).bind fun t20 =>
      (mload none t20).bind fun t21 =>
      (M.lift (Ax.faddr 0 t2)).bind fun t22 =>
      (mload none t22).bind fun t23 =>
      (M.lift (Ax.bin .eql t21 t23)).bind fun t24 =>
      (guarded [(0, t24)] (some (0, true)) (M.lift (Ax.faddr 1 t3))).bind fun t26 =>
      (guarded [(0, t24)] (some (0, true)) (mload none t26)).bind fun t27 =>
      (guarded [(0, t24)] (some (0, true)) (M.lift (Ax.faddr 1 t2))).bind fun t28 =>
      (guarded [(0, t24)] (some (0, true)) (mload none t28)).bind fun t29 =>
      (guarded [(0, t24)] (some (0, true)) (M.lift (Ax.bin .add t29 (V.int .i64 1)))).bind fun t30 =>
      (guarded [(0, t24)] (some (0, true)) (M.lift (Ax.bin .eql t27 t30))).bind fun t31 =>
      (M.lift (Ax.pick t24 t31 (V.bool false))).bind fun t32 =>
      M.ite t32
        (M.pure (.ret [(V.int .i64 1), (V.bool true)]))
        ((M.lift (Ax.faddr 0 t3)).bind fun t34 =>
        (mload none t34).bind fun t35 =>
        (M.lift (Ax.faddr 0 t2)).bind fun t36 =>
        (mload none t36).bind fun t37 =>
        (M.lift (Ax.bin .add t37 (V.int .i64 1))).bind fun t38 =>
        (M.lift (Ax.bin .eql t35 t38)).bind fun t39 =>
        (guarded [(0, t39)] (some (0, true)) (M.lift (Ax.faddr 1 t3))).bind fun t41 =>
        (guarded [(0, t39)] (some (0, true)) (mload none t41)).bind fun t42 =>
        (guarded [(0, t39)] (some (0, true)) (M.lift (Ax.bin .eql t42 (V.int .i64 0)))).bind fun t43 =>
        (M.lift (Ax.pick t39 t43 (V.bool false))).bind fun t44 =>
        M.ite t44
          (M.pure (.ret [(V.int .i64 2), (V.bool true)]))
          (M.pure (.nrm []))))) fun _ =>
  M.pure (.ret [(V.int .i64 0), (V.bool false)])

theorem eq_depend_next (G : Sem') (t0 t1 : V) : execK G ir_depend_next.rv ir_depend_next.body [] [] (params 0 [t0, t1]) = f_depend_next G t0 t1 := by kernel_rfl

theorem tb_depend_next : T fn_depend_next = some ir_depend_next := by kernel_rfl

theorem ok_depend_next {t0 t1 : V} {H : Heap} {Q : V → Heap → Prop} (h : Ok (f_depend_next (sem T) t0 t1) H fun r H' => ∃ L, r = .ret L ∧ Q (tupled L) H') : Ok (sem T fn_depend_next [t0, t1]) H Q :=
  ok_sem tb_depend_next (Nat.le_of_ble_eq_true rfl) (eq_depend_next (sem T) t0 t1) h

end Go.Ax
