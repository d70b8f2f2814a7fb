/-
  The functions of this seat as plain texts: printed by program (wip/gen/Emit.lean): part 4.
-/
import Derived.Test.YtcjakbkffnofcaaFn0
set_option maxRecDepth 100000
set_option linter.unusedVariables false
namespace Go.Ax
open Go.Proofs

/-- palanquin/palanquinlaw9.DependLayers. -/
def loop_palanquinlaw9_DependLayers_0 : C :=
  .ops [⟨(some 55), none, .mv (.s 13)⟩,
    ⟨(some 56), none, .faddr 2 (.s 2)⟩,
    ⟨(some 57), none, .load none (.s 56)⟩,
    ⟨(some 58), none, .len (.s 57)⟩,
    ⟨(some 59), none, .bin .lss (.s 55) (.s 58)⟩]
  (.cond (.s 59)
  (.blk 1
   (.ops [⟨(some 62), none, .faddr 2 (.s 2)⟩,
      ⟨(some 63), none, .load none (.s 62)⟩,
      ⟨(some 64), none, .mv (.s 13)⟩,
      ⟨(some 65), none, .iaddr none 5 (.s 63) (.s 64)⟩,
      ⟨(some 66), none, .load (some 5) (.s 65)⟩,
      ⟨(some 14), none, .box ty_depend_Template (.c (V.agg [(V.int .i64 0), (V.int .i64 0), V.nils, V.nils, V.nils]))⟩,
      ⟨none, none, .store 5 (.s 14) (.s 66)⟩]
    (.ops [⟨(some 67), none, .faddr 2 (.s 14)⟩,
      ⟨(some 68), none, .load none (.s 67)⟩,
      ⟨(some 69), none, .mv (.s 1)⟩,
      ⟨(some 70), none, .iaddr none 1 (.s 68) (.s 69)⟩,
      ⟨(some 71), none, .load none (.s 70)⟩,
      ⟨(some 72), none, .bin .eql (.s 71) (.c (V.int .i64 0))⟩]
    (.cond (.s 72)
    (.exit 1)
    (.ops [⟨(some 73), none, .faddr 0 (.s 14)⟩,
       ⟨(some 74), none, .load none (.s 73)⟩,
       ⟨(some 75), none, .mv (.s 5)⟩,
       ⟨(some 76), none, .bin .gtr (.s 74) (.s 75)⟩,
       ⟨(some 77), none, .mv (.s 76)⟩,
       ⟨(some 78), (some (77, false)), .faddr 1 (.s 14)⟩,
       ⟨(some 79), (some (77, false)), .load none (.s 78)⟩,
       ⟨(some 80), (some (77, false)), .mv (.s 6)⟩,
       ⟨(some 81), (some (77, false)), .bin .gtr (.s 79) (.s 80)⟩,
       ⟨(some 82), none, .pick (.s 77) (.c (V.bool true)) (.s 81)⟩]
     (.cond (.s 82)
     (.ops [⟨(some 4), none, .mv (.c (V.bool false))⟩]
      (.ret))
     (.draw [⟨(some 83), none, .mv (.s 11)⟩,
        ⟨(some 84), none, .mv (.s 83)⟩,
        ⟨(some 85), (some (84, false)), .faddr 0 (.s 14)⟩,
        ⟨(some 86), (some (84, false)), .load none (.s 85)⟩,
        ⟨(some 87), (some (84, false)), .mv (.s 5)⟩,
        ⟨(some 88), (some (84, false)), .bin .eql (.s 86) (.s 87)⟩,
        ⟨(some 89), none, .pick (.s 84) (.c (V.bool true)) (.s 88)⟩,
        ⟨(some 90), none, .mv (.s 12)⟩,
        ⟨(some 91), none, .mv (.s 90)⟩,
        ⟨(some 92), (some (91, false)), .faddr 1 (.s 14)⟩,
        ⟨(some 93), (some (91, false)), .load none (.s 92)⟩,
        ⟨(some 94), (some (91, false)), .mv (.s 6)⟩,
        ⟨(some 95), (some (91, false)), .bin .eql (.s 93) (.s 94)⟩,
        ⟨(some 96), none, .pick (.s 91) (.c (V.bool true)) (.s 95)⟩,
        ⟨(some 11), none, .mv (.s 89)⟩,
        ⟨(some 12), none, .mv (.s 96)⟩] []
      (.done))))))) [11, 12] [62, 63, 64, 65, 66, 14, 67, 68, 69, 70, 71, 72, 73, 74, 75, 76, 77, 78, 79, 80, 81, 82, 4, 83, 84, 85, 86, 87, 88, 89, 90, 91, 92, 93, 94, 95, 96, 11, 12]
   (.ops [⟨(some 60), none, .mv (.s 13)⟩,
     ⟨(some 61), none, .bin .add (.s 60) (.c (V.int .i64 1))⟩,
     ⟨(some 13), none, .mv (.s 61)⟩]
   (.done)))
  (.exit 0))

def ir_palanquinlaw9_DependLayers : Fn' := ⟨101, [.tmp 4],
  .ops [⟨(some 2), none, .box ty_depend_Structure (.s 0)⟩,
    ⟨(some 4), none, .mv (.c (V.bool false))⟩]
  (.ops [⟨(some 15), none, .call fn_palanquinlaw9_awake []⟩,
    ⟨(some 16), none, .un .not (.s 15)⟩]
  (.cond (.s 16)
  (.ops [⟨(some 4), none, .mv (.c (V.bool false))⟩]
   (.ret))
  (.ops [⟨(some 17), none, .load (some 6) (.s 2)⟩,
     ⟨(some 18), none, .call fn_palanquinlaw9_heavy [(.s 17)]⟩]
   (.cond (.s 18)
   (.ops [⟨(some 4), none, .mv (.c (V.bool true))⟩]
    (.ret))
   (.ops [⟨(some 20), none, .load (some 6) (.s 2)⟩,
      ⟨(some 21), none, .mv (.s 1)⟩,
      ⟨(some 22), none, .call fn_depend_Layers [(.s 20), (.s 21)]⟩,
      ⟨(some 19), none, .mv (.s 22)⟩,
      ⟨(some 23), none, .ext 0 (.s 19)⟩,
      ⟨(some 24), none, .ext 1 (.s 19)⟩,
      ⟨(some 25), none, .ext 2 (.s 19)⟩,
      ⟨(some 5), none, .mv (.s 23)⟩,
      ⟨(some 6), none, .mv (.s 24)⟩,
      ⟨(some 7), none, .mv (.s 25)⟩]
    (.ops [⟨(some 27), none, .load (some 6) (.s 2)⟩,
      ⟨(some 28), none, .call fn_palanquinhelp_Structure [(.s 27)]⟩,
      ⟨(some 29), none, .mv (.s 1)⟩,
      ⟨(some 30), none, .call fn_palanquinref9_Layers [(.s 28), (.s 29)]⟩,
      ⟨(some 26), none, .mv (.s 30)⟩,
      ⟨(some 31), none, .ext 0 (.s 26)⟩,
      ⟨(some 32), none, .ext 1 (.s 26)⟩,
      ⟨(some 33), none, .ext 2 (.s 26)⟩,
      ⟨(some 8), none, .mv (.s 31)⟩,
      ⟨(some 9), none, .mv (.s 32)⟩,
      ⟨(some 10), none, .mv (.s 33)⟩]
    (.ops [⟨(some 34), none, .mv (.s 5)⟩,
      ⟨(some 35), none, .mv (.s 8)⟩,
      ⟨(some 36), none, .bin .neq (.s 34) (.s 35)⟩,
      ⟨(some 37), none, .mv (.s 36)⟩,
      ⟨(some 38), (some (37, false)), .mv (.s 6)⟩,
      ⟨(some 39), (some (37, false)), .mv (.s 9)⟩,
      ⟨(some 40), (some (37, false)), .bin .neq (.s 38) (.s 39)⟩,
      ⟨(some 41), none, .pick (.s 37) (.c (V.bool true)) (.s 40)⟩,
      ⟨(some 42), none, .mv (.s 41)⟩,
      ⟨(some 43), (some (42, false)), .mv (.s 7)⟩,
      ⟨(some 44), (some (42, false)), .mv (.s 10)⟩,
      ⟨(some 45), (some (42, false)), .eq .bool true (.s 43) (.s 44)⟩,
      ⟨(some 46), none, .pick (.s 42) (.c (V.bool true)) (.s 45)⟩]
    (.cond (.s 46)
    (.ops [⟨(some 4), none, .mv (.c (V.bool false))⟩]
     (.ret))
    (.ops [⟨(some 47), none, .mv (.s 7)⟩,
       ⟨(some 48), none, .un .not (.s 47)⟩]
     (.cond (.s 48)
     (.ops [⟨(some 49), none, .mv (.s 5)⟩,
        ⟨(some 50), none, .bin .eql (.s 49) (.c (V.int .i64 0))⟩,
        ⟨(some 51), none, .mv (.s 50)⟩,
        ⟨(some 52), (some (51, true)), .mv (.s 6)⟩,
        ⟨(some 53), (some (51, true)), .bin .eql (.s 52) (.c (V.int .i64 0))⟩,
        ⟨(some 54), none, .pick (.s 51) (.s 53) (.c (V.bool false))⟩,
        ⟨(some 4), none, .mv (.s 54)⟩]
      (.ret))
     (.ops [⟨(some 11), none, .mv (.c (V.bool false))⟩,
        ⟨(some 12), none, .mv (.c (V.bool false))⟩]
      (.ops [⟨(some 13), none, .mv (.c (V.int .i64 0))⟩]
      (.blk 0
      (.loop loop_palanquinlaw9_DependLayers_0 [11, 12, 13] [55, 56, 57, 58, 59, 62, 63, 64, 65, 66, 14, 67, 68, 69, 70, 71, 72, 73, 74, 75, 76, 77, 78, 79, 80, 81, 82, 4, 83, 84, 85, 86, 87, 88, 89, 90, 91, 92, 93, 94, 95, 96, 11, 12, 60, 61, 13]) [11, 12] [55, 56, 57, 58, 59, 62, 63, 64, 65, 66, 14, 67, 68, 69, 70, 71, 72, 73, 74, 75, 76, 77, 78, 79, 80, 81, 82, 4, 83, 84, 85, 86, 87, 88, 89, 90, 91, 92, 93, 94, 95, 96, 11, 12, 60, 61, 13]
      (.ops [⟨(some 97), none, .mv (.s 11)⟩,
        ⟨(some 98), none, .mv (.s 97)⟩,
        ⟨(some 99), (some (98, true)), .mv (.s 12)⟩,
        ⟨(some 100), none, .pick (.s 98) (.s 99) (.c (V.bool false))⟩,
        ⟨(some 4), none, .mv (.s 100)⟩]
      (.ret)))))))))))))))⟩

noncomputable def f_palanquinlaw9_DependLayers_0 (G : Sem') (t2 t1 t5 t6 : V) (L : List V) : M Res :=
  (M.lift (Ax.faddr 2 t2)).bind fun t56 =>
  (mload none t56).bind fun t57 =>
  (M.lift (vlen t57)).bind fun t58 =>
  (M.lift (Ax.bin .lss (L.getD 2 .undef) t58)).bind fun t59 =>
  M.ite t59
    (M.blk 1 (
      (M.lift (Ax.faddr 2 t2)).bind fun t62 =>
      (mload none t62).bind fun t63 =>
      (M.lift (Ax.iaddr none 5 t63 (L.getD 2 .undef))).bind fun t65 =>
      (mload (some 5) t65).bind fun t66 =>
      (mbox ty_depend_Template (V.agg [(V.int .i64 0), (V.int .i64 0), V.nils, V.nils, V.nils])).bind fun t14 =>
      (mstore 5 t14 t66).bind fun _ =>
      (M.lift (Ax.faddr 2 t14)).bind fun t67 =>
      (mload none t67).bind fun t68 =>
      (M.lift (Ax.iaddr none 1 t68 t1)).bind fun t70 =>
      (mload none t70).bind fun t71 =>
      (M.lift (Ax.bin .eql t71 (V.int .i64 0))).bind fun t72 =>
      M.ite t72
        (M.pure (.ex 1 [(L.getD 0 .undef), (L.getD 1 .undef)]))
        ((M.lift (Ax.faddr 0 t14)).bind fun t73 =>
        (mload none t73).bind fun t74 =>
        (M.lift (Ax.bin .gtr t74 t5)).bind fun t76 =>
        (guarded [(0, t76)] (some (0, false)) (M.lift (Ax.faddr 1 t14))).bind fun t78 =>
        (guarded [(0, t76)] (some (0, false)) (mload none t78)).bind fun t79 =>
        (guarded [(0, t76)] (some (0, false)) (M.pure t6)).bind fun t80 =>
        (guarded [(0, t76)] (some (0, false)) (M.lift (Ax.bin .gtr t79 t80))).bind fun t81 =>
        (M.lift (Ax.pick t76 (V.bool true) t81)).bind fun t82 =>
        M.ite t82
          (M.pure (.ret [(V.bool false)]))
          ((guarded [(0, (L.getD 0 .undef))] (some (0, false)) (M.lift (Ax.faddr 0 t14))).bind fun t85 =>
          (guarded [(0, (L.getD 0 .undef))] (some (0, false)) (mload none t85)).bind fun t86 =>
          (guarded [(0, (L.getD 0 .undef))] (some (0, false)) (M.pure t5)).bind fun t87 =>
          (guarded [(0, (L.getD 0 .undef))] (some (0, false)) (M.lift (Ax.bin .eql t86 t87))).bind fun t88 =>
          (M.lift (Ax.pick (L.getD 0 .undef) (V.bool true) t88)).bind fun t89 =>
          (guarded [(0, (L.getD 1 .undef))] (some (0, false)) (M.lift (Ax.faddr 1 t14))).bind fun t92 =>
          (guarded [(0, (L.getD 1 .undef))] (some (0, false)) (mload none t92)).bind fun t93 =>
          (guarded [(0, (L.getD 1 .undef))] (some (0, false)) (M.pure t6)).bind fun t94 =>
          (guarded [(0, (L.getD 1 .undef))] (some (0, false)) (M.lift (Ax.bin .eql t93 t94))).bind fun t95 =>
          (M.lift (Ax.pick (L.getD 1 .undef) (V.bool true) t95)).bind fun t96 =>
          M.pure (.nrm [t89, t96])))) fun L0 =>
    (M.lift (Ax.bin .add (L.getD 2 .undef) (V.int .i64 1))).bind fun t61 =>
    M.pure (.nrm [(L0.getD 0 .undef), (L0.getD 1 .undef), t61]))
    (M.pure (.ex 0 [(L.getD 0 .undef), (L.getD 1 .undef)]))

noncomputable def f_palanquinlaw9_DependLayers (G : Sem') (t0 t1 : V) : M Res :=
  (mbox ty_depend_Structure t0).bind fun t2 =>
  (G fn_palanquinlaw9_awake []).bind fun t15 =>
  (M.lift (Ax.un .not t15)).bind fun t16 =>
  M.ite t16
    (M.pure (.ret [(V.bool false)]))
    ((mload (some 6) t2).bind fun t17 =>
    (G fn_palanquinlaw9_heavy [t17]).bind fun t18 =>
    M.ite t18
      (M.pure (.ret [(V.bool true)]))
      ((mload (some 6) t2).bind fun t20 =>
      (G fn_depend_Layers [t20, t1]).bind fun t22 =>
      (M.lift (Ax.ext 0 t22)).bind fun t23 =>
      (M.lift (Ax.ext 1 t22)).bind fun t24 =>
      (M.lift (Ax.ext 2 t22)).bind fun t25 =>
      (mload (some 6) t2).bind fun t27 =>
      (G fn_palanquinhelp_Structure [t27]).bind fun t28 =>
      (G fn_palanquinref9_Layers [t28, t1]).bind fun t30 =>
      (M.lift (Ax.ext 0 t30)).bind fun t31 =>
      (M.lift (Ax.ext 1 t30)).bind fun t32 =>
      (M.lift (Ax.ext 2 t30)).bind fun t33 =>
      (M.lift (Ax.bin .neq t23 t31)).bind fun t36 =>
      (guarded [(0, t36)] (some (0, false)) (M.pure t24)).bind fun t38 =>
      (guarded [(0, t36)] (some (0, false)) (M.pure t32)).bind fun t39 =>
      (guarded [(0, t36)] (some (0, false)) (M.lift (Ax.bin .neq t38 t39))).bind fun t40 =>
      (M.lift (Ax.pick t36 (V.bool true) t40)).bind fun t41 =>
      (guarded [(0, t41)] (some (0, false)) (M.pure t25)).bind fun t43 =>
      (guarded [(0, t41)] (some (0, false)) (M.pure t33)).bind fun t44 =>
      (guarded [(0, t41)] (some (0, false)) (M.lift (eqr .bool true t43 t44))).bind fun t45 =>
      (M.lift (Ax.pick t41 (V.bool true) t45)).bind fun t46 =>
      M.ite t46
        (M.pure (.ret [(V.bool false)]))
        ((M.lift (Ax.un .not t25)).bind fun t48 =>
        M.ite t48
          ((M.lift (Ax.bin .eql t23 (V.int .i64 0))).bind fun t50 =>
          (guarded [(0, t50)] (some (0, true)) (M.pure t24)).bind fun t52 =>
          (guarded [(0, t50)] (some (0, true)) (M.lift (Ax.bin .eql t52 (V.int .i64 0)))).bind fun t53 =>
          (M.lift (Ax.pick t50 t53 (V.bool false))).bind fun t54 =>
          M.pure (.ret [t54]))
          (M.blk 0 (
            M.iter (f_palanquinlaw9_DependLayers_0 G t2 t1 t23 t24) [(V.bool false), (V.bool false), (V.int .i64 0)]) fun L1 =>
          (guarded [(0, (L1.getD 0 .undef))] (some (0, true)) (M.pure (L1.getD 1 .undef))).bind fun t99 =>
          (M.lift (Ax.pick (L1.getD 0 .undef) t99 (V.bool false))).bind fun t100 =>
          M.pure (.ret [t100])))))

theorem eq_palanquinlaw9_DependLayers (G : Sem') (t0 t1 : V) : execK G ir_palanquinlaw9_DependLayers.rv ir_palanquinlaw9_DependLayers.body [] [] (params 0 [t0, t1]) = f_palanquinlaw9_DependLayers G t0 t1 := by kernel_rfl

theorem tb_palanquinlaw9_DependLayers : T fn_palanquinlaw9_DependLayers = some ir_palanquinlaw9_DependLayers := by kernel_rfl

theorem ok_palanquinlaw9_DependLayers {t0 t1 : V} {H : Heap} {Q : V → Heap → Prop} (h : Ok (f_palanquinlaw9_DependLayers (sem T) t0 t1) H fun r H' => ∃ L, r = .ret L ∧ Q (tupled L) H') : Ok (sem T fn_palanquinlaw9_DependLayers [t0, t1]) H Q :=
  ok_sem tb_palanquinlaw9_DependLayers (Nat.le_of_ble_eq_true rfl) (eq_palanquinlaw9_DependLayers (sem T) t0 t1) h

/-- palanquin/depend.Layers. -/
def loop_depend_Layers_0 : C :=
  .ops [⟨(some 26), none, .bin .lss (.s 25) (.s 24)⟩]
  (.cond (.s 26)
  (.blk 1
   (.ops [⟨(some 27), none, .iaddr none 5 (.s 23) (.s 25)⟩,
      ⟨(some 28), none, .load (some 5) (.s 27)⟩,
      ⟨(some 8), none, .box ty_depend_Template (.c (V.agg [(V.int .i64 0), (V.int .i64 0), V.nils, V.nils, V.nils]))⟩,
      ⟨none, none, .store 5 (.s 8) (.s 28)⟩]
    (.ops [⟨(some 29), none, .faddr 2 (.s 8)⟩,
      ⟨(some 30), none, .load none (.s 29)⟩,
      ⟨(some 31), none, .mv (.s 1)⟩,
      ⟨(some 32), none, .iaddr none 1 (.s 30) (.s 31)⟩,
      ⟨(some 33), none, .load none (.s 32)⟩,
      ⟨(some 34), none, .bin .neq (.s 33) (.c (V.int .i64 0))⟩]
    (.condJ (.s 34)
    (.draw [⟨(some 35), none, .mv (.s 4)⟩,
       ⟨(some 36), none, .faddr 0 (.s 8)⟩,
       ⟨(some 37), none, .load none (.s 36)⟩,
       ⟨(some 38), none, .minmax true (.s 35) [(.s 37)]⟩,
       ⟨(some 39), none, .mv (.s 5)⟩,
       ⟨(some 40), none, .faddr 1 (.s 8)⟩,
       ⟨(some 41), none, .load none (.s 40)⟩,
       ⟨(some 42), none, .minmax true (.s 39) [(.s 41)]⟩,
       ⟨(some 4), none, .mv (.s 38)⟩,
       ⟨(some 5), none, .mv (.s 42)⟩,
       ⟨(some 6), none, .mv (.c (V.bool true))⟩] []
     (.done))
    (.done) [4, 5, 6] [35, 36, 37, 38, 39, 40, 41, 42, 4, 5, 6]
    (.done)))) [4, 5, 6] [27, 28, 8, 29, 30, 31, 32, 33, 34, 35, 36, 37, 38, 39, 40, 41, 42, 4, 5, 6]
   (.ops [⟨(some 43), none, .bin .add (.s 25) (.c (V.int .i64 1))⟩,
     ⟨(some 25), none, .mv (.s 43)⟩]
   (.done)))
  (.exit 0))

def ir_depend_Layers : Fn' := ⟨47, [.tmp 4, .tmp 5, .tmp 6],
  .ops [⟨(some 2), none, .box ty_depend_Structure (.s 0)⟩,
    ⟨(some 4), none, .mv (.c (V.int .i64 0))⟩,
    ⟨(some 5), none, .mv (.c (V.int .i64 0))⟩,
    ⟨(some 6), none, .mv (.c (V.bool false))⟩]
  (.ops [⟨(some 9), none, .load (some 6) (.s 2)⟩,
    ⟨(some 10), none, .call fn_depend_Fine [(.s 9)]⟩,
    ⟨(some 11), none, .un .not (.s 10)⟩,
    ⟨(some 12), none, .mv (.s 11)⟩,
    ⟨(some 13), (some (12, false)), .mv (.s 1)⟩,
    ⟨(some 14), (some (12, false)), .bin .lss (.s 13) (.c (V.int .i64 0))⟩,
    ⟨(some 15), none, .pick (.s 12) (.c (V.bool true)) (.s 14)⟩,
    ⟨(some 16), none, .mv (.s 15)⟩,
    ⟨(some 17), (some (16, false)), .mv (.s 1)⟩,
    ⟨(some 18), (some (16, false)), .faddr 1 (.s 2)⟩,
    ⟨(some 19), (some (16, false)), .load none (.s 18)⟩,
    ⟨(some 20), (some (16, false)), .bin .geq (.s 17) (.s 19)⟩,
    ⟨(some 21), none, .pick (.s 16) (.c (V.bool true)) (.s 20)⟩]
  (.cond (.s 21)
  (.ops [⟨(some 4), none, .mv (.c (V.int .i64 0))⟩,
     ⟨(some 5), none, .mv (.c (V.int .i64 0))⟩,
     ⟨(some 6), none, .mv (.c (V.bool false))⟩]
   (.ret))
  (.ops [⟨(some 22), none, .faddr 2 (.s 2)⟩,
     ⟨(some 23), none, .load none (.s 22)⟩,
     ⟨(some 24), none, .len (.s 23)⟩,
     ⟨(some 25), none, .mv (.c (V.int .i64 0))⟩]
   (.blk 0
   (.loop loop_depend_Layers_0 [4, 5, 6, 25] [26, 27, 28, 8, 29, 30, 31, 32, 33, 34, 35, 36, 37, 38, 39, 40, 41, 42, 4, 5, 6, 43, 25]) [4, 5, 6] [26, 27, 28, 8, 29, 30, 31, 32, 33, 34, 35, 36, 37, 38, 39, 40, 41, 42, 4, 5, 6, 43, 25]
   (.ops [⟨(some 44), none, .mv (.s 4)⟩,
     ⟨(some 45), none, .mv (.s 5)⟩,
     ⟨(some 46), none, .mv (.s 6)⟩,
     ⟨(some 4), none, .mv (.s 44)⟩,
     ⟨(some 5), none, .mv (.s 45)⟩,
     ⟨(some 6), none, .mv (.s 46)⟩]
   (.ret))))))⟩

noncomputable def f_depend_Layers_0 (G : Sem') (t24 t23 t1 : V) (L : List V) : M Res :=
  (M.lift (Ax.bin .lss (L.getD 3 .undef) t24)).bind fun t26 =>
  M.ite t26
    (M.blk 1 (
      (M.lift (Ax.iaddr none 5 t23 (L.getD 3 .undef))).bind fun t27 =>
      (mload (some 5) t27).bind fun t28 =>
      (mbox ty_depend_Template (V.agg [(V.int .i64 0), (V.int .i64 0), V.nils, V.nils, V.nils])).bind fun t8 =>
      (mstore 5 t8 t28).bind fun _ =>
      (M.lift (Ax.faddr 2 t8)).bind fun t29 =>
      (mload none t29).bind fun t30 =>
      (M.lift (Ax.iaddr none 1 t30 t1)).bind fun t32 =>
      (mload none t32).bind fun t33 =>
      (M.lift (Ax.bin .neq t33 (V.int .i64 0))).bind fun t34 =>
      M.join (M.ite t34
        ((M.lift (Ax.faddr 0 t8)).bind fun t36 =>
        (mload none t36).bind fun t37 =>
        (M.lift (Ax.minmax true (L.getD 0 .undef) [t37])).bind fun t38 =>
        (M.lift (Ax.faddr 1 t8)).bind fun t40 =>
        (mload none t40).bind fun t41 =>
        (M.lift (Ax.minmax true (L.getD 1 .undef) [t41])).bind fun t42 =>
        M.pure (.nrm [t38, t42, (V.bool true)]))
        (M.pure (.nrm [(L.getD 0 .undef), (L.getD 1 .undef), (L.getD 2 .undef)]))) fun L0 =>
      M.pure (.nrm [(L0.getD 0 .undef), (L0.getD 1 .undef), (L0.getD 2 .undef)])) fun L1 =>
    (M.lift (Ax.bin .add (L.getD 3 .undef) (V.int .i64 1))).bind fun t43 =>
    M.pure (.nrm [(L1.getD 0 .undef), (L1.getD 1 .undef), (L1.getD 2 .undef), t43]))
    (M.pure (.ex 0 [(L.getD 0 .undef), (L.getD 1 .undef), (L.getD 2 .undef)]))

noncomputable def f_depend_Layers (G : Sem') (t0 t1 : V) : M Res :=
  (mbox ty_depend_Structure t0).bind fun t2 =>
  (mload (some 6) t2).bind fun t9 =>
  (G fn_depend_Fine [t9]).bind fun t10 =>
  (M.lift (Ax.un .not t10)).bind fun t11 =>
  (guarded [(0, t11)] (some (0, false)) (M.pure t1)).bind fun t13 =>
  (guarded [(0, t11)] (some (0, false)) (M.lift (Ax.bin .lss t13 (V.int .i64 0)))).bind fun t14 =>
  (M.lift (Ax.pick t11 (V.bool true) t14)).bind fun t15 =>
  (guarded [(0, t15)] (some (0, false)) (M.pure t1)).bind fun t17 =>
  (guarded [(0, t15)] (some (0, false)) (M.lift (Ax.faddr 1 t2))).bind fun t18 =>
  (guarded [(0, t15)] (some (0, false)) (mload none t18)).bind fun t19 =>
  (guarded [(0, t15)] (some (0, false)) (M.lift (Ax.bin .geq t17 t19))).bind fun t20 =>
  (M.lift (Ax.pick t15 (V.bool true) t20)).bind fun t21 =>
  M.ite t21
    (M.pure (.ret [(V.int .i64 0), (V.int .i64 0), (V.bool false)]))
    ((M.lift (Ax.faddr 2 t2)).bind fun t22 =>
    (mload none t22).bind fun t23 =>
    (M.lift (vlen t23)).bind fun t24 =>
    M.blk 0 (
      M.iter (f_depend_Layers_0 G t24 t23 t1) [(V.int .i64 0), (V.int .i64 0), (V.bool false), (V.int .i64 0)]) fun L2 =>
    M.pure (.ret [(L2.getD 0 .undef), (L2.getD 1 .undef), (L2.getD 2 .undef)]))

theorem eq_depend_Layers (G : Sem') (t0 t1 : V) : execK G ir_depend_Layers.rv ir_depend_Layers.body [] [] (params 0 [t0, t1]) = f_depend_Layers G t0 t1 := by kernel_rfl

theorem tb_depend_Layers : T fn_depend_Layers = some ir_depend_Layers := by kernel_rfl

theorem ok_depend_Layers {t0 t1 : V} {H : Heap} {Q : V → Heap → Prop} (h : Ok (f_depend_Layers (sem T) t0 t1) H fun r H' => ∃ L, r = .ret L ∧ Q (tupled L) H') : Ok (sem T fn_depend_Layers [t0, t1]) H Q :=
  ok_sem tb_depend_Layers (Nat.le_of_ble_eq_true rfl) (eq_depend_Layers (sem T) t0 t1) h

/-- palanquin/palanquinref9.Layers. -/
def loop_palanquinref9_Layers_0 : C :=
  .ops [⟨(some 24), none, .mv (.s 10)⟩,
    ⟨(some 25), none, .faddr 2 (.s 2)⟩,
    ⟨(some 26), none, .load none (.s 25)⟩,
    ⟨(some 27), none, .len (.s 26)⟩,
    ⟨(some 28), none, .bin .lss (.s 24) (.s 27)⟩]
  (.cond (.s 28)
  (.blk 1
   (.ops [⟨(some 31), none, .faddr 2 (.s 2)⟩,
      ⟨(some 32), none, .load none (.s 31)⟩,
      ⟨(some 33), none, .mv (.s 10)⟩,
      ⟨(some 34), none, .iaddr none 5 (.s 32) (.s 33)⟩,
      ⟨(some 35), none, .faddr 2 (.s 34)⟩,
      ⟨(some 36), none, .load none (.s 35)⟩,
      ⟨(some 37), none, .mv (.s 1)⟩,
      ⟨(some 38), none, .iaddr none 1 (.s 36) (.s 37)⟩,
      ⟨(some 39), none, .load none (.s 38)⟩,
      ⟨(some 40), none, .bin .neq (.s 39) (.c (V.int .i64 0))⟩]
    (.condJ (.s 40)
    (.draw [⟨(some 41), none, .mv (.s 7)⟩,
       ⟨(some 42), none, .faddr 2 (.s 2)⟩,
       ⟨(some 43), none, .load none (.s 42)⟩,
       ⟨(some 44), none, .mv (.s 10)⟩,
       ⟨(some 45), none, .iaddr none 5 (.s 43) (.s 44)⟩,
       ⟨(some 46), none, .faddr 0 (.s 45)⟩,
       ⟨(some 47), none, .load none (.s 46)⟩,
       ⟨(some 48), none, .minmax true (.s 41) [(.s 47)]⟩,
       ⟨(some 49), none, .mv (.s 8)⟩,
       ⟨(some 50), none, .faddr 2 (.s 2)⟩,
       ⟨(some 51), none, .load none (.s 50)⟩,
       ⟨(some 52), none, .mv (.s 10)⟩,
       ⟨(some 53), none, .iaddr none 5 (.s 51) (.s 52)⟩,
       ⟨(some 54), none, .faddr 1 (.s 53)⟩,
       ⟨(some 55), none, .load none (.s 54)⟩,
       ⟨(some 56), none, .minmax true (.s 49) [(.s 55)]⟩,
       ⟨(some 7), none, .mv (.s 48)⟩,
       ⟨(some 8), none, .mv (.s 56)⟩,
       ⟨(some 9), none, .mv (.c (V.bool true))⟩] []
     (.done))
    (.done) [7, 8, 9] [41, 42, 43, 44, 45, 46, 47, 48, 49, 50, 51, 52, 53, 54, 55, 56, 7, 8, 9]
    (.done))) [7, 8, 9] [31, 32, 33, 34, 35, 36, 37, 38, 39, 40, 41, 42, 43, 44, 45, 46, 47, 48, 49, 50, 51, 52, 53, 54, 55, 56, 7, 8, 9]
   (.ops [⟨(some 29), none, .mv (.s 10)⟩,
     ⟨(some 30), none, .bin .add (.s 29) (.c (V.int .i64 1))⟩,
     ⟨(some 10), none, .mv (.s 30)⟩]
   (.done)))
  (.exit 0))

def ir_palanquinref9_Layers : Fn' := ⟨60, [.tmp 4, .tmp 5, .tmp 6],
  .ops [⟨(some 2), none, .box ty_palanquinref9_Structure (.s 0)⟩,
    ⟨(some 4), none, .mv (.c (V.int .i64 0))⟩,
    ⟨(some 5), none, .mv (.c (V.int .i64 0))⟩,
    ⟨(some 6), none, .mv (.c (V.bool false))⟩]
  (.ops [⟨(some 11), none, .load (some 6) (.s 2)⟩,
    ⟨(some 12), none, .call fn_palanquinref9_Fine [(.s 11)]⟩,
    ⟨(some 13), none, .un .not (.s 12)⟩,
    ⟨(some 14), none, .mv (.s 13)⟩,
    ⟨(some 15), (some (14, false)), .mv (.s 1)⟩,
    ⟨(some 16), (some (14, false)), .bin .lss (.s 15) (.c (V.int .i64 0))⟩,
    ⟨(some 17), none, .pick (.s 14) (.c (V.bool true)) (.s 16)⟩,
    ⟨(some 18), none, .mv (.s 17)⟩,
    ⟨(some 19), (some (18, false)), .mv (.s 1)⟩,
    ⟨(some 20), (some (18, false)), .faddr 1 (.s 2)⟩,
    ⟨(some 21), (some (18, false)), .load none (.s 20)⟩,
    ⟨(some 22), (some (18, false)), .bin .geq (.s 19) (.s 21)⟩,
    ⟨(some 23), none, .pick (.s 18) (.c (V.bool true)) (.s 22)⟩]
  (.cond (.s 23)
  (.ops [⟨(some 4), none, .mv (.c (V.int .i64 0))⟩,
     ⟨(some 5), none, .mv (.c (V.int .i64 0))⟩,
     ⟨(some 6), none, .mv (.c (V.bool false))⟩]
   (.ret))
  (.ops [⟨(some 7), none, .mv (.c (V.int .i64 0))⟩,
     ⟨(some 8), none, .mv (.c (V.int .i64 0))⟩,
     ⟨(some 9), none, .mv (.c (V.bool false))⟩]
   (.ops [⟨(some 10), none, .mv (.c (V.int .i64 0))⟩]
   (.blk 0
   (.loop loop_palanquinref9_Layers_0 [7, 8, 9, 10] [24, 25, 26, 27, 28, 31, 32, 33, 34, 35, 36, 37, 38, 39, 40, 41, 42, 43, 44, 45, 46, 47, 48, 49, 50, 51, 52, 53, 54, 55, 56, 7, 8, 9, 29, 30, 10]) [7, 8, 9] [24, 25, 26, 27, 28, 31, 32, 33, 34, 35, 36, 37, 38, 39, 40, 41, 42, 43, 44, 45, 46, 47, 48, 49, 50, 51, 52, 53, 54, 55, 56, 7, 8, 9, 29, 30, 10]
   (.ops [⟨(some 57), none, .mv (.s 7)⟩,
     ⟨(some 58), none, .mv (.s 8)⟩,
     ⟨(some 59), none, .mv (.s 9)⟩,
     ⟨(some 4), none, .mv (.s 57)⟩,
     ⟨(some 5), none, .mv (.s 58)⟩,
     ⟨(some 6), none, .mv (.s 59)⟩]
   (.ret)))))))⟩

noncomputable def f_palanquinref9_Layers_0 (G : Sem') (t1 t2 t4 t5 t6 : V) (L : List V) : M Res :=
  (M.lift (Ax.faddr 2 t2)).bind fun t25 =>
  (mload none t25).bind fun t26 =>
  (M.lift (vlen t26)).bind fun t27 =>
  (M.lift (Ax.bin .lss (L.getD 3 .undef) t27)).bind fun t28 =>
  M.ite t28
    (M.blk 1 (
      (M.lift (Ax.faddr 2 t2)).bind fun t31 =>
      (mload none t31).bind fun t32 =>
      (M.lift (Ax.iaddr none 5 t32 (L.getD 3 .undef))).bind fun t34 =>
      (M.lift (Ax.faddr 2 t34)).bind fun t35 =>
      (mload none t35).bind fun t36 =>
      (M.lift (Ax.iaddr none 1 t36 t1)).bind fun t38 =>
      (mload none t38).bind fun t39 =>
      (M.lift (Ax.bin .neq t39 (V.int .i64 0))).bind fun t40 =>
      M.join (M.ite t40
        ((M.lift (Ax.faddr 2 t2)).bind fun t42 =>
        (mload none t42).bind fun t43 =>
        (M.lift (Ax.iaddr none 5 t43 (L.getD 3 .undef))).bind fun t45 =>
        (M.lift (Ax.faddr 0 t45)).bind fun t46 =>
        (mload none t46).bind fun t47 =>
        (M.lift (Ax.minmax true (L.getD 0 .undef) [t47])).bind fun t48 =>
        (M.lift (Ax.faddr 2 t2)).bind fun t50 =>
        (mload none t50).bind fun t51 =>
        (M.lift (Ax.iaddr none 5 t51 (L.getD 3 .undef))).bind fun t53 =>
        (M.lift (Ax.faddr 1 t53)).bind fun t54 =>
        (mload none t54).bind fun t55 =>
        (M.lift (Ax.minmax true (L.getD 1 .undef) [t55])).bind fun t56 =>
        M.pure (.nrm [t48, t56, (V.bool true)]))
        (M.pure (.nrm [(L.getD 0 .undef), (L.getD 1 .undef), (L.getD 2 .undef)]))) fun L0 =>
      M.pure (.nrm [(L0.getD 0 .undef), (L0.getD 1 .undef), (L0.getD 2 .undef)])) fun L1 =>
    (M.lift (Ax.bin .add (L.getD 3 .undef) (V.int .i64 1))).bind fun t30 =>
    M.pure (.nrm [(L1.getD 0 .undef), (L1.getD 1 .undef), (L1.getD 2 .undef), t30]))
    (M.pure (.ex 0 [(L.getD 0 .undef), (L.getD 1 .undef), (L.getD 2 .undef)]))

noncomputable def f_palanquinref9_Layers (G : Sem') (t0 t1 : V) : M Res :=
  (mbox ty_palanquinref9_Structure t0).bind fun t2 =>
  (mload (some 6) t2).bind fun t11 =>
  (G fn_palanquinref9_Fine [t11]).bind fun t12 =>
  (M.lift (Ax.un .not t12)).bind fun t13 =>
  (guarded [(0, t13)] (some (0, false)) (M.pure t1)).bind fun t15 =>
  (guarded [(0, t13)] (some (0, false)) (M.lift (Ax.bin .lss t15 (V.int .i64 0)))).bind fun t16 =>
  (M.lift (Ax.pick t13 (V.bool true) t16)).bind fun t17 =>
  (guarded [(0, t17)] (some (0, false)) (M.pure t1)).bind fun t19 =>
  (guarded [(0, t17)] (some (0, false)) (M.lift (Ax.faddr 1 t2))).bind fun t20 =>
  (guarded [(0, t17)] (some (0, false)) (mload none t20)).bind fun t21 =>
  (guarded [(0, t17)] (some (0, false)) (M.lift (Ax.bin .geq t19 t21))).bind fun t22 =>
  (M.lift (Ax.pick t17 (V.bool true) t22)).bind fun t23 =>
  M.ite t23
    (M.pure (.ret [(V.int .i64 0), (V.int .i64 0), (V.bool false)]))
    (M.blk 0 (
      M.iter (f_palanquinref9_Layers_0 G t1 t2 (V.int .i64 0) (V.int .i64 0) (V.bool false)) [(V.int .i64 0), (V.int .i64 0), (V.bool false), (V.int .i64 0)]) fun L2 =>
    M.pure (.ret [(L2.getD 0 .undef), (L2.getD 1 .undef), (L2.getD 2 .undef)]))

theorem eq_palanquinref9_Layers (G : Sem') (t0 t1 : V) : execK G ir_palanquinref9_Layers.rv ir_palanquinref9_Layers.body [] [] (params 0 [t0, t1]) = f_palanquinref9_Layers G t0 t1 := by kernel_rfl

theorem tb_palanquinref9_Layers : T fn_palanquinref9_Layers = some ir_palanquinref9_Layers := by kernel_rfl

theorem ok_palanquinref9_Layers {t0 t1 : V} {H : Heap} {Q : V → Heap → Prop} (h : Ok (f_palanquinref9_Layers (sem T) t0 t1) H fun r H' => ∃ L, r = .ret L ∧ Q (tupled L) H') : Ok (sem T fn_palanquinref9_Layers [t0, t1]) H Q :=
  ok_sem tb_palanquinref9_Layers (Nat.le_of_ble_eq_true rfl) (eq_palanquinref9_Layers (sem T) t0 t1) h

/-- palanquin/palanquinlaw9.DependReads. -/
def ir_palanquinlaw9_DependReads : Fn' := ⟨40, [.tmp 4],
  .ops [⟨(some 3), none, .box ty_depend_Structure (.s 1)⟩,
    ⟨(some 4), none, .mv (.c (V.bool false))⟩]
  (.ops [⟨(some 9), none, .call fn_palanquinlaw9_awake []⟩,
    ⟨(some 10), none, .un .not (.s 9)⟩]
  (.cond (.s 10)
  (.ops [⟨(some 4), none, .mv (.c (V.bool false))⟩]
   (.ret))
  (.ops [⟨(some 11), none, .load (some 6) (.s 3)⟩,
     ⟨(some 12), none, .call fn_palanquinlaw9_heavy [(.s 11)]⟩,
     ⟨(some 13), none, .mv (.s 12)⟩,
     ⟨(some 14), (some (13, false)), .mv (.s 0)⟩,
     ⟨(some 15), (some (13, false)), .len (.s 14)⟩,
     ⟨(some 16), (some (13, false)), .bin .gtr (.s 15) (.c (V.int .i64 2000))⟩,
     ⟨(some 17), none, .pick (.s 13) (.c (V.bool true)) (.s 16)⟩]
   (.cond (.s 17)
   (.ops [⟨(some 4), none, .mv (.c (V.bool true))⟩]
    (.ret))
   (.ops [⟨(some 19), none, .mv (.s 0)⟩,
      ⟨(some 20), none, .load (some 6) (.s 3)⟩,
      ⟨(some 21), none, .call fn_depend_Parse [(.s 19), (.s 20)]⟩,
      ⟨(some 18), none, .mv (.s 21)⟩,
      ⟨(some 22), none, .ext 0 (.s 18)⟩,
      ⟨(some 23), none, .ext 1 (.s 18)⟩,
      ⟨(some 5), none, .box ty_depend_Frame (.c (V.agg [(V.bool false), (V.bool false), (V.int .i64 0), (V.int .u16 0), (V.bool false), (V.int .i64 0), (V.int .i64 0), V.nils, (V.int .i64 0), V.nils, V.nils, (V.bool false), (V.int .u32 0), (V.bool false), (V.bool false), (V.bool false), V.nils, V.nils, V.nils]))⟩,
      ⟨none, none, .store 19 (.s 5) (.s 22)⟩,
      ⟨(some 6), none, .mv (.s 23)⟩]
    (.ops [⟨(some 25), none, .mv (.s 0)⟩,
      ⟨(some 26), none, .load (some 6) (.s 3)⟩,
      ⟨(some 27), none, .call fn_palanquinhelp_Structure [(.s 26)]⟩,
      ⟨(some 28), none, .call fn_palanquinref9_Parse [(.s 25), (.s 27)]⟩,
      ⟨(some 24), none, .mv (.s 28)⟩,
      ⟨(some 29), none, .ext 0 (.s 24)⟩,
      ⟨(some 30), none, .ext 1 (.s 24)⟩,
      ⟨(some 7), none, .box ty_palanquinref9_Frame (.c (V.agg [(V.bool false), (V.bool false), (V.int .i64 0), (V.int .u16 0), (V.bool false), (V.int .i64 0), (V.int .i64 0), V.nils, (V.int .i64 0), V.nils, V.nils, (V.bool false), (V.int .u32 0), (V.bool false), (V.bool false), (V.bool false), V.nils, V.nils, V.nils]))⟩,
      ⟨none, none, .store 19 (.s 7) (.s 29)⟩,
      ⟨(some 8), none, .mv (.s 30)⟩]
    (.draw [⟨(some 31), none, .mv (.s 6)⟩,
      ⟨(some 32), none, .mv (.s 8)⟩,
      ⟨(some 33), none, .bin .eql (.s 31) (.s 32)⟩,
      ⟨(some 34), none, .mv (.s 33)⟩,
      ⟨(some 35), (some (34, true)), .load (some 19) (.s 5)⟩,
      ⟨(some 37), (some (34, true)), .load (some 19) (.s 7)⟩,
      ⟨(some 36), (some (34, true)), .call fn_palanquinhelp_Frame [(.s 35)]⟩,
      ⟨(some 38), (some (34, true)), .call fn_palanquinref9_SameFrame [(.s 36), (.s 37)]⟩,
      ⟨(some 39), none, .pick (.s 34) (.s 38) (.c (V.bool false))⟩,
      ⟨(some 4), none, .mv (.s 39)⟩] [(5, 6)]
    (.ret))))))))⟩

noncomputable def f_palanquinlaw9_DependReads (G : Sem') (t0 t1 : V) : M Res :=
  (mbox ty_depend_Structure t1).bind fun t3 =>
  (G fn_palanquinlaw9_awake []).bind fun t9 =>
  (M.lift (Ax.un .not t9)).bind fun t10 =>
  M.ite t10
    (M.pure (.ret [(V.bool false)]))
    ((mload (some 6) t3).bind fun t11 =>
    (G fn_palanquinlaw9_heavy [t11]).bind fun t12 =>
    (guarded [(0, t12)] (some (0, false)) (M.pure t0)).bind fun t14 =>
    (guarded [(0, t12)] (some (0, false)) (M.lift (vlen t14))).bind fun t15 =>
    (guarded [(0, t12)] (some (0, false)) (M.lift (Ax.bin .gtr t15 (V.int .i64 2000)))).bind fun t16 =>
    (M.lift (Ax.pick t12 (V.bool true) t16)).bind fun t17 =>
    M.ite t17
      (M.pure (.ret [(V.bool true)]))
      ((mload (some 6) t3).bind fun t20 =>
      (G fn_depend_Parse [t0, t20]).bind fun t21 =>
      (M.lift (Ax.ext 0 t21)).bind fun t22 =>
      (M.lift (Ax.ext 1 t21)).bind fun t23 =>
      (mbox ty_depend_Frame (V.agg [(V.bool false), (V.bool false), (V.int .i64 0), (V.int .u16 0), (V.bool false), (V.int .i64 0), (V.int .i64 0), V.nils, (V.int .i64 0), V.nils, V.nils, (V.bool false), (V.int .u32 0), (V.bool false), (V.bool false), (V.bool false), V.nils, V.nils, V.nils])).bind fun t5 =>
      (mstore 19 t5 t22).bind fun _ =>
      (mload (some 6) t3).bind fun t26 =>
      (G fn_palanquinhelp_Structure [t26]).bind fun t27 =>
      (G fn_palanquinref9_Parse [t0, t27]).bind fun t28 =>
      (M.lift (Ax.ext 0 t28)).bind fun t29 =>
      (M.lift (Ax.ext 1 t28)).bind fun t30 =>
      (mbox ty_palanquinref9_Frame (V.agg [(V.bool false), (V.bool false), (V.int .i64 0), (V.int .u16 0), (V.bool false), (V.int .i64 0), (V.int .i64 0), V.nils, (V.int .i64 0), V.nils, V.nils, (V.bool false), (V.int .u32 0), (V.bool false), (V.bool false), (V.bool false), V.nils, V.nils, V.nils])).bind fun t7 =>
      (mstore 19 t7 t29).bind fun _ =>
      (M.lift (Ax.bin .eql t23 t30)).bind fun t33 =>
      (guarded [(0, t33)] (some (0, true)) (mload (some 19) t5)).bind fun t35 =>
      (guarded [(0, t33)] (some (0, true)) (mload (some 19) t7)).bind fun t37 =>
      M.getH.bind fun h0 =>
      (guarded [(0, t33)] (some (0, true)) (G fn_palanquinhelp_Frame [t35])).bind fun t36 =>
      M.getH.bind fun h0' =>
      (M.unch t7 h0 h0').bind fun _ =>
      (guarded [(0, t33)] (some (0, true)) (G fn_palanquinref9_SameFrame [t36, t37])).bind fun t38 =>
      (M.lift (Ax.pick t33 t38 (V.bool false))).bind fun t39 =>
      M.pure (.ret [t39])))

theorem eq_palanquinlaw9_DependReads (G : Sem') (t0 t1 : V) : execK G ir_palanquinlaw9_DependReads.rv ir_palanquinlaw9_DependReads.body [] [] (params 0 [t0, t1]) = f_palanquinlaw9_DependReads G t0 t1 := by kernel_rfl

theorem tb_palanquinlaw9_DependReads : T fn_palanquinlaw9_DependReads = some ir_palanquinlaw9_DependReads := by kernel_rfl

theorem ok_palanquinlaw9_DependReads {t0 t1 : V} {H : Heap} {Q : V → Heap → Prop} (h : Ok (f_palanquinlaw9_DependReads (sem T) t0 t1) H fun r H' => ∃ L, r = .ret L ∧ Q (tupled L) H') : Ok (sem T fn_palanquinlaw9_DependReads [t0, t1]) H Q :=
  ok_sem tb_palanquinlaw9_DependReads (Nat.le_of_ble_eq_true rfl) (eq_palanquinlaw9_DependReads (sem T) t0 t1) h

/-- palanquin/depend.Parse. -/
def loop_depend_Parse_0 : C :=
  .ops [⟨(some 122), none, .mv (.s 6)⟩,
    ⟨(some 123), none, .nilck (.s 122)⟩,
    ⟨(some 124), none, .faddr 1 (.s 123)⟩,
    ⟨(some 125), none, .load none (.s 124)⟩,
    ⟨(some 126), none, .bin .eql (.s 125) (.c (V.int .i64 0))⟩,
    ⟨(some 127), none, .mv (.s 126)⟩,
    ⟨(some 128), (some (127, true)), .mv (.s 6)⟩,
    ⟨(some 129), (some (127, true)), .nilck (.s 128)⟩,
    ⟨(some 130), (some (127, true)), .faddr 0 (.s 129)⟩,
    ⟨(some 131), (some (127, true)), .load none (.s 130)⟩,
    ⟨(some 132), (some (127, true)), .call fn_bits_Reader_Left [(.s 131)]⟩,
    ⟨(some 133), (some (127, true)), .bin .gtr (.s 132) (.c (V.int .i64 0))⟩,
    ⟨(some 134), none, .pick (.s 127) (.s 133) (.c (V.bool false))⟩]
  (.cond (.s 134)
  (.blk 2
   (.ops [⟨(some 135), none, .mv (.s 6)⟩,
      ⟨(some 136), none, .call fn_depend_reader_bit [(.s 135)]⟩]
    (.condJ (.s 136)
    (.ops [⟨(some 137), none, .mv (.s 6)⟩,
       ⟨(some 138), none, .call fn_depend_reader_fail [(.s 137), (.c (V.int .i64 2))]⟩]
     (.done))
    (.done) [] [137, 138]
    (.done))) [] [135, 136, 137, 138]
   (.done))
  (.exit 1))

def ir_depend_Parse : Fn' := ⟨150, [.cell 4 (some 19), .tmp 5],
  .ops [⟨(some 3), none, .box ty_depend_Structure (.s 1)⟩,
    ⟨(some 4), none, .box ty_depend_Frame (.c (V.agg [(V.bool false), (V.bool false), (V.int .i64 0), (V.int .u16 0), (V.bool false), (V.int .i64 0), (V.int .i64 0), V.nils, (V.int .i64 0), V.nils, V.nils, (V.bool false), (V.int .u32 0), (V.bool false), (V.bool false), (V.bool false), V.nils, V.nils, V.nils]))⟩,
    ⟨(some 5), none, .mv (.c (V.int .i64 0))⟩]
  (.ops [⟨(some 11), none, .mv (.s 0)⟩,
    ⟨(some 12), none, .call fn_bits_Over [(.s 11)]⟩,
    ⟨(some 13), none, .build [V.nilp, (V.int .i64 0)] [(0, 1, (.s 12))]⟩,
    ⟨(some 14), none, .box ty_depend_reader (.s 13)⟩,
    ⟨(some 6), none, .mv (.s 14)⟩]
  (.ops [⟨(some 15), none, .mv (.s 6)⟩,
    ⟨(some 16), none, .call fn_depend_reader_bit [(.s 15)]⟩,
    ⟨(some 17), none, .mv (.s 6)⟩,
    ⟨(some 18), none, .call fn_depend_reader_bit [(.s 17)]⟩,
    ⟨(some 19), none, .mv (.s 6)⟩,
    ⟨(some 20), none, .call fn_depend_reader_num [(.s 19), (.c (V.int .i64 6))]⟩,
    ⟨(some 21), none, .mv (.s 6)⟩,
    ⟨(some 22), none, .call fn_depend_reader_num [(.s 21), (.c (V.int .i64 16))]⟩,
    ⟨(some 23), none, .cint .u16 (.s 22)⟩,
    ⟨(some 24), none, .build [(V.bool false), (V.bool false), (V.int .i64 0), (V.int .u16 0), (V.bool false), (V.int .i64 0), (V.int .i64 0), V.nils, (V.int .i64 0), V.nils, V.nils, (V.bool false), (V.int .u32 0), (V.bool false), (V.bool false), (V.bool false), V.nils, V.nils, V.nils] [(0, 1, (.s 16)), (1, 1, (.s 18)), (2, 1, (.s 20)), (3, 1, (.s 23))]⟩,
    ⟨(some 7), none, .box ty_depend_Frame (.c (V.agg [(V.bool false), (V.bool false), (V.int .i64 0), (V.int .u16 0), (V.bool false), (V.int .i64 0), (V.int .i64 0), V.nils, (V.int .i64 0), V.nils, V.nils, (V.bool false), (V.int .u32 0), (V.bool false), (V.bool false), (V.bool false), V.nils, V.nils, V.nils]))⟩,
    ⟨none, none, .store 19 (.s 7) (.s 24)⟩]
  (.ops [⟨(some 25), none, .mv (.s 0)⟩,
    ⟨(some 26), none, .len (.s 25)⟩,
    ⟨(some 27), none, .bin .gtr (.s 26) (.c (V.int .i64 3))⟩]
  (.condJ (.s 27)
  (.ops [⟨(some 28), none, .mv (.s 6)⟩,
     ⟨(some 29), none, .call fn_depend_reader_bit [(.s 28)]⟩,
     ⟨(some 30), none, .mv (.s 6)⟩,
     ⟨(some 31), none, .call fn_depend_reader_bit [(.s 30)]⟩,
     ⟨(some 32), none, .faddr 4 (.s 7)⟩,
     ⟨none, none, .store 1 (.s 32) (.s 29)⟩,
     ⟨(some 33), none, .faddr 11 (.s 7)⟩,
     ⟨none, none, .store 1 (.s 33) (.s 31)⟩]
   (.ops [⟨(some 34), none, .mv (.s 6)⟩,
     ⟨(some 35), none, .call fn_depend_reader_bit [(.s 34)]⟩,
     ⟨(some 36), none, .mv (.s 6)⟩,
     ⟨(some 37), none, .call fn_depend_reader_bit [(.s 36)]⟩,
     ⟨(some 38), none, .mv (.s 6)⟩,
     ⟨(some 39), none, .call fn_depend_reader_bit [(.s 38)]⟩,
     ⟨(some 40), none, .faddr 13 (.s 7)⟩,
     ⟨none, none, .store 1 (.s 40) (.s 35)⟩,
     ⟨(some 41), none, .faddr 14 (.s 7)⟩,
     ⟨none, none, .store 1 (.s 41) (.s 37)⟩,
     ⟨(some 42), none, .faddr 15 (.s 7)⟩,
     ⟨none, none, .store 1 (.s 42) (.s 39)⟩]
   (.done)))
  (.done) [] [28, 29, 30, 31, 32, 33, 34, 35, 36, 37, 38, 39, 40, 41, 42]
  (.blk 0
  (.ops [⟨(some 44), none, .mv (.s 6)⟩,
     ⟨(some 45), none, .nilck (.s 44)⟩,
     ⟨(some 46), none, .faddr 1 (.s 45)⟩,
     ⟨(some 47), none, .load none (.s 46)⟩,
     ⟨(some 48), none, .bin .neq (.s 47) (.c (V.int .i64 0))⟩,
     ⟨(some 43), none, .mv (.s 48)⟩]
   (.cond (.s 43)
   (.draw [⟨(some 49), none, .build [(V.bool false), (V.bool false), (V.int .i64 0), (V.int .u16 0), (V.bool false), (V.int .i64 0), (V.int .i64 0), V.nils, (V.int .i64 0), V.nils, V.nils, (V.bool false), (V.int .u32 0), (V.bool false), (V.bool false), (V.bool false), V.nils, V.nils, V.nils] []⟩,
      ⟨(some 50), none, .mv (.s 6)⟩,
      ⟨(some 51), none, .nilck (.s 50)⟩,
      ⟨(some 52), none, .faddr 1 (.s 51)⟩,
      ⟨(some 53), none, .load none (.s 52)⟩,
      ⟨none, none, .store 19 (.s 4) (.s 49)⟩,
      ⟨(some 5), none, .mv (.s 53)⟩] [(4, 5)]
    (.ret))
   (.ops [⟨(some 55), none, .faddr 4 (.s 7)⟩,
      ⟨(some 56), none, .load none (.s 55)⟩,
      ⟨(some 54), none, .mv (.s 56)⟩]
    (.condJ (.s 54)
    (.ops [⟨(some 57), none, .mv (.s 6)⟩,
       ⟨(some 58), none, .call fn_depend_reader_structure [(.s 57)]⟩,
       ⟨(some 59), none, .faddr 5 (.s 7)⟩,
       ⟨none, none, .store 6 (.s 59) (.s 58)⟩]
     (.done))
    (.ops [⟨(some 61), none, .load (some 6) (.s 3)⟩,
       ⟨(some 62), none, .call fn_depend_Fine [(.s 61)]⟩,
       ⟨(some 63), none, .un .not (.s 62)⟩,
       ⟨(some 60), none, .mv (.s 63)⟩]
     (.cond (.s 60)
     (.ops [⟨(some 64), none, .build [(V.bool false), (V.bool false), (V.int .i64 0), (V.int .u16 0), (V.bool false), (V.int .i64 0), (V.int .i64 0), V.nils, (V.int .i64 0), V.nils, V.nils, (V.bool false), (V.int .u32 0), (V.bool false), (V.bool false), (V.bool false), V.nils, V.nils, V.nils] []⟩,
        ⟨none, none, .store 19 (.s 4) (.s 64)⟩,
        ⟨(some 5), none, .mv (.c (V.int .i64 2))⟩]
      (.ret))
     (.done))) [] [57, 58, 59, 61, 62, 63, 60, 64, 5]
    (.done))))) [] [44, 45, 46, 47, 48, 43, 49, 50, 51, 52, 53, 5, 55, 56, 54, 57, 58, 59, 61, 62, 63, 60, 64, 5]
  (.ops [⟨(some 65), none, .load (some 19) (.s 7)⟩,
    ⟨(some 66), none, .load (some 6) (.s 3)⟩,
    ⟨(some 67), none, .call fn_depend_holds [(.s 65), (.s 66)]⟩,
    ⟨(some 8), none, .box ty_depend_Structure (.c (V.agg [(V.int .i64 0), (V.int .i64 0), V.nils, (V.int .i64 0), V.nils, V.nils]))⟩,
    ⟨none, none, .store 6 (.s 8) (.s 67)⟩]
  (.ops [⟨(some 68), none, .faddr 11 (.s 7)⟩,
    ⟨(some 69), none, .load none (.s 68)⟩,
    ⟨(some 70), none, .mv (.s 69)⟩,
    ⟨(some 71), (some (70, true)), .mv (.s 6)⟩,
    ⟨(some 72), (some (70, true)), .nilck (.s 71)⟩,
    ⟨(some 73), (some (70, true)), .faddr 1 (.s 72)⟩,
    ⟨(some 74), (some (70, true)), .load none (.s 73)⟩,
    ⟨(some 75), (some (70, true)), .bin .eql (.s 74) (.c (V.int .i64 0))⟩,
    ⟨(some 76), none, .pick (.s 70) (.s 75) (.c (V.bool false))⟩]
  (.condJ (.s 76)
  (.ops [⟨(some 77), none, .mv (.s 6)⟩,
     ⟨(some 78), none, .faddr 1 (.s 8)⟩,
     ⟨(some 79), none, .load none (.s 78)⟩,
     ⟨(some 80), none, .call fn_depend_reader_num [(.s 77), (.s 79)]⟩,
     ⟨(some 81), none, .cint .u32 (.s 80)⟩,
     ⟨(some 82), none, .faddr 12 (.s 7)⟩,
     ⟨none, none, .store 1 (.s 82) (.s 81)⟩]
   (.done))
  (.done) [] [77, 78, 79, 80, 81, 82]
  (.ops [⟨(some 84), none, .load (some 6) (.s 8)⟩,
    ⟨(some 85), none, .faddr 2 (.s 7)⟩,
    ⟨(some 86), none, .load none (.s 85)⟩,
    ⟨(some 87), none, .call fn_depend_template [(.s 84), (.s 86)]⟩,
    ⟨(some 83), none, .mv (.s 87)⟩,
    ⟨(some 88), none, .ext 0 (.s 83)⟩,
    ⟨(some 89), none, .ext 1 (.s 83)⟩,
    ⟨(some 9), none, .box ty_depend_Template (.c (V.agg [(V.int .i64 0), (V.int .i64 0), V.nils, V.nils, V.nils]))⟩,
    ⟨none, none, .store 5 (.s 9) (.s 88)⟩,
    ⟨(some 10), none, .mv (.s 89)⟩]
  (.ops [⟨(some 90), none, .mv (.s 10)⟩,
    ⟨(some 91), none, .un .not (.s 90)⟩]
  (.condJ (.s 91)
  (.ops [⟨(some 92), none, .mv (.s 6)⟩,
     ⟨(some 93), none, .call fn_depend_reader_fail [(.s 92), (.c (V.int .i64 2))]⟩]
   (.done))
  (.done) [] [92, 93]
  (.draw [⟨(some 94), none, .faddr 2 (.s 9)⟩,
    ⟨(some 95), none, .load none (.s 94)⟩,
    ⟨(some 96), none, .faddr 3 (.s 9)⟩,
    ⟨(some 97), none, .load none (.s 96)⟩,
    ⟨(some 98), none, .faddr 4 (.s 9)⟩,
    ⟨(some 99), none, .load none (.s 98)⟩,
    ⟨(some 100), none, .faddr 16 (.s 7)⟩,
    ⟨none, none, .store 1 (.s 100) (.s 95)⟩,
    ⟨(some 101), none, .faddr 17 (.s 7)⟩,
    ⟨none, none, .store 1 (.s 101) (.s 97)⟩,
    ⟨(some 102), none, .faddr 18 (.s 7)⟩,
    ⟨none, none, .store 1 (.s 102) (.s 99)⟩] [(3, 7), (5, 7), (5, 9)]
  (.ops [⟨(some 103), none, .faddr 13 (.s 7)⟩,
    ⟨(some 104), none, .load none (.s 103)⟩]
  (.condJ (.s 104)
  (.ops [⟨(some 105), none, .mv (.s 6)⟩,
     ⟨(some 106), none, .faddr 1 (.s 8)⟩,
     ⟨(some 107), none, .load none (.s 106)⟩,
     ⟨(some 108), none, .call fn_depend_reader_nums [(.s 105), (.s 107), (.c (V.int .i64 2))]⟩,
     ⟨(some 109), none, .faddr 16 (.s 7)⟩,
     ⟨none, none, .store 1 (.s 109) (.s 108)⟩]
   (.done))
  (.done) [] [105, 106, 107, 108, 109]
  (.ops [⟨(some 110), none, .faddr 14 (.s 7)⟩,
    ⟨(some 111), none, .load none (.s 110)⟩]
  (.condJ (.s 111)
  (.ops [⟨(some 112), none, .mv (.s 6)⟩,
     ⟨(some 113), none, .call fn_depend_reader_own [(.s 112)]⟩,
     ⟨(some 114), none, .faddr 17 (.s 7)⟩,
     ⟨none, none, .store 1 (.s 114) (.s 113)⟩]
   (.done))
  (.done) [] [112, 113, 114]
  (.ops [⟨(some 115), none, .faddr 15 (.s 7)⟩,
    ⟨(some 116), none, .load none (.s 115)⟩]
  (.condJ (.s 116)
  (.ops [⟨(some 117), none, .mv (.s 6)⟩,
     ⟨(some 118), none, .faddr 3 (.s 8)⟩,
     ⟨(some 119), none, .load none (.s 118)⟩,
     ⟨(some 120), none, .call fn_depend_reader_nums [(.s 117), (.s 119), (.c (V.int .i64 8))]⟩,
     ⟨(some 121), none, .faddr 18 (.s 7)⟩,
     ⟨none, none, .store 1 (.s 121) (.s 120)⟩]
   (.done))
  (.done) [] [117, 118, 119, 120, 121]
  (.blk 1
  (.loop loop_depend_Parse_0 [] [122, 123, 124, 125, 126, 127, 128, 129, 130, 131, 132, 133, 134, 135, 136, 137, 138]) [] [122, 123, 124, 125, 126, 127, 128, 129, 130, 131, 132, 133, 134, 135, 136, 137, 138]
  (.ops [⟨(some 139), none, .mv (.s 6)⟩,
    ⟨(some 140), none, .nilck (.s 139)⟩,
    ⟨(some 141), none, .faddr 1 (.s 140)⟩,
    ⟨(some 142), none, .load none (.s 141)⟩,
    ⟨(some 143), none, .bin .neq (.s 142) (.c (V.int .i64 0))⟩]
  (.cond (.s 143)
  (.draw [⟨(some 144), none, .build [(V.bool false), (V.bool false), (V.int .i64 0), (V.int .u16 0), (V.bool false), (V.int .i64 0), (V.int .i64 0), V.nils, (V.int .i64 0), V.nils, V.nils, (V.bool false), (V.int .u32 0), (V.bool false), (V.bool false), (V.bool false), V.nils, V.nils, V.nils] []⟩,
     ⟨(some 145), none, .mv (.s 6)⟩,
     ⟨(some 146), none, .nilck (.s 145)⟩,
     ⟨(some 147), none, .faddr 1 (.s 146)⟩,
     ⟨(some 148), none, .load none (.s 147)⟩,
     ⟨none, none, .store 19 (.s 4) (.s 144)⟩,
     ⟨(some 5), none, .mv (.s 148)⟩] [(4, 5)]
   (.ret))
  (.ops [⟨(some 149), none, .load (some 19) (.s 7)⟩,
     ⟨none, none, .store 19 (.s 4) (.s 149)⟩,
     ⟨(some 5), none, .mv (.c (V.int .i64 0))⟩]
   (.ret)))))))))))))))))))))))⟩

noncomputable def f_depend_Parse_0 (G : Sem') (t6 t4 : V) (_ : List V) : M Res :=
  (M.lift (Ax.nilck t6)).bind fun t123 =>
  (M.lift (Ax.faddr 1 t123)).bind fun t124 =>
  (mload none t124).bind fun t125 =>
  (M.lift (Ax.bin .eql t125 (V.int .i64 0))).bind fun t126 =>
  (guarded [(0, t126)] (some (0, true)) (M.pure t6)).bind fun t128 =>
  (guarded [(0, t126)] (some (0, true)) (M.lift (Ax.nilck t128))).bind fun t129 =>
  (guarded [(0, t126)] (some (0, true)) (M.lift (Ax.faddr 0 t129))).bind fun t130 =>
  (guarded [(0, t126)] (some (0, true)) (mload none t130)).bind fun t131 =>
  (guarded [(0, t126)] (some (0, true)) (G fn_bits_Reader_Left [t131])).bind fun t132 =>
  (guarded [(0, t126)] (some (0, true)) (M.lift (Ax.bin .gtr t132 (V.int .i64 0)))).bind fun t133 =>
  (M.lift (Ax.pick t126 t133 (V.bool false))).bind fun t134 =>
  M.ite t134
    (M.blk 2 (
      (G fn_depend_reader_bit [t6]).bind fun t136 =>
      M.join (M.ite t136
        ((G fn_depend_reader_fail [t6, (V.int .i64 2)]).bind fun t138 =>
        M.pure (.nrm []))
        (M.pure (.nrm []))) fun _ =>
      M.pure (.nrm [])) fun _ =>
    M.pure (.nrm []))
    (M.pure (.ex 1 []))

noncomputable def f_depend_Parse (G : Sem') (t0 t1 : V) : M Res :=
  (mbox ty_depend_Structure t1).bind fun t3 =>
  (mbox ty_depend_Frame (V.agg [(V.bool false), (V.bool false), (V.int .i64 0), (V.int .u16 0), (V.bool false), (V.int .i64 0), (V.int .i64 0), V.nils, (V.int .i64 0), V.nils, V.nils, (V.bool false), (V.int .u32 0), (V.bool false), (V.bool false), (V.bool false), V.nils, V.nils, V.nils])).bind fun t4 =>
  (G fn_bits_Over [t0]).bind fun t12 =>
  (M.lift (Ax.build [V.nilp, (V.int .i64 0)] [(0, 1, t12)])).bind fun t13 =>
  (mbox ty_depend_reader t13).bind fun t14 =>
  (G fn_depend_reader_bit [t14]).bind fun t16 =>
  (G fn_depend_reader_bit [t14]).bind fun t18 =>
  (G fn_depend_reader_num [t14, (V.int .i64 6)]).bind fun t20 =>
  (G fn_depend_reader_num [t14, (V.int .i64 16)]).bind fun t22 =>
  (M.lift (Ax.cint .u16 t22)).bind fun t23 =>
  (M.lift (Ax.build [(V.bool false), (V.bool false), (V.int .i64 0), (V.int .u16 0), (V.bool false), (V.int .i64 0), (V.int .i64 0), V.nils, (V.int .i64 0), V.nils, V.nils, (V.bool false), (V.int .u32 0), (V.bool false), (V.bool false), (V.bool false), V.nils, V.nils, V.nils] [(0, 1, t16), (1, 1, t18), (2, 1, t20), (3, 1, t23)])).bind fun t24 =>
  (mbox ty_depend_Frame (V.agg [(V.bool false), (V.bool false), (V.int .i64 0), (V.int .u16 0), (V.bool false), (V.int .i64 0), (V.int .i64 0), V.nils, (V.int .i64 0), V.nils, V.nils, (V.bool false), (V.int .u32 0), (V.bool false), (V.bool false), (V.bool false), V.nils, V.nils, V.nils])).bind fun t7 =>
  (mstore 19 t7 t24).bind fun _ =>
  (M.lift (vlen t0)).bind fun t26 =>
  (M.lift (Ax.bin .gtr t26 (V.int .i64 3))).bind fun t27 =>
  M.join (M.ite t27
    ((G fn_depend_reader_bit [t14]).bind fun t29 =>
    (G fn_depend_reader_bit [t14]).bind fun t31 =>
    (M.lift (Ax.faddr 4 t7)).bind fun t32 =>
    (mstore 1 t32 t29).bind fun _ =>
    (M.lift (Ax.faddr 11 t7)).bind fun t33 =>
    (mstore 1 t33 t31).bind fun _ =>
    (G fn_depend_reader_bit [t14]).bind fun t35 =>
    (G fn_depend_reader_bit [t14]).bind fun t37 =>
    (G fn_depend_reader_bit [t14]).bind fun t39 =>
    (M.lift (Ax.faddr 13 t7)).bind fun t40 =>
    (mstore 1 t40 t35).bind fun _ =>
    (M.lift (Ax.faddr 14 t7)).bind fun t41 =>
    (mstore 1 t41 t37).bind fun _ =>
    (M.lift (Ax.faddr 15 t7)).bind fun t42 =>
    (mstore 1 t42 t39).bind fun _ =>
    M.pure (.nrm []))
    (M.pure (.nrm []))) fun _ =>
  M.blk 0 (
    (M.lift (Ax.nilck t14)).bind fun t45 =>
    (M.lift (Ax.faddr 1 t45)).bind fun t46 =>
    (mload none t46).bind fun t47 =>
    (M.lift (Ax.bin .neq t47 (V.int .i64 0))).bind fun t48 =>
    M.ite t48
      ((M.lift (Ax.build [(V.bool false), (V.bool false), (V.int .i64 0), (V.int .u16 0), (V.bool false), (V.int .i64 0), (V.int .i64 0), V.nils, (V.int .i64 0), V.nils, V.nils, (V.bool false), (V.int .u32 0), (V.bool false), (V.bool false), (V.bool false), V.nils, V.nils, V.nils] [])).bind fun t49 =>
      (M.lift (Ax.nilck t14)).bind fun t51 =>
      (M.lift (Ax.faddr 1 t51)).bind fun t52 =>
      (mload none t52).bind fun t53 =>
      M.getH.bind fun h0 =>
      (mstore 19 t4 t49).bind fun _ =>
      M.getH.bind fun h0' =>
      (M.unch t52 h0 h0').bind fun _ =>
      (mload (some 19) t4).bind fun r0 =>
      M.pure (.ret [r0, t53]))
      ((M.lift (Ax.faddr 4 t7)).bind fun t55 =>
      (mload none t55).bind fun t56 =>
      M.join (M.ite t56
        ((G fn_depend_reader_structure [t14]).bind fun t58 =>
        (M.lift (Ax.faddr 5 t7)).bind fun t59 =>
        (mstore 6 t59 t58).bind fun _ =>
        M.pure (.nrm []))
        ((mload (some 6) t3).bind fun t61 =>
        (G fn_depend_Fine [t61]).bind fun t62 =>
        (M.lift (Ax.un .not t62)).bind fun t63 =>
        M.ite t63
          ((M.lift (Ax.build [(V.bool false), (V.bool false), (V.int .i64 0), (V.int .u16 0), (V.bool false), (V.int .i64 0), (V.int .i64 0), V.nils, (V.int .i64 0), V.nils, V.nils, (V.bool false), (V.int .u32 0), (V.bool false), (V.bool false), (V.bool false), V.nils, V.nils, V.nils] [])).bind fun t64 =>
          (mstore 19 t4 t64).bind fun _ =>
          (mload (some 19) t4).bind fun r0 =>
          M.pure (.ret [r0, (V.int .i64 2)]))
          (M.pure (.nrm [])))) fun _ =>
      M.pure (.nrm []))) fun _ =>
  (mload (some 19) t7).bind fun t65 =>
  (mload (some 6) t3).bind fun t66 =>
  (G fn_depend_holds [t65, t66]).bind fun t67 =>
  (mbox ty_depend_Structure (V.agg [(V.int .i64 0), (V.int .i64 0), V.nils, (V.int .i64 0), V.nils, V.nils])).bind fun t8 =>
  (mstore 6 t8 t67).bind fun _ =>
  (M.lift (Ax.faddr 11 t7)).bind fun t68 =>
  (mload none t68).bind fun t69 =>
  (guarded [(0, t69)] (some (0, true)) (M.pure t14)).bind fun t71 =>
  (guarded [(0, t69)] (some (0, true)) (M.lift (Ax.nilck t71))).bind fun t72 =>
  (guarded [(0, t69)] (some (0, true)) (M.lift (Ax.faddr 1 t72))).bind fun t73 =>
  (guarded [(0, t69)] (some (0, true)) (mload none t73)).bind fun t74 =>
  (guarded [(0, t69)] (some (0, true)) (M.lift (Ax.bin .eql t74 (V.int .i64 0)))).bind fun t75 =>
  (M.lift (Ax.pick t69 t75 (V.bool false))).bind fun t76 =>
  M.join (M.ite t76
    ((M.lift (Ax.faddr 1 t8)).bind fun t78 =>
    (mload none t78).bind fun t79 =>
    (G fn_depend_reader_num [t14, t79]).bind fun t80 =>
    (M.lift (Ax.cint .u32 t80)).bind fun t81 =>
    (M.lift (Ax.faddr 12 t7)).bind fun t82 =>
    (mstore 1 t82 t81).bind fun _ =>
    M.pure (.nrm []))
    (M.pure (.nrm []))) fun _ =>
  (mload (some 6) t8).bind fun t84 =>
  (M.lift (Ax.faddr 2 t7)).bind fun t85 =>
  (mload none t85).bind fun t86 =>
  (G fn_depend_template [t84, t86]).bind fun t87 =>
  (M.lift (Ax.ext 0 t87)).bind fun t88 =>
  (M.lift (Ax.ext 1 t87)).bind fun t89 =>
  (mbox ty_depend_Template (V.agg [(V.int .i64 0), (V.int .i64 0), V.nils, V.nils, V.nils])).bind fun t9 =>
  (mstore 5 t9 t88).bind fun _ =>
  (M.lift (Ax.un .not t89)).bind fun t91 =>
  M.join (M.ite t91
    ((G fn_depend_reader_fail [t14, (V.int .i64 2)]).bind fun t93 =>
    M.pure (.nrm []))
    (M.pure (.nrm []))) fun _ =>
  (M.lift (Ax.faddr 2 t9)).bind fun t94 =>
  (mload none t94).bind fun t95 =>
  (M.lift (Ax.faddr 3 t9)).bind fun t96 =>
  (mload none t96).bind fun t97 =>
  (M.lift (Ax.faddr 4 t9)).bind fun t98 =>
  (mload none t98).bind fun t99 =>
  (M.lift (Ax.faddr 16 t7)).bind fun t100 =>
  M.getH.bind fun h1 =>
  (mstore 1 t100 t95).bind fun _ =>
  M.getH.bind fun h1' =>
  (M.unch t98 h1 h1').bind fun _ =>
  (M.unch t96 h1 h1').bind fun _ =>
  (M.lift (Ax.faddr 17 t7)).bind fun t101 =>
  M.getH.bind fun h2 =>
  (mstore 1 t101 t97).bind fun _ =>
  M.getH.bind fun h2' =>
  (M.unch t98 h2 h2').bind fun _ =>
  (M.lift (Ax.faddr 18 t7)).bind fun t102 =>
  (mstore 1 t102 t99).bind fun _ =>
  (M.lift (Ax.faddr 13 t7)).bind fun t103 =>
  (mload none t103).bind fun t104 =>
  M.join (M.ite t104
    ((M.lift (Ax.faddr 1 t8)).bind fun t106 =>
    (mload none t106).bind fun t107 =>
    (G fn_depend_reader_nums [t14, t107, (V.int .i64 2)]).bind fun t108 =>
    (M.lift (Ax.faddr 16 t7)).bind fun t109 =>
    (mstore 1 t109 t108).bind fun _ =>
    M.pure (.nrm []))
    (M.pure (.nrm []))) fun _ =>
  (M.lift (Ax.faddr 14 t7)).bind fun t110 =>
  (mload none t110).bind fun t111 =>
  M.join (M.ite t111
    ((G fn_depend_reader_own [t14]).bind fun t113 =>
    (M.lift (Ax.faddr 17 t7)).bind fun t114 =>
    (mstore 1 t114 t113).bind fun _ =>
    M.pure (.nrm []))
    (M.pure (.nrm []))) fun _ =>
  (M.lift (Ax.faddr 15 t7)).bind fun t115 =>
  (mload none t115).bind fun t116 =>
  M.join (M.ite t116
    ((M.lift (Ax.faddr 3 t8)).bind fun t118 =>
    (mload none t118).bind fun t119 =>
    (G fn_depend_reader_nums [t14, t119, (V.int .i64 8)]).bind fun t120 =>
    (M.lift (Ax.faddr 18 t7)).bind fun t121 =>
    (mstore 1 t121 t120).bind fun _ =>
    M.pure (.nrm []))
    (M.pure (.nrm []))) fun _ =>
  M.blk 1 (
    M.iter (f_depend_Parse_0 G t14 t4) []) fun _ =>
  (M.lift (Ax.nilck t14)).bind fun t140 =>
  (M.lift (Ax.faddr 1 t140)).bind fun t141 =>
  (mload none t141).bind fun t142 =>
  (M.lift (Ax.bin .neq t142 (V.int .i64 0))).bind fun t143 =>
  M.ite t143
    ((M.lift (Ax.build [(V.bool false), (V.bool false), (V.int .i64 0), (V.int .u16 0), (V.bool false), (V.int .i64 0), (V.int .i64 0), V.nils, (V.int .i64 0), V.nils, V.nils, (V.bool false), (V.int .u32 0), (V.bool false), (V.bool false), (V.bool false), V.nils, V.nils, V.nils] [])).bind fun t144 =>
    (M.lift (Ax.nilck t14)).bind fun t146 =>
    (M.lift (Ax.faddr 1 t146)).bind fun t147 =>
    (mload none t147).bind fun t148 =>
    M.getH.bind fun h3 =>
    (mstore 19 t4 t144).bind fun _ =>
    M.getH.bind fun h3' =>
    (M.unch t147 h3 h3').bind fun _ =>
    (mload (some 19) t4).bind fun r0 =>
    M.pure (.ret [r0, t148]))
    ((mload (some 19) t7).bind fun t149 =>
    (mstore 19 t4 t149).bind fun _ =>
    (mload (some 19) t4).bind fun r0 =>
    M.pure (.ret [r0, (V.int .i64 0)]))

theorem eq_depend_Parse (G : Sem') (t0 t1 : V) : execK G ir_depend_Parse.rv ir_depend_Parse.body [] [] (params 0 [t0, t1]) = f_depend_Parse G t0 t1 := by kernel_rfl

theorem tb_depend_Parse : T fn_depend_Parse = some ir_depend_Parse := by kernel_rfl

theorem ok_depend_Parse {t0 t1 : V} {H : Heap} {Q : V → Heap → Prop} (h : Ok (f_depend_Parse (sem T) t0 t1) H fun r H' => ∃ L, r = .ret L ∧ Q (tupled L) H') : Ok (sem T fn_depend_Parse [t0, t1]) H Q :=
  ok_sem tb_depend_Parse (Nat.le_of_ble_eq_true rfl) (eq_depend_Parse (sem T) t0 t1) h

/-- (*palanquin/depend.reader).bit. -/
def ir_depend_reader_bit : Fn' := ⟨6, [.tmp 2],
  .ops [⟨(some 2), none, .mv (.c (V.bool false))⟩]
  (.ops [⟨(some 3), none, .mv (.s 0)⟩,
    ⟨(some 4), none, .call fn_depend_reader_num [(.s 3), (.c (V.int .i64 1))]⟩,
    ⟨(some 5), none, .bin .eql (.s 4) (.c (V.int .i64 1))⟩,
    ⟨(some 2), none, .mv (.s 5)⟩]
  (.ret))⟩

noncomputable def f_depend_reader_bit (G : Sem') (t0 : V) : M Res :=
  (G fn_depend_reader_num [t0, (V.int .i64 1)]).bind fun t4 =>
  (M.lift (Ax.bin .eql t4 (V.int .i64 1))).bind fun t5 =>
  M.pure (.ret [t5])

theorem eq_depend_reader_bit (G : Sem') (t0 : V) : execK G ir_depend_reader_bit.rv ir_depend_reader_bit.body [] [] (params 0 [t0]) = f_depend_reader_bit G t0 := by kernel_rfl

theorem tb_depend_reader_bit : T fn_depend_reader_bit = some ir_depend_reader_bit := by kernel_rfl

theorem ok_depend_reader_bit {t0 : V} {H : Heap} {Q : V → Heap → Prop} (h : Ok (f_depend_reader_bit (sem T) t0) H fun r H' => ∃ L, r = .ret L ∧ Q (tupled L) H') : Ok (sem T fn_depend_reader_bit [t0]) H Q :=
  ok_sem tb_depend_reader_bit (Nat.le_of_ble_eq_true rfl) (eq_depend_reader_bit (sem T) t0) h

/-- (*palanquin/depend.reader).num. -/
def ir_depend_reader_num : Fn' := ⟨27, [.tmp 4],
  .ops [⟨(some 4), none, .mv (.c (V.int .i64 0))⟩]
  (.ops [⟨(some 7), none, .mv (.s 0)⟩,
    ⟨(some 8), none, .nilck (.s 7)⟩,
    ⟨(some 9), none, .faddr 1 (.s 8)⟩,
    ⟨(some 10), none, .load none (.s 9)⟩,
    ⟨(some 11), none, .bin .neq (.s 10) (.c (V.int .i64 0))⟩]
  (.cond (.s 11)
  (.ops [⟨(some 4), none, .mv (.c (V.int .i64 0))⟩]
   (.ret))
  (.ops [⟨(some 13), none, .mv (.s 0)⟩,
     ⟨(some 14), none, .nilck (.s 13)⟩,
     ⟨(some 15), none, .faddr 0 (.s 14)⟩,
     ⟨(some 16), none, .load none (.s 15)⟩,
     ⟨(some 17), none, .mv (.s 1)⟩,
     ⟨(some 18), none, .call fn_bits_Reader_Take [(.s 16), (.s 17)]⟩,
     ⟨(some 12), none, .mv (.s 18)⟩,
     ⟨(some 19), none, .ext 0 (.s 12)⟩,
     ⟨(some 20), none, .ext 1 (.s 12)⟩,
     ⟨(some 5), none, .mv (.s 19)⟩,
     ⟨(some 6), none, .mv (.s 20)⟩]
   (.ops [⟨(some 21), none, .mv (.s 0)⟩,
     ⟨(some 22), none, .mv (.s 6)⟩,
     ⟨(some 23), none, .nilck (.s 21)⟩,
     ⟨(some 24), none, .faddr 1 (.s 23)⟩,
     ⟨none, none, .store 1 (.s 24) (.s 22)⟩]
   (.ops [⟨(some 25), none, .mv (.s 5)⟩,
     ⟨(some 26), none, .cint .i64 (.s 25)⟩,
     ⟨(some 4), none, .mv (.s 26)⟩]
   (.ret))))))⟩

noncomputable def f_depend_reader_num (G : Sem') (t0 t1 : V) : M Res :=
  (M.lift (Ax.nilck t0)).bind fun t8 =>
  (M.lift (Ax.faddr 1 t8)).bind fun t9 =>
  (mload none t9).bind fun t10 =>
  (M.lift (Ax.bin .neq t10 (V.int .i64 0))).bind fun t11 =>
  M.ite t11
    (M.pure (.ret [(V.int .i64 0)]))
    ((M.lift (Ax.nilck t0)).bind fun t14 =>
    (M.lift (Ax.faddr 0 t14)).bind fun t15 =>
    (mload none t15).bind fun t16 =>
    (G fn_bits_Reader_Take [t16, t1]).bind fun t18 =>
    (M.lift (Ax.ext 0 t18)).bind fun t19 =>
    (M.lift (Ax.ext 1 t18)).bind fun t20 =>
    (M.lift (Ax.nilck t0)).bind fun t23 =>
    (M.lift (Ax.faddr 1 t23)).bind fun t24 =>
    (mstore 1 t24 t20).bind fun _ =>
    (M.lift (Ax.cint .i64 t19)).bind fun t26 =>
    M.pure (.ret [t26]))

theorem eq_depend_reader_num (G : Sem') (t0 t1 : V) : execK G ir_depend_reader_num.rv ir_depend_reader_num.body [] [] (params 0 [t0, t1]) = f_depend_reader_num G t0 t1 := by kernel_rfl

theorem tb_depend_reader_num : T fn_depend_reader_num = some ir_depend_reader_num := by kernel_rfl

theorem ok_depend_reader_num {t0 t1 : V} {H : Heap} {Q : V → Heap → Prop} (h : Ok (f_depend_reader_num (sem T) t0 t1) H fun r H' => ∃ L, r = .ret L ∧ Q (tupled L) H') : Ok (sem T fn_depend_reader_num [t0, t1]) H Q :=
  ok_sem tb_depend_reader_num (Nat.le_of_ble_eq_true rfl) (eq_depend_reader_num (sem T) t0 t1) h

/-- (*palanquin/depend.reader).structure. -/
def loop_depend_reader_structure_0 : C :=
  .ops [⟨(some 20), none, .bin .lss (.s 19) (.s 18)⟩]
  (.cond (.s 20)
  (.blk 1
   (.ops [⟨(some 21), none, .mv (.s 19)⟩,
      ⟨(some 4), none, .mv (.s 21)⟩]
    (.draw [⟨(some 22), none, .faddr 2 (.s 3)⟩,
      ⟨(some 23), none, .load none (.s 22)⟩,
      ⟨(some 24), none, .mv (.s 4)⟩,
      ⟨(some 25), none, .mv (.s 0)⟩,
      ⟨(some 26), none, .faddr 1 (.s 3)⟩,
      ⟨(some 27), none, .load none (.s 26)⟩,
      ⟨(some 28), none, .call fn_depend_reader_nums [(.s 25), (.s 27), (.c (V.int .i64 2))]⟩,
      ⟨(some 29), none, .iaddr none 5 (.s 23) (.s 24)⟩,
      ⟨(some 30), none, .faddr 2 (.s 29)⟩,
      ⟨none, none, .store 1 (.s 30) (.s 28)⟩] [(1, 6)]
    (.done))) [] [21, 4, 22, 23, 24, 25, 26, 27, 28, 29, 30]
   (.ops [⟨(some 31), none, .bin .add (.s 19) (.c (V.int .i64 1))⟩,
     ⟨(some 19), none, .mv (.s 31)⟩]
   (.done)))
  (.exit 0))

def loop_depend_reader_structure_1 : C :=
  .ops [⟨(some 36), none, .bin .lss (.s 35) (.s 34)⟩]
  (.cond (.s 36)
  (.blk 3
   (.ops [⟨(some 37), none, .mv (.s 35)⟩,
      ⟨(some 5), none, .mv (.s 37)⟩]
    (.draw [⟨(some 38), none, .faddr 2 (.s 3)⟩,
      ⟨(some 39), none, .load none (.s 38)⟩,
      ⟨(some 40), none, .mv (.s 5)⟩,
      ⟨(some 41), none, .mv (.s 0)⟩,
      ⟨(some 42), none, .call fn_depend_reader_diffs [(.s 41)]⟩,
      ⟨(some 43), none, .iaddr none 5 (.s 39) (.s 40)⟩,
      ⟨(some 44), none, .faddr 3 (.s 43)⟩,
      ⟨none, none, .store 1 (.s 44) (.s 42)⟩] [(1, 4)]
    (.done))) [] [37, 5, 38, 39, 40, 41, 42, 43, 44]
   (.ops [⟨(some 45), none, .bin .add (.s 35) (.c (V.int .i64 1))⟩,
     ⟨(some 35), none, .mv (.s 45)⟩]
   (.done)))
  (.exit 2))

def loop_depend_reader_structure_2 : C :=
  .ops [⟨(some 58), none, .bin .lss (.s 57) (.s 56)⟩]
  (.cond (.s 58)
  (.blk 5
   (.draw [⟨(some 59), none, .faddr 4 (.s 3)⟩,
      ⟨(some 60), none, .load none (.s 59)⟩,
      ⟨(some 61), none, .mv (.s 0)⟩,
      ⟨(some 62), none, .faddr 3 (.s 3)⟩,
      ⟨(some 63), none, .load none (.s 62)⟩,
      ⟨(some 64), none, .call fn_depend_reader_ns [(.s 61), (.s 63)]⟩,
      ⟨(some 65), none, .slit ty_int 1 [(V.int .i64 0)] [(0, 1, (.s 64))]⟩,
      ⟨(some 66), none, .append ty_int 1 8 (.s 60) (.s 65)⟩,
      ⟨(some 67), none, .faddr 4 (.s 3)⟩,
      ⟨none, none, .store 1 (.s 67) (.s 66)⟩] [(1, 5)]
    (.done)) [] [59, 60, 61, 62, 63, 64, 65, 66, 67]
   (.ops [⟨(some 68), none, .bin .add (.s 57) (.c (V.int .i64 1))⟩,
     ⟨(some 57), none, .mv (.s 68)⟩]
   (.done)))
  (.exit 4))

def loop_depend_reader_structure_3 : C :=
  .ops [⟨(some 73), none, .bin .lss (.s 72) (.s 71)⟩]
  (.cond (.s 73)
  (.blk 7
   (.ops [⟨(some 74), none, .mv (.s 72)⟩,
      ⟨(some 6), none, .mv (.s 74)⟩]
    (.draw [⟨(some 75), none, .faddr 2 (.s 3)⟩,
      ⟨(some 76), none, .load none (.s 75)⟩,
      ⟨(some 77), none, .mv (.s 6)⟩,
      ⟨(some 78), none, .mv (.s 0)⟩,
      ⟨(some 79), none, .faddr 3 (.s 3)⟩,
      ⟨(some 80), none, .load none (.s 79)⟩,
      ⟨(some 81), none, .call fn_depend_reader_nums [(.s 78), (.s 80), (.c (V.int .i64 4))]⟩,
      ⟨(some 82), none, .iaddr none 5 (.s 76) (.s 77)⟩,
      ⟨(some 83), none, .faddr 4 (.s 82)⟩,
      ⟨none, none, .store 1 (.s 83) (.s 81)⟩] [(1, 6)]
    (.done))) [] [74, 6, 75, 76, 77, 78, 79, 80, 81, 82, 83]
   (.ops [⟨(some 84), none, .bin .add (.s 72) (.c (V.int .i64 1))⟩,
     ⟨(some 72), none, .mv (.s 84)⟩]
   (.done)))
  (.exit 6))

def loop_depend_reader_structure_4 : C :=
  .ops [⟨(some 90), none, .bin .lss (.s 89) (.s 88)⟩]
  (.cond (.s 90)
  (.blk 9
   (.draw [⟨(some 91), none, .faddr 5 (.s 3)⟩,
      ⟨(some 92), none, .load none (.s 91)⟩,
      ⟨(some 93), none, .mv (.s 0)⟩,
      ⟨(some 96), none, .mv (.s 0)⟩,
      ⟨(some 94), none, .call fn_depend_reader_num [(.s 93), (.c (V.int .i64 16))]⟩,
      ⟨(some 97), none, .call fn_depend_reader_num [(.s 96), (.c (V.int .i64 16))]⟩,
      ⟨(some 95), none, .bin .add (.s 94) (.c (V.int .i64 1))⟩,
      ⟨(some 98), none, .bin .add (.s 97) (.c (V.int .i64 1))⟩,
      ⟨(some 99), none, .build [(V.int .i64 0), (V.int .i64 0)] [(0, 1, (.s 95)), (1, 1, (.s 98))]⟩,
      ⟨(some 100), none, .slit ty_2_int 1 [(V.int .i64 0), (V.int .i64 0)] [(0, 2, (.s 99))]⟩,
      ⟨(some 101), none, .append ty_2_int 2 16 (.s 92) (.s 100)⟩,
      ⟨(some 102), none, .faddr 5 (.s 3)⟩,
      ⟨none, none, .store 1 (.s 102) (.s 101)⟩] [(1, 4), (1, 5)]
    (.done)) [] [91, 92, 93, 94, 95, 96, 97, 98, 99, 100, 101, 102]
   (.ops [⟨(some 103), none, .bin .add (.s 89) (.c (V.int .i64 1))⟩,
     ⟨(some 89), none, .mv (.s 103)⟩]
   (.done)))
  (.exit 8))

def ir_depend_reader_structure : Fn' := ⟨105, [.cell 2 (some 6)],
  .ops [⟨(some 2), none, .box ty_depend_Structure (.c (V.agg [(V.int .i64 0), (V.int .i64 0), V.nils, (V.int .i64 0), V.nils, V.nils]))⟩]
  (.ops [⟨(some 7), none, .mv (.s 0)⟩,
    ⟨(some 8), none, .call fn_depend_reader_num [(.s 7), (.c (V.int .i64 6))]⟩,
    ⟨(some 9), none, .mv (.s 0)⟩,
    ⟨(some 10), none, .call fn_depend_reader_num [(.s 9), (.c (V.int .i64 5))]⟩,
    ⟨(some 11), none, .bin .add (.s 10) (.c (V.int .i64 1))⟩,
    ⟨(some 12), none, .build [(V.int .i64 0), (V.int .i64 0), V.nils, (V.int .i64 0), V.nils, V.nils] [(0, 1, (.s 8)), (1, 1, (.s 11))]⟩,
    ⟨(some 3), none, .box ty_depend_Structure (.c (V.agg [(V.int .i64 0), (V.int .i64 0), V.nils, (V.int .i64 0), V.nils, V.nils]))⟩,
    ⟨none, none, .store 6 (.s 3) (.s 12)⟩]
  (.ops [⟨(some 13), none, .mv (.s 0)⟩,
    ⟨(some 14), none, .call fn_depend_reader_templates [(.s 13)]⟩,
    ⟨(some 15), none, .faddr 2 (.s 3)⟩,
    ⟨none, none, .store 1 (.s 15) (.s 14)⟩]
  (.ops [⟨(some 16), none, .faddr 2 (.s 3)⟩,
    ⟨(some 17), none, .load none (.s 16)⟩,
    ⟨(some 18), none, .len (.s 17)⟩,
    ⟨(some 19), none, .mv (.c (V.int .i64 0))⟩]
  (.blk 0
  (.loop loop_depend_reader_structure_0 [19] [20, 21, 4, 22, 23, 24, 25, 26, 27, 28, 29, 30, 31, 19]) [] [20, 21, 4, 22, 23, 24, 25, 26, 27, 28, 29, 30, 31, 19]
  (.ops [⟨(some 32), none, .faddr 2 (.s 3)⟩,
    ⟨(some 33), none, .load none (.s 32)⟩,
    ⟨(some 34), none, .len (.s 33)⟩,
    ⟨(some 35), none, .mv (.c (V.int .i64 0))⟩]
  (.blk 2
  (.loop loop_depend_reader_structure_1 [35] [36, 37, 5, 38, 39, 40, 41, 42, 43, 44, 45, 35]) [] [36, 37, 5, 38, 39, 40, 41, 42, 43, 44, 45, 35]
  (.ops [⟨(some 46), none, .mv (.s 0)⟩,
    ⟨(some 47), none, .faddr 1 (.s 3)⟩,
    ⟨(some 48), none, .load none (.s 47)⟩,
    ⟨(some 49), none, .bin .add (.s 48) (.c (V.int .i64 1))⟩,
    ⟨(some 50), none, .call fn_depend_reader_ns [(.s 46), (.s 49)]⟩,
    ⟨(some 51), none, .faddr 3 (.s 3)⟩,
    ⟨none, none, .store 1 (.s 51) (.s 50)⟩]
  (.ops [⟨(some 52), none, .faddr 3 (.s 3)⟩,
    ⟨(some 53), none, .load none (.s 52)⟩,
    ⟨(some 54), none, .bin .gtr (.s 53) (.c (V.int .i64 0))⟩]
  (.condJ (.s 54)
  (.ops [⟨(some 55), none, .faddr 1 (.s 3)⟩,
     ⟨(some 56), none, .load none (.s 55)⟩,
     ⟨(some 57), none, .mv (.c (V.int .i64 0))⟩]
   (.blk 4
   (.loop loop_depend_reader_structure_2 [57] [58, 59, 60, 61, 62, 63, 64, 65, 66, 67, 68, 57]) [] [58, 59, 60, 61, 62, 63, 64, 65, 66, 67, 68, 57]
   (.ops [⟨(some 69), none, .faddr 2 (.s 3)⟩,
     ⟨(some 70), none, .load none (.s 69)⟩,
     ⟨(some 71), none, .len (.s 70)⟩,
     ⟨(some 72), none, .mv (.c (V.int .i64 0))⟩]
   (.blk 6
   (.loop loop_depend_reader_structure_3 [72] [73, 74, 6, 75, 76, 77, 78, 79, 80, 81, 82, 83, 84, 72]) [] [73, 74, 6, 75, 76, 77, 78, 79, 80, 81, 82, 83, 84, 72]
   (.done)))))
  (.done) [] [55, 56, 57, 58, 59, 60, 61, 62, 63, 64, 65, 66, 67, 68, 57, 69, 70, 71, 72, 73, 74, 6, 75, 76, 77, 78, 79, 80, 81, 82, 83, 84, 72]
  (.ops [⟨(some 85), none, .mv (.s 0)⟩,
    ⟨(some 86), none, .call fn_depend_reader_bit [(.s 85)]⟩]
  (.condJ (.s 86)
  (.ops [⟨(some 87), none, .load (some 6) (.s 3)⟩,
     ⟨(some 88), none, .call fn_depend_spatial [(.s 87)]⟩,
     ⟨(some 89), none, .mv (.c (V.int .i64 0))⟩]
   (.blk 8
   (.loop loop_depend_reader_structure_4 [89] [90, 91, 92, 93, 94, 95, 96, 97, 98, 99, 100, 101, 102, 103, 89]) [] [90, 91, 92, 93, 94, 95, 96, 97, 98, 99, 100, 101, 102, 103, 89]
   (.done)))
  (.done) [] [87, 88, 89, 90, 91, 92, 93, 94, 95, 96, 97, 98, 99, 100, 101, 102, 103, 89]
  (.ops [⟨(some 104), none, .load (some 6) (.s 3)⟩,
    ⟨none, none, .store 6 (.s 2) (.s 104)⟩]
  (.ret)))))))))))))⟩

noncomputable def f_depend_reader_structure_0 (G : Sem') (t18 t0 t3 t2 : V) (L : List V) : M Res :=
  (M.lift (Ax.bin .lss (L.getD 0 .undef) t18)).bind fun t20 =>
  M.ite t20
    (M.blk 1 (
      (M.lift (Ax.faddr 2 t3)).bind fun t22 =>
      (mload none t22).bind fun t23 =>
      (M.lift (Ax.faddr 1 t3)).bind fun t26 =>
      (mload none t26).bind fun t27 =>
      M.getH.bind fun h0 =>
      (G fn_depend_reader_nums [t0, t27, (V.int .i64 2)]).bind fun t28 =>
      M.getH.bind fun h0' =>
      (M.unch t22 h0 h0').bind fun _ =>
      (M.lift (Ax.iaddr none 5 t23 (L.getD 0 .undef))).bind fun t29 =>
      (M.lift (Ax.faddr 2 t29)).bind fun t30 =>
      (mstore 1 t30 t28).bind fun _ =>
      M.pure (.nrm [])) fun _ =>
    (M.lift (Ax.bin .add (L.getD 0 .undef) (V.int .i64 1))).bind fun t31 =>
    M.pure (.nrm [t31]))
    (M.pure (.ex 0 []))

noncomputable def f_depend_reader_structure_1 (G : Sem') (t34 t3 t0 t2 : V) (L : List V) : M Res :=
  (M.lift (Ax.bin .lss (L.getD 0 .undef) t34)).bind fun t36 =>
  M.ite t36
    (M.blk 3 (
      (M.lift (Ax.faddr 2 t3)).bind fun t38 =>
      (mload none t38).bind fun t39 =>
      M.getH.bind fun h1 =>
      (G fn_depend_reader_diffs [t0]).bind fun t42 =>
      M.getH.bind fun h1' =>
      (M.unch t38 h1 h1').bind fun _ =>
      (M.lift (Ax.iaddr none 5 t39 (L.getD 0 .undef))).bind fun t43 =>
      (M.lift (Ax.faddr 3 t43)).bind fun t44 =>
      (mstore 1 t44 t42).bind fun _ =>
      M.pure (.nrm [])) fun _ =>
    (M.lift (Ax.bin .add (L.getD 0 .undef) (V.int .i64 1))).bind fun t45 =>
    M.pure (.nrm [t45]))
    (M.pure (.ex 2 []))

noncomputable def f_depend_reader_structure_2 (G : Sem') (t56 t0 t3 t2 : V) (L : List V) : M Res :=
  (M.lift (Ax.bin .lss (L.getD 0 .undef) t56)).bind fun t58 =>
  M.ite t58
    (M.blk 5 (
      (M.lift (Ax.faddr 4 t3)).bind fun t59 =>
      (mload none t59).bind fun t60 =>
      (M.lift (Ax.faddr 3 t3)).bind fun t62 =>
      (mload none t62).bind fun t63 =>
      M.getH.bind fun h2 =>
      (G fn_depend_reader_ns [t0, t63]).bind fun t64 =>
      M.getH.bind fun h2' =>
      (M.unch t59 h2 h2').bind fun _ =>
      (mslit ty_int 1 [(V.int .i64 0)] [(0, 1, t64)]).bind fun t65 =>
      (mappend ty_int 1 8 t60 t65).bind fun t66 =>
      (M.lift (Ax.faddr 4 t3)).bind fun t67 =>
      (mstore 1 t67 t66).bind fun _ =>
      M.pure (.nrm [])) fun _ =>
    (M.lift (Ax.bin .add (L.getD 0 .undef) (V.int .i64 1))).bind fun t68 =>
    M.pure (.nrm [t68]))
    (M.pure (.ex 4 []))

noncomputable def f_depend_reader_structure_3 (G : Sem') (t71 t0 t3 t2 : V) (L : List V) : M Res :=
  (M.lift (Ax.bin .lss (L.getD 0 .undef) t71)).bind fun t73 =>
  M.ite t73
    (M.blk 7 (
      (M.lift (Ax.faddr 2 t3)).bind fun t75 =>
      (mload none t75).bind fun t76 =>
      (M.lift (Ax.faddr 3 t3)).bind fun t79 =>
      (mload none t79).bind fun t80 =>
      M.getH.bind fun h3 =>
      (G fn_depend_reader_nums [t0, t80, (V.int .i64 4)]).bind fun t81 =>
      M.getH.bind fun h3' =>
      (M.unch t75 h3 h3').bind fun _ =>
      (M.lift (Ax.iaddr none 5 t76 (L.getD 0 .undef))).bind fun t82 =>
      (M.lift (Ax.faddr 4 t82)).bind fun t83 =>
      (mstore 1 t83 t81).bind fun _ =>
      M.pure (.nrm [])) fun _ =>
    (M.lift (Ax.bin .add (L.getD 0 .undef) (V.int .i64 1))).bind fun t84 =>
    M.pure (.nrm [t84]))
    (M.pure (.ex 6 []))

noncomputable def f_depend_reader_structure_4 (G : Sem') (t88 t0 t3 t2 : V) (L : List V) : M Res :=
  (M.lift (Ax.bin .lss (L.getD 0 .undef) t88)).bind fun t90 =>
  M.ite t90
    (M.blk 9 (
      (M.lift (Ax.faddr 5 t3)).bind fun t91 =>
      (mload none t91).bind fun t92 =>
      M.getH.bind fun h4 =>
      (G fn_depend_reader_num [t0, (V.int .i64 16)]).bind fun t94 =>
      M.getH.bind fun h4' =>
      (M.unch t91 h4 h4').bind fun _ =>
      M.getH.bind fun h5 =>
      (G fn_depend_reader_num [t0, (V.int .i64 16)]).bind fun t97 =>
      M.getH.bind fun h5' =>
      (M.unch t91 h5 h5').bind fun _ =>
      (M.lift (Ax.bin .add t94 (V.int .i64 1))).bind fun t95 =>
      (M.lift (Ax.bin .add t97 (V.int .i64 1))).bind fun t98 =>
      (M.lift (Ax.build [(V.int .i64 0), (V.int .i64 0)] [(0, 1, t95), (1, 1, t98)])).bind fun t99 =>
      (mslit ty_2_int 1 [(V.int .i64 0), (V.int .i64 0)] [(0, 2, t99)]).bind fun t100 =>
      (mappend ty_2_int 2 16 t92 t100).bind fun t101 =>
      (M.lift (Ax.faddr 5 t3)).bind fun t102 =>
      (mstore 1 t102 t101).bind fun _ =>
      M.pure (.nrm [])) fun _ =>
    (M.lift (Ax.bin .add (L.getD 0 .undef) (V.int .i64 1))).bind fun t103 =>
    M.pure (.nrm [t103]))
    (M.pure (.ex 8 []))

noncomputable def f_depend_reader_structure (G : Sem') (t0 : V) : M Res :=
  (mbox ty_depend_Structure (V.agg [(V.int .i64 0), (V.int .i64 0), V.nils, (V.int .i64 0), V.nils, V.nils])).bind fun t2 =>
  (G fn_depend_reader_num [t0, (V.int .i64 6)]).bind fun t8 =>
  (G fn_depend_reader_num [t0, (V.int .i64 5)]).bind fun t10 =>
  (M.lift (Ax.bin .add t10 (V.int .i64 1))).bind fun t11 =>
  (M.lift (Ax.build [(V.int .i64 0), (V.int .i64 0), V.nils, (V.int .i64 0), V.nils, V.nils] [(0, 1, t8), (1, 1, t11)])).bind fun t12 =>
  (mbox ty_depend_Structure (V.agg [(V.int .i64 0), (V.int .i64 0), V.nils, (V.int .i64 0), V.nils, V.nils])).bind fun t3 =>
  (mstore 6 t3 t12).bind fun _ =>
  (G fn_depend_reader_templates [t0]).bind fun t14 =>
  (M.lift (Ax.faddr 2 t3)).bind fun t15 =>
  (mstore 1 t15 t14).bind fun _ =>
  (M.lift (Ax.faddr 2 t3)).bind fun t16 =>
  (mload none t16).bind fun t17 =>
  (M.lift (vlen t17)).bind fun t18 =>
  M.blk 0 (
    M.iter (f_depend_reader_structure_0 G t18 t0 t3 t2) [(V.int .i64 0)]) fun _ =>
  (M.lift (Ax.faddr 2 t3)).bind fun t32 =>
  (mload none t32).bind fun t33 =>
  (M.lift (vlen t33)).bind fun t34 =>
  M.blk 2 (
    M.iter (f_depend_reader_structure_1 G t34 t3 t0 t2) [(V.int .i64 0)]) fun _ =>
  (M.lift (Ax.faddr 1 t3)).bind fun t47 =>
  (mload none t47).bind fun t48 =>
  (M.lift (Ax.bin .add t48 (V.int .i64 1))).bind fun t49 =>
  (G fn_depend_reader_ns [t0, t49]).bind fun t50 =>
  (M.lift (Ax.faddr 3 t3)).bind fun t51 =>
  (mstore 1 t51 t50).bind fun _ =>
  (M.lift (Ax.faddr 3 t3)).bind fun t52 =>
  (mload none t52).bind fun t53 =>
  (M.lift (Ax.bin .gtr t53 (V.int .i64 0))).bind fun t54 =>
  M.join (M.ite t54
    ((M.lift (Ax.faddr 1 t3)).bind fun t55 =>
    (mload none t55).bind fun t56 =>
    M.blk 4 (
      M.iter (f_depend_reader_structure_2 G t56 t0 t3 t2) [(V.int .i64 0)]) fun _ =>
    (M.lift (Ax.faddr 2 t3)).bind fun t69 =>
    (mload none t69).bind fun t70 =>
    (M.lift (vlen t70)).bind fun t71 =>
    M.blk 6 (
      M.iter (f_depend_reader_structure_3 G t71 t0 t3 t2) [(V.int .i64 0)]) fun _ =>
    M.pure (.nrm []))
    (M.pure (.nrm []))) fun _ =>
  (G fn_depend_reader_bit [t0]).bind fun t86 =>
  M.join (M.ite t86
    ((mload (some 6) t3).bind fun t87 =>
    (G fn_depend_spatial [t87]).bind fun t88 =>
    M.blk 8 (
      M.iter (f_depend_reader_structure_4 G t88 t0 t3 t2) [(V.int .i64 0)]) fun _ =>
    M.pure (.nrm []))
    (M.pure (.nrm []))) fun _ =>
  (mload (some 6) t3).bind fun t104 =>
  (mstore 6 t2 t104).bind fun _ =>
  (mload (some 6) t2).bind fun r0 =>
  M.pure (.ret [r0])

theorem eq_depend_reader_structure (G : Sem') (t0 : V) : execK G ir_depend_reader_structure.rv ir_depend_reader_structure.body [] [] (params 0 [t0]) = f_depend_reader_structure G t0 := by kernel_rfl

theorem tb_depend_reader_structure : T fn_depend_reader_structure = some ir_depend_reader_structure := by kernel_rfl

theorem ok_depend_reader_structure {t0 : V} {H : Heap} {Q : V → Heap → Prop} (h : Ok (f_depend_reader_structure (sem T) t0) H fun r H' => ∃ L, r = .ret L ∧ Q (tupled L) H') : Ok (sem T fn_depend_reader_structure [t0]) H Q :=
  ok_sem tb_depend_reader_structure (Nat.le_of_ble_eq_true rfl) (eq_depend_reader_structure (sem T) t0) h

/-- (*palanquin/depend.reader).templates. -/
def loop_depend_reader_templates_0 : C :=
  .ops [⟨(some 7), none, .mv (.s 0)⟩,
    ⟨(some 8), none, .nilck (.s 7)⟩,
    ⟨(some 9), none, .faddr 1 (.s 8)⟩,
    ⟨(some 10), none, .load none (.s 9)⟩,
    ⟨(some 11), none, .bin .eql (.s 10) (.c (V.int .i64 0))⟩]
  (.cond (.s 11)
  (.blk 1
   (.draw [⟨(some 12), none, .mv (.s 3)⟩,
      ⟨(some 13), none, .mv (.s 3)⟩,
      ⟨(some 14), none, .len (.s 13)⟩,
      ⟨(some 15), none, .bin .sub (.s 14) (.c (V.int .i64 1))⟩,
      ⟨(some 16), none, .iaddr none 5 (.s 12) (.s 15)⟩,
      ⟨(some 17), none, .faddr 0 (.s 16)⟩,
      ⟨(some 18), none, .load none (.s 17)⟩,
      ⟨(some 19), none, .mv (.s 3)⟩,
      ⟨(some 20), none, .mv (.s 3)⟩,
      ⟨(some 21), none, .len (.s 20)⟩,
      ⟨(some 22), none, .bin .sub (.s 21) (.c (V.int .i64 1))⟩,
      ⟨(some 23), none, .iaddr none 5 (.s 19) (.s 22)⟩,
      ⟨(some 24), none, .faddr 1 (.s 23)⟩,
      ⟨(some 25), none, .load none (.s 24)⟩,
      ⟨(some 26), none, .build [(V.int .i64 0), (V.int .i64 0), V.nils, V.nils, V.nils] [(0, 1, (.s 18)), (1, 1, (.s 25))]⟩,
      ⟨(some 4), none, .box ty_depend_Template (.c (V.agg [(V.int .i64 0), (V.int .i64 0), V.nils, V.nils, V.nils]))⟩,
      ⟨none, none, .store 5 (.s 4) (.s 26)⟩] []
    (.ops [⟨(some 27), none, .mv (.s 0)⟩,
      ⟨(some 28), none, .call fn_depend_reader_num [(.s 27), (.c (V.int .i64 2))]⟩]
    (.blk 2
    (.ops [⟨(some 30), none, .bin .eql (.s 28) (.c (V.int .i64 3))⟩,
       ⟨(some 29), none, .mv (.s 30)⟩]
     (.cond (.s 29)
     (.ops [⟨(some 31), none, .mv (.s 3)⟩,
        ⟨(some 2), none, .mv (.s 31)⟩]
      (.ret))
     (.ops [⟨(some 33), none, .bin .eql (.s 28) (.c (V.int .i64 1))⟩,
        ⟨(some 32), none, .mv (.s 33)⟩]
      (.condJ (.s 32)
      (.ops [⟨(some 34), none, .faddr 1 (.s 4)⟩,
         ⟨(some 35), none, .load none (.s 34)⟩,
         ⟨(some 36), none, .bin .add (.s 35) (.c (V.int .i64 1))⟩,
         ⟨(some 37), none, .faddr 1 (.s 4)⟩,
         ⟨none, none, .store 1 (.s 37) (.s 36)⟩]
       (.done))
      (.ops [⟨(some 39), none, .bin .eql (.s 28) (.c (V.int .i64 2))⟩,
         ⟨(some 38), none, .mv (.s 39)⟩]
       (.condJ (.s 38)
       (.ops [⟨(some 40), none, .faddr 0 (.s 4)⟩,
          ⟨(some 41), none, .load none (.s 40)⟩,
          ⟨(some 42), none, .bin .add (.s 41) (.c (V.int .i64 1))⟩,
          ⟨(some 43), none, .faddr 0 (.s 4)⟩,
          ⟨none, none, .store 1 (.s 43) (.s 42)⟩,
          ⟨(some 44), none, .faddr 1 (.s 4)⟩,
          ⟨none, none, .store 1 (.s 44) (.c (V.int .i64 0))⟩]
        (.done))
       (.done) [] [40, 41, 42, 43, 44]
       (.done))) [] [34, 35, 36, 37, 39, 38, 40, 41, 42, 43, 44]
      (.done))))) [] [30, 29, 31, 2, 33, 32, 34, 35, 36, 37, 39, 38, 40, 41, 42, 43, 44]
    (.ops [⟨(some 45), none, .faddr 0 (.s 4)⟩,
      ⟨(some 46), none, .load none (.s 45)⟩,
      ⟨(some 47), none, .bin .gtr (.s 46) (.c (V.int .i64 3))⟩,
      ⟨(some 48), none, .mv (.s 47)⟩,
      ⟨(some 49), (some (48, false)), .faddr 1 (.s 4)⟩,
      ⟨(some 50), (some (48, false)), .load none (.s 49)⟩,
      ⟨(some 51), (some (48, false)), .bin .gtr (.s 50) (.c (V.int .i64 7))⟩,
      ⟨(some 52), none, .pick (.s 48) (.c (V.bool true)) (.s 51)⟩,
      ⟨(some 53), none, .mv (.s 52)⟩,
      ⟨(some 54), (some (53, false)), .mv (.s 3)⟩,
      ⟨(some 55), (some (53, false)), .len (.s 54)⟩,
      ⟨(some 56), (some (53, false)), .bin .geq (.s 55) (.c (V.int .i64 64))⟩,
      ⟨(some 57), none, .pick (.s 53) (.c (V.bool true)) (.s 56)⟩]
    (.condJ (.s 57)
    (.ops [⟨(some 58), none, .mv (.s 0)⟩,
       ⟨(some 59), none, .call fn_depend_reader_fail [(.s 58), (.c (V.int .i64 2))]⟩]
     (.done))
    (.done) [] [58, 59]
    (.ops [⟨(some 60), none, .mv (.s 3)⟩,
      ⟨(some 61), none, .load (some 5) (.s 4)⟩,
      ⟨(some 62), none, .slit ty_depend_Template 1 [(V.int .i64 0), (V.int .i64 0), V.nils, V.nils, V.nils] [(0, 5, (.s 61))]⟩,
      ⟨(some 63), none, .append ty_depend_Template 5 88 (.s 60) (.s 62)⟩,
      ⟨(some 3), none, .mv (.s 63)⟩]
    (.done))))))) [3] [12, 13, 14, 15, 16, 17, 18, 19, 20, 21, 22, 23, 24, 25, 26, 4, 27, 28, 30, 29, 31, 2, 33, 32, 34, 35, 36, 37, 39, 38, 40, 41, 42, 43, 44, 45, 46, 47, 48, 49, 50, 51, 52, 53, 54, 55, 56, 57, 58, 59, 60, 61, 62, 63, 3]
   (.done))
  (.exit 0))

def ir_depend_reader_templates : Fn' := ⟨65, [.tmp 2],
  .ops [⟨(some 2), none, .mv (.c V.nils)⟩]
  (.ops [⟨(some 5), none, .build [(V.int .i64 0), (V.int .i64 0), V.nils, V.nils, V.nils] []⟩,
    ⟨(some 6), none, .slit ty_depend_Template 1 [(V.int .i64 0), (V.int .i64 0), V.nils, V.nils, V.nils] [(0, 5, (.s 5))]⟩,
    ⟨(some 3), none, .mv (.s 6)⟩]
  (.blk 0
  (.loop loop_depend_reader_templates_0 [3] [7, 8, 9, 10, 11, 12, 13, 14, 15, 16, 17, 18, 19, 20, 21, 22, 23, 24, 25, 26, 4, 27, 28, 30, 29, 31, 2, 33, 32, 34, 35, 36, 37, 39, 38, 40, 41, 42, 43, 44, 45, 46, 47, 48, 49, 50, 51, 52, 53, 54, 55, 56, 57, 58, 59, 60, 61, 62, 63, 3]) [3] [7, 8, 9, 10, 11, 12, 13, 14, 15, 16, 17, 18, 19, 20, 21, 22, 23, 24, 25, 26, 4, 27, 28, 30, 29, 31, 2, 33, 32, 34, 35, 36, 37, 39, 38, 40, 41, 42, 43, 44, 45, 46, 47, 48, 49, 50, 51, 52, 53, 54, 55, 56, 57, 58, 59, 60, 61, 62, 63, 3]
  (.ops [⟨(some 64), none, .mv (.s 3)⟩,
    ⟨(some 2), none, .mv (.s 64)⟩]
  (.ret))))⟩

noncomputable def f_depend_reader_templates_0 (G : Sem') (t0 : V) (L : List V) : M Res :=
  (M.lift (Ax.nilck t0)).bind fun t8 =>
  (M.lift (Ax.faddr 1 t8)).bind fun t9 =>
  (mload none t9).bind fun t10 =>
  (M.lift (Ax.bin .eql t10 (V.int .i64 0))).bind fun t11 =>
  M.ite t11
    (M.blk 1 (
      (M.lift (vlen (L.getD 0 .undef))).bind fun t14 =>
      (M.lift (Ax.bin .sub t14 (V.int .i64 1))).bind fun t15 =>
      (M.lift (Ax.iaddr none 5 (L.getD 0 .undef) t15)).bind fun t16 =>
      (M.lift (Ax.faddr 0 t16)).bind fun t17 =>
      (mload none t17).bind fun t18 =>
      (M.lift (vlen (L.getD 0 .undef))).bind fun t21 =>
      (M.lift (Ax.bin .sub t21 (V.int .i64 1))).bind fun t22 =>
      (M.lift (Ax.iaddr none 5 (L.getD 0 .undef) t22)).bind fun t23 =>
      (M.lift (Ax.faddr 1 t23)).bind fun t24 =>
      (mload none t24).bind fun t25 =>
      (M.lift (Ax.build [(V.int .i64 0), (V.int .i64 0), V.nils, V.nils, V.nils] [(0, 1, t18), (1, 1, t25)])).bind fun t26 =>
      (mbox ty_depend_Template (V.agg [(V.int .i64 0), (V.int .i64 0), V.nils, V.nils, V.nils])).bind fun t4 =>
      (mstore 5 t4 t26).bind fun _ =>
      (G fn_depend_reader_num [t0, (V.int .i64 2)]).bind fun t28 =>
      M.blk 2 (
        (M.lift (Ax.bin .eql t28 (V.int .i64 3))).bind fun t30 =>
        M.ite t30
          (M.pure (.ret [(L.getD 0 .undef)]))
          ((M.lift (Ax.bin .eql t28 (V.int .i64 1))).bind fun t33 =>
          M.join (M.ite t33
            ((M.lift (Ax.faddr 1 t4)).bind fun t34 =>
            (mload none t34).bind fun t35 =>
            (M.lift (Ax.bin .add t35 (V.int .i64 1))).bind fun t36 =>
            (M.lift (Ax.faddr 1 t4)).bind fun t37 =>
            (mstore 1 t37 t36).bind fun _ =>
            M.pure (.nrm []))
            ((M.lift (Ax.bin .eql t28 (V.int .i64 2))).bind fun t39 =>
            M.join (M.ite t39
              ((M.lift (Ax.faddr 0 t4)).bind fun t40 =>
              (mload none t40).bind fun t41 =>
              (M.lift (Ax.bin .add t41 (V.int .i64 1))).bind fun t42 =>
              (M.lift (Ax.faddr 0 t4)).bind fun t43 =>
              (mstore 1 t43 t42).bind fun _ =>
              (M.lift (Ax.faddr 1 t4)).bind fun t44 =>
              (mstore 1 t44 (V.int .i64 0)).bind fun _ =>
              M.pure (.nrm []))
              (M.pure (.nrm []))) fun _ =>
            M.pure (.nrm []))) fun _ =>
          M.pure (.nrm []))) fun _ =>
      (M.lift (Ax.faddr 0 t4)).bind fun t45 =>
      (mload none t45).bind fun t46 =>
      (M.lift (Ax.bin .gtr t46 (V.int .i64 3))).bind fun t47 =>
      (guarded [(0, t47)] (some (0, false)) (M.lift (Ax.faddr 1 t4))).bind fun t49 =>
      (guarded [(0, t47)] (some (0, false)) (mload none t49)).bind fun t50 =>
      (guarded [(0, t47)] (some (0, false)) (M.lift (Ax.bin .gtr t50 (V.int .i64 7)))).bind fun t51 =>
      (M.lift (Ax.pick t47 (V.bool true) t51)).bind fun t52 =>
      (guarded [(0, t52)] (some (0, false)) (M.pure (L.getD 0 .undef))).bind fun t54 =>
      (guarded [(0, t52)] (some (0, false)) (M.lift (vlen t54))).bind fun t55 =>
      (guarded [(0, t52)] (some (0, false)) (M.lift (Ax.bin .geq t55 (V.int .i64 64)))).bind fun t56 =>
      (M.lift (Ax.pick t52 (V.bool true) t56)).bind fun t57 =>
      M.join (M.ite t57
        ((G fn_depend_reader_fail [t0, (V.int .i64 2)]).bind fun t59 =>
        M.pure (.nrm []))
        (M.pure (.nrm []))) fun _ =>
      (mload (some 5) t4).bind fun t61 =>
      (mslit ty_depend_Template 1 [(V.int .i64 0), (V.int .i64 0), V.nils, V.nils, V.nils] [(0, 5, t61)]).bind fun t62 =>
      (mappend ty_depend_Template 5 88 (L.getD 0 .undef) t62).bind fun t63 =>
      M.pure (.nrm [t63])) fun L4 =>
    M.pure (.nrm [(L4.getD 0 .undef)]))
    (M.pure (.ex 0 [(L.getD 0 .undef)]))

noncomputable def f_depend_reader_templates (G : Sem') (t0 : V) : M Res :=
  (M.lift (Ax.build [(V.int .i64 0), (V.int .i64 0), V.nils, V.nils, V.nils] [])).bind fun t5 =>
  (mslit ty_depend_Template 1 [(V.int .i64 0), (V.int .i64 0), V.nils, V.nils, V.nils] [(0, 5, t5)]).bind fun t6 =>
  M.blk 0 (
    M.iter (f_depend_reader_templates_0 G t0) [t6]) fun L5 =>
  M.pure (.ret [(L5.getD 0 .undef)])

theorem eq_depend_reader_templates (G : Sem') (t0 : V) : execK G ir_depend_reader_templates.rv ir_depend_reader_templates.body [] [] (params 0 [t0]) = f_depend_reader_templates G t0 := by kernel_rfl

theorem tb_depend_reader_templates : T fn_depend_reader_templates = some ir_depend_reader_templates := by kernel_rfl

theorem ok_depend_reader_templates {t0 : V} {H : Heap} {Q : V → Heap → Prop} (h : Ok (f_depend_reader_templates (sem T) t0) H fun r H' => ∃ L, r = .ret L ∧ Q (tupled L) H') : Ok (sem T fn_depend_reader_templates [t0]) H Q :=
  ok_sem tb_depend_reader_templates (Nat.le_of_ble_eq_true rfl) (eq_depend_reader_templates (sem T) t0) h

/-- (*palanquin/depend.reader).fail. -/
def ir_depend_reader_fail : Fn' := ⟨13, [],
  .ops [⟨(some 4), none, .mv (.s 0)⟩,
    ⟨(some 5), none, .nilck (.s 4)⟩,
    ⟨(some 6), none, .faddr 1 (.s 5)⟩,
    ⟨(some 7), none, .load none (.s 6)⟩,
    ⟨(some 8), none, .bin .eql (.s 7) (.c (V.int .i64 0))⟩]
  (.condJ (.s 8)
  (.ops [⟨(some 9), none, .mv (.s 0)⟩,
     ⟨(some 10), none, .mv (.s 1)⟩,
     ⟨(some 11), none, .nilck (.s 9)⟩,
     ⟨(some 12), none, .faddr 1 (.s 11)⟩,
     ⟨none, none, .store 1 (.s 12) (.s 10)⟩]
   (.done))
  (.done) [] [9, 10, 11, 12]
  (.ret))⟩

noncomputable def f_depend_reader_fail (G : Sem') (t0 t1 : V) : M Res :=
  (M.lift (Ax.nilck t0)).bind fun t5 =>
  (M.lift (Ax.faddr 1 t5)).bind fun t6 =>
  (mload none t6).bind fun t7 =>
  (M.lift (Ax.bin .eql t7 (V.int .i64 0))).bind fun t8 =>
  M.join (M.ite t8
    ((M.lift (Ax.nilck t0)).bind fun t11 =>
    (M.lift (Ax.faddr 1 t11)).bind fun t12 =>
    (mstore 1 t12 t1).bind fun _ =>
    M.pure (.nrm []))
    (M.pure (.nrm []))) fun _ =>
  M.pure (.ret [])

theorem eq_depend_reader_fail (G : Sem') (t0 t1 : V) : execK G ir_depend_reader_fail.rv ir_depend_reader_fail.body [] [] (params 0 [t0, t1]) = f_depend_reader_fail G t0 t1 := by kernel_rfl

theorem tb_depend_reader_fail : T fn_depend_reader_fail = some ir_depend_reader_fail := by kernel_rfl

theorem ok_depend_reader_fail {t0 t1 : V} {H : Heap} {Q : V → Heap → Prop} (h : Ok (f_depend_reader_fail (sem T) t0 t1) H fun r H' => ∃ L, r = .ret L ∧ Q (tupled L) H') : Ok (sem T fn_depend_reader_fail [t0, t1]) H Q :=
  ok_sem tb_depend_reader_fail (Nat.le_of_ble_eq_true rfl) (eq_depend_reader_fail (sem T) t0 t1) h

/-- (*palanquin/depend.reader).nums. -/
def loop_depend_reader_nums_0 : C :=
  .ops [⟨(some 10), none, .bin .lss (.s 9) (.s 8)⟩]
  (.cond (.s 10)
  (.blk 1
   (.ops [⟨(some 11), none, .mv (.s 7)⟩,
      ⟨(some 12), none, .mv (.s 0)⟩,
      ⟨(some 13), none, .mv (.s 2)⟩,
      ⟨(some 14), none, .call fn_depend_reader_num [(.s 12), (.s 13)]⟩,
      ⟨(some 15), none, .slit ty_int 1 [(V.int .i64 0)] [(0, 1, (.s 14))]⟩,
      ⟨(some 16), none, .append ty_int 1 8 (.s 11) (.s 15)⟩,
      ⟨(some 7), none, .mv (.s 16)⟩]
    (.done)) [7] [11, 12, 13, 14, 15, 16, 7]
   (.ops [⟨(some 17), none, .bin .add (.s 9) (.c (V.int .i64 1))⟩,
     ⟨(some 9), none, .mv (.s 17)⟩]
   (.done)))
  (.exit 0))

def ir_depend_reader_nums : Fn' := ⟨19, [.tmp 6],
  .ops [⟨(some 6), none, .mv (.c V.nils)⟩]
  (.ops [⟨(some 7), none, .mv (.c V.nils)⟩]
  (.ops [⟨(some 8), none, .mv (.s 1)⟩,
    ⟨(some 9), none, .mv (.c (V.int .i64 0))⟩]
  (.blk 0
  (.loop loop_depend_reader_nums_0 [7, 9] [10, 11, 12, 13, 14, 15, 16, 7, 17, 9]) [7] [10, 11, 12, 13, 14, 15, 16, 7, 17, 9]
  (.ops [⟨(some 18), none, .mv (.s 7)⟩,
    ⟨(some 6), none, .mv (.s 18)⟩]
  (.ret)))))⟩

noncomputable def f_depend_reader_nums_0 (G : Sem') (t8 t0 t2 t6 : V) (L : List V) : M Res :=
  (M.lift (Ax.bin .lss (L.getD 1 .undef) t8)).bind fun t10 =>
  M.ite t10
    (M.blk 1 (
      (G fn_depend_reader_num [t0, t2]).bind fun t14 =>
      (mslit ty_int 1 [(V.int .i64 0)] [(0, 1, t14)]).bind fun t15 =>
      (mappend ty_int 1 8 (L.getD 0 .undef) t15).bind fun t16 =>
      M.pure (.nrm [t16])) fun L0 =>
    (M.lift (Ax.bin .add (L.getD 1 .undef) (V.int .i64 1))).bind fun t17 =>
    M.pure (.nrm [(L0.getD 0 .undef), t17]))
    (M.pure (.ex 0 [(L.getD 0 .undef)]))

noncomputable def f_depend_reader_nums (G : Sem') (t0 t1 t2 : V) : M Res :=
  M.blk 0 (
    M.iter (f_depend_reader_nums_0 G t1 t0 t2 V.nils) [V.nils, (V.int .i64 0)]) fun L1 =>
  M.pure (.ret [(L1.getD 0 .undef)])

theorem eq_depend_reader_nums (G : Sem') (t0 t1 t2 : V) : execK G ir_depend_reader_nums.rv ir_depend_reader_nums.body [] [] (params 0 [t0, t1, t2]) = f_depend_reader_nums G t0 t1 t2 := by kernel_rfl

theorem tb_depend_reader_nums : T fn_depend_reader_nums = some ir_depend_reader_nums := by kernel_rfl

theorem ok_depend_reader_nums {t0 t1 t2 : V} {H : Heap} {Q : V → Heap → Prop} (h : Ok (f_depend_reader_nums (sem T) t0 t1 t2) H fun r H' => ∃ L, r = .ret L ∧ Q (tupled L) H') : Ok (sem T fn_depend_reader_nums [t0, t1, t2]) H Q :=
  ok_sem tb_depend_reader_nums (Nat.le_of_ble_eq_true rfl) (eq_depend_reader_nums (sem T) t0 t1 t2) h

/-- (*palanquin/depend.reader).diffs. -/
def loop_depend_reader_diffs_0 : C :=
  .ops [⟨(some 4), none, .mv (.s 0)⟩,
    ⟨(some 5), none, .call fn_depend_reader_bit [(.s 4)]⟩]
  (.cond (.s 5)
  (.blk 1
   (.ops [⟨(some 6), none, .mv (.s 3)⟩,
      ⟨(some 7), none, .len (.s 6)⟩,
      ⟨(some 8), none, .bin .geq (.s 7) (.c (V.int .i64 8))⟩]
    (.cond (.s 8)
    (.ops [⟨(some 9), none, .mv (.s 0)⟩,
       ⟨(some 10), none, .call fn_depend_reader_fail [(.s 9), (.c (V.int .i64 4))]⟩]
     (.ops [⟨(some 2), none, .mv (.c V.nils)⟩]
     (.ret)))
    (.ops [⟨(some 11), none, .mv (.s 3)⟩,
       ⟨(some 12), none, .mv (.s 0)⟩,
       ⟨(some 13), none, .call fn_depend_reader_num [(.s 12), (.c (V.int .i64 4))]⟩,
       ⟨(some 14), none, .bin .add (.s 13) (.c (V.int .i64 1))⟩,
       ⟨(some 15), none, .slit ty_int 1 [(V.int .i64 0)] [(0, 1, (.s 14))]⟩,
       ⟨(some 16), none, .append ty_int 1 8 (.s 11) (.s 15)⟩,
       ⟨(some 3), none, .mv (.s 16)⟩]
     (.done)))) [3] [6, 7, 8, 9, 10, 2, 11, 12, 13, 14, 15, 16, 3]
   (.done))
  (.exit 0))

def ir_depend_reader_diffs : Fn' := ⟨18, [.tmp 2],
  .ops [⟨(some 2), none, .mv (.c V.nils)⟩]
  (.ops [⟨(some 3), none, .mv (.c V.nils)⟩]
  (.blk 0
  (.loop loop_depend_reader_diffs_0 [3] [4, 5, 6, 7, 8, 9, 10, 2, 11, 12, 13, 14, 15, 16, 3]) [3] [4, 5, 6, 7, 8, 9, 10, 2, 11, 12, 13, 14, 15, 16, 3]
  (.ops [⟨(some 17), none, .mv (.s 3)⟩,
    ⟨(some 2), none, .mv (.s 17)⟩]
  (.ret))))⟩

noncomputable def f_depend_reader_diffs_0 (G : Sem') (t0 : V) (L : List V) : M Res :=
  (G fn_depend_reader_bit [t0]).bind fun t5 =>
  M.ite t5
    (M.blk 1 (
      (M.lift (vlen (L.getD 0 .undef))).bind fun t7 =>
      (M.lift (Ax.bin .geq t7 (V.int .i64 8))).bind fun t8 =>
      M.ite t8
        ((G fn_depend_reader_fail [t0, (V.int .i64 4)]).bind fun t10 =>
        M.pure (.ret [V.nils]))
        ((G fn_depend_reader_num [t0, (V.int .i64 4)]).bind fun t13 =>
        (M.lift (Ax.bin .add t13 (V.int .i64 1))).bind fun t14 =>
        (mslit ty_int 1 [(V.int .i64 0)] [(0, 1, t14)]).bind fun t15 =>
        (mappend ty_int 1 8 (L.getD 0 .undef) t15).bind fun t16 =>
        M.pure (.nrm [t16]))) fun L0 =>
    M.pure (.nrm [(L0.getD 0 .undef)]))
    (M.pure (.ex 0 [(L.getD 0 .undef)]))

noncomputable def f_depend_reader_diffs (G : Sem') (t0 : V) : M Res :=
  M.blk 0 (
    M.iter (f_depend_reader_diffs_0 G t0) [V.nils]) fun L1 =>
  M.pure (.ret [(L1.getD 0 .undef)])

theorem eq_depend_reader_diffs (G : Sem') (t0 : V) : execK G ir_depend_reader_diffs.rv ir_depend_reader_diffs.body [] [] (params 0 [t0]) = f_depend_reader_diffs G t0 := by kernel_rfl

theorem tb_depend_reader_diffs : T fn_depend_reader_diffs = some ir_depend_reader_diffs := by kernel_rfl

theorem ok_depend_reader_diffs {t0 : V} {H : Heap} {Q : V → Heap → Prop} (h : Ok (f_depend_reader_diffs (sem T) t0) H fun r H' => ∃ L, r = .ret L ∧ Q (tupled L) H') : Ok (sem T fn_depend_reader_diffs [t0]) H Q :=
  ok_sem tb_depend_reader_diffs (Nat.le_of_ble_eq_true rfl) (eq_depend_reader_diffs (sem T) t0) h

/-- (*palanquin/depend.reader).ns. -/
def ir_depend_reader_ns : Fn' := ⟨28, [.tmp 4],
  .ops [⟨(some 4), none, .mv (.c (V.int .i64 0))⟩]
  (.ops [⟨(some 7), none, .mv (.s 0)⟩,
    ⟨(some 8), none, .nilck (.s 7)⟩,
    ⟨(some 9), none, .faddr 1 (.s 8)⟩,
    ⟨(some 10), none, .load none (.s 9)⟩,
    ⟨(some 11), none, .bin .neq (.s 10) (.c (V.int .i64 0))⟩]
  (.cond (.s 11)
  (.ops [⟨(some 4), none, .mv (.c (V.int .i64 0))⟩]
   (.ret))
  (.ops [⟨(some 13), none, .mv (.s 0)⟩,
     ⟨(some 14), none, .nilck (.s 13)⟩,
     ⟨(some 15), none, .faddr 0 (.s 14)⟩,
     ⟨(some 16), none, .load none (.s 15)⟩,
     ⟨(some 17), none, .mv (.s 1)⟩,
     ⟨(some 18), none, .cint .u64 (.s 17)⟩,
     ⟨(some 19), none, .call fn_bits_Reader_TakeNS [(.s 16), (.s 18)]⟩,
     ⟨(some 12), none, .mv (.s 19)⟩,
     ⟨(some 20), none, .ext 0 (.s 12)⟩,
     ⟨(some 21), none, .ext 1 (.s 12)⟩,
     ⟨(some 5), none, .mv (.s 20)⟩,
     ⟨(some 6), none, .mv (.s 21)⟩]
   (.ops [⟨(some 22), none, .mv (.s 0)⟩,
     ⟨(some 23), none, .mv (.s 6)⟩,
     ⟨(some 24), none, .nilck (.s 22)⟩,
     ⟨(some 25), none, .faddr 1 (.s 24)⟩,
     ⟨none, none, .store 1 (.s 25) (.s 23)⟩]
   (.ops [⟨(some 26), none, .mv (.s 5)⟩,
     ⟨(some 27), none, .cint .i64 (.s 26)⟩,
     ⟨(some 4), none, .mv (.s 27)⟩]
   (.ret))))))⟩

noncomputable def f_depend_reader_ns (G : Sem') (t0 t1 : V) : M Res :=
  (M.lift (Ax.nilck t0)).bind fun t8 =>
  (M.lift (Ax.faddr 1 t8)).bind fun t9 =>
  (mload none t9).bind fun t10 =>
  (M.lift (Ax.bin .neq t10 (V.int .i64 0))).bind fun t11 =>
  M.ite t11
    (M.pure (.ret [(V.int .i64 0)]))
    ((M.lift (Ax.nilck t0)).bind fun t14 =>
    (M.lift (Ax.faddr 0 t14)).bind fun t15 =>
    (mload none t15).bind fun t16 =>
    (M.lift (Ax.cint .u64 t1)).bind fun t18 =>
    (G fn_bits_Reader_TakeNS [t16, t18]).bind fun t19 =>
    (M.lift (Ax.ext 0 t19)).bind fun t20 =>
    (M.lift (Ax.ext 1 t19)).bind fun t21 =>
    (M.lift (Ax.nilck t0)).bind fun t24 =>
    (M.lift (Ax.faddr 1 t24)).bind fun t25 =>
    (mstore 1 t25 t21).bind fun _ =>
    (M.lift (Ax.cint .i64 t20)).bind fun t27 =>
    M.pure (.ret [t27]))

theorem eq_depend_reader_ns (G : Sem') (t0 t1 : V) : execK G ir_depend_reader_ns.rv ir_depend_reader_ns.body [] [] (params 0 [t0, t1]) = f_depend_reader_ns G t0 t1 := by kernel_rfl

theorem tb_depend_reader_ns : T fn_depend_reader_ns = some ir_depend_reader_ns := by kernel_rfl

theorem ok_depend_reader_ns {t0 t1 : V} {H : Heap} {Q : V → Heap → Prop} (h : Ok (f_depend_reader_ns (sem T) t0 t1) H fun r H' => ∃ L, r = .ret L ∧ Q (tupled L) H') : Ok (sem T fn_depend_reader_ns [t0, t1]) H Q :=
  ok_sem tb_depend_reader_ns (Nat.le_of_ble_eq_true rfl) (eq_depend_reader_ns (sem T) t0 t1) h

/-- (*palanquin/depend.reader).own. -/
def loop_depend_reader_own_0 : C :=
  .ops [⟨(some 7), none, .mv (.s 4)⟩,
    ⟨(some 8), none, .bin .gtr (.s 7) (.c (V.int .i64 0))⟩]
  (.cond (.s 8)
  (.blk 1
   (.ops [⟨(some 11), none, .mv (.s 3)⟩,
      ⟨(some 12), none, .len (.s 11)⟩,
      ⟨(some 13), none, .bin .geq (.s 12) (.c (V.int .i64 16))⟩]
    (.cond (.s 13)
    (.ops [⟨(some 14), none, .mv (.s 0)⟩,
       ⟨(some 15), none, .call fn_depend_reader_fail [(.s 14), (.c (V.int .i64 4))]⟩]
     (.ops [⟨(some 2), none, .mv (.c V.nils)⟩]
     (.ret)))
    (.ops [⟨(some 16), none, .mv (.s 3)⟩,
       ⟨(some 17), none, .mv (.s 0)⟩,
       ⟨(some 18), none, .mv (.s 4)⟩,
       ⟨(some 19), none, .bin .mul (.c (V.int .i64 4)) (.s 18)⟩,
       ⟨(some 20), none, .call fn_depend_reader_num [(.s 17), (.s 19)]⟩,
       ⟨(some 21), none, .bin .add (.s 20) (.c (V.int .i64 1))⟩,
       ⟨(some 22), none, .slit ty_int 1 [(V.int .i64 0)] [(0, 1, (.s 21))]⟩,
       ⟨(some 23), none, .append ty_int 1 8 (.s 16) (.s 22)⟩,
       ⟨(some 3), none, .mv (.s 23)⟩]
     (.done)))) [3] [11, 12, 13, 14, 15, 2, 16, 17, 18, 19, 20, 21, 22, 23, 3]
   (.ops [⟨(some 9), none, .mv (.s 0)⟩,
     ⟨(some 10), none, .call fn_depend_reader_num [(.s 9), (.c (V.int .i64 2))]⟩,
     ⟨(some 4), none, .mv (.s 10)⟩]
   (.done)))
  (.exit 0))

def ir_depend_reader_own : Fn' := ⟨25, [.tmp 2],
  .ops [⟨(some 2), none, .mv (.c V.nils)⟩]
  (.ops [⟨(some 3), none, .mv (.c V.nils)⟩]
  (.ops [⟨(some 5), none, .mv (.s 0)⟩,
    ⟨(some 6), none, .call fn_depend_reader_num [(.s 5), (.c (V.int .i64 2))]⟩,
    ⟨(some 4), none, .mv (.s 6)⟩]
  (.blk 0
  (.loop loop_depend_reader_own_0 [3, 4] [7, 8, 11, 12, 13, 14, 15, 2, 16, 17, 18, 19, 20, 21, 22, 23, 3, 9, 10, 4]) [3] [7, 8, 11, 12, 13, 14, 15, 2, 16, 17, 18, 19, 20, 21, 22, 23, 3, 9, 10, 4]
  (.ops [⟨(some 24), none, .mv (.s 3)⟩,
    ⟨(some 2), none, .mv (.s 24)⟩]
  (.ret)))))⟩

noncomputable def f_depend_reader_own_0 (G : Sem') (t0 : V) (L : List V) : M Res :=
  (M.lift (Ax.bin .gtr (L.getD 1 .undef) (V.int .i64 0))).bind fun t8 =>
  M.ite t8
    (M.blk 1 (
      (M.lift (vlen (L.getD 0 .undef))).bind fun t12 =>
      (M.lift (Ax.bin .geq t12 (V.int .i64 16))).bind fun t13 =>
      M.ite t13
        ((G fn_depend_reader_fail [t0, (V.int .i64 4)]).bind fun t15 =>
        M.pure (.ret [V.nils]))
        ((M.lift (Ax.bin .mul (V.int .i64 4) (L.getD 1 .undef))).bind fun t19 =>
        (G fn_depend_reader_num [t0, t19]).bind fun t20 =>
        (M.lift (Ax.bin .add t20 (V.int .i64 1))).bind fun t21 =>
        (mslit ty_int 1 [(V.int .i64 0)] [(0, 1, t21)]).bind fun t22 =>
        (mappend ty_int 1 8 (L.getD 0 .undef) t22).bind fun t23 =>
        M.pure (.nrm [t23]))) fun L0 =>
    (G fn_depend_reader_num [t0, (V.int .i64 2)]).bind fun t10 =>
    M.pure (.nrm [(L0.getD 0 .undef), t10]))
    (M.pure (.ex 0 [(L.getD 0 .undef)]))

noncomputable def f_depend_reader_own (G : Sem') (t0 : V) : M Res :=
  (G fn_depend_reader_num [t0, (V.int .i64 2)]).bind fun t6 =>
  M.blk 0 (
    M.iter (f_depend_reader_own_0 G t0) [V.nils, t6]) fun L1 =>
  M.pure (.ret [(L1.getD 0 .undef)])

theorem eq_depend_reader_own (G : Sem') (t0 : V) : execK G ir_depend_reader_own.rv ir_depend_reader_own.body [] [] (params 0 [t0]) = f_depend_reader_own G t0 := by kernel_rfl

theorem tb_depend_reader_own : T fn_depend_reader_own = some ir_depend_reader_own := by kernel_rfl

theorem ok_depend_reader_own {t0 : V} {H : Heap} {Q : V → Heap → Prop} (h : Ok (f_depend_reader_own (sem T) t0) H fun r H' => ∃ L, r = .ret L ∧ Q (tupled L) H') : Ok (sem T fn_depend_reader_own [t0]) H Q :=
  ok_sem tb_depend_reader_own (Nat.le_of_ble_eq_true rfl) (eq_depend_reader_own (sem T) t0) h

/-- palanquin/palanquinref9.Parse. -/
def loop_palanquinref9_Parse_0 : C :=
  .ops [⟨(some 102), none, .mv (.s 6)⟩,
    ⟨(some 103), none, .nilck (.s 102)⟩,
    ⟨(some 104), none, .faddr 1 (.s 103)⟩,
    ⟨(some 105), none, .load none (.s 104)⟩,
    ⟨(some 106), none, .bin .eql (.s 105) (.c (V.int .i64 0))⟩,
    ⟨(some 107), none, .mv (.s 106)⟩,
    ⟨(some 108), (some (107, true)), .mv (.s 6)⟩,
    ⟨(some 109), (some (107, true)), .nilck (.s 108)⟩,
    ⟨(some 110), (some (107, true)), .faddr 0 (.s 109)⟩,
    ⟨(some 111), (some (107, true)), .load none (.s 110)⟩,
    ⟨(some 112), (some (107, true)), .call fn_palanquinref6_Reader_Left [(.s 111)]⟩,
    ⟨(some 113), (some (107, true)), .bin .gtr (.s 112) (.c (V.int .i64 0))⟩,
    ⟨(some 114), none, .pick (.s 107) (.s 113) (.c (V.bool false))⟩]
  (.cond (.s 114)
  (.blk 1
   (.ops [⟨(some 115), none, .mv (.s 6)⟩,
      ⟨(some 116), none, .call fn_palanquinref9_reader_n [(.s 115), (.c (V.int .i64 1))]⟩,
      ⟨(some 117), none, .bin .eql (.s 116) (.c (V.int .i64 1))⟩]
    (.condJ (.s 117)
    (.ops [⟨(some 118), none, .mv (.s 6)⟩,
       ⟨(some 119), none, .call fn_palanquinref9_reader_bad [(.s 118), (.c (V.int .i64 2))]⟩]
     (.done))
    (.done) [] [118, 119]
    (.done))) [] [115, 116, 117, 118, 119]
   (.done))
  (.exit 0))

def ir_palanquinref9_Parse : Fn' := ⟨131, [.cell 4 (some 19), .tmp 5],
  .ops [⟨(some 3), none, .box ty_palanquinref9_Structure (.s 1)⟩,
    ⟨(some 4), none, .box ty_palanquinref9_Frame (.c (V.agg [(V.bool false), (V.bool false), (V.int .i64 0), (V.int .u16 0), (V.bool false), (V.int .i64 0), (V.int .i64 0), V.nils, (V.int .i64 0), V.nils, V.nils, (V.bool false), (V.int .u32 0), (V.bool false), (V.bool false), (V.bool false), V.nils, V.nils, V.nils]))⟩,
    ⟨(some 5), none, .mv (.c (V.int .i64 0))⟩]
  (.ops [⟨(some 11), none, .mv (.s 0)⟩,
    ⟨(some 12), none, .build [V.nils, (V.int .i64 0)] [(0, 1, (.s 11))]⟩,
    ⟨(some 13), none, .box ty_palanquinref6_Reader (.s 12)⟩,
    ⟨(some 14), none, .build [V.nilp, (V.int .i64 0)] [(0, 1, (.s 13))]⟩,
    ⟨(some 15), none, .box ty_palanquinref9_reader (.s 14)⟩,
    ⟨(some 6), none, .mv (.s 15)⟩]
  (.ops [⟨(some 16), none, .mv (.s 6)⟩,
    ⟨(some 17), none, .call fn_palanquinref9_reader_n [(.s 16), (.c (V.int .i64 1))]⟩,
    ⟨(some 18), none, .bin .eql (.s 17) (.c (V.int .i64 1))⟩,
    ⟨(some 19), none, .mv (.s 6)⟩,
    ⟨(some 20), none, .call fn_palanquinref9_reader_n [(.s 19), (.c (V.int .i64 1))]⟩,
    ⟨(some 21), none, .bin .eql (.s 20) (.c (V.int .i64 1))⟩,
    ⟨(some 22), none, .mv (.s 6)⟩,
    ⟨(some 23), none, .call fn_palanquinref9_reader_n [(.s 22), (.c (V.int .i64 6))]⟩,
    ⟨(some 24), none, .mv (.s 6)⟩,
    ⟨(some 25), none, .call fn_palanquinref9_reader_n [(.s 24), (.c (V.int .i64 16))]⟩,
    ⟨(some 26), none, .cint .u16 (.s 25)⟩,
    ⟨(some 27), none, .build [(V.bool false), (V.bool false), (V.int .i64 0), (V.int .u16 0), (V.bool false), (V.int .i64 0), (V.int .i64 0), V.nils, (V.int .i64 0), V.nils, V.nils, (V.bool false), (V.int .u32 0), (V.bool false), (V.bool false), (V.bool false), V.nils, V.nils, V.nils] [(0, 1, (.s 18)), (1, 1, (.s 21)), (2, 1, (.s 23)), (3, 1, (.s 26))]⟩,
    ⟨(some 7), none, .box ty_palanquinref9_Frame (.c (V.agg [(V.bool false), (V.bool false), (V.int .i64 0), (V.int .u16 0), (V.bool false), (V.int .i64 0), (V.int .i64 0), V.nils, (V.int .i64 0), V.nils, V.nils, (V.bool false), (V.int .u32 0), (V.bool false), (V.bool false), (V.bool false), V.nils, V.nils, V.nils]))⟩,
    ⟨none, none, .store 19 (.s 7) (.s 27)⟩]
  (.ops [⟨(some 28), none, .mv (.s 0)⟩,
    ⟨(some 29), none, .len (.s 28)⟩,
    ⟨(some 30), none, .bin .gtr (.s 29) (.c (V.int .i64 3))⟩]
  (.condJ (.s 30)
  (.ops [⟨(some 31), none, .mv (.s 6)⟩,
     ⟨(some 32), none, .call fn_palanquinref9_reader_n [(.s 31), (.c (V.int .i64 1))]⟩,
     ⟨(some 33), none, .bin .eql (.s 32) (.c (V.int .i64 1))⟩,
     ⟨(some 34), none, .mv (.s 6)⟩,
     ⟨(some 35), none, .call fn_palanquinref9_reader_n [(.s 34), (.c (V.int .i64 1))]⟩,
     ⟨(some 36), none, .bin .eql (.s 35) (.c (V.int .i64 1))⟩,
     ⟨(some 37), none, .mv (.s 6)⟩,
     ⟨(some 38), none, .call fn_palanquinref9_reader_n [(.s 37), (.c (V.int .i64 1))]⟩,
     ⟨(some 39), none, .bin .eql (.s 38) (.c (V.int .i64 1))⟩,
     ⟨(some 40), none, .faddr 4 (.s 7)⟩,
     ⟨none, none, .store 1 (.s 40) (.s 33)⟩,
     ⟨(some 41), none, .faddr 11 (.s 7)⟩,
     ⟨none, none, .store 1 (.s 41) (.s 36)⟩,
     ⟨(some 42), none, .faddr 13 (.s 7)⟩,
     ⟨none, none, .store 1 (.s 42) (.s 39)⟩]
   (.ops [⟨(some 43), none, .mv (.s 6)⟩,
     ⟨(some 44), none, .call fn_palanquinref9_reader_n [(.s 43), (.c (V.int .i64 1))]⟩,
     ⟨(some 45), none, .bin .eql (.s 44) (.c (V.int .i64 1))⟩,
     ⟨(some 46), none, .mv (.s 6)⟩,
     ⟨(some 47), none, .call fn_palanquinref9_reader_n [(.s 46), (.c (V.int .i64 1))]⟩,
     ⟨(some 48), none, .bin .eql (.s 47) (.c (V.int .i64 1))⟩,
     ⟨(some 49), none, .faddr 14 (.s 7)⟩,
     ⟨none, none, .store 1 (.s 49) (.s 45)⟩,
     ⟨(some 50), none, .faddr 15 (.s 7)⟩,
     ⟨none, none, .store 1 (.s 50) (.s 48)⟩]
   (.done)))
  (.done) [] [31, 32, 33, 34, 35, 36, 37, 38, 39, 40, 41, 42, 43, 44, 45, 46, 47, 48, 49, 50]
  (.ops [⟨(some 51), none, .load (some 6) (.s 3)⟩,
    ⟨(some 8), none, .box ty_palanquinref9_Structure (.c (V.agg [(V.int .i64 0), (V.int .i64 0), V.nils, (V.int .i64 0), V.nils, V.nils]))⟩,
    ⟨none, none, .store 6 (.s 8) (.s 51)⟩]
  (.ops [⟨(some 52), none, .faddr 4 (.s 7)⟩,
    ⟨(some 53), none, .load none (.s 52)⟩]
  (.condJ (.s 53)
  (.ops [⟨(some 54), none, .mv (.s 6)⟩,
     ⟨(some 55), none, .call fn_palanquinref9_reader_structure [(.s 54)]⟩,
     ⟨(some 56), none, .faddr 5 (.s 7)⟩,
     ⟨none, none, .store 6 (.s 56) (.s 55)⟩]
   (.ops [⟨(some 57), none, .faddr 5 (.s 7)⟩,
     ⟨(some 58), none, .load (some 6) (.s 57)⟩,
     ⟨none, none, .store 6 (.s 8) (.s 58)⟩]
   (.done)))
  (.ops [⟨(some 59), none, .load (some 6) (.s 3)⟩,
     ⟨(some 60), none, .call fn_palanquinref9_Fine [(.s 59)]⟩,
     ⟨(some 61), none, .un .not (.s 60)⟩]
   (.condJ (.s 61)
   (.ops [⟨(some 62), none, .mv (.s 6)⟩,
      ⟨(some 63), none, .call fn_palanquinref9_reader_bad [(.s 62), (.c (V.int .i64 2))]⟩]
    (.done))
   (.done) [] [62, 63]
   (.done))) [] [54, 55, 56, 57, 58, 59, 60, 61, 62, 63]
  (.ops [⟨(some 64), none, .faddr 11 (.s 7)⟩,
    ⟨(some 65), none, .load none (.s 64)⟩,
    ⟨(some 66), none, .mv (.s 65)⟩,
    ⟨(some 67), (some (66, true)), .mv (.s 6)⟩,
    ⟨(some 68), (some (66, true)), .nilck (.s 67)⟩,
    ⟨(some 69), (some (66, true)), .faddr 1 (.s 68)⟩,
    ⟨(some 70), (some (66, true)), .load none (.s 69)⟩,
    ⟨(some 71), (some (66, true)), .bin .eql (.s 70) (.c (V.int .i64 0))⟩,
    ⟨(some 72), none, .pick (.s 66) (.s 71) (.c (V.bool false))⟩]
  (.condJ (.s 72)
  (.ops [⟨(some 73), none, .mv (.s 6)⟩,
     ⟨(some 74), none, .faddr 1 (.s 8)⟩,
     ⟨(some 75), none, .load none (.s 74)⟩,
     ⟨(some 76), none, .call fn_palanquinref9_reader_n [(.s 73), (.s 75)]⟩,
     ⟨(some 77), none, .cint .u32 (.s 76)⟩,
     ⟨(some 78), none, .faddr 12 (.s 7)⟩,
     ⟨none, none, .store 1 (.s 78) (.s 77)⟩]
   (.done))
  (.done) [] [73, 74, 75, 76, 77, 78]
  (.ops [⟨(some 79), none, .mv (.s 6)⟩,
    ⟨(some 80), none, .nilck (.s 79)⟩,
    ⟨(some 81), none, .faddr 1 (.s 80)⟩,
    ⟨(some 82), none, .load none (.s 81)⟩,
    ⟨(some 83), none, .bin .neq (.s 82) (.c (V.int .i64 0))⟩]
  (.cond (.s 83)
  (.draw [⟨(some 84), none, .build [(V.bool false), (V.bool false), (V.int .i64 0), (V.int .u16 0), (V.bool false), (V.int .i64 0), (V.int .i64 0), V.nils, (V.int .i64 0), V.nils, V.nils, (V.bool false), (V.int .u32 0), (V.bool false), (V.bool false), (V.bool false), V.nils, V.nils, V.nils] []⟩,
     ⟨(some 85), none, .mv (.s 6)⟩,
     ⟨(some 86), none, .nilck (.s 85)⟩,
     ⟨(some 87), none, .faddr 1 (.s 86)⟩,
     ⟨(some 88), none, .load none (.s 87)⟩,
     ⟨none, none, .store 19 (.s 4) (.s 84)⟩,
     ⟨(some 5), none, .mv (.s 88)⟩] [(4, 5)]
   (.ret))
  (.ops [⟨(some 90), none, .load (some 19) (.s 7)⟩,
     ⟨(some 91), none, .load (some 6) (.s 3)⟩,
     ⟨(some 92), none, .call fn_palanquinref9_Of [(.s 90), (.s 91)]⟩,
     ⟨(some 89), none, .mv (.s 92)⟩,
     ⟨(some 93), none, .ext 0 (.s 89)⟩,
     ⟨(some 94), none, .ext 1 (.s 89)⟩,
     ⟨(some 9), none, .box ty_palanquinref9_Template (.c (V.agg [(V.int .i64 0), (V.int .i64 0), V.nils, V.nils, V.nils]))⟩,
     ⟨none, none, .store 5 (.s 9) (.s 93)⟩,
     ⟨(some 10), none, .mv (.s 94)⟩]
   (.ops [⟨(some 95), none, .mv (.s 10)⟩,
     ⟨(some 96), none, .un .not (.s 95)⟩]
   (.cond (.s 96)
   (.ops [⟨(some 97), none, .build [(V.bool false), (V.bool false), (V.int .i64 0), (V.int .u16 0), (V.bool false), (V.int .i64 0), (V.int .i64 0), V.nils, (V.int .i64 0), V.nils, V.nils, (V.bool false), (V.int .u32 0), (V.bool false), (V.bool false), (V.bool false), V.nils, V.nils, V.nils] []⟩,
      ⟨none, none, .store 19 (.s 4) (.s 97)⟩,
      ⟨(some 5), none, .mv (.c (V.int .i64 2))⟩]
    (.ret))
   (.ops [⟨(some 98), none, .mv (.s 6)⟩,
      ⟨(some 99), none, .load (some 5) (.s 9)⟩,
      ⟨(some 100), none, .load (some 6) (.s 8)⟩,
      ⟨(some 101), none, .call fn_palanquinref9_reader_own [(.s 98), (.s 7), (.s 99), (.s 100)]⟩]
    (.blk 0
    (.loop loop_palanquinref9_Parse_0 [] [102, 103, 104, 105, 106, 107, 108, 109, 110, 111, 112, 113, 114, 115, 116, 117, 118, 119]) [] [102, 103, 104, 105, 106, 107, 108, 109, 110, 111, 112, 113, 114, 115, 116, 117, 118, 119]
    (.ops [⟨(some 120), none, .mv (.s 6)⟩,
      ⟨(some 121), none, .nilck (.s 120)⟩,
      ⟨(some 122), none, .faddr 1 (.s 121)⟩,
      ⟨(some 123), none, .load none (.s 122)⟩,
      ⟨(some 124), none, .bin .neq (.s 123) (.c (V.int .i64 0))⟩]
    (.cond (.s 124)
    (.draw [⟨(some 125), none, .build [(V.bool false), (V.bool false), (V.int .i64 0), (V.int .u16 0), (V.bool false), (V.int .i64 0), (V.int .i64 0), V.nils, (V.int .i64 0), V.nils, V.nils, (V.bool false), (V.int .u32 0), (V.bool false), (V.bool false), (V.bool false), V.nils, V.nils, V.nils] []⟩,
       ⟨(some 126), none, .mv (.s 6)⟩,
       ⟨(some 127), none, .nilck (.s 126)⟩,
       ⟨(some 128), none, .faddr 1 (.s 127)⟩,
       ⟨(some 129), none, .load none (.s 128)⟩,
       ⟨none, none, .store 19 (.s 4) (.s 125)⟩,
       ⟨(some 5), none, .mv (.s 129)⟩] [(4, 5)]
     (.ret))
    (.ops [⟨(some 130), none, .load (some 19) (.s 7)⟩,
       ⟨none, none, .store 19 (.s 4) (.s 130)⟩,
       ⟨(some 5), none, .mv (.c (V.int .i64 0))⟩]
     (.ret))))))))))))))))))))⟩

noncomputable def f_palanquinref9_Parse_0 (G : Sem') (t6 t4 t5 : V) (_ : List V) : M Res :=
  (M.lift (Ax.nilck t6)).bind fun t103 =>
  (M.lift (Ax.faddr 1 t103)).bind fun t104 =>
  (mload none t104).bind fun t105 =>
  (M.lift (Ax.bin .eql t105 (V.int .i64 0))).bind fun t106 =>
  (guarded [(0, t106)] (some (0, true)) (M.pure t6)).bind fun t108 =>
  (guarded [(0, t106)] (some (0, true)) (M.lift (Ax.nilck t108))).bind fun t109 =>
  (guarded [(0, t106)] (some (0, true)) (M.lift (Ax.faddr 0 t109))).bind fun t110 =>
  (guarded [(0, t106)] (some (0, true)) (mload none t110)).bind fun t111 =>
  (guarded [(0, t106)] (some (0, true)) (G fn_palanquinref6_Reader_Left [t111])).bind fun t112 =>
  (guarded [(0, t106)] (some (0, true)) (M.lift (Ax.bin .gtr t112 (V.int .i64 0)))).bind fun t113 =>
  (M.lift (Ax.pick t106 t113 (V.bool false))).bind fun t114 =>
  M.ite t114
    (M.blk 1 (
      (G fn_palanquinref9_reader_n [t6, (V.int .i64 1)]).bind fun t116 =>
      (M.lift (Ax.bin .eql t116 (V.int .i64 1))).bind fun t117 =>
      M.join (M.ite t117
        ((G fn_palanquinref9_reader_bad [t6, (V.int .i64 2)]).bind fun t119 =>
        M.pure (.nrm []))
        (M.pure (.nrm []))) fun _ =>
      M.pure (.nrm [])) fun _ =>
    M.pure (.nrm []))
    (M.pure (.ex 0 []))

noncomputable def f_palanquinref9_Parse (G : Sem') (t0 t1 : V) : M Res :=
  (mbox ty_palanquinref9_Structure t1).bind fun t3 =>
  (mbox ty_palanquinref9_Frame (V.agg [(V.bool false), (V.bool false), (V.int .i64 0), (V.int .u16 0), (V.bool false), (V.int .i64 0), (V.int .i64 0), V.nils, (V.int .i64 0), V.nils, V.nils, (V.bool false), (V.int .u32 0), (V.bool false), (V.bool false), (V.bool false), V.nils, V.nils, V.nils])).bind fun t4 =>
  (M.lift (Ax.build [V.nils, (V.int .i64 0)] [(0, 1, t0)])).bind fun t12 =>
  (mbox ty_palanquinref6_Reader t12).bind fun t13 =>
  (M.lift (Ax.build [V.nilp, (V.int .i64 0)] [(0, 1, t13)])).bind fun t14 =>
  (mbox ty_palanquinref9_reader t14).bind fun t15 =>
  (G fn_palanquinref9_reader_n [t15, (V.int .i64 1)]).bind fun t17 =>
  (M.lift (Ax.bin .eql t17 (V.int .i64 1))).bind fun t18 =>
  (G fn_palanquinref9_reader_n [t15, (V.int .i64 1)]).bind fun t20 =>
  (M.lift (Ax.bin .eql t20 (V.int .i64 1))).bind fun t21 =>
  (G fn_palanquinref9_reader_n [t15, (V.int .i64 6)]).bind fun t23 =>
  (G fn_palanquinref9_reader_n [t15, (V.int .i64 16)]).bind fun t25 =>
  (M.lift (Ax.cint .u16 t25)).bind fun t26 =>
  (M.lift (Ax.build [(V.bool false), (V.bool false), (V.int .i64 0), (V.int .u16 0), (V.bool false), (V.int .i64 0), (V.int .i64 0), V.nils, (V.int .i64 0), V.nils, V.nils, (V.bool false), (V.int .u32 0), (V.bool false), (V.bool false), (V.bool false), V.nils, V.nils, V.nils] [(0, 1, t18), (1, 1, t21), (2, 1, t23), (3, 1, t26)])).bind fun t27 =>
  (mbox ty_palanquinref9_Frame (V.agg [(V.bool false), (V.bool false), (V.int .i64 0), (V.int .u16 0), (V.bool false), (V.int .i64 0), (V.int .i64 0), V.nils, (V.int .i64 0), V.nils, V.nils, (V.bool false), (V.int .u32 0), (V.bool false), (V.bool false), (V.bool false), V.nils, V.nils, V.nils])).bind fun t7 =>
  (mstore 19 t7 t27).bind fun _ =>
  (M.lift (vlen t0)).bind fun t29 =>
  (M.lift (Ax.bin .gtr t29 (V.int .i64 3))).bind fun t30 =>
  M.join (M.ite t30
    ((G fn_palanquinref9_reader_n [t15, (V.int .i64 1)]).bind fun t32 =>
    (M.lift (Ax.bin .eql t32 (V.int .i64 1))).bind fun t33 =>
    (G fn_palanquinref9_reader_n [t15, (V.int .i64 1)]).bind fun t35 =>
    (M.lift (Ax.bin .eql t35 (V.int .i64 1))).bind fun t36 =>
    (G fn_palanquinref9_reader_n [t15, (V.int .i64 1)]).bind fun t38 =>
    (M.lift (Ax.bin .eql t38 (V.int .i64 1))).bind fun t39 =>
    (M.lift (Ax.faddr 4 t7)).bind fun t40 =>
    (mstore 1 t40 t33).bind fun _ =>
    (M.lift (Ax.faddr 11 t7)).bind fun t41 =>
    (mstore 1 t41 t36).bind fun _ =>
    (M.lift (Ax.faddr 13 t7)).bind fun t42 =>
    (mstore 1 t42 t39).bind fun _ =>
    (G fn_palanquinref9_reader_n [t15, (V.int .i64 1)]).bind fun t44 =>
    (M.lift (Ax.bin .eql t44 (V.int .i64 1))).bind fun t45 =>
    (G fn_palanquinref9_reader_n [t15, (V.int .i64 1)]).bind fun t47 =>
    (M.lift (Ax.bin .eql t47 (V.int .i64 1))).bind fun t48 =>
    (M.lift (Ax.faddr 14 t7)).bind fun t49 =>
    (mstore 1 t49 t45).bind fun _ =>
    (M.lift (Ax.faddr 15 t7)).bind fun t50 =>
    (mstore 1 t50 t48).bind fun _ =>
    M.pure (.nrm []))
    (M.pure (.nrm []))) fun _ =>
  (mload (some 6) t3).bind fun t51 =>
  (mbox ty_palanquinref9_Structure (V.agg [(V.int .i64 0), (V.int .i64 0), V.nils, (V.int .i64 0), V.nils, V.nils])).bind fun t8 =>
  (mstore 6 t8 t51).bind fun _ =>
  (M.lift (Ax.faddr 4 t7)).bind fun t52 =>
  (mload none t52).bind fun t53 =>
  M.join (M.ite t53
    ((G fn_palanquinref9_reader_structure [t15]).bind fun t55 =>
    (M.lift (Ax.faddr 5 t7)).bind fun t56 =>
    (mstore 6 t56 t55).bind fun _ =>
    (M.lift (Ax.faddr 5 t7)).bind fun t57 =>
    (mload (some 6) t57).bind fun t58 =>
    (mstore 6 t8 t58).bind fun _ =>
    M.pure (.nrm []))
    ((mload (some 6) t3).bind fun t59 =>
    (G fn_palanquinref9_Fine [t59]).bind fun t60 =>
    (M.lift (Ax.un .not t60)).bind fun t61 =>
    M.join (M.ite t61
      ((G fn_palanquinref9_reader_bad [t15, (V.int .i64 2)]).bind fun t63 =>
      M.pure (.nrm []))
      (M.pure (.nrm []))) fun _ =>
    M.pure (.nrm []))) fun _ =>
  (M.lift (Ax.faddr 11 t7)).bind fun t64 =>
  (mload none t64).bind fun t65 =>
  (guarded [(0, t65)] (some (0, true)) (M.pure t15)).bind fun t67 =>
  (guarded [(0, t65)] (some (0, true)) (M.lift (Ax.nilck t67))).bind fun t68 =>
  (guarded [(0, t65)] (some (0, true)) (M.lift (Ax.faddr 1 t68))).bind fun t69 =>
  (guarded [(0, t65)] (some (0, true)) (mload none t69)).bind fun t70 =>
  (guarded [(0, t65)] (some (0, true)) (M.lift (Ax.bin .eql t70 (V.int .i64 0)))).bind fun t71 =>
  (M.lift (Ax.pick t65 t71 (V.bool false))).bind fun t72 =>
  M.join (M.ite t72
    ((M.lift (Ax.faddr 1 t8)).bind fun t74 =>
    (mload none t74).bind fun t75 =>
    (G fn_palanquinref9_reader_n [t15, t75]).bind fun t76 =>
    (M.lift (Ax.cint .u32 t76)).bind fun t77 =>
    (M.lift (Ax.faddr 12 t7)).bind fun t78 =>
    (mstore 1 t78 t77).bind fun _ =>
    M.pure (.nrm []))
    (M.pure (.nrm []))) fun _ =>
  (M.lift (Ax.nilck t15)).bind fun t80 =>
  (M.lift (Ax.faddr 1 t80)).bind fun t81 =>
  (mload none t81).bind fun t82 =>
  (M.lift (Ax.bin .neq t82 (V.int .i64 0))).bind fun t83 =>
  M.ite t83
    ((M.lift (Ax.build [(V.bool false), (V.bool false), (V.int .i64 0), (V.int .u16 0), (V.bool false), (V.int .i64 0), (V.int .i64 0), V.nils, (V.int .i64 0), V.nils, V.nils, (V.bool false), (V.int .u32 0), (V.bool false), (V.bool false), (V.bool false), V.nils, V.nils, V.nils] [])).bind fun t84 =>
    (M.lift (Ax.nilck t15)).bind fun t86 =>
    (M.lift (Ax.faddr 1 t86)).bind fun t87 =>
    (mload none t87).bind fun t88 =>
    M.getH.bind fun h0 =>
    (mstore 19 t4 t84).bind fun _ =>
    M.getH.bind fun h0' =>
    (M.unch t87 h0 h0').bind fun _ =>
    (mload (some 19) t4).bind fun r0 =>
    M.pure (.ret [r0, t88]))
    ((mload (some 19) t7).bind fun t90 =>
    (mload (some 6) t3).bind fun t91 =>
    (G fn_palanquinref9_Of [t90, t91]).bind fun t92 =>
    (M.lift (Ax.ext 0 t92)).bind fun t93 =>
    (M.lift (Ax.ext 1 t92)).bind fun t94 =>
    (mbox ty_palanquinref9_Template (V.agg [(V.int .i64 0), (V.int .i64 0), V.nils, V.nils, V.nils])).bind fun t9 =>
    (mstore 5 t9 t93).bind fun _ =>
    (M.lift (Ax.un .not t94)).bind fun t96 =>
    M.ite t96
      ((M.lift (Ax.build [(V.bool false), (V.bool false), (V.int .i64 0), (V.int .u16 0), (V.bool false), (V.int .i64 0), (V.int .i64 0), V.nils, (V.int .i64 0), V.nils, V.nils, (V.bool false), (V.int .u32 0), (V.bool false), (V.bool false), (V.bool false), V.nils, V.nils, V.nils] [])).bind fun t97 =>
      (mstore 19 t4 t97).bind fun _ =>
      (mload (some 19) t4).bind fun r0 =>
      M.pure (.ret [r0, (V.int .i64 2)]))
      ((mload (some 5) t9).bind fun t99 =>
      (mload (some 6) t8).bind fun t100 =>
      (G fn_palanquinref9_reader_own [t15, t7, t99, t100]).bind fun t101 =>
      M.blk 0 (
        M.iter (f_palanquinref9_Parse_0 G t15 t4 (V.int .i64 0)) []) fun _ =>
      (M.lift (Ax.nilck t15)).bind fun t121 =>
      (M.lift (Ax.faddr 1 t121)).bind fun t122 =>
      (mload none t122).bind fun t123 =>
      (M.lift (Ax.bin .neq t123 (V.int .i64 0))).bind fun t124 =>
      M.ite t124
        ((M.lift (Ax.build [(V.bool false), (V.bool false), (V.int .i64 0), (V.int .u16 0), (V.bool false), (V.int .i64 0), (V.int .i64 0), V.nils, (V.int .i64 0), V.nils, V.nils, (V.bool false), (V.int .u32 0), (V.bool false), (V.bool false), (V.bool false), V.nils, V.nils, V.nils] [])).bind fun t125 =>
        (M.lift (Ax.nilck t15)).bind fun t127 =>
        (M.lift (Ax.faddr 1 t127)).bind fun t128 =>
        (mload none t128).bind fun t129 =>
        M.getH.bind fun h1 =>
        (mstore 19 t4 t125).bind fun _ =>
        M.getH.bind fun h1' =>
        (M.unch t128 h1 h1').bind fun _ =>
        (mload (some 19) t4).bind fun r0 =>
        M.pure (.ret [r0, t129]))
        ((mload (some 19) t7).bind fun t130 =>
        (mstore 19 t4 t130).bind fun _ =>
        (mload (some 19) t4).bind fun r0 =>
        M.pure (.ret [r0, (V.int .i64 0)]))))

theorem eq_palanquinref9_Parse (G : Sem') (t0 t1 : V) : execK G ir_palanquinref9_Parse.rv ir_palanquinref9_Parse.body [] [] (params 0 [t0, t1]) = f_palanquinref9_Parse G t0 t1 := by kernel_rfl

theorem tb_palanquinref9_Parse : T fn_palanquinref9_Parse = some ir_palanquinref9_Parse := by kernel_rfl

theorem ok_palanquinref9_Parse {t0 t1 : V} {H : Heap} {Q : V → Heap → Prop} (h : Ok (f_palanquinref9_Parse (sem T) t0 t1) H fun r H' => ∃ L, r = .ret L ∧ Q (tupled L) H') : Ok (sem T fn_palanquinref9_Parse [t0, t1]) H Q :=
  ok_sem tb_palanquinref9_Parse (Nat.le_of_ble_eq_true rfl) (eq_palanquinref9_Parse (sem T) t0 t1) h

/-- (*palanquin/palanquinref9.reader).n. -/
def ir_palanquinref9_reader_n : Fn' := ⟨27, [.tmp 4],
  .ops [⟨(some 4), none, .mv (.c (V.int .i64 0))⟩]
  (.ops [⟨(some 7), none, .mv (.s 0)⟩,
    ⟨(some 8), none, .nilck (.s 7)⟩,
    ⟨(some 9), none, .faddr 1 (.s 8)⟩,
    ⟨(some 10), none, .load none (.s 9)⟩,
    ⟨(some 11), none, .bin .neq (.s 10) (.c (V.int .i64 0))⟩]
  (.cond (.s 11)
  (.ops [⟨(some 4), none, .mv (.c (V.int .i64 0))⟩]
   (.ret))
  (.ops [⟨(some 13), none, .mv (.s 0)⟩,
     ⟨(some 14), none, .nilck (.s 13)⟩,
     ⟨(some 15), none, .faddr 0 (.s 14)⟩,
     ⟨(some 16), none, .load none (.s 15)⟩,
     ⟨(some 17), none, .mv (.s 1)⟩,
     ⟨(some 18), none, .call fn_palanquinref6_Reader_Take [(.s 16), (.s 17)]⟩,
     ⟨(some 12), none, .mv (.s 18)⟩,
     ⟨(some 19), none, .ext 0 (.s 12)⟩,
     ⟨(some 20), none, .ext 1 (.s 12)⟩,
     ⟨(some 5), none, .mv (.s 19)⟩,
     ⟨(some 6), none, .mv (.s 20)⟩]
   (.ops [⟨(some 21), none, .mv (.s 0)⟩,
     ⟨(some 22), none, .mv (.s 6)⟩,
     ⟨(some 23), none, .nilck (.s 21)⟩,
     ⟨(some 24), none, .faddr 1 (.s 23)⟩,
     ⟨none, none, .store 1 (.s 24) (.s 22)⟩]
   (.ops [⟨(some 25), none, .mv (.s 5)⟩,
     ⟨(some 26), none, .cint .i64 (.s 25)⟩,
     ⟨(some 4), none, .mv (.s 26)⟩]
   (.ret))))))⟩

noncomputable def f_palanquinref9_reader_n (G : Sem') (t0 t1 : V) : M Res :=
  (M.lift (Ax.nilck t0)).bind fun t8 =>
  (M.lift (Ax.faddr 1 t8)).bind fun t9 =>
  (mload none t9).bind fun t10 =>
  (M.lift (Ax.bin .neq t10 (V.int .i64 0))).bind fun t11 =>
  M.ite t11
    (M.pure (.ret [(V.int .i64 0)]))
    ((M.lift (Ax.nilck t0)).bind fun t14 =>
    (M.lift (Ax.faddr 0 t14)).bind fun t15 =>
    (mload none t15).bind fun t16 =>
    (G fn_palanquinref6_Reader_Take [t16, t1]).bind fun t18 =>
    (M.lift (Ax.ext 0 t18)).bind fun t19 =>
    (M.lift (Ax.ext 1 t18)).bind fun t20 =>
    (M.lift (Ax.nilck t0)).bind fun t23 =>
    (M.lift (Ax.faddr 1 t23)).bind fun t24 =>
    (mstore 1 t24 t20).bind fun _ =>
    (M.lift (Ax.cint .i64 t19)).bind fun t26 =>
    M.pure (.ret [t26]))

theorem eq_palanquinref9_reader_n (G : Sem') (t0 t1 : V) : execK G ir_palanquinref9_reader_n.rv ir_palanquinref9_reader_n.body [] [] (params 0 [t0, t1]) = f_palanquinref9_reader_n G t0 t1 := by kernel_rfl

theorem tb_palanquinref9_reader_n : T fn_palanquinref9_reader_n = some ir_palanquinref9_reader_n := by kernel_rfl

theorem ok_palanquinref9_reader_n {t0 t1 : V} {H : Heap} {Q : V → Heap → Prop} (h : Ok (f_palanquinref9_reader_n (sem T) t0 t1) H fun r H' => ∃ L, r = .ret L ∧ Q (tupled L) H') : Ok (sem T fn_palanquinref9_reader_n [t0, t1]) H Q :=
  ok_sem tb_palanquinref9_reader_n (Nat.le_of_ble_eq_true rfl) (eq_palanquinref9_reader_n (sem T) t0 t1) h

/-- (*palanquin/palanquinref9.reader).structure. -/
def loop_palanquinref9_reader_structure_0 : C :=
  .ops [⟨(some 36), none, .mv (.s 5)⟩,
    ⟨(some 37), none, .faddr 1 (.s 3)⟩,
    ⟨(some 38), none, .load none (.s 37)⟩,
    ⟨(some 39), none, .bin .lss (.s 36) (.s 38)⟩]
  (.cond (.s 39)
  (.blk 3
   (.draw [⟨(some 42), none, .faddr 2 (.s 3)⟩,
      ⟨(some 43), none, .load none (.s 42)⟩,
      ⟨(some 44), none, .mv (.s 4)⟩,
      ⟨(some 45), none, .faddr 2 (.s 3)⟩,
      ⟨(some 46), none, .load none (.s 45)⟩,
      ⟨(some 47), none, .mv (.s 4)⟩,
      ⟨(some 48), none, .iaddr none 5 (.s 46) (.s 47)⟩,
      ⟨(some 49), none, .faddr 2 (.s 48)⟩,
      ⟨(some 50), none, .load none (.s 49)⟩,
      ⟨(some 51), none, .mv (.s 0)⟩,
      ⟨(some 52), none, .call fn_palanquinref9_reader_n [(.s 51), (.c (V.int .i64 2))]⟩,
      ⟨(some 53), none, .slit ty_int 1 [(V.int .i64 0)] [(0, 1, (.s 52))]⟩,
      ⟨(some 54), none, .append ty_int 1 8 (.s 50) (.s 53)⟩,
      ⟨(some 55), none, .iaddr none 5 (.s 43) (.s 44)⟩,
      ⟨(some 56), none, .faddr 2 (.s 55)⟩,
      ⟨none, none, .store 1 (.s 56) (.s 54)⟩] [(1, 10), (1, 12), (4, 10), (8, 10)]
    (.done)) [] [42, 43, 44, 45, 46, 47, 48, 49, 50, 51, 52, 53, 54, 55, 56]
   (.ops [⟨(some 40), none, .mv (.s 5)⟩,
     ⟨(some 41), none, .bin .add (.s 40) (.c (V.int .i64 1))⟩,
     ⟨(some 5), none, .mv (.s 41)⟩]
   (.done)))
  (.exit 2))

def loop_palanquinref9_reader_structure_1 : C :=
  .ops [⟨(some 22), none, .mv (.s 4)⟩,
    ⟨(some 23), none, .faddr 2 (.s 3)⟩,
    ⟨(some 24), none, .load none (.s 23)⟩,
    ⟨(some 25), none, .len (.s 24)⟩,
    ⟨(some 26), none, .bin .lss (.s 22) (.s 25)⟩,
    ⟨(some 27), none, .mv (.s 26)⟩,
    ⟨(some 28), (some (27, true)), .mv (.s 0)⟩,
    ⟨(some 29), (some (27, true)), .nilck (.s 28)⟩,
    ⟨(some 30), (some (27, true)), .faddr 1 (.s 29)⟩,
    ⟨(some 31), (some (27, true)), .load none (.s 30)⟩,
    ⟨(some 32), (some (27, true)), .bin .eql (.s 31) (.c (V.int .i64 0))⟩,
    ⟨(some 33), none, .pick (.s 27) (.s 32) (.c (V.bool false))⟩]
  (.cond (.s 33)
  (.blk 1
   (.ops [⟨(some 5), none, .mv (.c (V.int .i64 0))⟩]
    (.blk 2
    (.loop loop_palanquinref9_reader_structure_0 [5] [36, 37, 38, 39, 42, 43, 44, 45, 46, 47, 48, 49, 50, 51, 52, 53, 54, 55, 56, 40, 41, 5]) [] [36, 37, 38, 39, 42, 43, 44, 45, 46, 47, 48, 49, 50, 51, 52, 53, 54, 55, 56, 40, 41, 5]
    (.done))) [] [5, 36, 37, 38, 39, 42, 43, 44, 45, 46, 47, 48, 49, 50, 51, 52, 53, 54, 55, 56, 40, 41, 5]
   (.ops [⟨(some 34), none, .mv (.s 4)⟩,
     ⟨(some 35), none, .bin .add (.s 34) (.c (V.int .i64 1))⟩,
     ⟨(some 4), none, .mv (.s 35)⟩]
   (.done)))
  (.exit 0))

def loop_palanquinref9_reader_structure_2 : C :=
  .ops [⟨(some 71), none, .mv (.s 0)⟩,
    ⟨(some 72), none, .call fn_palanquinref9_reader_n [(.s 71), (.c (V.int .i64 1))]⟩,
    ⟨(some 73), none, .bin .eql (.s 72) (.c (V.int .i64 1))⟩]
  (.cond (.s 73)
  (.blk 7
   (.ops [⟨(some 74), none, .faddr 2 (.s 3)⟩,
      ⟨(some 75), none, .load none (.s 74)⟩,
      ⟨(some 76), none, .mv (.s 6)⟩,
      ⟨(some 77), none, .iaddr none 5 (.s 75) (.s 76)⟩,
      ⟨(some 78), none, .faddr 3 (.s 77)⟩,
      ⟨(some 79), none, .load none (.s 78)⟩,
      ⟨(some 80), none, .len (.s 79)⟩,
      ⟨(some 81), none, .bin .eql (.s 80) (.c (V.int .i64 8))⟩]
    (.cond (.s 81)
    (.ops [⟨(some 82), none, .mv (.s 0)⟩,
       ⟨(some 83), none, .call fn_palanquinref9_reader_bad [(.s 82), (.c (V.int .i64 4))]⟩]
     (.exit 6))
    (.draw [⟨(some 84), none, .faddr 2 (.s 3)⟩,
       ⟨(some 85), none, .load none (.s 84)⟩,
       ⟨(some 86), none, .mv (.s 6)⟩,
       ⟨(some 87), none, .faddr 2 (.s 3)⟩,
       ⟨(some 88), none, .load none (.s 87)⟩,
       ⟨(some 89), none, .mv (.s 6)⟩,
       ⟨(some 90), none, .iaddr none 5 (.s 88) (.s 89)⟩,
       ⟨(some 91), none, .faddr 3 (.s 90)⟩,
       ⟨(some 92), none, .load none (.s 91)⟩,
       ⟨(some 93), none, .mv (.s 0)⟩,
       ⟨(some 94), none, .call fn_palanquinref9_reader_n [(.s 93), (.c (V.int .i64 4))]⟩,
       ⟨(some 95), none, .bin .add (.s 94) (.c (V.int .i64 1))⟩,
       ⟨(some 96), none, .slit ty_int 1 [(V.int .i64 0)] [(0, 1, (.s 95))]⟩,
       ⟨(some 97), none, .append ty_int 1 8 (.s 92) (.s 96)⟩,
       ⟨(some 98), none, .iaddr none 5 (.s 85) (.s 86)⟩,
       ⟨(some 99), none, .faddr 3 (.s 98)⟩,
       ⟨none, none, .store 1 (.s 99) (.s 97)⟩] [(1, 10), (1, 13), (4, 10), (8, 10)]
     (.done)))) [] [74, 75, 76, 77, 78, 79, 80, 81, 82, 83, 84, 85, 86, 87, 88, 89, 90, 91, 92, 93, 94, 95, 96, 97, 98, 99]
   (.done))
  (.exit 6))

def loop_palanquinref9_reader_structure_3 : C :=
  .ops [⟨(some 57), none, .mv (.s 6)⟩,
    ⟨(some 58), none, .faddr 2 (.s 3)⟩,
    ⟨(some 59), none, .load none (.s 58)⟩,
    ⟨(some 60), none, .len (.s 59)⟩,
    ⟨(some 61), none, .bin .lss (.s 57) (.s 60)⟩,
    ⟨(some 62), none, .mv (.s 61)⟩,
    ⟨(some 63), (some (62, true)), .mv (.s 0)⟩,
    ⟨(some 64), (some (62, true)), .nilck (.s 63)⟩,
    ⟨(some 65), (some (62, true)), .faddr 1 (.s 64)⟩,
    ⟨(some 66), (some (62, true)), .load none (.s 65)⟩,
    ⟨(some 67), (some (62, true)), .bin .eql (.s 66) (.c (V.int .i64 0))⟩,
    ⟨(some 68), none, .pick (.s 62) (.s 67) (.c (V.bool false))⟩]
  (.cond (.s 68)
  (.blk 5
   (.blk 6
    (.loop loop_palanquinref9_reader_structure_2 [] [71, 72, 73, 74, 75, 76, 77, 78, 79, 80, 81, 82, 83, 84, 85, 86, 87, 88, 89, 90, 91, 92, 93, 94, 95, 96, 97, 98, 99]) [] [71, 72, 73, 74, 75, 76, 77, 78, 79, 80, 81, 82, 83, 84, 85, 86, 87, 88, 89, 90, 91, 92, 93, 94, 95, 96, 97, 98, 99]
    (.done)) [] [71, 72, 73, 74, 75, 76, 77, 78, 79, 80, 81, 82, 83, 84, 85, 86, 87, 88, 89, 90, 91, 92, 93, 94, 95, 96, 97, 98, 99]
   (.ops [⟨(some 69), none, .mv (.s 6)⟩,
     ⟨(some 70), none, .bin .add (.s 69) (.c (V.int .i64 1))⟩,
     ⟨(some 6), none, .mv (.s 70)⟩]
   (.done)))
  (.exit 4))

def loop_palanquinref9_reader_structure_4 : C :=
  .ops [⟨(some 109), none, .mv (.s 7)⟩,
    ⟨(some 110), none, .faddr 1 (.s 3)⟩,
    ⟨(some 111), none, .load none (.s 110)⟩,
    ⟨(some 112), none, .bin .lss (.s 109) (.s 111)⟩]
  (.cond (.s 112)
  (.blk 9
   (.draw [⟨(some 115), none, .faddr 4 (.s 3)⟩,
      ⟨(some 116), none, .load none (.s 115)⟩,
      ⟨(some 117), none, .mv (.s 0)⟩,
      ⟨(some 118), none, .faddr 3 (.s 3)⟩,
      ⟨(some 119), none, .load none (.s 118)⟩,
      ⟨(some 120), none, .call fn_palanquinref9_reader_ns [(.s 117), (.s 119)]⟩,
      ⟨(some 121), none, .slit ty_int 1 [(V.int .i64 0)] [(0, 1, (.s 120))]⟩,
      ⟨(some 122), none, .append ty_int 1 8 (.s 116) (.s 121)⟩,
      ⟨(some 123), none, .faddr 4 (.s 3)⟩,
      ⟨none, none, .store 1 (.s 123) (.s 122)⟩] [(1, 5)]
    (.done)) [] [115, 116, 117, 118, 119, 120, 121, 122, 123]
   (.ops [⟨(some 113), none, .mv (.s 7)⟩,
     ⟨(some 114), none, .bin .add (.s 113) (.c (V.int .i64 1))⟩,
     ⟨(some 7), none, .mv (.s 114)⟩]
   (.done)))
  (.exit 8))

def loop_palanquinref9_reader_structure_5 : C :=
  .ops [⟨(some 131), none, .mv (.s 9)⟩,
    ⟨(some 132), none, .faddr 3 (.s 3)⟩,
    ⟨(some 133), none, .load none (.s 132)⟩,
    ⟨(some 134), none, .bin .lss (.s 131) (.s 133)⟩]
  (.cond (.s 134)
  (.blk 13
   (.draw [⟨(some 137), none, .faddr 2 (.s 3)⟩,
      ⟨(some 138), none, .load none (.s 137)⟩,
      ⟨(some 139), none, .mv (.s 8)⟩,
      ⟨(some 140), none, .faddr 2 (.s 3)⟩,
      ⟨(some 141), none, .load none (.s 140)⟩,
      ⟨(some 142), none, .mv (.s 8)⟩,
      ⟨(some 143), none, .iaddr none 5 (.s 141) (.s 142)⟩,
      ⟨(some 144), none, .faddr 4 (.s 143)⟩,
      ⟨(some 145), none, .load none (.s 144)⟩,
      ⟨(some 146), none, .mv (.s 0)⟩,
      ⟨(some 147), none, .call fn_palanquinref9_reader_n [(.s 146), (.c (V.int .i64 4))]⟩,
      ⟨(some 148), none, .slit ty_int 1 [(V.int .i64 0)] [(0, 1, (.s 147))]⟩,
      ⟨(some 149), none, .append ty_int 1 8 (.s 145) (.s 148)⟩,
      ⟨(some 150), none, .iaddr none 5 (.s 138) (.s 139)⟩,
      ⟨(some 151), none, .faddr 4 (.s 150)⟩,
      ⟨none, none, .store 1 (.s 151) (.s 149)⟩] [(1, 10), (1, 12), (4, 10), (8, 10)]
    (.done)) [] [137, 138, 139, 140, 141, 142, 143, 144, 145, 146, 147, 148, 149, 150, 151]
   (.ops [⟨(some 135), none, .mv (.s 9)⟩,
     ⟨(some 136), none, .bin .add (.s 135) (.c (V.int .i64 1))⟩,
     ⟨(some 9), none, .mv (.s 136)⟩]
   (.done)))
  (.exit 12))

def loop_palanquinref9_reader_structure_6 : C :=
  .ops [⟨(some 124), none, .mv (.s 8)⟩,
    ⟨(some 125), none, .faddr 2 (.s 3)⟩,
    ⟨(some 126), none, .load none (.s 125)⟩,
    ⟨(some 127), none, .len (.s 126)⟩,
    ⟨(some 128), none, .bin .lss (.s 124) (.s 127)⟩]
  (.cond (.s 128)
  (.blk 11
   (.ops [⟨(some 9), none, .mv (.c (V.int .i64 0))⟩]
    (.blk 12
    (.loop loop_palanquinref9_reader_structure_5 [9] [131, 132, 133, 134, 137, 138, 139, 140, 141, 142, 143, 144, 145, 146, 147, 148, 149, 150, 151, 135, 136, 9]) [] [131, 132, 133, 134, 137, 138, 139, 140, 141, 142, 143, 144, 145, 146, 147, 148, 149, 150, 151, 135, 136, 9]
    (.done))) [] [9, 131, 132, 133, 134, 137, 138, 139, 140, 141, 142, 143, 144, 145, 146, 147, 148, 149, 150, 151, 135, 136, 9]
   (.ops [⟨(some 129), none, .mv (.s 8)⟩,
     ⟨(some 130), none, .bin .add (.s 129) (.c (V.int .i64 1))⟩,
     ⟨(some 8), none, .mv (.s 130)⟩]
   (.done)))
  (.exit 10))

def loop_palanquinref9_reader_structure_7 : C :=
  .ops [⟨(some 155), none, .mv (.s 10)⟩,
    ⟨(some 156), none, .load (some 6) (.s 3)⟩,
    ⟨(some 157), none, .call fn_palanquinref9_top [(.s 156)]⟩,
    ⟨(some 158), none, .bin .leq (.s 155) (.s 157)⟩,
    ⟨(some 159), none, .mv (.s 158)⟩,
    ⟨(some 160), (some (159, true)), .mv (.s 0)⟩,
    ⟨(some 161), (some (159, true)), .nilck (.s 160)⟩,
    ⟨(some 162), (some (159, true)), .faddr 1 (.s 161)⟩,
    ⟨(some 163), (some (159, true)), .load none (.s 162)⟩,
    ⟨(some 164), (some (159, true)), .bin .eql (.s 163) (.c (V.int .i64 0))⟩,
    ⟨(some 165), none, .pick (.s 159) (.s 164) (.c (V.bool false))⟩]
  (.cond (.s 165)
  (.blk 15
   (.ops [⟨(some 168), none, .mv (.s 0)⟩,
      ⟨(some 169), none, .call fn_palanquinref9_reader_n [(.s 168), (.c (V.int .i64 16))]⟩,
      ⟨(some 170), none, .bin .add (.s 169) (.c (V.int .i64 1))⟩,
      ⟨(some 171), none, .mv (.s 0)⟩,
      ⟨(some 172), none, .call fn_palanquinref9_reader_n [(.s 171), (.c (V.int .i64 16))]⟩,
      ⟨(some 173), none, .bin .add (.s 172) (.c (V.int .i64 1))⟩,
      ⟨(some 11), none, .mv (.s 170)⟩,
      ⟨(some 12), none, .mv (.s 173)⟩]
    (.ops [⟨(some 174), none, .faddr 5 (.s 3)⟩,
      ⟨(some 175), none, .load none (.s 174)⟩,
      ⟨(some 176), none, .mv (.s 11)⟩,
      ⟨(some 177), none, .mv (.s 12)⟩,
      ⟨(some 178), none, .build [(V.int .i64 0), (V.int .i64 0)] [(0, 1, (.s 176)), (1, 1, (.s 177))]⟩,
      ⟨(some 179), none, .slit ty_2_int 1 [(V.int .i64 0), (V.int .i64 0)] [(0, 2, (.s 178))]⟩,
      ⟨(some 180), none, .append ty_2_int 2 16 (.s 175) (.s 179)⟩,
      ⟨(some 181), none, .faddr 5 (.s 3)⟩,
      ⟨none, none, .store 1 (.s 181) (.s 180)⟩]
    (.done))) [] [168, 169, 170, 171, 172, 173, 11, 12, 174, 175, 176, 177, 178, 179, 180, 181]
   (.ops [⟨(some 166), none, .mv (.s 10)⟩,
     ⟨(some 167), none, .bin .add (.s 166) (.c (V.int .i64 1))⟩,
     ⟨(some 10), none, .mv (.s 167)⟩]
   (.done)))
  (.exit 14))

def ir_palanquinref9_reader_structure : Fn' := ⟨183, [.cell 2 (some 6)],
  .ops [⟨(some 2), none, .box ty_palanquinref9_Structure (.c (V.agg [(V.int .i64 0), (V.int .i64 0), V.nils, (V.int .i64 0), V.nils, V.nils]))⟩]
  (.ops [⟨(some 13), none, .mv (.s 0)⟩,
    ⟨(some 14), none, .call fn_palanquinref9_reader_n [(.s 13), (.c (V.int .i64 6))]⟩,
    ⟨(some 15), none, .mv (.s 0)⟩,
    ⟨(some 16), none, .call fn_palanquinref9_reader_n [(.s 15), (.c (V.int .i64 5))]⟩,
    ⟨(some 17), none, .bin .add (.s 16) (.c (V.int .i64 1))⟩,
    ⟨(some 18), none, .build [(V.int .i64 0), (V.int .i64 0), V.nils, (V.int .i64 0), V.nils, V.nils] [(0, 1, (.s 14)), (1, 1, (.s 17))]⟩,
    ⟨(some 3), none, .box ty_palanquinref9_Structure (.c (V.agg [(V.int .i64 0), (V.int .i64 0), V.nils, (V.int .i64 0), V.nils, V.nils]))⟩,
    ⟨none, none, .store 6 (.s 3) (.s 18)⟩]
  (.ops [⟨(some 19), none, .mv (.s 0)⟩,
    ⟨(some 20), none, .call fn_palanquinref9_reader_layers [(.s 19)]⟩,
    ⟨(some 21), none, .faddr 2 (.s 3)⟩,
    ⟨none, none, .store 1 (.s 21) (.s 20)⟩]
  (.ops [⟨(some 4), none, .mv (.c (V.int .i64 0))⟩]
  (.blk 0
  (.loop loop_palanquinref9_reader_structure_1 [4] [22, 23, 24, 25, 26, 27, 28, 29, 30, 31, 32, 33, 5, 36, 37, 38, 39, 42, 43, 44, 45, 46, 47, 48, 49, 50, 51, 52, 53, 54, 55, 56, 40, 41, 5, 34, 35, 4]) [] [22, 23, 24, 25, 26, 27, 28, 29, 30, 31, 32, 33, 5, 36, 37, 38, 39, 42, 43, 44, 45, 46, 47, 48, 49, 50, 51, 52, 53, 54, 55, 56, 40, 41, 5, 34, 35, 4]
  (.ops [⟨(some 6), none, .mv (.c (V.int .i64 0))⟩]
  (.blk 4
  (.loop loop_palanquinref9_reader_structure_3 [6] [57, 58, 59, 60, 61, 62, 63, 64, 65, 66, 67, 68, 71, 72, 73, 74, 75, 76, 77, 78, 79, 80, 81, 82, 83, 84, 85, 86, 87, 88, 89, 90, 91, 92, 93, 94, 95, 96, 97, 98, 99, 69, 70, 6]) [] [57, 58, 59, 60, 61, 62, 63, 64, 65, 66, 67, 68, 71, 72, 73, 74, 75, 76, 77, 78, 79, 80, 81, 82, 83, 84, 85, 86, 87, 88, 89, 90, 91, 92, 93, 94, 95, 96, 97, 98, 99, 69, 70, 6]
  (.ops [⟨(some 100), none, .mv (.s 0)⟩,
    ⟨(some 101), none, .faddr 1 (.s 3)⟩,
    ⟨(some 102), none, .load none (.s 101)⟩,
    ⟨(some 103), none, .bin .add (.s 102) (.c (V.int .i64 1))⟩,
    ⟨(some 104), none, .call fn_palanquinref9_reader_ns [(.s 100), (.s 103)]⟩,
    ⟨(some 105), none, .faddr 3 (.s 3)⟩,
    ⟨none, none, .store 1 (.s 105) (.s 104)⟩]
  (.ops [⟨(some 106), none, .faddr 3 (.s 3)⟩,
    ⟨(some 107), none, .load none (.s 106)⟩,
    ⟨(some 108), none, .bin .gtr (.s 107) (.c (V.int .i64 0))⟩]
  (.condJ (.s 108)
  (.ops [⟨(some 7), none, .mv (.c (V.int .i64 0))⟩]
   (.blk 8
   (.loop loop_palanquinref9_reader_structure_4 [7] [109, 110, 111, 112, 115, 116, 117, 118, 119, 120, 121, 122, 123, 113, 114, 7]) [] [109, 110, 111, 112, 115, 116, 117, 118, 119, 120, 121, 122, 123, 113, 114, 7]
   (.ops [⟨(some 8), none, .mv (.c (V.int .i64 0))⟩]
   (.blk 10
   (.loop loop_palanquinref9_reader_structure_6 [8] [124, 125, 126, 127, 128, 9, 131, 132, 133, 134, 137, 138, 139, 140, 141, 142, 143, 144, 145, 146, 147, 148, 149, 150, 151, 135, 136, 9, 129, 130, 8]) [] [124, 125, 126, 127, 128, 9, 131, 132, 133, 134, 137, 138, 139, 140, 141, 142, 143, 144, 145, 146, 147, 148, 149, 150, 151, 135, 136, 9, 129, 130, 8]
   (.done)))))
  (.done) [] [7, 109, 110, 111, 112, 115, 116, 117, 118, 119, 120, 121, 122, 123, 113, 114, 7, 8, 124, 125, 126, 127, 128, 9, 131, 132, 133, 134, 137, 138, 139, 140, 141, 142, 143, 144, 145, 146, 147, 148, 149, 150, 151, 135, 136, 9, 129, 130, 8]
  (.ops [⟨(some 152), none, .mv (.s 0)⟩,
    ⟨(some 153), none, .call fn_palanquinref9_reader_n [(.s 152), (.c (V.int .i64 1))]⟩,
    ⟨(some 154), none, .bin .eql (.s 153) (.c (V.int .i64 1))⟩]
  (.condJ (.s 154)
  (.ops [⟨(some 10), none, .mv (.c (V.int .i64 0))⟩]
   (.blk 14
   (.loop loop_palanquinref9_reader_structure_7 [10] [155, 156, 157, 158, 159, 160, 161, 162, 163, 164, 165, 168, 169, 170, 171, 172, 173, 11, 12, 174, 175, 176, 177, 178, 179, 180, 181, 166, 167, 10]) [] [155, 156, 157, 158, 159, 160, 161, 162, 163, 164, 165, 168, 169, 170, 171, 172, 173, 11, 12, 174, 175, 176, 177, 178, 179, 180, 181, 166, 167, 10]
   (.done)))
  (.done) [] [10, 155, 156, 157, 158, 159, 160, 161, 162, 163, 164, 165, 168, 169, 170, 171, 172, 173, 11, 12, 174, 175, 176, 177, 178, 179, 180, 181, 166, 167, 10]
  (.ops [⟨(some 182), none, .load (some 6) (.s 3)⟩,
    ⟨none, none, .store 6 (.s 2) (.s 182)⟩]
  (.ret)))))))))))))⟩

noncomputable def f_palanquinref9_reader_structure_0 (G : Sem') (t3 t4 t0 t2 : V) (L : List V) : M Res :=
  (M.lift (Ax.faddr 1 t3)).bind fun t37 =>
  (mload none t37).bind fun t38 =>
  (M.lift (Ax.bin .lss (L.getD 0 .undef) t38)).bind fun t39 =>
  M.ite t39
    (M.blk 3 (
      (M.lift (Ax.faddr 2 t3)).bind fun t42 =>
      (mload none t42).bind fun t43 =>
      (M.lift (Ax.faddr 2 t3)).bind fun t45 =>
      (mload none t45).bind fun t46 =>
      (M.lift (Ax.iaddr none 5 t46 t4)).bind fun t48 =>
      (M.lift (Ax.faddr 2 t48)).bind fun t49 =>
      (mload none t49).bind fun t50 =>
      M.getH.bind fun h0 =>
      (G fn_palanquinref9_reader_n [t0, (V.int .i64 2)]).bind fun t52 =>
      M.getH.bind fun h0' =>
      (M.unch t49 h0 h0').bind fun _ =>
      (M.unch t45 h0 h0').bind fun _ =>
      (M.unch t42 h0 h0').bind fun _ =>
      (mslit ty_int 1 [(V.int .i64 0)] [(0, 1, t52)]).bind fun t53 =>
      M.getH.bind fun h1 =>
      (mappend ty_int 1 8 t50 t53).bind fun t54 =>
      M.getH.bind fun h1' =>
      (M.unch t42 h1 h1').bind fun _ =>
      (M.lift (Ax.iaddr none 5 t43 t4)).bind fun t55 =>
      (M.lift (Ax.faddr 2 t55)).bind fun t56 =>
      (mstore 1 t56 t54).bind fun _ =>
      M.pure (.nrm [])) fun _ =>
    (M.lift (Ax.bin .add (L.getD 0 .undef) (V.int .i64 1))).bind fun t41 =>
    M.pure (.nrm [t41]))
    (M.pure (.ex 2 []))

noncomputable def f_palanquinref9_reader_structure_1 (G : Sem') (t3 t0 t2 : V) (L : List V) : M Res :=
  (M.lift (Ax.faddr 2 t3)).bind fun t23 =>
  (mload none t23).bind fun t24 =>
  (M.lift (vlen t24)).bind fun t25 =>
  (M.lift (Ax.bin .lss (L.getD 0 .undef) t25)).bind fun t26 =>
  (guarded [(0, t26)] (some (0, true)) (M.pure t0)).bind fun t28 =>
  (guarded [(0, t26)] (some (0, true)) (M.lift (Ax.nilck t28))).bind fun t29 =>
  (guarded [(0, t26)] (some (0, true)) (M.lift (Ax.faddr 1 t29))).bind fun t30 =>
  (guarded [(0, t26)] (some (0, true)) (mload none t30)).bind fun t31 =>
  (guarded [(0, t26)] (some (0, true)) (M.lift (Ax.bin .eql t31 (V.int .i64 0)))).bind fun t32 =>
  (M.lift (Ax.pick t26 t32 (V.bool false))).bind fun t33 =>
  M.ite t33
    (M.blk 1 (
      M.blk 2 (
        M.iter (f_palanquinref9_reader_structure_0 G t3 (L.getD 0 .undef) t0 t2) [(V.int .i64 0)]) fun _ =>
      M.pure (.nrm [])) fun _ =>
    (M.lift (Ax.bin .add (L.getD 0 .undef) (V.int .i64 1))).bind fun t35 =>
    M.pure (.nrm [t35]))
    (M.pure (.ex 0 []))

noncomputable def f_palanquinref9_reader_structure_2 (G : Sem') (t3 t6 t0 t2 : V) (_ : List V) : M Res :=
  (G fn_palanquinref9_reader_n [t0, (V.int .i64 1)]).bind fun t72 =>
  (M.lift (Ax.bin .eql t72 (V.int .i64 1))).bind fun t73 =>
  M.ite t73
    (M.blk 7 (
      (M.lift (Ax.faddr 2 t3)).bind fun t74 =>
      (mload none t74).bind fun t75 =>
      (M.lift (Ax.iaddr none 5 t75 t6)).bind fun t77 =>
      (M.lift (Ax.faddr 3 t77)).bind fun t78 =>
      (mload none t78).bind fun t79 =>
      (M.lift (vlen t79)).bind fun t80 =>
      (M.lift (Ax.bin .eql t80 (V.int .i64 8))).bind fun t81 =>
      M.ite t81
        ((G fn_palanquinref9_reader_bad [t0, (V.int .i64 4)]).bind fun t83 =>
        M.pure (.ex 6 []))
        ((M.lift (Ax.faddr 2 t3)).bind fun t84 =>
        (mload none t84).bind fun t85 =>
        (M.lift (Ax.faddr 2 t3)).bind fun t87 =>
        (mload none t87).bind fun t88 =>
        (M.lift (Ax.iaddr none 5 t88 t6)).bind fun t90 =>
        (M.lift (Ax.faddr 3 t90)).bind fun t91 =>
        (mload none t91).bind fun t92 =>
        M.getH.bind fun h2 =>
        (G fn_palanquinref9_reader_n [t0, (V.int .i64 4)]).bind fun t94 =>
        M.getH.bind fun h2' =>
        (M.unch t91 h2 h2').bind fun _ =>
        (M.unch t87 h2 h2').bind fun _ =>
        (M.unch t84 h2 h2').bind fun _ =>
        (M.lift (Ax.bin .add t94 (V.int .i64 1))).bind fun t95 =>
        (mslit ty_int 1 [(V.int .i64 0)] [(0, 1, t95)]).bind fun t96 =>
        M.getH.bind fun h3 =>
        (mappend ty_int 1 8 t92 t96).bind fun t97 =>
        M.getH.bind fun h3' =>
        (M.unch t84 h3 h3').bind fun _ =>
        (M.lift (Ax.iaddr none 5 t85 t6)).bind fun t98 =>
        (M.lift (Ax.faddr 3 t98)).bind fun t99 =>
        (mstore 1 t99 t97).bind fun _ =>
        M.pure (.nrm []))) fun _ =>
    M.pure (.nrm []))
    (M.pure (.ex 6 []))

noncomputable def f_palanquinref9_reader_structure_3 (G : Sem') (t3 t0 t2 : V) (L : List V) : M Res :=
  (M.lift (Ax.faddr 2 t3)).bind fun t58 =>
  (mload none t58).bind fun t59 =>
  (M.lift (vlen t59)).bind fun t60 =>
  (M.lift (Ax.bin .lss (L.getD 0 .undef) t60)).bind fun t61 =>
  (guarded [(0, t61)] (some (0, true)) (M.pure t0)).bind fun t63 =>
  (guarded [(0, t61)] (some (0, true)) (M.lift (Ax.nilck t63))).bind fun t64 =>
  (guarded [(0, t61)] (some (0, true)) (M.lift (Ax.faddr 1 t64))).bind fun t65 =>
  (guarded [(0, t61)] (some (0, true)) (mload none t65)).bind fun t66 =>
  (guarded [(0, t61)] (some (0, true)) (M.lift (Ax.bin .eql t66 (V.int .i64 0)))).bind fun t67 =>
  (M.lift (Ax.pick t61 t67 (V.bool false))).bind fun t68 =>
  M.ite t68
    (M.blk 5 (
      M.blk 6 (
        M.iter (f_palanquinref9_reader_structure_2 G t3 (L.getD 0 .undef) t0 t2) []) fun _ =>
      M.pure (.nrm [])) fun _ =>
    (M.lift (Ax.bin .add (L.getD 0 .undef) (V.int .i64 1))).bind fun t70 =>
    M.pure (.nrm [t70]))
    (M.pure (.ex 4 []))

noncomputable def f_palanquinref9_reader_structure_4 (G : Sem') (t0 t3 t2 : V) (L : List V) : M Res :=
  (M.lift (Ax.faddr 1 t3)).bind fun t110 =>
  (mload none t110).bind fun t111 =>
  (M.lift (Ax.bin .lss (L.getD 0 .undef) t111)).bind fun t112 =>
  M.ite t112
    (M.blk 9 (
      (M.lift (Ax.faddr 4 t3)).bind fun t115 =>
      (mload none t115).bind fun t116 =>
      (M.lift (Ax.faddr 3 t3)).bind fun t118 =>
      (mload none t118).bind fun t119 =>
      M.getH.bind fun h4 =>
      (G fn_palanquinref9_reader_ns [t0, t119]).bind fun t120 =>
      M.getH.bind fun h4' =>
      (M.unch t115 h4 h4').bind fun _ =>
      (mslit ty_int 1 [(V.int .i64 0)] [(0, 1, t120)]).bind fun t121 =>
      (mappend ty_int 1 8 t116 t121).bind fun t122 =>
      (M.lift (Ax.faddr 4 t3)).bind fun t123 =>
      (mstore 1 t123 t122).bind fun _ =>
      M.pure (.nrm [])) fun _ =>
    (M.lift (Ax.bin .add (L.getD 0 .undef) (V.int .i64 1))).bind fun t114 =>
    M.pure (.nrm [t114]))
    (M.pure (.ex 8 []))

noncomputable def f_palanquinref9_reader_structure_5 (G : Sem') (t3 t8 t0 t2 : V) (L : List V) : M Res :=
  (M.lift (Ax.faddr 3 t3)).bind fun t132 =>
  (mload none t132).bind fun t133 =>
  (M.lift (Ax.bin .lss (L.getD 0 .undef) t133)).bind fun t134 =>
  M.ite t134
    (M.blk 13 (
      (M.lift (Ax.faddr 2 t3)).bind fun t137 =>
      (mload none t137).bind fun t138 =>
      (M.lift (Ax.faddr 2 t3)).bind fun t140 =>
      (mload none t140).bind fun t141 =>
      (M.lift (Ax.iaddr none 5 t141 t8)).bind fun t143 =>
      (M.lift (Ax.faddr 4 t143)).bind fun t144 =>
      (mload none t144).bind fun t145 =>
      M.getH.bind fun h5 =>
      (G fn_palanquinref9_reader_n [t0, (V.int .i64 4)]).bind fun t147 =>
      M.getH.bind fun h5' =>
      (M.unch t144 h5 h5').bind fun _ =>
      (M.unch t140 h5 h5').bind fun _ =>
      (M.unch t137 h5 h5').bind fun _ =>
      (mslit ty_int 1 [(V.int .i64 0)] [(0, 1, t147)]).bind fun t148 =>
      M.getH.bind fun h6 =>
      (mappend ty_int 1 8 t145 t148).bind fun t149 =>
      M.getH.bind fun h6' =>
      (M.unch t137 h6 h6').bind fun _ =>
      (M.lift (Ax.iaddr none 5 t138 t8)).bind fun t150 =>
      (M.lift (Ax.faddr 4 t150)).bind fun t151 =>
      (mstore 1 t151 t149).bind fun _ =>
      M.pure (.nrm [])) fun _ =>
    (M.lift (Ax.bin .add (L.getD 0 .undef) (V.int .i64 1))).bind fun t136 =>
    M.pure (.nrm [t136]))
    (M.pure (.ex 12 []))

noncomputable def f_palanquinref9_reader_structure_6 (G : Sem') (t3 t0 t2 : V) (L : List V) : M Res :=
  (M.lift (Ax.faddr 2 t3)).bind fun t125 =>
  (mload none t125).bind fun t126 =>
  (M.lift (vlen t126)).bind fun t127 =>
  (M.lift (Ax.bin .lss (L.getD 0 .undef) t127)).bind fun t128 =>
  M.ite t128
    (M.blk 11 (
      M.blk 12 (
        M.iter (f_palanquinref9_reader_structure_5 G t3 (L.getD 0 .undef) t0 t2) [(V.int .i64 0)]) fun _ =>
      M.pure (.nrm [])) fun _ =>
    (M.lift (Ax.bin .add (L.getD 0 .undef) (V.int .i64 1))).bind fun t130 =>
    M.pure (.nrm [t130]))
    (M.pure (.ex 10 []))

noncomputable def f_palanquinref9_reader_structure_7 (G : Sem') (t0 t3 t2 : V) (L : List V) : M Res :=
  (mload (some 6) t3).bind fun t156 =>
  (G fn_palanquinref9_top [t156]).bind fun t157 =>
  (M.lift (Ax.bin .leq (L.getD 0 .undef) t157)).bind fun t158 =>
  (guarded [(0, t158)] (some (0, true)) (M.pure t0)).bind fun t160 =>
  (guarded [(0, t158)] (some (0, true)) (M.lift (Ax.nilck t160))).bind fun t161 =>
  (guarded [(0, t158)] (some (0, true)) (M.lift (Ax.faddr 1 t161))).bind fun t162 =>
  (guarded [(0, t158)] (some (0, true)) (mload none t162)).bind fun t163 =>
  (guarded [(0, t158)] (some (0, true)) (M.lift (Ax.bin .eql t163 (V.int .i64 0)))).bind fun t164 =>
  (M.lift (Ax.pick t158 t164 (V.bool false))).bind fun t165 =>
  M.ite t165
    (M.blk 15 (
      (G fn_palanquinref9_reader_n [t0, (V.int .i64 16)]).bind fun t169 =>
      (M.lift (Ax.bin .add t169 (V.int .i64 1))).bind fun t170 =>
      (G fn_palanquinref9_reader_n [t0, (V.int .i64 16)]).bind fun t172 =>
      (M.lift (Ax.bin .add t172 (V.int .i64 1))).bind fun t173 =>
      (M.lift (Ax.faddr 5 t3)).bind fun t174 =>
      (mload none t174).bind fun t175 =>
      (M.lift (Ax.build [(V.int .i64 0), (V.int .i64 0)] [(0, 1, t170), (1, 1, t173)])).bind fun t178 =>
      (mslit ty_2_int 1 [(V.int .i64 0), (V.int .i64 0)] [(0, 2, t178)]).bind fun t179 =>
      (mappend ty_2_int 2 16 t175 t179).bind fun t180 =>
      (M.lift (Ax.faddr 5 t3)).bind fun t181 =>
      (mstore 1 t181 t180).bind fun _ =>
      M.pure (.nrm [])) fun _ =>
    (M.lift (Ax.bin .add (L.getD 0 .undef) (V.int .i64 1))).bind fun t167 =>
    M.pure (.nrm [t167]))
    (M.pure (.ex 14 []))

noncomputable def f_palanquinref9_reader_structure (G : Sem') (t0 : V) : M Res :=
  (mbox ty_palanquinref9_Structure (V.agg [(V.int .i64 0), (V.int .i64 0), V.nils, (V.int .i64 0), V.nils, V.nils])).bind fun t2 =>
  (G fn_palanquinref9_reader_n [t0, (V.int .i64 6)]).bind fun t14 =>
  (G fn_palanquinref9_reader_n [t0, (V.int .i64 5)]).bind fun t16 =>
  (M.lift (Ax.bin .add t16 (V.int .i64 1))).bind fun t17 =>
  (M.lift (Ax.build [(V.int .i64 0), (V.int .i64 0), V.nils, (V.int .i64 0), V.nils, V.nils] [(0, 1, t14), (1, 1, t17)])).bind fun t18 =>
  (mbox ty_palanquinref9_Structure (V.agg [(V.int .i64 0), (V.int .i64 0), V.nils, (V.int .i64 0), V.nils, V.nils])).bind fun t3 =>
  (mstore 6 t3 t18).bind fun _ =>
  (G fn_palanquinref9_reader_layers [t0]).bind fun t20 =>
  (M.lift (Ax.faddr 2 t3)).bind fun t21 =>
  (mstore 1 t21 t20).bind fun _ =>
  M.blk 0 (
    M.iter (f_palanquinref9_reader_structure_1 G t3 t0 t2) [(V.int .i64 0)]) fun _ =>
  M.blk 4 (
    M.iter (f_palanquinref9_reader_structure_3 G t3 t0 t2) [(V.int .i64 0)]) fun _ =>
  (M.lift (Ax.faddr 1 t3)).bind fun t101 =>
  (mload none t101).bind fun t102 =>
  (M.lift (Ax.bin .add t102 (V.int .i64 1))).bind fun t103 =>
  (G fn_palanquinref9_reader_ns [t0, t103]).bind fun t104 =>
  (M.lift (Ax.faddr 3 t3)).bind fun t105 =>
  (mstore 1 t105 t104).bind fun _ =>
  (M.lift (Ax.faddr 3 t3)).bind fun t106 =>
  (mload none t106).bind fun t107 =>
  (M.lift (Ax.bin .gtr t107 (V.int .i64 0))).bind fun t108 =>
  M.join (M.ite t108
    (M.blk 8 (
      M.iter (f_palanquinref9_reader_structure_4 G t0 t3 t2) [(V.int .i64 0)]) fun _ =>
    M.blk 10 (
      M.iter (f_palanquinref9_reader_structure_6 G t3 t0 t2) [(V.int .i64 0)]) fun _ =>
    M.pure (.nrm []))
    (M.pure (.nrm []))) fun _ =>
  (G fn_palanquinref9_reader_n [t0, (V.int .i64 1)]).bind fun t153 =>
  (M.lift (Ax.bin .eql t153 (V.int .i64 1))).bind fun t154 =>
  M.join (M.ite t154
    (M.blk 14 (
      M.iter (f_palanquinref9_reader_structure_7 G t0 t3 t2) [(V.int .i64 0)]) fun _ =>
    M.pure (.nrm []))
    (M.pure (.nrm []))) fun _ =>
  (mload (some 6) t3).bind fun t182 =>
  (mstore 6 t2 t182).bind fun _ =>
  (mload (some 6) t2).bind fun r0 =>
  M.pure (.ret [r0])

theorem eq_palanquinref9_reader_structure (G : Sem') (t0 : V) : execK G ir_palanquinref9_reader_structure.rv ir_palanquinref9_reader_structure.body [] [] (params 0 [t0]) = f_palanquinref9_reader_structure G t0 := by kernel_rfl

theorem tb_palanquinref9_reader_structure : T fn_palanquinref9_reader_structure = some ir_palanquinref9_reader_structure := by kernel_rfl

theorem ok_palanquinref9_reader_structure {t0 : V} {H : Heap} {Q : V → Heap → Prop} (h : Ok (f_palanquinref9_reader_structure (sem T) t0) H fun r H' => ∃ L, r = .ret L ∧ Q (tupled L) H') : Ok (sem T fn_palanquinref9_reader_structure [t0]) H Q :=
  ok_sem tb_palanquinref9_reader_structure (Nat.le_of_ble_eq_true rfl) (eq_palanquinref9_reader_structure (sem T) t0) h

end Go.Ax
