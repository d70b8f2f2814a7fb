/-
  The functions of this seat as plain texts: printed by program (wip/gen/Emit.lean): part 3.
-/
import Derived.Test.YtoflegfbpjbedaaGreatFnK0
set_option maxRecDepth 100000
set_option linter.unusedVariables false
namespace Go.Ax
open Go.Proofs

/-- palanquin/depend.Of. -/
def ir_depend_Of : Fn' := ⟨20, [.cell 4 (some 5), .tmp 5],
  .ops [⟨(some 2), none, .box ty_depend_Frame (.s 0)⟩,
    ⟨(some 3), none, .box ty_depend_Structure (.s 1)⟩,
    ⟨(some 4), none, .box ty_depend_Template (.c (V.agg [(V.int .i64 0), (V.int .i64 0), V.nils, V.nils, V.nils]))⟩,
    ⟨(some 5), none, .mv (.c (V.bool false))⟩]
  (.ops [⟨(some 7), none, .load (some 19) (.s 2)⟩,
    ⟨(some 8), none, .load (some 6) (.s 3)⟩,
    ⟨(some 9), none, .call fn_depend_holds [(.s 7), (.s 8)]⟩,
    ⟨(some 6), none, .box ty_depend_Structure (.c (V.agg [(V.int .i64 0), (V.int .i64 0), V.nils, (V.int .i64 0), V.nils, V.nils]))⟩,
    ⟨none, none, .store 6 (.s 6) (.s 9)⟩]
  (.ops [⟨(some 10), none, .load (some 6) (.s 6)⟩,
    ⟨(some 11), none, .call fn_depend_Fine [(.s 10)]⟩,
    ⟨(some 12), none, .un .not (.s 11)⟩]
  (.cond (.s 12)
  (.ops [⟨(some 13), none, .build [(V.int .i64 0), (V.int .i64 0), V.nils, V.nils, V.nils] []⟩,
     ⟨none, none, .store 5 (.s 4) (.s 13)⟩,
     ⟨(some 5), none, .mv (.c (V.bool false))⟩]
   (.ret))
  (.ops [⟨(some 14), none, .load (some 6) (.s 6)⟩,
     ⟨(some 15), none, .faddr 2 (.s 2)⟩,
     ⟨(some 16), none, .load none (.s 15)⟩,
     ⟨(some 17), none, .call fn_depend_template [(.s 14), (.s 16)]⟩,
     ⟨(some 18), none, .ext 0 (.s 17)⟩,
     ⟨(some 19), none, .ext 1 (.s 17)⟩,
     ⟨none, none, .store 5 (.s 4) (.s 18)⟩,
     ⟨(some 5), none, .mv (.s 19)⟩]
   (.ret)))))⟩

noncomputable def f_depend_Of (G : Sem') (t0 t1 : V) : M Res :=
  (mbox ty_depend_Frame t0).bind fun t2 =>
  (mbox ty_depend_Structure t1).bind fun t3 =>
  (mbox ty_depend_Template (V.agg [(V.int .i64 0), (V.int .i64 0), V.nils, V.nils, V.nils])).bind fun t4 =>
  (mload (some 19) t2).bind fun t7 =>
  (mload (some 6) t3).bind fun t8 =>
  (G fn_depend_holds [t7, t8]).bind fun t9 =>
  (mbox ty_depend_Structure (V.agg [(V.int .i64 0), (V.int .i64 0), V.nils, (V.int .i64 0), V.nils, V.nils])).bind fun t6 =>
  (mstore 6 t6 t9).bind fun _ =>
  (mload (some 6) t6).bind fun t10 =>
  (G fn_depend_Fine [t10]).bind fun t11 =>
  (M.lift (Ax.un .not t11)).bind fun t12 =>
  M.ite t12
    ((M.lift (Ax.build [(V.int .i64 0), (V.int .i64 0), V.nils, V.nils, V.nils] [])).bind fun t13 =>
    (mstore 5 t4 t13).bind fun _ =>
    (mload (some 5) t4).bind fun r0 =>
    M.pure (.ret [r0, (V.bool false)]))
    ((mload (some 6) t6).bind fun t14 =>
    (M.lift (Ax.faddr 2 t2)).bind fun t15 =>
    (mload none t15).bind fun t16 =>
    (G fn_depend_template [t14, t16]).bind fun t17 =>
    (M.lift (Ax.ext 0 t17)).bind fun t18 =>
    (M.lift (Ax.ext 1 t17)).bind fun t19 =>
    (mstore 5 t4 t18).bind fun _ =>
    (mload (some 5) t4).bind fun r0 =>
    M.pure (.ret [r0, t19]))

theorem eq_depend_Of (G : Sem') (t0 t1 : V) : execK G ir_depend_Of.rv ir_depend_Of.body [] [] (params 0 [t0, t1]) = f_depend_Of G t0 t1 := by kernel_rfl

theorem tb_depend_Of : T fn_depend_Of = some ir_depend_Of := by kernel_rfl

theorem ok_depend_Of {t0 t1 : V} {H : Heap} {Q : V → Heap → Prop} (h : Ok (f_depend_Of (sem T) t0 t1) H fun r H' => ∃ L, r = .ret L ∧ Q (tupled L) H') : Ok (sem T fn_depend_Of [t0, t1]) H Q :=
  ok_sem tb_depend_Of (Nat.le_of_ble_eq_true rfl) (eq_depend_Of (sem T) t0 t1) h

/-- palanquin/depend.holds. -/
def ir_depend_holds : Fn' := ⟨10, [.cell 4 (some 6)],
  .ops [⟨(some 2), none, .box ty_depend_Frame (.s 0)⟩,
    ⟨(some 3), none, .box ty_depend_Structure (.s 1)⟩,
    ⟨(some 4), none, .box ty_depend_Structure (.c (V.agg [(V.int .i64 0), (V.int .i64 0), V.nils, (V.int .i64 0), V.nils, V.nils]))⟩]
  (.ops [⟨(some 5), none, .faddr 4 (.s 2)⟩,
    ⟨(some 6), none, .load none (.s 5)⟩]
  (.cond (.s 6)
  (.ops [⟨(some 7), none, .faddr 5 (.s 2)⟩,
     ⟨(some 8), none, .load (some 6) (.s 7)⟩,
     ⟨none, none, .store 6 (.s 4) (.s 8)⟩]
   (.ret))
  (.ops [⟨(some 9), none, .load (some 6) (.s 3)⟩,
     ⟨none, none, .store 6 (.s 4) (.s 9)⟩]
   (.ret))))⟩

noncomputable def f_depend_holds (G : Sem') (t0 t1 : V) : M Res :=
  (mbox ty_depend_Frame t0).bind fun t2 =>
  (mbox ty_depend_Structure t1).bind fun t3 =>
  (mbox ty_depend_Structure (V.agg [(V.int .i64 0), (V.int .i64 0), V.nils, (V.int .i64 0), V.nils, V.nils])).bind fun t4 =>
  (M.lift (Ax.faddr 4 t2)).bind fun t5 =>
  (mload none t5).bind fun t6 =>
  M.ite t6
    ((M.lift (Ax.faddr 5 t2)).bind fun t7 =>
    (mload (some 6) t7).bind fun t8 =>
    (mstore 6 t4 t8).bind fun _ =>
    (mload (some 6) t4).bind fun r0 =>
    M.pure (.ret [r0]))
    ((mload (some 6) t3).bind fun t9 =>
    (mstore 6 t4 t9).bind fun _ =>
    (mload (some 6) t4).bind fun r0 =>
    M.pure (.ret [r0]))

theorem eq_depend_holds (G : Sem') (t0 t1 : V) : execK G ir_depend_holds.rv ir_depend_holds.body [] [] (params 0 [t0, t1]) = f_depend_holds G t0 t1 := by kernel_rfl

theorem tb_depend_holds : T fn_depend_holds = some ir_depend_holds := by kernel_rfl

theorem ok_depend_holds {t0 t1 : V} {H : Heap} {Q : V → Heap → Prop} (h : Ok (f_depend_holds (sem T) t0 t1) H fun r H' => ∃ L, r = .ret L ∧ Q (tupled L) H') : Ok (sem T fn_depend_holds [t0, t1]) H Q :=
  ok_sem tb_depend_holds (Nat.le_of_ble_eq_true rfl) (eq_depend_holds (sem T) t0 t1) h

/-- palanquin/depend.Fine. -/
def loop_depend_Fine_0 : C :=
  .ops [⟨(some 72), none, .bin .lss (.s 71) (.s 70)⟩]
  (.cond (.s 72)
  (.blk 1
   (.ops [⟨(some 73), none, .iaddr none 2 (.s 69) (.s 71)⟩,
      ⟨(some 74), none, .load (some 2) (.s 73)⟩,
      ⟨(some 6), none, .box ty_2_int (.c (V.agg [(V.int .i64 0), (V.int .i64 0)]))⟩,
      ⟨none, none, .store 2 (.s 6) (.s 74)⟩]
    (.ops [⟨(some 75), none, .slice (.arr 2) 1 (.s 6) none none none⟩,
      ⟨(some 76), none, .call fn_depend_within [(.s 75), (.c (V.int .i64 2)), (.c (V.int .i64 1)), (.c (V.int .i64 65536))]⟩,
      ⟨(some 77), none, .un .not (.s 76)⟩]
    (.cond (.s 77)
    (.ops [⟨(some 2), none, .mv (.c (V.bool false))⟩]
     (.ret))
    (.done)))) [] [73, 74, 6, 75, 76, 77, 2]
   (.ops [⟨(some 78), none, .bin .add (.s 71) (.c (V.int .i64 1))⟩,
     ⟨(some 71), none, .mv (.s 78)⟩]
   (.done)))
  (.exit 0))

def ir_depend_Fine : Fn' := ⟨84, [.tmp 2],
  .ops [⟨(some 1), none, .box ty_depend_Structure (.s 0)⟩,
    ⟨(some 2), none, .mv (.c (V.bool false))⟩]
  (.ops [⟨(some 7), none, .faddr 1 (.s 1)⟩,
    ⟨(some 8), none, .load none (.s 7)⟩,
    ⟨(some 3), none, .mv (.s 8)⟩]
  (.ops [⟨(some 9), none, .faddr 3 (.s 1)⟩,
    ⟨(some 10), none, .load none (.s 9)⟩,
    ⟨(some 11), none, .bin .eql (.s 10) (.c (V.int .i64 0))⟩]
  (.condJ (.s 11)
  (.ops [⟨(some 3), none, .mv (.c (V.int .i64 0))⟩]
   (.done))
  (.done) [3] [3]
  (.ops [⟨(some 12), none, .faddr 0 (.s 1)⟩,
    ⟨(some 13), none, .load none (.s 12)⟩,
    ⟨(some 14), none, .bin .lss (.s 13) (.c (V.int .i64 0))⟩,
    ⟨(some 15), none, .mv (.s 14)⟩,
    ⟨(some 16), (some (15, false)), .faddr 0 (.s 1)⟩,
    ⟨(some 17), (some (15, false)), .load none (.s 16)⟩,
    ⟨(some 18), (some (15, false)), .bin .geq (.s 17) (.c (V.int .i64 64))⟩,
    ⟨(some 19), none, .pick (.s 15) (.c (V.bool true)) (.s 18)⟩,
    ⟨(some 20), none, .mv (.s 19)⟩,
    ⟨(some 21), (some (20, false)), .faddr 1 (.s 1)⟩,
    ⟨(some 22), (some (20, false)), .load none (.s 21)⟩,
    ⟨(some 23), (some (20, false)), .bin .lss (.s 22) (.c (V.int .i64 1))⟩,
    ⟨(some 24), none, .pick (.s 20) (.c (V.bool true)) (.s 23)⟩,
    ⟨(some 25), none, .mv (.s 24)⟩,
    ⟨(some 26), (some (25, false)), .faddr 1 (.s 1)⟩,
    ⟨(some 27), (some (25, false)), .load none (.s 26)⟩,
    ⟨(some 28), (some (25, false)), .bin .gtr (.s 27) (.c (V.int .i64 32))⟩,
    ⟨(some 29), none, .pick (.s 25) (.c (V.bool true)) (.s 28)⟩,
    ⟨(some 30), none, .mv (.s 29)⟩,
    ⟨(some 31), (some (30, false)), .faddr 3 (.s 1)⟩,
    ⟨(some 32), (some (30, false)), .load none (.s 31)⟩,
    ⟨(some 33), (some (30, false)), .bin .lss (.s 32) (.c (V.int .i64 0))⟩,
    ⟨(some 34), none, .pick (.s 30) (.c (V.bool true)) (.s 33)⟩,
    ⟨(some 35), none, .mv (.s 34)⟩,
    ⟨(some 36), (some (35, false)), .faddr 3 (.s 1)⟩,
    ⟨(some 37), (some (35, false)), .load none (.s 36)⟩,
    ⟨(some 38), (some (35, false)), .faddr 1 (.s 1)⟩,
    ⟨(some 39), (some (35, false)), .load none (.s 38)⟩,
    ⟨(some 40), (some (35, false)), .bin .gtr (.s 37) (.s 39)⟩,
    ⟨(some 41), none, .pick (.s 35) (.c (V.bool true)) (.s 40)⟩,
    ⟨(some 42), none, .mv (.s 41)⟩,
    ⟨(some 43), (some (42, false)), .faddr 4 (.s 1)⟩,
    ⟨(some 44), (some (42, false)), .load none (.s 43)⟩,
    ⟨(some 45), (some (42, false)), .mv (.s 3)⟩,
    ⟨(some 46), (some (42, false)), .faddr 3 (.s 1)⟩,
    ⟨(some 47), (some (42, false)), .load none (.s 46)⟩,
    ⟨(some 48), (some (42, false)), .bin .sub (.s 47) (.c (V.int .i64 1))⟩,
    ⟨(some 49), (some (42, false)), .call fn_depend_within [(.s 44), (.s 45), (.c (V.int .i64 0)), (.s 48)]⟩,
    ⟨(some 50), (some (42, false)), .un .not (.s 49)⟩,
    ⟨(some 51), none, .pick (.s 42) (.c (V.bool true)) (.s 50)⟩,
    ⟨(some 52), none, .mv (.s 51)⟩,
    ⟨(some 53), (some (52, false)), .load (some 6) (.s 1)⟩,
    ⟨(some 54), (some (52, false)), .call fn_depend_layers [(.s 53)]⟩,
    ⟨(some 55), (some (52, false)), .un .not (.s 54)⟩,
    ⟨(some 56), none, .pick (.s 52) (.c (V.bool true)) (.s 55)⟩]
  (.cond (.s 56)
  (.ops [⟨(some 2), none, .mv (.c (V.bool false))⟩]
   (.ret))
  (.ops [⟨(some 57), none, .faddr 5 (.s 1)⟩,
     ⟨(some 58), none, .load none (.s 57)⟩,
     ⟨(some 59), none, .len (.s 58)⟩,
     ⟨(some 4), none, .mv (.s 59)⟩]
   (.ops [⟨(some 60), none, .mv (.s 4)⟩,
     ⟨(some 61), none, .bin .neq (.s 60) (.c (V.int .i64 0))⟩,
     ⟨(some 62), none, .mv (.s 61)⟩,
     ⟨(some 63), (some (62, true)), .mv (.s 4)⟩,
     ⟨(some 64), (some (62, true)), .load (some 6) (.s 1)⟩,
     ⟨(some 65), (some (62, true)), .call fn_depend_spatial [(.s 64)]⟩,
     ⟨(some 66), (some (62, true)), .bin .neq (.s 63) (.s 65)⟩,
     ⟨(some 67), none, .pick (.s 62) (.s 66) (.c (V.bool false))⟩]
   (.cond (.s 67)
   (.ops [⟨(some 2), none, .mv (.c (V.bool false))⟩]
    (.ret))
   (.ops [⟨(some 68), none, .faddr 5 (.s 1)⟩,
      ⟨(some 69), none, .load none (.s 68)⟩,
      ⟨(some 70), none, .len (.s 69)⟩,
      ⟨(some 71), none, .mv (.c (V.int .i64 0))⟩]
    (.blk 0
    (.loop loop_depend_Fine_0 [71] [72, 73, 74, 6, 75, 76, 77, 2, 78, 71]) [] [72, 73, 74, 6, 75, 76, 77, 2, 78, 71]
    (.ops [⟨(some 79), none, .faddr 2 (.s 1)⟩,
      ⟨(some 80), none, .load none (.s 79)⟩,
      ⟨(some 81), none, .mkfn fn_depend_Fine_1 [(.s 1)]⟩,
      ⟨(some 82), none, .call fn_slices_ContainsFunc_depend_Template_depend_Template [(.s 80), (.s 81)]⟩,
      ⟨(some 83), none, .un .not (.s 82)⟩,
      ⟨(some 2), none, .mv (.s 83)⟩]
    (.ret))))))))))))⟩

noncomputable def f_depend_Fine_0 (G : Sem') (t70 t69 : V) (L : List V) : M Res :=
  (M.lift (Ax.bin .lss (L.getD 0 .undef) t70)).bind fun t72 =>
  M.ite t72
    (M.blk 1 (
      (M.lift (Ax.iaddr none 2 t69 (L.getD 0 .undef))).bind fun t73 =>
      (mload (some 2) t73).bind fun t74 =>
      (mbox ty_2_int (V.agg [(V.int .i64 0), (V.int .i64 0)])).bind fun t6 =>
      (mstore 2 t6 t74).bind fun _ =>
      (M.lift (vslice (.arr 2) 1 t6 none none none)).bind fun t75 =>
      (G fn_depend_within [t75, (V.int .i64 2), (V.int .i64 1), (V.int .i64 65536)]).bind fun t76 =>
      (M.lift (Ax.un .not t76)).bind fun t77 =>
      M.ite t77
        (M.pure (.ret [(V.bool false)]))
        (M.pure (.nrm []))) fun _ =>
    (M.lift (Ax.bin .add (L.getD 0 .undef) (V.int .i64 1))).bind fun t78 =>
    M.pure (.nrm [t78]))
    (M.pure (.ex 0 []))

noncomputable def f_depend_Fine (G : Sem') (t0 : V) : M Res :=
  (mbox ty_depend_Structure t0).bind fun t1 =>
  (M.lift (Ax.faddr 1 t1)).bind fun t7 =>
  (mload none t7).bind fun t8 =>
  (M.lift (Ax.faddr 3 t1)).bind fun t9 =>
  (mload none t9).bind fun t10 =>
  (M.lift (Ax.bin .eql t10 (V.int .i64 0))).bind fun t11 =>
  M.join (M.ite t11
    (M.pure (.nrm [(V.int .i64 0)]))
    (M.pure (.nrm [t8]))) fun L0 =>
  (M.lift (Ax.faddr 0 t1)).bind fun t12 =>
  (mload none t12).bind fun t13 =>
  (M.lift (Ax.bin .lss t13 (V.int .i64 0))).bind fun t14 =>
  (guarded [(0, t14)] (some (0, false)) (M.lift (Ax.faddr 0 t1))).bind fun t16 =>
  (guarded [(0, t14)] (some (0, false)) (mload none t16)).bind fun t17 =>
  (guarded [(0, t14)] (some (0, false)) (M.lift (Ax.bin .geq t17 (V.int .i64 64)))).bind fun t18 =>
  (M.lift (Ax.pick t14 (V.bool true) t18)).bind fun t19 =>
  (guarded [(0, t19)] (some (0, false)) (M.lift (Ax.faddr 1 t1))).bind fun t21 =>
  (guarded [(0, t19)] (some (0, false)) (mload none t21)).bind fun t22 =>
  (guarded [(0, t19)] (some (0, false)) (M.lift (Ax.bin .lss t22 (V.int .i64 1)))).bind fun t23 =>
  (M.lift (Ax.pick t19 (V.bool true) t23)).bind fun t24 =>
  (guarded [(0, t24)] (some (0, false)) (M.lift (Ax.faddr 1 t1))).bind fun t26 =>
  (guarded [(0, t24)] (some (0, false)) (mload none t26)).bind fun t27 =>
  (guarded [(0, t24)] (some (0, false)) (M.lift (Ax.bin .gtr t27 (V.int .i64 32)))).bind fun t28 =>
  (M.lift (Ax.pick t24 (V.bool true) t28)).bind fun t29 =>
  (guarded [(0, t29)] (some (0, false)) (M.lift (Ax.faddr 3 t1))).bind fun t31 =>
  (guarded [(0, t29)] (some (0, false)) (mload none t31)).bind fun t32 =>
  (guarded [(0, t29)] (some (0, false)) (M.lift (Ax.bin .lss t32 (V.int .i64 0)))).bind fun t33 =>
  (M.lift (Ax.pick t29 (V.bool true) t33)).bind fun t34 =>
  (guarded [(0, t34)] (some (0, false)) (M.lift (Ax.faddr 3 t1))).bind fun t36 =>
  (guarded [(0, t34)] (some (0, false)) (mload none t36)).bind fun t37 =>
  (guarded [(0, t34)] (some (0, false)) (M.lift (Ax.faddr 1 t1))).bind fun t38 =>
  (guarded [(0, t34)] (some (0, false)) (mload none t38)).bind fun t39 =>
  (guarded [(0, t34)] (some (0, false)) (M.lift (Ax.bin .gtr t37 t39))).bind fun t40 =>
  (M.lift (Ax.pick t34 (V.bool true) t40)).bind fun t41 =>
  (guarded [(0, t41)] (some (0, false)) (M.lift (Ax.faddr 4 t1))).bind fun t43 =>
  (guarded [(0, t41)] (some (0, false)) (mload none t43)).bind fun t44 =>
  (guarded [(0, t41)] (some (0, false)) (M.pure (L0.getD 0 .undef))).bind fun t45 =>
  (guarded [(0, t41)] (some (0, false)) (M.lift (Ax.faddr 3 t1))).bind fun t46 =>
  (guarded [(0, t41)] (some (0, false)) (mload none t46)).bind fun t47 =>
  (guarded [(0, t41)] (some (0, false)) (M.lift (Ax.bin .sub t47 (V.int .i64 1)))).bind fun t48 =>
  (guarded [(0, t41)] (some (0, false)) (G fn_depend_within [t44, t45, (V.int .i64 0), t48])).bind fun t49 =>
  (guarded [(0, t41)] (some (0, false)) (M.lift (Ax.un .not t49))).bind fun t50 =>
  (M.lift (Ax.pick t41 (V.bool true) t50)).bind fun t51 =>
  (guarded [(0, t51)] (some (0, false)) (mload (some 6) t1)).bind fun t53 =>
  (guarded [(0, t51)] (some (0, false)) (G fn_depend_layers [t53])).bind fun t54 =>
  (guarded [(0, t51)] (some (0, false)) (M.lift (Ax.un .not t54))).bind fun t55 =>
  (M.lift (Ax.pick t51 (V.bool true) t55)).bind fun t56 =>
  M.ite t56
    (M.pure (.ret [(V.bool false)]))
    ((M.lift (Ax.faddr 5 t1)).bind fun t57 =>
    (mload none t57).bind fun t58 =>
    (M.lift (vlen t58)).bind fun t59 =>
    (M.lift (Ax.bin .neq t59 (V.int .i64 0))).bind fun t61 =>
    (guarded [(0, t61)] (some (0, true)) (M.pure t59)).bind fun t63 =>
    (guarded [(0, t61)] (some (0, true)) (mload (some 6) t1)).bind fun t64 =>
    (guarded [(0, t61)] (some (0, true)) (G fn_depend_spatial [t64])).bind fun t65 =>
    (guarded [(0, t61)] (some (0, true)) (M.lift (Ax.bin .neq t63 t65))).bind fun t66 =>
    (M.lift (Ax.pick t61 t66 (V.bool false))).bind fun t67 =>
    M.ite t67
      (M.pure (.ret [(V.bool false)]))
      ((M.lift (Ax.faddr 5 t1)).bind fun t68 =>
      (mload none t68).bind fun t69 =>
      (M.lift (vlen t69)).bind fun t70 =>
      M.blk 0 (
        M.iter (f_depend_Fine_0 G t70 t69) [(V.int .i64 0)]) fun _ =>
      (M.lift (Ax.faddr 2 t1)).bind fun t79 =>
      (mload none t79).bind fun t80 =>
      (M.pure (.fn fn_depend_Fine_1 [t1])).bind fun t81 =>
      (G fn_slices_ContainsFunc_depend_Template_depend_Template [t80, t81]).bind fun t82 =>
      (M.lift (Ax.un .not t82)).bind fun t83 =>
      M.pure (.ret [t83])))

theorem eq_depend_Fine (G : Sem') (t0 : V) : execK G ir_depend_Fine.rv ir_depend_Fine.body [] [] (params 0 [t0]) = f_depend_Fine G t0 := by kernel_rfl

theorem tb_depend_Fine : T fn_depend_Fine = some ir_depend_Fine := by kernel_rfl

theorem ok_depend_Fine {t0 : V} {H : Heap} {Q : V → Heap → Prop} (h : Ok (f_depend_Fine (sem T) t0) H fun r H' => ∃ L, r = .ret L ∧ Q (tupled L) H') : Ok (sem T fn_depend_Fine [t0]) H Q :=
  ok_sem tb_depend_Fine (Nat.le_of_ble_eq_true rfl) (eq_depend_Fine (sem T) t0) h

/-- palanquin/depend.within. -/
def ir_depend_within : Fn' := ⟨19, [.tmp 8],
  .ops [⟨(some 6), none, .box ty_int (.s 2)⟩,
    ⟨(some 7), none, .box ty_int (.s 3)⟩,
    ⟨(some 8), none, .mv (.c (V.bool false))⟩]
  (.ops [⟨(some 9), none, .mv (.s 0)⟩,
    ⟨(some 10), none, .len (.s 9)⟩,
    ⟨(some 11), none, .mv (.s 1)⟩,
    ⟨(some 12), none, .bin .eql (.s 10) (.s 11)⟩,
    ⟨(some 13), none, .mv (.s 12)⟩,
    ⟨(some 14), (some (13, true)), .mv (.s 0)⟩,
    ⟨(some 15), (some (13, true)), .mkfn fn_depend_within_1 [(.s 6), (.s 7)]⟩,
    ⟨(some 16), (some (13, true)), .call fn_slices_ContainsFunc_int_int [(.s 14), (.s 15)]⟩,
    ⟨(some 17), (some (13, true)), .un .not (.s 16)⟩,
    ⟨(some 18), none, .pick (.s 13) (.s 17) (.c (V.bool false))⟩,
    ⟨(some 8), none, .mv (.s 18)⟩]
  (.ret))⟩

noncomputable def f_depend_within (G : Sem') (t0 t1 t2 t3 : V) : M Res :=
  (mbox ty_int t2).bind fun t6 =>
  (mbox ty_int t3).bind fun t7 =>
  (M.lift (vlen t0)).bind fun t10 =>
  (M.lift (Ax.bin .eql t10 t1)).bind fun t12 =>
  (guarded [(0, t12)] (some (0, true)) (M.pure t0)).bind fun t14 =>
  (guarded [(0, t12)] (some (0, true)) (M.pure (.fn fn_depend_within_1 [t6, t7]))).bind fun t15 =>
  (guarded [(0, t12)] (some (0, true)) (G fn_slices_ContainsFunc_int_int [t14, t15])).bind fun t16 =>
  (guarded [(0, t12)] (some (0, true)) (M.lift (Ax.un .not t16))).bind fun t17 =>
  (M.lift (Ax.pick t12 t17 (V.bool false))).bind fun t18 =>
  M.pure (.ret [t18])

theorem eq_depend_within (G : Sem') (t0 t1 t2 t3 : V) : execK G ir_depend_within.rv ir_depend_within.body [] [] (params 0 [t0, t1, t2, t3]) = f_depend_within G t0 t1 t2 t3 := by kernel_rfl

theorem tb_depend_within : T fn_depend_within = some ir_depend_within := by kernel_rfl

theorem ok_depend_within {t0 t1 t2 t3 : V} {H : Heap} {Q : V → Heap → Prop} (h : Ok (f_depend_within (sem T) t0 t1 t2 t3) H fun r H' => ∃ L, r = .ret L ∧ Q (tupled L) H') : Ok (sem T fn_depend_within [t0, t1, t2, t3]) H Q :=
  ok_sem tb_depend_within (Nat.le_of_ble_eq_true rfl) (eq_depend_within (sem T) t0 t1 t2 t3) h

/-- palanquin/depend.within$1. -/
def ir_depend_within_1 : Fn' := ⟨13, [.tmp 4],
  .ops [⟨(some 4), none, .mv (.c (V.bool false))⟩]
  (.ops [⟨(some 5), none, .mv (.s 0)⟩,
    ⟨(some 6), none, .load none (.s 1)⟩,
    ⟨(some 7), none, .bin .lss (.s 5) (.s 6)⟩,
    ⟨(some 8), none, .mv (.s 7)⟩,
    ⟨(some 9), (some (8, false)), .mv (.s 0)⟩,
    ⟨(some 10), (some (8, false)), .load none (.s 2)⟩,
    ⟨(some 11), (some (8, false)), .bin .gtr (.s 9) (.s 10)⟩,
    ⟨(some 12), none, .pick (.s 8) (.c (V.bool true)) (.s 11)⟩,
    ⟨(some 4), none, .mv (.s 12)⟩]
  (.ret))⟩

noncomputable def f_depend_within_1 (G : Sem') (t0 t1 t2 : V) : M Res :=
  (mload none t1).bind fun t6 =>
  (M.lift (Ax.bin .lss t0 t6)).bind fun t7 =>
  (guarded [(0, t7)] (some (0, false)) (M.pure t0)).bind fun t9 =>
  (guarded [(0, t7)] (some (0, false)) (mload none t2)).bind fun t10 =>
  (guarded [(0, t7)] (some (0, false)) (M.lift (Ax.bin .gtr t9 t10))).bind fun t11 =>
  (M.lift (Ax.pick t7 (V.bool true) t11)).bind fun t12 =>
  M.pure (.ret [t12])

theorem eq_depend_within_1 (G : Sem') (t0 t1 t2 : V) : execK G ir_depend_within_1.rv ir_depend_within_1.body [] [] (params 0 [t0, t1, t2]) = f_depend_within_1 G t0 t1 t2 := by kernel_rfl

theorem tb_depend_within_1 : T fn_depend_within_1 = some ir_depend_within_1 := by kernel_rfl

theorem ok_depend_within_1 {t0 t1 t2 : V} {H : Heap} {Q : V → Heap → Prop} (h : Ok (f_depend_within_1 (sem T) t0 t1 t2) H fun r H' => ∃ L, r = .ret L ∧ Q (tupled L) H') : Ok (sem T fn_depend_within_1 [t0, t1, t2]) H Q :=
  ok_sem tb_depend_within_1 (Nat.le_of_ble_eq_true rfl) (eq_depend_within_1 (sem T) t0 t1 t2) h

/-- slices.ContainsFunc[[]int,int]. -/
def ir_slices_ContainsFunc_int_int : Fn' := ⟨9, [.tmp 4],
  .ops [⟨(some 4), none, .mv (.c (V.bool false))⟩]
  (.ops [⟨(some 5), none, .mv (.s 0)⟩,
    ⟨(some 6), none, .mv (.s 1)⟩,
    ⟨(some 7), none, .call fn_slices_IndexFunc_int_int [(.s 5), (.s 6)]⟩,
    ⟨(some 8), none, .bin .geq (.s 7) (.c (V.int .i64 0))⟩,
    ⟨(some 4), none, .mv (.s 8)⟩]
  (.ret))⟩

noncomputable def f_slices_ContainsFunc_int_int (G : Sem') (t0 t1 : V) : M Res :=
  (G fn_slices_IndexFunc_int_int [t0, t1]).bind fun t7 =>
  (M.lift (Ax.bin .geq t7 (V.int .i64 0))).bind fun t8 =>
  M.pure (.ret [t8])

theorem eq_slices_ContainsFunc_int_int (G : Sem') (t0 t1 : V) : execK G ir_slices_ContainsFunc_int_int.rv ir_slices_ContainsFunc_int_int.body [] [] (params 0 [t0, t1]) = f_slices_ContainsFunc_int_int G t0 t1 := by kernel_rfl

theorem tb_slices_ContainsFunc_int_int : T fn_slices_ContainsFunc_int_int = some ir_slices_ContainsFunc_int_int := by kernel_rfl

theorem ok_slices_ContainsFunc_int_int {t0 t1 : V} {H : Heap} {Q : V → Heap → Prop} (h : Ok (f_slices_ContainsFunc_int_int (sem T) t0 t1) H fun r H' => ∃ L, r = .ret L ∧ Q (tupled L) H') : Ok (sem T fn_slices_ContainsFunc_int_int [t0, t1]) H Q :=
  ok_sem tb_slices_ContainsFunc_int_int (Nat.le_of_ble_eq_true rfl) (eq_slices_ContainsFunc_int_int (sem T) t0 t1) h

/-- slices.IndexFunc[[]int,int]. -/
def loop_slices_IndexFunc_int_int_0 : C :=
  .ops [⟨(some 9), none, .bin .lss (.s 8) (.s 7)⟩]
  (.cond (.s 9)
  (.blk 1
   (.ops [⟨(some 10), none, .mv (.s 8)⟩,
      ⟨(some 5), none, .mv (.s 10)⟩]
    (.ops [⟨(some 11), none, .mv (.s 1)⟩,
      ⟨(some 12), none, .mv (.s 0)⟩,
      ⟨(some 13), none, .mv (.s 5)⟩,
      ⟨(some 14), none, .iaddr none 1 (.s 12) (.s 13)⟩,
      ⟨(some 15), none, .load none (.s 14)⟩,
      ⟨(some 16), none, .callv (.s 11) [(.s 15)]⟩]
    (.cond (.s 16)
    (.ops [⟨(some 17), none, .mv (.s 5)⟩,
       ⟨(some 4), none, .mv (.s 17)⟩]
     (.ret))
    (.done)))) [] [10, 5, 11, 12, 13, 14, 15, 16, 17, 4]
   (.ops [⟨(some 18), none, .bin .add (.s 8) (.c (V.int .i64 1))⟩,
     ⟨(some 8), none, .mv (.s 18)⟩]
   (.done)))
  (.exit 0))

def ir_slices_IndexFunc_int_int : Fn' := ⟨19, [.tmp 4],
  .ops [⟨(some 4), none, .mv (.c (V.int .i64 0))⟩]
  (.ops [⟨(some 6), none, .mv (.s 0)⟩,
    ⟨(some 7), none, .len (.s 6)⟩,
    ⟨(some 8), none, .mv (.c (V.int .i64 0))⟩]
  (.blk 0
  (.loop loop_slices_IndexFunc_int_int_0 [8] [9, 10, 5, 11, 12, 13, 14, 15, 16, 17, 4, 18, 8]) [] [9, 10, 5, 11, 12, 13, 14, 15, 16, 17, 4, 18, 8]
  (.ops [⟨(some 4), none, .mv (.c (V.int .i64 (-1)))⟩]
  (.ret))))⟩

noncomputable def f_slices_IndexFunc_int_int_0 (G : Sem') (t7 t1 t0 : V) (L : List V) : M Res :=
  (M.lift (Ax.bin .lss (L.getD 0 .undef) t7)).bind fun t9 =>
  M.ite t9
    (M.blk 1 (
      (M.lift (Ax.iaddr none 1 t0 (L.getD 0 .undef))).bind fun t14 =>
      (mload none t14).bind fun t15 =>
      (callv G t1 [t15]).bind fun t16 =>
      M.ite t16
        (M.pure (.ret [(L.getD 0 .undef)]))
        (M.pure (.nrm []))) fun _ =>
    (M.lift (Ax.bin .add (L.getD 0 .undef) (V.int .i64 1))).bind fun t18 =>
    M.pure (.nrm [t18]))
    (M.pure (.ex 0 []))

noncomputable def f_slices_IndexFunc_int_int (G : Sem') (t0 t1 : V) : M Res :=
  (M.lift (vlen t0)).bind fun t7 =>
  M.blk 0 (
    M.iter (f_slices_IndexFunc_int_int_0 G t7 t1 t0) [(V.int .i64 0)]) fun _ =>
  M.pure (.ret [(V.int .i64 (-1))])

theorem eq_slices_IndexFunc_int_int (G : Sem') (t0 t1 : V) : execK G ir_slices_IndexFunc_int_int.rv ir_slices_IndexFunc_int_int.body [] [] (params 0 [t0, t1]) = f_slices_IndexFunc_int_int G t0 t1 := by kernel_rfl

theorem tb_slices_IndexFunc_int_int : T fn_slices_IndexFunc_int_int = some ir_slices_IndexFunc_int_int := by kernel_rfl

theorem ok_slices_IndexFunc_int_int {t0 t1 : V} {H : Heap} {Q : V → Heap → Prop} (h : Ok (f_slices_IndexFunc_int_int (sem T) t0 t1) H fun r H' => ∃ L, r = .ret L ∧ Q (tupled L) H') : Ok (sem T fn_slices_IndexFunc_int_int [t0, t1]) H Q :=
  ok_sem tb_slices_IndexFunc_int_int (Nat.le_of_ble_eq_true rfl) (eq_slices_IndexFunc_int_int (sem T) t0 t1) h

/-- palanquin/depend.layers. -/
def loop_depend_layers_0 : C :=
  .ops [⟨(some 13), none, .bin .lss (.s 12) (.s 11)⟩]
  (.cond (.s 13)
  (.blk 1
   (.ops [⟨(some 14), none, .mv (.s 12)⟩,
      ⟨(some 15), none, .iaddr none 5 (.s 10) (.s 12)⟩,
      ⟨(some 16), none, .load (some 5) (.s 15)⟩,
      ⟨(some 5), none, .box ty_depend_Template (.c (V.agg [(V.int .i64 0), (V.int .i64 0), V.nils, V.nils, V.nils]))⟩,
      ⟨(some 4), none, .mv (.s 14)⟩,
      ⟨none, none, .store 5 (.s 5) (.s 16)⟩]
    (.ops [⟨(some 18), none, .load (some 5) (.s 3)⟩,
      ⟨(some 19), none, .load (some 5) (.s 5)⟩,
      ⟨(some 20), none, .call fn_depend_next [(.s 18), (.s 19)]⟩,
      ⟨(some 17), none, .mv (.s 20)⟩,
      ⟨(some 21), none, .ext 0 (.s 17)⟩,
      ⟨(some 22), none, .ext 1 (.s 17)⟩,
      ⟨(some 6), none, .mv (.s 21)⟩,
      ⟨(some 7), none, .mv (.s 22)⟩]
    (.ops [⟨(some 23), none, .mv (.s 7)⟩,
      ⟨(some 24), none, .un .not (.s 23)⟩,
      ⟨(some 25), none, .mv (.s 24)⟩,
      ⟨(some 26), (some (25, false)), .mv (.s 4)⟩,
      ⟨(some 27), (some (25, false)), .bin .eql (.s 26) (.c (V.int .i64 0))⟩,
      ⟨(some 28), (some (25, false)), .mv (.s 27)⟩,
      ⟨(some 29), (some (28, true)), .mv (.s 6)⟩,
      ⟨(some 30), (some (28, true)), .bin .neq (.s 29) (.c (V.int .i64 0))⟩,
      ⟨(some 31), (some (25, false)), .pick (.s 28) (.s 30) (.c (V.bool false))⟩,
      ⟨(some 32), none, .pick (.s 25) (.c (V.bool true)) (.s 31)⟩,
      ⟨(some 33), none, .mv (.s 32)⟩,
      ⟨(some 34), (some (33, false)), .faddr 0 (.s 5)⟩,
      ⟨(some 35), (some (33, false)), .load none (.s 34)⟩,
      ⟨(some 36), (some (33, false)), .bin .gtr (.s 35) (.c (V.int .i64 3))⟩,
      ⟨(some 37), none, .pick (.s 33) (.c (V.bool true)) (.s 36)⟩,
      ⟨(some 38), none, .mv (.s 37)⟩,
      ⟨(some 39), (some (38, false)), .faddr 1 (.s 5)⟩,
      ⟨(some 40), (some (38, false)), .load none (.s 39)⟩,
      ⟨(some 41), (some (38, false)), .bin .gtr (.s 40) (.c (V.int .i64 7))⟩,
      ⟨(some 42), none, .pick (.s 38) (.c (V.bool true)) (.s 41)⟩]
    (.cond (.s 42)
    (.ops [⟨(some 2), none, .mv (.c (V.bool false))⟩]
     (.ret))
    (.ops [⟨(some 43), none, .load (some 5) (.s 5)⟩,
       ⟨none, none, .store 5 (.s 3) (.s 43)⟩]
     (.done)))))) [] [14, 15, 16, 5, 4, 18, 19, 20, 17, 21, 22, 6, 7, 23, 24, 25, 26, 27, 28, 29, 30, 31, 32, 33, 34, 35, 36, 37, 38, 39, 40, 41, 42, 2, 43]
   (.ops [⟨(some 44), none, .bin .add (.s 12) (.c (V.int .i64 1))⟩,
     ⟨(some 12), none, .mv (.s 44)⟩]
   (.done)))
  (.exit 0))

def ir_depend_layers : Fn' := ⟨55, [.tmp 2],
  .ops [⟨(some 1), none, .box ty_depend_Structure (.s 0)⟩,
    ⟨(some 2), none, .mv (.c (V.bool false))⟩]
  (.ops [⟨(some 8), none, .build [(V.int .i64 0), (V.int .i64 0), V.nils, V.nils, V.nils] []⟩,
    ⟨(some 3), none, .box ty_depend_Template (.c (V.agg [(V.int .i64 0), (V.int .i64 0), V.nils, V.nils, V.nils]))⟩,
    ⟨none, none, .store 5 (.s 3) (.s 8)⟩]
  (.ops [⟨(some 9), none, .faddr 2 (.s 1)⟩,
    ⟨(some 10), none, .load none (.s 9)⟩,
    ⟨(some 11), none, .len (.s 10)⟩,
    ⟨(some 12), none, .mv (.c (V.int .i64 0))⟩]
  (.blk 0
  (.loop loop_depend_layers_0 [12] [13, 14, 15, 16, 5, 4, 18, 19, 20, 17, 21, 22, 6, 7, 23, 24, 25, 26, 27, 28, 29, 30, 31, 32, 33, 34, 35, 36, 37, 38, 39, 40, 41, 42, 2, 43, 44, 12]) [] [13, 14, 15, 16, 5, 4, 18, 19, 20, 17, 21, 22, 6, 7, 23, 24, 25, 26, 27, 28, 29, 30, 31, 32, 33, 34, 35, 36, 37, 38, 39, 40, 41, 42, 2, 43, 44, 12]
  (.ops [⟨(some 45), none, .faddr 2 (.s 1)⟩,
    ⟨(some 46), none, .load none (.s 45)⟩,
    ⟨(some 47), none, .len (.s 46)⟩,
    ⟨(some 48), none, .bin .geq (.s 47) (.c (V.int .i64 1))⟩,
    ⟨(some 49), none, .mv (.s 48)⟩,
    ⟨(some 50), (some (49, true)), .faddr 2 (.s 1)⟩,
    ⟨(some 51), (some (49, true)), .load none (.s 50)⟩,
    ⟨(some 52), (some (49, true)), .len (.s 51)⟩,
    ⟨(some 53), (some (49, true)), .bin .leq (.s 52) (.c (V.int .i64 64))⟩,
    ⟨(some 54), none, .pick (.s 49) (.s 53) (.c (V.bool false))⟩,
    ⟨(some 2), none, .mv (.s 54)⟩]
  (.ret)))))⟩

noncomputable def f_depend_layers_0 (G : Sem') (t11 t10 t3 : V) (L : List V) : M Res :=
  (M.lift (Ax.bin .lss (L.getD 0 .undef) t11)).bind fun t13 =>
  M.ite t13
    (M.blk 1 (
      (M.lift (Ax.iaddr none 5 t10 (L.getD 0 .undef))).bind fun t15 =>
      (mload (some 5) t15).bind fun t16 =>
      (mbox ty_depend_Template (V.agg [(V.int .i64 0), (V.int .i64 0), V.nils, V.nils, V.nils])).bind fun t5 =>
      (mstore 5 t5 t16).bind fun _ =>
      (mload (some 5) t3).bind fun t18 =>
      (mload (some 5) t5).bind fun t19 =>
      (G fn_depend_next [t18, t19]).bind fun t20 =>
      (M.lift (Ax.ext 0 t20)).bind fun t21 =>
      (M.lift (Ax.ext 1 t20)).bind fun t22 =>
      (M.lift (Ax.un .not t22)).bind fun t24 =>
      (guarded [(0, t24)] (some (0, false)) (M.pure (L.getD 0 .undef))).bind fun t26 =>
      (guarded [(0, t24)] (some (0, false)) (M.lift (Ax.bin .eql t26 (V.int .i64 0)))).bind fun t27 =>
      (guarded [(0, t24)] (some (0, false)) (M.pure t27)).bind fun t28 =>
      (guarded [(0, t28)] (some (0, true)) (M.pure t21)).bind fun t29 =>
      (guarded [(0, t28)] (some (0, true)) (M.lift (Ax.bin .neq t29 (V.int .i64 0)))).bind fun t30 =>
      (guarded [(0, t24)] (some (0, false)) (M.lift (Ax.pick t28 t30 (V.bool false)))).bind fun t31 =>
      (M.lift (Ax.pick t24 (V.bool true) t31)).bind fun t32 =>
      (guarded [(0, t32)] (some (0, false)) (M.lift (Ax.faddr 0 t5))).bind fun t34 =>
      (guarded [(0, t32)] (some (0, false)) (mload none t34)).bind fun t35 =>
      (guarded [(0, t32)] (some (0, false)) (M.lift (Ax.bin .gtr t35 (V.int .i64 3)))).bind fun t36 =>
      (M.lift (Ax.pick t32 (V.bool true) t36)).bind fun t37 =>
      (guarded [(0, t37)] (some (0, false)) (M.lift (Ax.faddr 1 t5))).bind fun t39 =>
      (guarded [(0, t37)] (some (0, false)) (mload none t39)).bind fun t40 =>
      (guarded [(0, t37)] (some (0, false)) (M.lift (Ax.bin .gtr t40 (V.int .i64 7)))).bind fun t41 =>
      (M.lift (Ax.pick t37 (V.bool true) t41)).bind fun t42 =>
      M.ite t42
        (M.pure (.ret [(V.bool false)]))
        ((mload (some 5) t5).bind fun t43 =>
        (mstore 5 t3 t43).bind fun _ =>
        M.pure (.nrm []))) fun _ =>
    (M.lift (Ax.bin .add (L.getD 0 .undef) (V.int .i64 1))).bind fun t44 =>
    M.pure (.nrm [t44]))
    (M.pure (.ex 0 []))

noncomputable def f_depend_layers (G : Sem') (t0 : V) : M Res :=
  (mbox ty_depend_Structure t0).bind fun t1 =>
  (M.lift (Ax.build [(V.int .i64 0), (V.int .i64 0), V.nils, V.nils, V.nils] [])).bind fun t8 =>
  (mbox ty_depend_Template (V.agg [(V.int .i64 0), (V.int .i64 0), V.nils, V.nils, V.nils])).bind fun t3 =>
  (mstore 5 t3 t8).bind fun _ =>
  (M.lift (Ax.faddr 2 t1)).bind fun t9 =>
  (mload none t9).bind fun t10 =>
  (M.lift (vlen t10)).bind fun t11 =>
  M.blk 0 (
    M.iter (f_depend_layers_0 G t11 t10 t3) [(V.int .i64 0)]) fun _ =>
  (M.lift (Ax.faddr 2 t1)).bind fun t45 =>
  (mload none t45).bind fun t46 =>
  (M.lift (vlen t46)).bind fun t47 =>
  (M.lift (Ax.bin .geq t47 (V.int .i64 1))).bind fun t48 =>
  (guarded [(0, t48)] (some (0, true)) (M.lift (Ax.faddr 2 t1))).bind fun t50 =>
  (guarded [(0, t48)] (some (0, true)) (mload none t50)).bind fun t51 =>
  (guarded [(0, t48)] (some (0, true)) (M.lift (vlen t51))).bind fun t52 =>
  (guarded [(0, t48)] (some (0, true)) (M.lift (Ax.bin .leq t52 (V.int .i64 64)))).bind fun t53 =>
  (M.lift (Ax.pick t48 t53 (V.bool false))).bind fun t54 =>
  M.pure (.ret [t54])

theorem eq_depend_layers (G : Sem') (t0 : V) : execK G ir_depend_layers.rv ir_depend_layers.body [] [] (params 0 [t0]) = f_depend_layers G t0 := by kernel_rfl

theorem tb_depend_layers : T fn_depend_layers = some ir_depend_layers := by kernel_rfl

theorem ok_depend_layers {t0 : V} {H : Heap} {Q : V → Heap → Prop} (h : Ok (f_depend_layers (sem T) t0) H fun r H' => ∃ L, r = .ret L ∧ Q (tupled L) H') : Ok (sem T fn_depend_layers [t0]) H Q :=
  ok_sem tb_depend_layers (Nat.le_of_ble_eq_true rfl) (eq_depend_layers (sem T) t0) h

/-- palanquin/depend.next. -/
def ir_depend_next : Fn' := ⟨45, [.tmp 4, .tmp 5],
  .ops [⟨(some 2), none, .box ty_depend_Template (.s 0)⟩,
    ⟨(some 3), none, .box ty_depend_Template (.s 1)⟩,
    ⟨(some 4), none, .mv (.c (V.int .i64 0))⟩,
    ⟨(some 5), none, .mv (.c (V.bool false))⟩]
  (.blk 0
  (.ops [⟨(some 7), none, .faddr 0 (.s 3)⟩,
     ⟨(some 8), none, .load none (.s 7)⟩,
     ⟨(some 9), none, .faddr 0 (.s 2)⟩,
     ⟨(some 10), none, .load none (.s 9)⟩,
     ⟨(some 11), none, .bin .eql (.s 8) (.s 10)⟩,
     ⟨(some 12), none, .mv (.s 11)⟩,
     ⟨(some 13), (some (12, true)), .faddr 1 (.s 3)⟩,
     ⟨(some 14), (some (12, true)), .load none (.s 13)⟩,
     ⟨(some 15), (some (12, true)), .faddr 1 (.s 2)⟩,
     ⟨(some 16), (some (12, true)), .load none (.s 15)⟩,
     ⟨(some 17), (some (12, true)), .bin .eql (.s 14) (.s 16)⟩,
     ⟨(some 18), none, .pick (.s 12) (.s 17) (.c (V.bool false))⟩,
     ⟨(some 6), none, .mv (.s 18)⟩]
   (.cond (.s 6)
   (.ops [⟨(some 4), none, .mv (.c (V.int .i64 0))⟩,
      ⟨(some 5), none, .mv (.c (V.bool true))⟩]
    (.ret))
   (.ops [⟨(some 20), none, .faddr 0 (.s 3)⟩,
      ⟨(some 21), none, .load none (.s 20)⟩,
      ⟨(some 22), none, .faddr 0 (.s 2)⟩,
      ⟨(some 23), none, .load none (.s 22)⟩,
      ⟨(some 24), none, .bin .eql (.s 21) (.s 23)⟩,
      ⟨(some 25), none, .mv (.s 24)⟩,
      ⟨(some 26), (some (25, true)), .faddr 1 (.s 3)⟩,
      ⟨(some 27), (some (25, true)), .load none (.s 26)⟩,
      ⟨(some 28), (some (25, true)), .faddr 1 (.s 2)⟩,
      ⟨(some 29), (some (25, true)), .load none (.s 28)⟩,
      ⟨(some 30), (some (25, true)), .bin .add (.s 29) (.c (V.int .i64 1))⟩,
      ⟨(some 31), (some (25, true)), .bin .eql (.s 27) (.s 30)⟩,
      ⟨(some 32), none, .pick (.s 25) (.s 31) (.c (V.bool false))⟩,
      ⟨(some 19), none, .mv (.s 32)⟩]
    (.cond (.s 19)
    (.ops [⟨(some 4), none, .mv (.c (V.int .i64 1))⟩,
       ⟨(some 5), none, .mv (.c (V.bool true))⟩]
     (.ret))
    (.ops [⟨(some 34), none, .faddr 0 (.s 3)⟩,
       ⟨(some 35), none, .load none (.s 34)⟩,
       ⟨(some 36), none, .faddr 0 (.s 2)⟩,
       ⟨(some 37), none, .load none (.s 36)⟩,
       ⟨(some 38), none, .bin .add (.s 37) (.c (V.int .i64 1))⟩,
       ⟨(some 39), none, .bin .eql (.s 35) (.s 38)⟩,
       ⟨(some 40), none, .mv (.s 39)⟩,
       ⟨(some 41), (some (40, true)), .faddr 1 (.s 3)⟩,
       ⟨(some 42), (some (40, true)), .load none (.s 41)⟩,
       ⟨(some 43), (some (40, true)), .bin .eql (.s 42) (.c (V.int .i64 0))⟩,
       ⟨(some 44), none, .pick (.s 40) (.s 43) (.c (V.bool false))⟩,
       ⟨(some 33), none, .mv (.s 44)⟩]
     (.cond (.s 33)
     (.ops [⟨(some 4), none, .mv (.c (V.int .i64 2))⟩,
        ⟨(some 5), none, .mv (.c (V.bool true))⟩]
      (.ret))
     (.done))))))) [] [7, 8, 9, 10, 11, 12, 13, 14, 15, 16, 17, 18, 6, 4, 5, 20, 21, 22, 23, 24, 25, 26, 27, 28, 29, 30, 31, 32, 19, 4, 5, 34, 35, 36, 37, 38, 39, 40, 41, 42, 43, 44, 33, 4, 5]
  (.ops [⟨(some 4), none, .mv (.c (V.int .i64 0))⟩,
    ⟨(some 5), none, .mv (.c (V.bool false))⟩]
  (.ret)))⟩

noncomputable def f_depend_next (G : Sem') (t0 t1 : V) : M Res :=
  (mbox ty_depend_Template t0).bind fun t2 =>
  (mbox ty_depend_Template t1).bind fun t3 =>
  M.blk 0 (
    (M.lift (Ax.faddr 0 t3)).bind fun t7 =>
    (mload none t7).bind fun t8 =>
    (M.lift (Ax.faddr 0 t2)).bind fun t9 =>
    (mload none t9).bind fun t10 =>
    (M.lift (Ax.bin .eql t8 t10)).bind fun t11 =>
    (guarded [(0, t11)] (some (0, true)) (M.lift (Ax.faddr 1 t3))).bind fun t13 =>
    (guarded [(0, t11)] (some (0, true)) (mload none t13)).bind fun t14 =>
    (guarded [(0, t11)] (some (0, true)) (M.lift (Ax.faddr 1 t2))).bind fun t15 =>
    (guarded [(0, t11)] (some (0, true)) (mload none t15)).bind fun t16 =>
    (guarded [(0, t11)] (some (0, true)) (M.lift (Ax.bin .eql t14 t16))).bind fun t17 =>
    (M.lift (Ax.pick t11 t17 (V.bool false))).bind fun t18 =>
    M.ite t18
      (M.pure (.ret [(V.int .i64 0), (V.bool true)]))
      ((M.lift (Ax.faddr 0 t3)).bind fun t20 =>
      (mload none t20).bind fun t21 =>
      (M.lift (Ax.faddr 0 t2)).bind fun t22 =>
      (mload none t22).bind fun t23 =>
      (M.lift (Ax.bin .eql t21 t23)).bind fun t24 =>
      (guarded [(0, t24)] (some (0, true)) (M.lift (Ax.faddr 1 t3))).bind fun t26 =>
      (guarded [(0, t24)] (some (0, true)) (mload none t26)).bind fun t27 =>
      (guarded [(0, t24)] (some (0, true)) (M.lift (Ax.faddr 1 t2))).bind fun t28 =>
      (guarded [(0, t24)] (some (0, true)) (mload none t28)).bind fun t29 =>
      (guarded [(0, t24)] (some (0, true)) (M.lift (Ax.bin .add t29 (V.int .i64 1)))).bind fun t30 =>
      (guarded [(0, t24)] (some (0, true)) (M.lift (Ax.bin .eql t27 t30))).bind fun t31 =>
      (M.lift (Ax.pick t24 t31 (V.bool false))).bind fun t32 =>
      M.ite t32
        (M.pure (.ret [(V.int .i64 1), (V.bool true)]))
        ((M.lift (Ax.faddr 0 t3)).bind fun t34 =>
        (mload none t34).bind fun t35 =>
        (M.lift (Ax.faddr 0 t2)).bind fun t36 =>
        (mload none t36).bind fun t37 =>
        (M.lift (Ax.bin .add t37 (V.int .i64 1))).bind fun t38 =>
        (M.lift (Ax.bin .eql t35 t38)).bind fun t39 =>
        (guarded [(0, t39)] (some (0, true)) (M.lift (Ax.faddr 1 t3))).bind fun t41 =>
        (guarded [(0, t39)] (some (0, true)) (mload none t41)).bind fun t42 =>
        (guarded [(0, t39)] (some (0, true)) (M.lift (Ax.bin .eql t42 (V.int .i64 0)))).bind fun t43 =>
        (M.lift (Ax.pick t39 t43 (V.bool false))).bind fun t44 =>
        M.ite t44
          (M.pure (.ret [(V.int .i64 2), (V.bool true)]))
          (M.pure (.nrm []))))) fun _ =>
  M.pure (.ret [(V.int .i64 0), (V.bool false)])

theorem eq_depend_next (G : Sem') (t0 t1 : V) : execK G ir_depend_next.rv ir_depend_next.body [] [] (params 0 [t0, t1]) = f_depend_next G t0 t1 := by kernel_rfl

theorem tb_depend_next : T fn_depend_next = some ir_depend_next := by kernel_rfl

theorem ok_depend_next {t0 t1 : V} {H : Heap} {Q : V → Heap → Prop} (h : Ok (f_depend_next (sem T) t0 t1) H fun r H' => ∃ L, r = .ret L ∧ Q (tupled L) H') : Ok (sem T fn_depend_next [t0, t1]) H Q :=
  ok_sem tb_depend_next (Nat.le_of_ble_eq_true rfl) (eq_depend_next (sem T) t0 t1) h

/-- palanquin/depend.spatial. -/
def loop_depend_spatial_0 : C :=
  .ops [⟨(some 10), none, .bin .lss (.s 9) (.s 8)⟩]
  (.cond (.s 10)
  (.blk 1
   (.ops [⟨(some 11), none, .iaddr none 5 (.s 7) (.s 9)⟩,
      ⟨(some 12), none, .load (some 5) (.s 11)⟩,
      ⟨(some 5), none, .box ty_depend_Template (.c (V.agg [(V.int .i64 0), (V.int .i64 0), V.nils, V.nils, V.nils]))⟩,
      ⟨none, none, .store 5 (.s 5) (.s 12)⟩]
    (.ops [⟨(some 13), none, .mv (.s 3)⟩,
      ⟨(some 14), none, .faddr 0 (.s 5)⟩,
      ⟨(some 15), none, .load none (.s 14)⟩,
      ⟨(some 16), none, .bin .add (.s 15) (.c (V.int .i64 1))⟩,
      ⟨(some 17), none, .minmax true (.s 13) [(.s 16)]⟩,
      ⟨(some 3), none, .mv (.s 17)⟩]
    (.done))) [3] [11, 12, 5, 13, 14, 15, 16, 17, 3]
   (.ops [⟨(some 18), none, .bin .add (.s 9) (.c (V.int .i64 1))⟩,
     ⟨(some 9), none, .mv (.s 18)⟩]
   (.done)))
  (.exit 0))

def ir_depend_spatial : Fn' := ⟨20, [.tmp 2],
  .ops [⟨(some 1), none, .box ty_depend_Structure (.s 0)⟩,
    ⟨(some 2), none, .mv (.c (V.int .i64 0))⟩]
  (.ops [⟨(some 3), none, .mv (.c (V.int .i64 0))⟩]
  (.ops [⟨(some 6), none, .faddr 2 (.s 1)⟩,
    ⟨(some 7), none, .load none (.s 6)⟩,
    ⟨(some 8), none, .len (.s 7)⟩,
    ⟨(some 9), none, .mv (.c (V.int .i64 0))⟩]
  (.blk 0
  (.loop loop_depend_spatial_0 [3, 9] [10, 11, 12, 5, 13, 14, 15, 16, 17, 3, 18, 9]) [3] [10, 11, 12, 5, 13, 14, 15, 16, 17, 3, 18, 9]
  (.ops [⟨(some 19), none, .mv (.s 3)⟩,
    ⟨(some 2), none, .mv (.s 19)⟩]
  (.ret)))))⟩

noncomputable def f_depend_spatial_0 (G : Sem') (t8 t7 t2 : V) (L : List V) : M Res :=
  (M.lift (Ax.bin .lss (L.getD 1 .undef) t8)).bind fun t10 =>
  M.ite t10
    (M.blk 1 (
      (M.lift (Ax.iaddr none 5 t7 (L.getD 1 .undef))).bind fun t11 =>
      (mload (some 5) t11).bind fun t12 =>
      (mbox ty_depend_Template (V.agg [(V.int .i64 0), (V.int .i64 0), V.nils, V.nils, V.nils])).bind fun t5 =>
      (mstore 5 t5 t12).bind fun _ =>
      (M.lift (Ax.faddr 0 t5)).bind fun t14 =>
      (mload none t14).bind fun t15 =>
      (M.lift (Ax.bin .add t15 (V.int .i64 1))).bind fun t16 =>
      (M.lift (Ax.minmax true (L.getD 0 .undef) [t16])).bind fun t17 =>
      M.pure (.nrm [t17])) fun L0 =>
    (M.lift (Ax.bin .add (L.getD 1 .undef) (V.int .i64 1))).bind fun t18 =>
    M.pure (.nrm [(L0.getD 0 .undef), t18]))
    (M.pure (.ex 0 [(L.getD 0 .undef)]))

noncomputable def f_depend_spatial (G : Sem') (t0 : V) : M Res :=
  (mbox ty_depend_Structure t0).bind fun t1 =>
  (M.lift (Ax.faddr 2 t1)).bind fun t6 =>
  (mload none t6).bind fun t7 =>
  (M.lift (vlen t7)).bind fun t8 =>
  M.blk 0 (
    M.iter (f_depend_spatial_0 G t8 t7 (V.int .i64 0)) [(V.int .i64 0), (V.int .i64 0)]) fun L1 =>
  M.pure (.ret [(L1.getD 0 .undef)])

theorem eq_depend_spatial (G : Sem') (t0 : V) : execK G ir_depend_spatial.rv ir_depend_spatial.body [] [] (params 0 [t0]) = f_depend_spatial G t0 := by kernel_rfl

theorem tb_depend_spatial : T fn_depend_spatial = some ir_depend_spatial := by kernel_rfl

theorem ok_depend_spatial {t0 : V} {H : Heap} {Q : V → Heap → Prop} (h : Ok (f_depend_spatial (sem T) t0) H fun r H' => ∃ L, r = .ret L ∧ Q (tupled L) H') : Ok (sem T fn_depend_spatial [t0]) H Q :=
  ok_sem tb_depend_spatial (Nat.le_of_ble_eq_true rfl) (eq_depend_spatial (sem T) t0) h

/-- palanquin/depend.Fine$1. -/
def ir_depend_Fine_1 : Fn' := ⟨8, [.tmp 3],
  .ops [⟨(some 2), none, .box ty_depend_Template (.s 0)⟩,
    ⟨(some 3), none, .mv (.c (V.bool false))⟩]
  (.ops [⟨(some 4), none, .load (some 6) (.s 1)⟩,
    ⟨(some 5), none, .load (some 5) (.s 2)⟩,
    ⟨(some 6), none, .call fn_depend_Structure_fine [(.s 4), (.s 5)]⟩,
    ⟨(some 7), none, .un .not (.s 6)⟩,
    ⟨(some 3), none, .mv (.s 7)⟩]
  (.ret))⟩

noncomputable def f_depend_Fine_1 (G : Sem') (t0 t1 : V) : M Res :=
  (mbox ty_depend_Template t0).bind fun t2 =>
  (mload (some 6) t1).bind fun t4 =>
  (mload (some 5) t2).bind fun t5 =>
  (G fn_depend_Structure_fine [t4, t5]).bind fun t6 =>
  (M.lift (Ax.un .not t6)).bind fun t7 =>
  M.pure (.ret [t7])

theorem eq_depend_Fine_1 (G : Sem') (t0 t1 : V) : execK G ir_depend_Fine_1.rv ir_depend_Fine_1.body [] [] (params 0 [t0, t1]) = f_depend_Fine_1 G t0 t1 := by kernel_rfl

theorem tb_depend_Fine_1 : T fn_depend_Fine_1 = some ir_depend_Fine_1 := by kernel_rfl

theorem ok_depend_Fine_1 {t0 t1 : V} {H : Heap} {Q : V → Heap → Prop} (h : Ok (f_depend_Fine_1 (sem T) t0 t1) H fun r H' => ∃ L, r = .ret L ∧ Q (tupled L) H') : Ok (sem T fn_depend_Fine_1 [t0, t1]) H Q :=
  ok_sem tb_depend_Fine_1 (Nat.le_of_ble_eq_true rfl) (eq_depend_Fine_1 (sem T) t0 t1) h

/-- (palanquin/depend.Structure).fine. -/
def ir_depend_Structure_fine : Fn' := ⟨22, [.tmp 4],
  .ops [⟨(some 2), none, .box ty_depend_Structure (.s 0)⟩,
    ⟨(some 3), none, .box ty_depend_Template (.s 1)⟩,
    ⟨(some 4), none, .mv (.c (V.bool false))⟩]
  (.ops [⟨(some 5), none, .faddr 2 (.s 3)⟩,
    ⟨(some 6), none, .load none (.s 5)⟩,
    ⟨(some 7), none, .faddr 1 (.s 2)⟩,
    ⟨(some 8), none, .load none (.s 7)⟩,
    ⟨(some 9), none, .call fn_depend_within [(.s 6), (.s 8), (.c (V.int .i64 0)), (.c (V.int .i64 3))]⟩,
    ⟨(some 10), none, .mv (.s 9)⟩,
    ⟨(some 11), (some (10, true)), .faddr 3 (.s 3)⟩,
    ⟨(some 12), (some (10, true)), .load none (.s 11)⟩,
    ⟨(some 13), (some (10, true)), .call fn_depend_diffs [(.s 12), (.c (V.int .i64 8)), (.c (V.int .i64 16))]⟩,
    ⟨(some 14), none, .pick (.s 10) (.s 13) (.c (V.bool false))⟩,
    ⟨(some 15), none, .mv (.s 14)⟩,
    ⟨(some 16), (some (15, true)), .faddr 4 (.s 3)⟩,
    ⟨(some 17), (some (15, true)), .load none (.s 16)⟩,
    ⟨(some 18), (some (15, true)), .faddr 3 (.s 2)⟩,
    ⟨(some 19), (some (15, true)), .load none (.s 18)⟩,
    ⟨(some 20), (some (15, true)), .call fn_depend_within [(.s 17), (.s 19), (.c (V.int .i64 0)), (.c (V.int .i64 15))]⟩,
    ⟨(some 21), none, .pick (.s 15) (.s 20) (.c (V.bool false))⟩,
    ⟨(some 4), none, .mv (.s 21)⟩]
  (.ret))⟩

noncomputable def f_depend_Structure_fine (G : Sem') (t0 t1 : V) : M Res :=
  (mbox ty_depend_Structure t0).bind fun t2 =>
  (mbox ty_depend_Template t1).bind fun t3 =>
  (M.lift (Ax.faddr 2 t3)).bind fun t5 =>
  (mload none t5).bind fun t6 =>
  (M.lift (Ax.faddr 1 t2)).bind fun t7 =>
  (mload none t7).bind fun t8 =>
  (G fn_depend_within [t6, t8, (V.int .i64 0), (V.int .i64 3)]).bind fun t9 =>
  (guarded [(0, t9)] (some (0, true)) (M.lift (Ax.faddr 3 t3))).bind fun t11 =>
  (guarded [(0, t9)] (some (0, true)) (mload none t11)).bind fun t12 =>
  (guarded [(0, t9)] (some (0, true)) (G fn_depend_diffs [t12, (V.int .i64 8), (V.int .i64 16)])).bind fun t13 =>
  (M.lift (Ax.pick t9 t13 (V.bool false))).bind fun t14 =>
  (guarded [(0, t14)] (some (0, true)) (M.lift (Ax.faddr 4 t3))).bind fun t16 =>
  (guarded [(0, t14)] (some (0, true)) (mload none t16)).bind fun t17 =>
  (guarded [(0, t14)] (some (0, true)) (M.lift (Ax.faddr 3 t2))).bind fun t18 =>
  (guarded [(0, t14)] (some (0, true)) (mload none t18)).bind fun t19 =>
  (guarded [(0, t14)] (some (0, true)) (G fn_depend_within [t17, t19, (V.int .i64 0), (V.int .i64 15)])).bind fun t20 =>
  (M.lift (Ax.pick t14 t20 (V.bool false))).bind fun t21 =>
  M.pure (.ret [t21])

theorem eq_depend_Structure_fine (G : Sem') (t0 t1 : V) : execK G ir_depend_Structure_fine.rv ir_depend_Structure_fine.body [] [] (params 0 [t0, t1]) = f_depend_Structure_fine G t0 t1 := by kernel_rfl

theorem tb_depend_Structure_fine : T fn_depend_Structure_fine = some ir_depend_Structure_fine := by kernel_rfl

theorem ok_depend_Structure_fine {t0 t1 : V} {H : Heap} {Q : V → Heap → Prop} (h : Ok (f_depend_Structure_fine (sem T) t0 t1) H fun r H' => ∃ L, r = .ret L ∧ Q (tupled L) H') : Ok (sem T fn_depend_Structure_fine [t0, t1]) H Q :=
  ok_sem tb_depend_Structure_fine (Nat.le_of_ble_eq_true rfl) (eq_depend_Structure_fine (sem T) t0 t1) h

/-- palanquin/depend.diffs. -/
def ir_depend_diffs : Fn' := ⟨18, [.tmp 6],
  .ops [⟨(some 6), none, .mv (.c (V.bool false))⟩]
  (.ops [⟨(some 7), none, .mv (.s 0)⟩,
    ⟨(some 8), none, .len (.s 7)⟩,
    ⟨(some 9), none, .mv (.s 1)⟩,
    ⟨(some 10), none, .bin .leq (.s 8) (.s 9)⟩,
    ⟨(some 11), none, .mv (.s 10)⟩,
    ⟨(some 12), (some (11, true)), .mv (.s 0)⟩,
    ⟨(some 13), (some (11, true)), .mv (.s 0)⟩,
    ⟨(some 14), (some (11, true)), .len (.s 13)⟩,
    ⟨(some 15), (some (11, true)), .mv (.s 2)⟩,
    ⟨(some 16), (some (11, true)), .call fn_depend_within [(.s 12), (.s 14), (.c (V.int .i64 1)), (.s 15)]⟩,
    ⟨(some 17), none, .pick (.s 11) (.s 16) (.c (V.bool false))⟩,
    ⟨(some 6), none, .mv (.s 17)⟩]
  (.ret))⟩

noncomputable def f_depend_diffs (G : Sem') (t0 t1 t2 : V) : M Res :=
  (M.lift (vlen t0)).bind fun t8 =>
  (M.lift (Ax.bin .leq t8 t1)).bind fun t10 =>
  (guarded [(0, t10)] (some (0, true)) (M.pure t0)).bind fun t12 =>
  (guarded [(0, t10)] (some (0, true)) (M.pure t0)).bind fun t13 =>
  (guarded [(0, t10)] (some (0, true)) (M.lift (vlen t13))).bind fun t14 =>
  (guarded [(0, t10)] (some (0, true)) (M.pure t2)).bind fun t15 =>
  (guarded [(0, t10)] (some (0, true)) (G fn_depend_within [t12, t14, (V.int .i64 1), t15])).bind fun t16 =>
  (M.lift (Ax.pick t10 t16 (V.bool false))).bind fun t17 =>
  M.pure (.ret [t17])

theorem eq_depend_diffs (G : Sem') (t0 t1 t2 : V) : execK G ir_depend_diffs.rv ir_depend_diffs.body [] [] (params 0 [t0, t1, t2]) = f_depend_diffs G t0 t1 t2 := by kernel_rfl

theorem tb_depend_diffs : T fn_depend_diffs = some ir_depend_diffs := by kernel_rfl

theorem ok_depend_diffs {t0 t1 t2 : V} {H : Heap} {Q : V → Heap → Prop} (h : Ok (f_depend_diffs (sem T) t0 t1 t2) H fun r H' => ∃ L, r = .ret L ∧ Q (tupled L) H') : Ok (sem T fn_depend_diffs [t0, t1, t2]) H Q :=
  ok_sem tb_depend_diffs (Nat.le_of_ble_eq_true rfl) (eq_depend_diffs (sem T) t0 t1 t2) h

/-- slices.ContainsFunc[[]palanquin/depend.Template,palanquin/depend.Template]. -/
def ir_slices_ContainsFunc_depend_Template_depend_Template : Fn' := ⟨9, [.tmp 4],
  .ops [⟨(some 4), none, .mv (.c (V.bool false))⟩]
  (.ops [⟨(some 5), none, .mv (.s 0)⟩,
    ⟨(some 6), none, .mv (.s 1)⟩,
    ⟨(some 7), none, .call fn_slices_IndexFunc_depend_Template_depend_Template [(.s 5), (.s 6)]⟩,
    ⟨(some 8), none, .bin .geq (.s 7) (.c (V.int .i64 0))⟩,
    ⟨(some 4), none, .mv (.s 8)⟩]
  (.ret))⟩

noncomputable def f_slices_ContainsFunc_depend_Template_depend_Template (G : Sem') (t0 t1 : V) : M Res :=
  (G fn_slices_IndexFunc_depend_Template_depend_Template [t0, t1]).bind fun t7 =>
  (M.lift (Ax.bin .geq t7 (V.int .i64 0))).bind fun t8 =>
  M.pure (.ret [t8])

theorem eq_slices_ContainsFunc_depend_Template_depend_Template (G : Sem') (t0 t1 : V) : execK G ir_slices_ContainsFunc_depend_Template_depend_Template.rv ir_slices_ContainsFunc_depend_Template_depend_Template.body [] [] (params 0 [t0, t1]) = f_slices_ContainsFunc_depend_Template_depend_Template G t0 t1 := by kernel_rfl

theorem tb_slices_ContainsFunc_depend_Template_depend_Template : T fn_slices_ContainsFunc_depend_Template_depend_Template = some ir_slices_ContainsFunc_depend_Template_depend_Template := by kernel_rfl

theorem ok_slices_ContainsFunc_depend_Template_depend_Template {t0 t1 : V} {H : Heap} {Q : V → Heap → Prop} (h : Ok (f_slices_ContainsFunc_depend_Template_depend_Template (sem T) t0 t1) H fun r H' => ∃ L, r = .ret L ∧ Q (tupled L) H') : Ok (sem T fn_slices_ContainsFunc_depend_Template_depend_Template [t0, t1]) H Q :=
  ok_sem tb_slices_ContainsFunc_depend_Template_depend_Template (Nat.le_of_ble_eq_true rfl) (eq_slices_ContainsFunc_depend_Template_depend_Template (sem T) t0 t1) h

/-- slices.IndexFunc[[]palanquin/depend.Template,palanquin/depend.Template]. -/
def loop_slices_IndexFunc_depend_Template_depend_Template_0 : C :=
  .ops [⟨(some 9), none, .bin .lss (.s 8) (.s 7)⟩]
  (.cond (.s 9)
  (.blk 1
   (.ops [⟨(some 10), none, .mv (.s 8)⟩,
      ⟨(some 5), none, .mv (.s 10)⟩]
    (.ops [⟨(some 11), none, .mv (.s 1)⟩,
      ⟨(some 12), none, .mv (.s 0)⟩,
      ⟨(some 13), none, .mv (.s 5)⟩,
      ⟨(some 14), none, .iaddr none 5 (.s 12) (.s 13)⟩,
      ⟨(some 15), none, .load (some 5) (.s 14)⟩,
      ⟨(some 16), none, .callv (.s 11) [(.s 15)]⟩]
    (.cond (.s 16)
    (.ops [⟨(some 17), none, .mv (.s 5)⟩,
       ⟨(some 4), none, .mv (.s 17)⟩]
     (.ret))
    (.done)))) [] [10, 5, 11, 12, 13, 14, 15, 16, 17, 4]
   (.ops [⟨(some 18), none, .bin .add (.s 8) (.c (V.int .i64 1))⟩,
     ⟨(some 8), none, .mv (.s 18)⟩]
   (.done)))
  (.exit 0))

def ir_slices_IndexFunc_depend_Template_depend_Template : Fn' := ⟨19, [.tmp 4],
  .ops [⟨(some 4), none, .mv (.c (V.int .i64 0))⟩]
  (.ops [⟨(some 6), none, .mv (.s 0)⟩,
    ⟨(some 7), none, .len (.s 6)⟩,
    ⟨(some 8), none, .mv (.c (V.int .i64 0))⟩]
  (.blk 0
  (.loop loop_slices_IndexFunc_depend_Template_depend_Template_0 [8] [9, 10, 5, 11, 12, 13, 14, 15, 16, 17, 4, 18, 8]) [] [9, 10, 5, 11, 12, 13, 14, 15, 16, 17, 4, 18, 8]
  (.ops [⟨(some 4), none, .mv (.c (V.int .i64 (-1)))⟩]
  (.ret))))⟩

noncomputable def f_slices_IndexFunc_depend_Template_depend_Template_0 (G : Sem') (t7 t1 t0 : V) (L : List V) : M Res :=
  (M.lift (Ax.bin .lss (L.getD 0 .undef) t7)).bind fun t9 =>
  M.ite t9
    (M.blk 1 (
      (M.lift (Ax.iaddr none 5 t0 (L.getD 0 .undef))).bind fun t14 =>
      (mload (some 5) t14).bind fun t15 =>
      (callv G t1 [t15]).bind fun t16 =>
      M.ite t16
        (M.pure (.ret [(L.getD 0 .undef)]))
        (M.pure (.nrm []))) fun _ =>
    (M.lift (Ax.bin .add (L.getD 0 .undef) (V.int .i64 1))).bind fun t18 =>
    M.pure (.nrm [t18]))
    (M.pure (.ex 0 []))

noncomputable def f_slices_IndexFunc_depend_Template_depend_Template (G : Sem') (t0 t1 : V) : M Res :=
  (M.lift (vlen t0)).bind fun t7 =>
  M.blk 0 (
    M.iter (f_slices_IndexFunc_depend_Template_depend_Template_0 G t7 t1 t0) [(V.int .i64 0)]) fun _ =>
  M.pure (.ret [(V.int .i64 (-1))])

theorem eq_slices_IndexFunc_depend_Template_depend_Template (G : Sem') (t0 t1 : V) : execK G ir_slices_IndexFunc_depend_Template_depend_Template.rv ir_slices_IndexFunc_depend_Template_depend_Template.body [] [] (params 0 [t0, t1]) = f_slices_IndexFunc_depend_Template_depend_Template G t0 t1 := by kernel_rfl

theorem tb_slices_IndexFunc_depend_Template_depend_Template : T fn_slices_IndexFunc_depend_Template_depend_Template = some ir_slices_IndexFunc_depend_Template_depend_Template := by kernel_rfl

theorem ok_slices_IndexFunc_depend_Template_depend_Template {t0 t1 : V} {H : Heap} {Q : V → Heap → Prop} (h : Ok (f_slices_IndexFunc_depend_Template_depend_Template (sem T) t0 t1) H fun r H' => ∃ L, r = .ret L ∧ Q (tupled L) H') : Ok (sem T fn_slices_IndexFunc_depend_Template_depend_Template [t0, t1]) H Q :=
  ok_sem tb_slices_IndexFunc_depend_Template_depend_Template (Nat.le_of_ble_eq_true rfl) (eq_slices_IndexFunc_depend_Template_depend_Template (sem T) t0 t1) h

/-- palanquin/depend.template. -/
def ir_depend_template : Fn' := ⟨32, [.cell 4 (some 5), .tmp 5],
  .ops [⟨(some 2), none, .box ty_depend_Structure (.s 0)⟩,
    ⟨(some 4), none, .box ty_depend_Template (.c (V.agg [(V.int .i64 0), (V.int .i64 0), V.nils, V.nils, V.nils]))⟩,
    ⟨(some 5), none, .mv (.c (V.bool false))⟩]
  (.ops [⟨(some 7), none, .mv (.s 1)⟩,
    ⟨(some 8), none, .bin .lss (.s 7) (.c (V.int .i64 0))⟩,
    ⟨(some 9), none, .mv (.s 8)⟩,
    ⟨(some 10), (some (9, false)), .mv (.s 1)⟩,
    ⟨(some 11), (some (9, false)), .bin .geq (.s 10) (.c (V.int .i64 64))⟩,
    ⟨(some 12), none, .pick (.s 9) (.c (V.bool true)) (.s 11)⟩]
  (.cond (.s 12)
  (.ops [⟨(some 13), none, .build [(V.int .i64 0), (V.int .i64 0), V.nils, V.nils, V.nils] []⟩,
     ⟨none, none, .store 5 (.s 4) (.s 13)⟩,
     ⟨(some 5), none, .mv (.c (V.bool false))⟩]
   (.ret))
  (.ops [⟨(some 14), none, .mv (.s 1)⟩,
     ⟨(some 15), none, .bin .add (.s 14) (.c (V.int .i64 64))⟩,
     ⟨(some 16), none, .faddr 0 (.s 2)⟩,
     ⟨(some 17), none, .load none (.s 16)⟩,
     ⟨(some 18), none, .bin .sub (.s 15) (.s 17)⟩,
     ⟨(some 19), none, .bin .rem (.s 18) (.c (V.int .i64 64))⟩,
     ⟨(some 6), none, .mv (.s 19)⟩]
   (.ops [⟨(some 20), none, .mv (.s 6)⟩,
     ⟨(some 21), none, .faddr 2 (.s 2)⟩,
     ⟨(some 22), none, .load none (.s 21)⟩,
     ⟨(some 23), none, .len (.s 22)⟩,
     ⟨(some 24), none, .bin .geq (.s 20) (.s 23)⟩]
   (.cond (.s 24)
   (.ops [⟨(some 25), none, .build [(V.int .i64 0), (V.int .i64 0), V.nils, V.nils, V.nils] []⟩,
      ⟨none, none, .store 5 (.s 4) (.s 25)⟩,
      ⟨(some 5), none, .mv (.c (V.bool false))⟩]
    (.ret))
   (.ops [⟨(some 26), none, .faddr 2 (.s 2)⟩,
      ⟨(some 27), none, .load none (.s 26)⟩,
      ⟨(some 28), none, .mv (.s 6)⟩,
      ⟨(some 29), none, .iaddr none 5 (.s 27) (.s 28)⟩,
      ⟨(some 30), none, .load (some 5) (.s 29)⟩,
      ⟨(some 31), none, .call fn_depend_copied [(.s 30)]⟩,
      ⟨none, none, .store 5 (.s 4) (.s 31)⟩,
      ⟨(some 5), none, .mv (.c (V.bool true))⟩]
    (.ret)))))))⟩

noncomputable def f_depend_template (G : Sem') (t0 t1 : V) : M Res :=
  (mbox ty_depend_Structure t0).bind fun t2 =>
  (mbox ty_depend_Template (V.agg [(V.int .i64 0), (V.int .i64 0), V.nils, V.nils, V.nils])).bind fun t4 =>
  (M.lift (Ax.bin .lss t1 (V.int .i64 0))).bind fun t8 =>
  (guarded [(0, t8)] (some (0, false)) (M.pure t1)).bind fun t10 =>
  (guarded [(0, t8)] (some (0, false)) (M.lift (Ax.bin .geq t10 (V.int .i64 64)))).bind fun t11 =>
  (M.lift (Ax.pick t8 (V.bool true) t11)).bind fun t12 =>
  M.ite t12
    ((M.lift (Ax.build [(V.int .i64 0), (V.int .i64 0), V.nils, V.nils, V.nils] [])).bind fun t13 =>
    (mstore 5 t4 t13).bind fun _ =>
    (mload (some 5) t4).bind fun r0 =>
    M.pure (.ret [r0, (V.bool false)]))
    ((M.lift (Ax.bin .add t1 (V.int .i64 64))).bind fun t15 =>
    (M.lift (Ax.faddr 0 t2)).bind fun t16 =>
    (mload none t16).bind fun t17 =>
    (M.lift (Ax.bin .sub t15 t17)).bind fun t18 =>
    (M.lift (Ax.bin .rem t18 (V.int .i64 64))).bind fun t19 =>
    (M.lift (Ax.faddr 2 t2)).bind fun t21 =>
    (mload none t21).bind fun t22 =>
    (M.lift (vlen t22)).bind fun t23 =>
    (M.lift (Ax.bin .geq t19 t23)).bind fun t24 =>
    M.ite t24
      ((M.lift (Ax.build [(V.int .i64 0), (V.int .i64 0), V.nils, V.nils, V.nils] [])).bind fun t25 =>
      (mstore 5 t4 t25).bind fun _ =>
      (mload (some 5) t4).bind fun r0 =>
      M.pure (.ret [r0, (V.bool false)]))
      ((M.lift (Ax.faddr 2 t2)).bind fun t26 =>
      (mload none t26).bind fun t27 =>
      (M.lift (Ax.iaddr none 5 t27 t19)).bind fun t29 =>
      (mload (some 5) t29).bind fun t30 =>
      (G fn_depend_copied [t30]).bind fun t31 =>
      (mstore 5 t4 t31).bind fun _ =>
      (mload (some 5) t4).bind fun r0 =>
      M.pure (.ret [r0, (V.bool true)])))

theorem eq_depend_template (G : Sem') (t0 t1 : V) : execK G ir_depend_template.rv ir_depend_template.body [] [] (params 0 [t0, t1]) = f_depend_template G t0 t1 := by kernel_rfl

theorem tb_depend_template : T fn_depend_template = some ir_depend_template := by kernel_rfl

theorem ok_depend_template {t0 t1 : V} {H : Heap} {Q : V → Heap → Prop} (h : Ok (f_depend_template (sem T) t0 t1) H fun r H' => ∃ L, r = .ret L ∧ Q (tupled L) H') : Ok (sem T fn_depend_template [t0, t1]) H Q :=
  ok_sem tb_depend_template (Nat.le_of_ble_eq_true rfl) (eq_depend_template (sem T) t0 t1) h

/-- palanquin/depend.copied. -/
def ir_depend_copied : Fn' := ⟨16, [.cell 2 (some 5)],
  .ops [⟨(some 1), none, .box ty_depend_Template (.s 0)⟩,
    ⟨(some 2), none, .box ty_depend_Template (.c (V.agg [(V.int .i64 0), (V.int .i64 0), V.nils, V.nils, V.nils]))⟩]
  (.draw [⟨(some 3), none, .faddr 2 (.s 1)⟩,
    ⟨(some 4), none, .load none (.s 3)⟩,
    ⟨(some 6), none, .faddr 3 (.s 1)⟩,
    ⟨(some 7), none, .load none (.s 6)⟩,
    ⟨(some 9), none, .faddr 4 (.s 1)⟩,
    ⟨(some 10), none, .load none (.s 9)⟩,
    ⟨(some 5), none, .call fn_slices_Clone_int_int [(.s 4)]⟩,
    ⟨(some 8), none, .call fn_slices_Clone_int_int [(.s 7)]⟩,
    ⟨(some 11), none, .call fn_slices_Clone_int_int [(.s 10)]⟩,
    ⟨(some 12), none, .faddr 2 (.s 1)⟩,
    ⟨none, none, .store 1 (.s 12) (.s 5)⟩,
    ⟨(some 13), none, .faddr 3 (.s 1)⟩,
    ⟨none, none, .store 1 (.s 13) (.s 8)⟩,
    ⟨(some 14), none, .faddr 4 (.s 1)⟩,
    ⟨none, none, .store 1 (.s 14) (.s 11)⟩] [(3, 6), (5, 6), (5, 7)]
  (.ops [⟨(some 15), none, .load (some 5) (.s 1)⟩,
    ⟨none, none, .store 5 (.s 2) (.s 15)⟩]
  (.ret)))⟩

noncomputable def f_depend_copied (G : Sem') (t0 : V) : M Res :=
  (mbox ty_depend_Template t0).bind fun t1 =>
  (mbox ty_depend_Template (V.agg [(V.int .i64 0), (V.int .i64 0), V.nils, V.nils, V.nils])).bind fun t2 =>
  (M.lift (Ax.faddr 2 t1)).bind fun t3 =>
  (mload none t3).bind fun t4 =>
  (M.lift (Ax.faddr 3 t1)).bind fun t6 =>
  (mload none t6).bind fun t7 =>
  (M.lift (Ax.faddr 4 t1)).bind fun t9 =>
  (mload none t9).bind fun t10 =>
  M.getH.bind fun h0 =>
  (G fn_slices_Clone_int_int [t4]).bind fun t5 =>
  M.getH.bind fun h0' =>
  (M.unch t9 h0 h0').bind fun _ =>
  (M.unch t6 h0 h0').bind fun _ =>
  M.getH.bind fun h1 =>
  (G fn_slices_Clone_int_int [t7]).bind fun t8 =>
  M.getH.bind fun h1' =>
  (M.unch t9 h1 h1').bind fun _ =>
  (G fn_slices_Clone_int_int [t10]).bind fun t11 =>
  (M.lift (Ax.faddr 2 t1)).bind fun t12 =>
  (mstore 1 t12 t5).bind fun _ =>
  (M.lift (Ax.faddr 3 t1)).bind fun t13 =>
  (mstore 1 t13 t8).bind fun _ =>
  (M.lift (Ax.faddr 4 t1)).bind fun t14 =>
  (mstore 1 t14 t11).bind fun _ =>
  (mload (some 5) t1).bind fun t15 =>
  (mstore 5 t2 t15).bind fun _ =>
  (mload (some 5) t2).bind fun r0 =>
  M.pure (.ret [r0])

theorem eq_depend_copied (G : Sem') (t0 : V) : execK G ir_depend_copied.rv ir_depend_copied.body [] [] (params 0 [t0]) = f_depend_copied G t0 := by kernel_rfl

theorem tb_depend_copied : T fn_depend_copied = some ir_depend_copied := by kernel_rfl

theorem ok_depend_copied {t0 : V} {H : Heap} {Q : V → Heap → Prop} (h : Ok (f_depend_copied (sem T) t0) H fun r H' => ∃ L, r = .ret L ∧ Q (tupled L) H') : Ok (sem T fn_depend_copied [t0]) H Q :=
  ok_sem tb_depend_copied (Nat.le_of_ble_eq_true rfl) (eq_depend_copied (sem T) t0) h

/-- slices.Clone[[]int,int]. -/
def ir_slices_Clone_int_int : Fn' := ⟨8, [.tmp 2],
  .ops [⟨(some 2), none, .mv (.c V.nils)⟩]
  (.ops [⟨(some 3), none, .mv (.s 0)⟩,
    ⟨(some 4), none, .eq .sl false (.s 3) (.c V.nils)⟩]
  (.cond (.s 4)
  (.ops [⟨(some 2), none, .mv (.c V.nils)⟩]
   (.ret))
  (.ops [⟨(some 5), none, .slit ty_int 0 [(V.int .i64 0)] []⟩,
     ⟨(some 6), none, .mv (.s 0)⟩,
     ⟨(some 7), none, .append ty_int 1 8 (.s 5) (.s 6)⟩,
     ⟨(some 2), none, .mv (.s 7)⟩]
   (.ret))))⟩

noncomputable def f_slices_Clone_int_int (G : Sem') (t0 : V) : M Res :=
  (M.lift (eqr .sl false t0 V.nils)).bind fun t4 =>
  M.ite t4
    (M.pure (.ret [V.nils]))
    ((mslit ty_int 0 [(V.int .i64 0)] []).bind fun t5 =>
    (mappend ty_int 1 8 t5 t0).bind fun t7 =>
    M.pure (.ret [t7]))

theorem eq_slices_Clone_int_int (G : Sem') (t0 : V) : execK G ir_slices_Clone_int_int.rv ir_slices_Clone_int_int.body [] [] (params 0 [t0]) = f_slices_Clone_int_int G t0 := by kernel_rfl

theorem tb_slices_Clone_int_int : T fn_slices_Clone_int_int = some ir_slices_Clone_int_int := by kernel_rfl

theorem ok_slices_Clone_int_int {t0 : V} {H : Heap} {Q : V → Heap → Prop} (h : Ok (f_slices_Clone_int_int (sem T) t0) H fun r H' => ∃ L, r = .ret L ∧ Q (tupled L) H') : Ok (sem T fn_slices_Clone_int_int [t0]) H Q :=
  ok_sem tb_slices_Clone_int_int (Nat.le_of_ble_eq_true rfl) (eq_slices_Clone_int_int (sem T) t0) h

/-- palanquin/depend.none. -/
def ir_depend_none : Fn' := ⟨30, [.tmp 2],
  .ops [⟨(some 1), none, .box ty_depend_Structure (.s 0)⟩,
    ⟨(some 2), none, .mv (.c (V.bool false))⟩]
  (.ops [⟨(some 3), none, .faddr 0 (.s 1)⟩,
    ⟨(some 4), none, .load none (.s 3)⟩,
    ⟨(some 5), none, .bin .eql (.s 4) (.c (V.int .i64 0))⟩,
    ⟨(some 6), none, .mv (.s 5)⟩,
    ⟨(some 7), (some (6, true)), .faddr 1 (.s 1)⟩,
    ⟨(some 8), (some (6, true)), .load none (.s 7)⟩,
    ⟨(some 9), (some (6, true)), .bin .eql (.s 8) (.c (V.int .i64 0))⟩,
    ⟨(some 10), none, .pick (.s 6) (.s 9) (.c (V.bool false))⟩,
    ⟨(some 11), none, .mv (.s 10)⟩,
    ⟨(some 12), (some (11, true)), .faddr 3 (.s 1)⟩,
    ⟨(some 13), (some (11, true)), .load none (.s 12)⟩,
    ⟨(some 14), (some (11, true)), .bin .eql (.s 13) (.c (V.int .i64 0))⟩,
    ⟨(some 15), none, .pick (.s 11) (.s 14) (.c (V.bool false))⟩,
    ⟨(some 16), none, .mv (.s 15)⟩,
    ⟨(some 17), (some (16, true)), .faddr 2 (.s 1)⟩,
    ⟨(some 18), (some (16, true)), .load none (.s 17)⟩,
    ⟨(some 19), (some (16, true)), .len (.s 18)⟩,
    ⟨(some 20), (some (16, true)), .faddr 4 (.s 1)⟩,
    ⟨(some 21), (some (16, true)), .load none (.s 20)⟩,
    ⟨(some 22), (some (16, true)), .len (.s 21)⟩,
    ⟨(some 23), (some (16, true)), .bin .add (.s 19) (.s 22)⟩,
    ⟨(some 24), (some (16, true)), .faddr 5 (.s 1)⟩,
    ⟨(some 25), (some (16, true)), .load none (.s 24)⟩,
    ⟨(some 26), (some (16, true)), .len (.s 25)⟩,
    ⟨(some 27), (some (16, true)), .bin .add (.s 23) (.s 26)⟩,
    ⟨(some 28), (some (16, true)), .bin .eql (.s 27) (.c (V.int .i64 0))⟩,
    ⟨(some 29), none, .pick (.s 16) (.s 28) (.c (V.bool false))⟩,
    ⟨(some 2), none, .mv (.s 29)⟩]
  (.ret))⟩

noncomputable def f_depend_none (G : Sem') (t0 : V) : M Res :=
  (mbox ty_depend_Structure t0).bind fun t1 =>
  (M.lift (Ax.faddr 0 t1)).bind fun t3 =>
  (mload none t3).bind fun t4 =>
  (M.lift (Ax.bin .eql t4 (V.int .i64 0))).bind fun t5 =>
  (guarded [(0, t5)] (some (0, true)) (M.lift (Ax.faddr 1 t1))).bind fun t7 =>
  (guarded [(0, t5)] (some (0, true)) (mload none t7)).bind fun t8 =>
  (guarded [(0, t5)] (some (0, true)) (M.lift (Ax.bin .eql t8 (V.int .i64 0)))).bind fun t9 =>
  (M.lift (Ax.pick t5 t9 (V.bool false))).bind fun t10 =>
  (guarded [(0, t10)] (some (0, true)) (M.lift (Ax.faddr 3 t1))).bind fun t12 =>
  (guarded [(0, t10)] (some (0, true)) (mload none t12)).bind fun t13 =>
  (guarded [(0, t10)] (some (0, true)) (M.lift (Ax.bin .eql t13 (V.int .i64 0)))).bind fun t14 =>
  (M.lift (Ax.pick t10 t14 (V.bool false))).bind fun t15 =>
  (guarded [(0, t15)] (some (0, true)) (M.lift (Ax.faddr 2 t1))).bind fun t17 =>
  (guarded [(0, t15)] (some (0, true)) (mload none t17)).bind fun t18 =>
  (guarded [(0, t15)] (some (0, true)) (M.lift (vlen t18))).bind fun t19 =>
  (guarded [(0, t15)] (some (0, true)) (M.lift (Ax.faddr 4 t1))).bind fun t20 =>
  (guarded [(0, t15)] (some (0, true)) (mload none t20)).bind fun t21 =>
  (guarded [(0, t15)] (some (0, true)) (M.lift (vlen t21))).bind fun t22 =>
  (guarded [(0, t15)] (some (0, true)) (M.lift (Ax.bin .add t19 t22))).bind fun t23 =>
  (guarded [(0, t15)] (some (0, true)) (M.lift (Ax.faddr 5 t1))).bind fun t24 =>
  (guarded [(0, t15)] (some (0, true)) (mload none t24)).bind fun t25 =>
  (guarded [(0, t15)] (some (0, true)) (M.lift (vlen t25))).bind fun t26 =>
  (guarded [(0, t15)] (some (0, true)) (M.lift (Ax.bin .add t23 t26))).bind fun t27 =>
  (guarded [(0, t15)] (some (0, true)) (M.lift (Ax.bin .eql t27 (V.int .i64 0)))).bind fun t28 =>
  (M.lift (Ax.pick t15 t28 (V.bool false))).bind fun t29 =>
  M.pure (.ret [t29])

theorem eq_depend_none (G : Sem') (t0 : V) : execK G ir_depend_none.rv ir_depend_none.body [] [] (params 0 [t0]) = f_depend_none G t0 := by kernel_rfl

theorem tb_depend_none : T fn_depend_none = some ir_depend_none := by kernel_rfl

theorem ok_depend_none {t0 : V} {H : Heap} {Q : V → Heap → Prop} (h : Ok (f_depend_none (sem T) t0) H fun r H' => ∃ L, r = .ret L ∧ Q (tupled L) H') : Ok (sem T fn_depend_none [t0]) H Q :=
  ok_sem tb_depend_none (Nat.le_of_ble_eq_true rfl) (eq_depend_none (sem T) t0) h

/-- slices.Equal[[]int,int]. -/
def loop_slices_Equal_int_int_0 : C :=
  .ops [⟨(some 14), none, .bin .lss (.s 13) (.s 12)⟩]
  (.cond (.s 14)
  (.blk 1
   (.ops [⟨(some 15), none, .mv (.s 13)⟩,
      ⟨(some 5), none, .mv (.s 15)⟩]
    (.draw [⟨(some 16), none, .mv (.s 0)⟩,
      ⟨(some 17), none, .mv (.s 5)⟩,
      ⟨(some 18), none, .iaddr none 1 (.s 16) (.s 17)⟩,
      ⟨(some 19), none, .load none (.s 18)⟩,
      ⟨(some 20), none, .mv (.s 1)⟩,
      ⟨(some 21), none, .mv (.s 5)⟩,
      ⟨(some 22), none, .iaddr none 1 (.s 20) (.s 21)⟩,
      ⟨(some 23), none, .load none (.s 22)⟩,
      ⟨(some 24), none, .bin .neq (.s 19) (.s 23)⟩] []
    (.cond (.s 24)
    (.ops [⟨(some 4), none, .mv (.c (V.bool false))⟩]
     (.ret))
    (.done)))) [] [15, 5, 16, 17, 18, 19, 20, 21, 22, 23, 24, 4]
   (.ops [⟨(some 25), none, .bin .add (.s 13) (.c (V.int .i64 1))⟩,
     ⟨(some 13), none, .mv (.s 25)⟩]
   (.done)))
  (.exit 0))

def ir_slices_Equal_int_int : Fn' := ⟨26, [.tmp 4],
  .ops [⟨(some 4), none, .mv (.c (V.bool false))⟩]
  (.ops [⟨(some 6), none, .mv (.s 0)⟩,
    ⟨(some 7), none, .len (.s 6)⟩,
    ⟨(some 8), none, .mv (.s 1)⟩,
    ⟨(some 9), none, .len (.s 8)⟩,
    ⟨(some 10), none, .bin .neq (.s 7) (.s 9)⟩]
  (.cond (.s 10)
  (.ops [⟨(some 4), none, .mv (.c (V.bool false))⟩]
   (.ret))
  (.ops [⟨(some 11), none, .mv (.s 0)⟩,
     ⟨(some 12), none, .len (.s 11)⟩,
     ⟨(some 13), none, .mv (.c (V.int .i64 0))⟩]
   (.blk 0
   (.loop loop_slices_Equal_int_int_0 [13] [14, 15, 5, 16, 17, 18, 19, 20, 21, 22, 23, 24, 4, 25, 13]) [] [14, 15, 5, 16, 17, 18, 19, 20, 21, 22, 23, 24, 4, 25, 13]
   (.ops [⟨(some 4), none, .mv (.c (V.bool true))⟩]
   (.ret))))))⟩

noncomputable def f_slices_Equal_int_int_0 (G : Sem') (t12 t0 t1 : V) (L : List V) : M Res :=
  (M.lift (Ax.bin .lss (L.getD 0 .undef) t12)).bind fun t14 =>
  M.ite t14
    (M.blk 1 (
      (M.lift (Ax.iaddr none 1 t0 (L.getD 0 .undef))).bind fun t18 =>
      (mload none t18).bind fun t19 =>
      (M.lift (Ax.iaddr none 1 t1 (L.getD 0 .undef))).bind fun t22 =>
      (mload none t22).bind fun t23 =>
      (M.lift (Ax.bin .neq t19 t23)).bind fun t24 =>
      M.ite t24
        (M.pure (.ret [(V.bool false)]))
        (M.pure (.nrm []))) fun _ =>
    (M.lift (Ax.bin .add (L.getD 0 .undef) (V.int .i64 1))).bind fun t25 =>
    M.pure (.nrm [t25]))
    (M.pure (.ex 0 []))

noncomputable def f_slices_Equal_int_int (G : Sem') (t0 t1 : V) : M Res :=
  (M.lift (vlen t0)).bind fun t7 =>
  (M.lift (vlen t1)).bind fun t9 =>
  (M.lift (Ax.bin .neq t7 t9)).bind fun t10 =>
  M.ite t10
    (M.pure (.ret [(V.bool false)]))
    ((M.lift (vlen t0)).bind fun t12 =>
    M.blk 0 (
      M.iter (f_slices_Equal_int_int_0 G t12 t0 t1) [(V.int .i64 0)]) fun _ =>
    M.pure (.ret [(V.bool true)]))

theorem eq_slices_Equal_int_int (G : Sem') (t0 t1 : V) : execK G ir_slices_Equal_int_int.rv ir_slices_Equal_int_int.body [] [] (params 0 [t0, t1]) = f_slices_Equal_int_int G t0 t1 := by kernel_rfl

theorem tb_slices_Equal_int_int : T fn_slices_Equal_int_int = some ir_slices_Equal_int_int := by kernel_rfl

theorem ok_slices_Equal_int_int {t0 t1 : V} {H : Heap} {Q : V → Heap → Prop} (h : Ok (f_slices_Equal_int_int (sem T) t0 t1) H fun r H' => ∃ L, r = .ret L ∧ Q (tupled L) H') : Ok (sem T fn_slices_Equal_int_int [t0, t1]) H Q :=
  ok_sem tb_slices_Equal_int_int (Nat.le_of_ble_eq_true rfl) (eq_slices_Equal_int_int (sem T) t0 t1) h

/-- (*palanquin/lane.Lane).turned. -/
def ir_lane_Lane_turned : Fn' := ⟨57, [.tmp 10],
  .ops [⟨(some 7), none, .box ty_rtp_Packet (.s 2)⟩,
    ⟨(some 8), none, .box ty_depend_Frame (.s 3)⟩,
    ⟨(some 10), none, .mv (.c (V.bool false))⟩]
  (.ops [⟨(some 15), none, .faddr 4 (.s 8)⟩,
    ⟨(some 16), none, .load none (.s 15)⟩,
    ⟨(some 17), none, .mv (.s 16)⟩,
    ⟨(some 18), (some (17, true)), .faddr 0 (.s 8)⟩,
    ⟨(some 19), (some (17, true)), .load none (.s 18)⟩,
    ⟨(some 20), none, .pick (.s 17) (.s 19) (.c (V.bool false))⟩,
    ⟨(some 11), none, .mv (.s 20)⟩]
  (.ops [⟨(some 22), none, .mv (.s 0)⟩,
    ⟨(some 23), none, .nilck (.s 22)⟩,
    ⟨(some 24), none, .faddr 3 (.s 23)⟩,
    ⟨(some 25), none, .load (some 3) (.s 24)⟩,
    ⟨(some 26), none, .mv (.s 1)⟩,
    ⟨(some 27), none, .mv (.s 11)⟩,
    ⟨(some 28), none, .call fn_cast_On [(.s 25), (.s 26), (.s 27)]⟩,
    ⟨(some 21), none, .mv (.s 28)⟩,
    ⟨(some 29), none, .ext 0 (.s 21)⟩,
    ⟨(some 30), none, .ext 1 (.s 21)⟩,
    ⟨(some 31), none, .ext 2 (.s 21)⟩,
    ⟨(some 12), none, .box ty_cast_Cast (.c (V.agg [(V.bool false), (V.int .i64 0), (V.int .i64 0)]))⟩,
    ⟨none, none, .store 3 (.s 12) (.s 29)⟩,
    ⟨(some 13), none, .mv (.s 30)⟩,
    ⟨(some 14), none, .mv (.s 31)⟩]
  (.ops [⟨(some 32), none, .mv (.s 0)⟩,
    ⟨(some 33), none, .load (some 3) (.s 12)⟩,
    ⟨(some 34), none, .nilck (.s 32)⟩,
    ⟨(some 35), none, .faddr 3 (.s 34)⟩,
    ⟨none, none, .store 3 (.s 35) (.s 33)⟩]
  (.ops [⟨(some 36), none, .mv (.s 13)⟩,
    ⟨(some 37), none, .mv (.s 36)⟩,
    ⟨(some 38), (some (37, true)), .mv (.s 11)⟩,
    ⟨(some 39), none, .pick (.s 37) (.s 38) (.c (V.bool false))⟩]
  (.condJ (.s 39)
  (.ops [⟨(some 40), none, .mv (.s 0)⟩,
     ⟨(some 41), none, .call fn_lane_Lane_whole [(.s 40)]⟩]
   (.done))
  (.done) [] [40, 41]
  (.ops [⟨(some 42), none, .mv (.s 14)⟩]
  (.condJ (.s 42)
  (.draw [⟨(some 43), none, .mv (.s 0)⟩,
     ⟨(some 44), none, .mv (.s 0)⟩,
     ⟨(some 45), none, .nilck (.s 44)⟩,
     ⟨(some 46), none, .faddr 6 (.s 45)⟩,
     ⟨(some 47), none, .load (some 7) (.s 46)⟩,
     ⟨(some 48), none, .faddr 3 (.s 7)⟩,
     ⟨(some 49), none, .load none (.s 48)⟩,
     ⟨(some 50), none, .faddr 3 (.s 8)⟩,
     ⟨(some 51), none, .load none (.s 50)⟩,
     ⟨(some 52), none, .mv (.s 4)⟩,
     ⟨(some 53), none, .call fn_turn_Begin [(.s 47), (.s 49), (.s 51), (.s 52)]⟩,
     ⟨(some 54), none, .nilck (.s 43)⟩,
     ⟨(some 55), none, .faddr 6 (.s 54)⟩,
     ⟨none, none, .store 7 (.s 55) (.s 53)⟩] []
   (.done))
  (.done) [] [43, 44, 45, 46, 47, 48, 49, 50, 51, 52, 53, 54, 55]
  (.ops [⟨(some 56), none, .mv (.s 13)⟩,
    ⟨(some 10), none, .mv (.s 56)⟩]
  (.ret)))))))))⟩

noncomputable def f_lane_Lane_turned (G : Sem') (t0 t1 t2 t3 t4 : V) : M Res :=
  (mbox ty_rtp_Packet t2).bind fun t7 =>
  (mbox ty_depend_Frame t3).bind fun t8 =>
  (M.lift (Ax.faddr 4 t8)).bind fun t15 =>
  (mload none t15).bind fun t16 =>
  (guarded [(0, t16)] (some (0, true)) (M.lift (Ax.faddr 0 t8))).bind fun t18 =>
  (guarded [(0, t16)] (some (0, true)) (mload none t18)).bind fun t19 =>
  (M.lift (Ax.pick t16 t19 (V.bool false))).bind fun t20 =>
  (M.lift (Ax.nilck t0)).bind fun t23 =>
  (M.lift (Ax.faddr 3 t23)).bind fun t24 =>
  (mload (some 3) t24).bind fun t25 =>
  (G fn_cast_On [t25, t1, t20]).bind fun t28 =>
  (M.lift (Ax.ext 0 t28)).bind fun t29 =>
  (M.lift (Ax.ext 1 t28)).bind fun t30 =>
  (M.lift (Ax.ext 2 t28)).bind fun t31 =>
  (mbox ty_cast_Cast (V.agg [(V.bool false), (V.int .i64 0), (V.int .i64 0)])).bind fun t12 =>
  (mstore 3 t12 t29).bind fun _ =>
  (mload (some 3) t12).bind fun t33 =>
  (M.lift (Ax.nilck t0)).bind fun t34 =>
  (M.lift (Ax.faddr 3 t34)).bind fun t35 =>
  (mstore 3 t35 t33).bind fun _ =>
  (guarded [(0, t30)] (some (0, true)) (M.pure t20)).bind fun t38 =>
  (M.lift (Ax.pick t30 t38 (V.bool false))).bind fun t39 =>
  M.join (M.ite t39
    ((G fn_lane_Lane_whole [t0]).bind fun t41 =>
    M.pure (.nrm []))
    (M.pure (.nrm []))) fun _ =>
  M.join (M.ite t31
    ((M.lift (Ax.nilck t0)).bind fun t45 =>
    (M.lift (Ax.faddr 6 t45)).bind fun t46 =>
    (mload (some 7) t46).bind fun t47 =>
    (M.lift (Ax.faddr 3 t7)).bind fun t48 =>
    (mload none t48).bind fun t49 =>
    (M.lift (Ax.faddr 3 t8)).bind fun t50 =>
    (mload none t50).bind fun t51 =>
    (G fn_turn_Begin [t47, t49, t51, t4]).bind fun t53 =>
    (M.lift (Ax.nilck t0)).bind fun t54 =>
    (M.lift (Ax.faddr 6 t54)).bind fun t55 =>
    (mstore 7 t55 t53).bind fun _ =>
    M.pure (.nrm []))
    (M.pure (.nrm []))) fun _ =>
  M.pure (.ret [t30])

theorem eq_lane_Lane_turned (G : Sem') (t0 t1 t2 t3 t4 : V) : execK G ir_lane_Lane_turned.rv ir_lane_Lane_turned.body [] [] (params 0 [t0, t1, t2, t3, t4]) = f_lane_Lane_turned G t0 t1 t2 t3 t4 := by kernel_rfl

theorem tb_lane_Lane_turned : T fn_lane_Lane_turned = some ir_lane_Lane_turned := by kernel_rfl

theorem ok_lane_Lane_turned {t0 t1 t2 t3 t4 : V} {H : Heap} {Q : V → Heap → Prop} (h : Ok (f_lane_Lane_turned (sem T) t0 t1 t2 t3 t4) H fun r H' => ∃ L, r = .ret L ∧ Q (tupled L) H') : Ok (sem T fn_lane_Lane_turned [t0, t1, t2, t3, t4]) H Q :=
  ok_sem tb_lane_Lane_turned (Nat.le_of_ble_eq_true rfl) (eq_lane_Lane_turned (sem T) t0 t1 t2 t3 t4) h

/-- palanquin/cast.On. -/
def ir_cast_On : Fn' := ⟨36, [.cell 6 (some 3), .tmp 7, .tmp 8],
  .ops [⟨(some 3), none, .box ty_cast_Cast (.s 0)⟩,
    ⟨(some 6), none, .box ty_cast_Cast (.c (V.agg [(V.bool false), (V.int .i64 0), (V.int .i64 0)]))⟩,
    ⟨(some 7), none, .mv (.c (V.bool false))⟩,
    ⟨(some 8), none, .mv (.c (V.bool false))⟩]
  (.blk 0
  (.ops [⟨(some 10), none, .load (some 3) (.s 3)⟩,
     ⟨(some 11), none, .call fn_cast_Good [(.s 10)]⟩,
     ⟨(some 12), none, .un .not (.s 11)⟩,
     ⟨(some 9), none, .mv (.s 12)⟩]
   (.cond (.s 9)
   (.ops [⟨(some 13), none, .load (some 3) (.s 3)⟩,
      ⟨none, none, .store 3 (.s 6) (.s 13)⟩,
      ⟨(some 7), none, .mv (.c (V.bool false))⟩,
      ⟨(some 8), none, .mv (.c (V.bool false))⟩]
    (.ret))
   (.ops [⟨(some 15), none, .mv (.s 1)⟩,
      ⟨(some 16), none, .faddr 2 (.s 3)⟩,
      ⟨(some 17), none, .load none (.s 16)⟩,
      ⟨(some 18), none, .bin .eql (.s 15) (.s 17)⟩,
      ⟨(some 19), none, .mv (.s 18)⟩,
      ⟨(some 20), (some (19, true)), .mv (.s 2)⟩,
      ⟨(some 21), none, .pick (.s 19) (.s 20) (.c (V.bool false))⟩,
      ⟨(some 22), none, .mv (.s 21)⟩,
      ⟨(some 23), (some (22, true)), .load (some 3) (.s 3)⟩,
      ⟨(some 24), (some (22, true)), .mv (.s 1)⟩,
      ⟨(some 25), (some (22, true)), .call fn_cast_Cast_runs [(.s 23), (.s 24)]⟩,
      ⟨(some 26), (some (22, true)), .un .not (.s 25)⟩,
      ⟨(some 27), none, .pick (.s 22) (.s 26) (.c (V.bool false))⟩,
      ⟨(some 14), none, .mv (.s 27)⟩]
    (.cond (.s 14)
    (.ops [⟨(some 28), none, .mv (.s 1)⟩,
       ⟨(some 29), none, .faddr 0 (.s 3)⟩,
       ⟨none, none, .store 1 (.s 29) (.c (V.bool true))⟩,
       ⟨(some 30), none, .faddr 1 (.s 3)⟩,
       ⟨none, none, .store 1 (.s 30) (.s 28)⟩]
     (.ops [⟨(some 31), none, .load (some 3) (.s 3)⟩,
       ⟨none, none, .store 3 (.s 6) (.s 31)⟩,
       ⟨(some 7), none, .mv (.c (V.bool true))⟩,
       ⟨(some 8), none, .mv (.c (V.bool true))⟩]
     (.ret)))
    (.done))))) [] [10, 11, 12, 9, 13, 7, 8, 15, 16, 17, 18, 19, 20, 21, 22, 23, 24, 25, 26, 27, 14, 28, 29, 30, 31, 7, 8]
  (.draw [⟨(some 32), none, .load (some 3) (.s 3)⟩,
    ⟨(some 33), none, .load (some 3) (.s 3)⟩,
    ⟨(some 34), none, .mv (.s 1)⟩,
    ⟨(some 35), none, .call fn_cast_Cast_runs [(.s 33), (.s 34)]⟩,
    ⟨none, none, .store 3 (.s 6) (.s 32)⟩,
    ⟨(some 7), none, .mv (.s 35)⟩,
    ⟨(some 8), none, .mv (.c (V.bool false))⟩] [(0, 3)]
  (.ret)))⟩

noncomputable def f_cast_On (G : Sem') (t0 t1 t2 : V) : M Res :=
  (mbox ty_cast_Cast t0).bind fun t3 =>
  (mbox ty_cast_Cast (V.agg [(V.bool false), (V.int .i64 0), (V.int .i64 0)])).bind fun t6 =>
  M.blk 0 (
    (mload (some 3) t3).bind fun t10 =>
    (G fn_cast_Good [t10]).bind fun t11 =>
    (M.lift (Ax.un .not t11)).bind fun t12 =>
    M.ite t12
      ((mload (some 3) t3).bind fun t13 =>
      (mstore 3 t6 t13).bind fun _ =>
      (mload (some 3) t6).bind fun r0 =>
      M.pure (.ret [r0, (V.bool false), (V.bool false)]))
      ((M.lift (Ax.faddr 2 t3)).bind fun t16 =>
      (mload none t16).bind fun t17 =>
      (M.lift (Ax.bin .eql t1 t17)).bind fun t18 =>
      (guarded [(0, t18)] (some (0, true)) (M.pure t2)).bind fun t20 =>
      (M.lift (Ax.pick t18 t20 (V.bool false))).bind fun t21 =>
      (guarded [(0, t21)] (some (0, true)) (mload (some 3) t3)).bind fun t23 =>
      (guarded [(0, t21)] (some (0, true)) (M.pure t1)).bind fun t24 =>
      (guarded [(0, t21)] (some (0, true)) (G fn_cast_Cast_runs [t23, t24])).bind fun t25 =>
      (guarded [(0, t21)] (some (0, true)) (M.lift (Ax.un .not t25))).bind fun t26 =>
      (M.lift (Ax.pick t21 t26 (V.bool false))).bind fun t27 =>
      M.ite t27
        ((M.lift (Ax.faddr 0 t3)).bind fun t29 =>
        (mstore 1 t29 (V.bool true)).bind fun _ =>
        (M.lift (Ax.faddr 1 t3)).bind fun t30 =>
        (mstore 1 t30 t1).bind fun _ =>
        (mload (some 3) t3).bind fun t31 =>
        (mstore 3 t6 t31).bind fun _ =>
        (mload (some 3) t6).bind fun r0 =>
        M.pure (.ret [r0, (V.bool true), (V.bool true)]))
        (M.pure (.nrm [])))) fun _ =>
  (mload (some 3) t3).bind fun t32 =>
  (mload (some 3) t3).bind fun t33 =>
  M.getH.bind fun h0 =>
  (G fn_cast_Cast_runs [t33, t1]).bind fun t35 =>
  M.getH.bind fun h0' =>
  (M.unch t3 h0 h0').bind fun _ =>
  (mstore 3 t6 t32).bind fun _ =>
  (mload (some 3) t6).bind fun r0 =>
  M.pure (.ret [r0, t35, (V.bool false)])

theorem eq_cast_On (G : Sem') (t0 t1 t2 : V) : execK G ir_cast_On.rv ir_cast_On.body [] [] (params 0 [t0, t1, t2]) = f_cast_On G t0 t1 t2 := by kernel_rfl

theorem tb_cast_On : T fn_cast_On = some ir_cast_On := by kernel_rfl

theorem ok_cast_On {t0 t1 t2 : V} {H : Heap} {Q : V → Heap → Prop} (h : Ok (f_cast_On (sem T) t0 t1 t2) H fun r H' => ∃ L, r = .ret L ∧ Q (tupled L) H') : Ok (sem T fn_cast_On [t0, t1, t2]) H Q :=
  ok_sem tb_cast_On (Nat.le_of_ble_eq_true rfl) (eq_cast_On (sem T) t0 t1 t2) h

/-- palanquin/cast.Good. -/
def ir_cast_Good : Fn' := ⟨20, [.tmp 2],
  .ops [⟨(some 1), none, .box ty_cast_Cast (.s 0)⟩,
    ⟨(some 2), none, .mv (.c (V.bool false))⟩]
  (.ops [⟨(some 3), none, .faddr 1 (.s 1)⟩,
    ⟨(some 4), none, .load none (.s 3)⟩,
    ⟨(some 5), none, .call fn_cast_source [(.s 4)]⟩,
    ⟨(some 6), none, .mv (.s 5)⟩,
    ⟨(some 7), (some (6, true)), .faddr 2 (.s 1)⟩,
    ⟨(some 8), (some (6, true)), .load none (.s 7)⟩,
    ⟨(some 9), (some (6, true)), .call fn_cast_source [(.s 8)]⟩,
    ⟨(some 10), none, .pick (.s 6) (.s 9) (.c (V.bool false))⟩,
    ⟨(some 11), none, .mv (.s 10)⟩,
    ⟨(some 12), (some (11, true)), .faddr 0 (.s 1)⟩,
    ⟨(some 13), (some (11, true)), .load none (.s 12)⟩,
    ⟨(some 14), (some (11, true)), .mv (.s 13)⟩,
    ⟨(some 15), (some (14, false)), .faddr 1 (.s 1)⟩,
    ⟨(some 16), (some (14, false)), .load none (.s 15)⟩,
    ⟨(some 17), (some (14, false)), .bin .eql (.s 16) (.c (V.int .i64 0))⟩,
    ⟨(some 18), (some (11, true)), .pick (.s 14) (.c (V.bool true)) (.s 17)⟩,
    ⟨(some 19), none, .pick (.s 11) (.s 18) (.c (V.bool false))⟩,
    ⟨(some 2), none, .mv (.s 19)⟩]
  (.ret))⟩

noncomputable def f_cast_Good (G : Sem') (t0 : V) : M Res :=
  (mbox ty_cast_Cast t0).bind fun t1 =>
  (M.lift (Ax.faddr 1 t1)).bind fun t3 =>
  (mload none t3).bind fun t4 =>
  (G fn_cast_source [t4]).bind fun t5 =>
  (guarded [(0, t5)] (some (0, true)) (M.lift (Ax.faddr 2 t1))).bind fun t7 =>
  (guarded [(0, t5)] (some (0, true)) (mload none t7)).bind fun t8 =>
  (guarded [(0, t5)] (some (0, true)) (G fn_cast_source [t8])).bind fun t9 =>
  (M.lift (Ax.pick t5 t9 (V.bool false))).bind fun t10 =>
  (guarded [(0, t10)] (some (0, true)) (M.lift (Ax.faddr 0 t1))).bind fun t12 =>
  (guarded [(0, t10)] (some (0, true)) (mload none t12)).bind fun t13 =>
  (guarded [(0, t10)] (some (0, true)) (M.pure t13)).bind fun t14 =>
  (guarded [(0, t14)] (some (0, false)) (M.lift (Ax.faddr 1 t1))).bind fun t15 =>
  (guarded [(0, t14)] (some (0, false)) (mload none t15)).bind fun t16 =>
  (guarded [(0, t14)] (some (0, false)) (M.lift (Ax.bin .eql t16 (V.int .i64 0)))).bind fun t17 =>
  (guarded [(0, t10)] (some (0, true)) (M.lift (Ax.pick t14 (V.bool true) t17))).bind fun t18 =>
  (M.lift (Ax.pick t10 t18 (V.bool false))).bind fun t19 =>
  M.pure (.ret [t19])

theorem eq_cast_Good (G : Sem') (t0 : V) : execK G ir_cast_Good.rv ir_cast_Good.body [] [] (params 0 [t0]) = f_cast_Good G t0 := by kernel_rfl

theorem tb_cast_Good : T fn_cast_Good = some ir_cast_Good := by kernel_rfl

theorem ok_cast_Good {t0 : V} {H : Heap} {Q : V → Heap → Prop} (h : Ok (f_cast_Good (sem T) t0) H fun r H' => ∃ L, r = .ret L ∧ Q (tupled L) H') : Ok (sem T fn_cast_Good [t0]) H Q :=
  ok_sem tb_cast_Good (Nat.le_of_ble_eq_true rfl) (eq_cast_Good (sem T) t0) h

/-- palanquin/cast.source. -/
def ir_cast_source : Fn' := ⟨9, [.tmp 2],
  .ops [⟨(some 2), none, .mv (.c (V.bool false))⟩]
  (.ops [⟨(some 3), none, .mv (.s 0)⟩,
    ⟨(some 4), none, .bin .geq (.s 3) (.c (V.int .i64 0))⟩,
    ⟨(some 5), none, .mv (.s 4)⟩,
    ⟨(some 6), (some (5, true)), .mv (.s 0)⟩,
    ⟨(some 7), (some (5, true)), .bin .lss (.s 6) (.c (V.int .i64 3))⟩,
    ⟨(some 8), none, .pick (.s 5) (.s 7) (.c (V.bool false))⟩,
    ⟨(some 2), none, .mv (.s 8)⟩]
  (.ret))⟩

noncomputable def f_cast_source (G : Sem') (t0 : V) : M Res :=
  (M.lift (Ax.bin .geq t0 (V.int .i64 0))).bind fun t4 =>
  (guarded [(0, t4)] (some (0, true)) (M.pure t0)).bind fun t6 =>
  (guarded [(0, t4)] (some (0, true)) (M.lift (Ax.bin .lss t6 (V.int .i64 3)))).bind fun t7 =>
  (M.lift (Ax.pick t4 t7 (V.bool false))).bind fun t8 =>
  M.pure (.ret [t8])

theorem eq_cast_source (G : Sem') (t0 : V) : execK G ir_cast_source.rv ir_cast_source.body [] [] (params 0 [t0]) = f_cast_source G t0 := by kernel_rfl

theorem tb_cast_source : T fn_cast_source = some ir_cast_source := by kernel_rfl

theorem ok_cast_source {t0 : V} {H : Heap} {Q : V → Heap → Prop} (h : Ok (f_cast_source (sem T) t0) H fun r H' => ∃ L, r = .ret L ∧ Q (tupled L) H') : Ok (sem T fn_cast_source [t0]) H Q :=
  ok_sem tb_cast_source (Nat.le_of_ble_eq_true rfl) (eq_cast_source (sem T) t0) h

/-- (palanquin/cast.Cast).runs. -/
def ir_cast_Cast_runs : Fn' := ⟨13, [.tmp 4],
  .ops [⟨(some 2), none, .box ty_cast_Cast (.s 0)⟩,
    ⟨(some 4), none, .mv (.c (V.bool false))⟩]
  (.ops [⟨(some 5), none, .faddr 0 (.s 2)⟩,
    ⟨(some 6), none, .load none (.s 5)⟩,
    ⟨(some 7), none, .mv (.s 6)⟩,
    ⟨(some 8), (some (7, true)), .faddr 1 (.s 2)⟩,
    ⟨(some 9), (some (7, true)), .load none (.s 8)⟩,
    ⟨(some 10), (some (7, true)), .mv (.s 1)⟩,
    ⟨(some 11), (some (7, true)), .bin .eql (.s 9) (.s 10)⟩,
    ⟨(some 12), none, .pick (.s 7) (.s 11) (.c (V.bool false))⟩,
    ⟨(some 4), none, .mv (.s 12)⟩]
  (.ret))⟩

noncomputable def f_cast_Cast_runs (G : Sem') (t0 t1 : V) : M Res :=
  (mbox ty_cast_Cast t0).bind fun t2 =>
  (M.lift (Ax.faddr 0 t2)).bind fun t5 =>
  (mload none t5).bind fun t6 =>
  (guarded [(0, t6)] (some (0, true)) (M.lift (Ax.faddr 1 t2))).bind fun t8 =>
  (guarded [(0, t6)] (some (0, true)) (mload none t8)).bind fun t9 =>
  (guarded [(0, t6)] (some (0, true)) (M.pure t1)).bind fun t10 =>
  (guarded [(0, t6)] (some (0, true)) (M.lift (Ax.bin .eql t9 t10))).bind fun t11 =>
  (M.lift (Ax.pick t6 t11 (V.bool false))).bind fun t12 =>
  M.pure (.ret [t12])

theorem eq_cast_Cast_runs (G : Sem') (t0 t1 : V) : execK G ir_cast_Cast_runs.rv ir_cast_Cast_runs.body [] [] (params 0 [t0, t1]) = f_cast_Cast_runs G t0 t1 := by kernel_rfl

theorem tb_cast_Cast_runs : T fn_cast_Cast_runs = some ir_cast_Cast_runs := by kernel_rfl

theorem ok_cast_Cast_runs {t0 t1 : V} {H : Heap} {Q : V → Heap → Prop} (h : Ok (f_cast_Cast_runs (sem T) t0 t1) H fun r H' => ∃ L, r = .ret L ∧ Q (tupled L) H') : Ok (sem T fn_cast_Cast_runs [t0, t1]) H Q :=
  ok_sem tb_cast_Cast_runs (Nat.le_of_ble_eq_true rfl) (eq_cast_Cast_runs (sem T) t0 t1) h

/-- (*palanquin/lane.Lane).whole. -/
def ir_lane_Lane_whole : Fn' := ⟨8, [],
  .ops [⟨(some 2), none, .mv (.s 0)⟩,
    ⟨(some 3), none, .mv (.s 0)⟩,
    ⟨(some 4), none, .nilck (.s 2)⟩,
    ⟨(some 5), none, .faddr 13 (.s 4)⟩,
    ⟨none, none, .store 1 (.s 5) (.c V.nils)⟩,
    ⟨(some 6), none, .nilck (.s 3)⟩,
    ⟨(some 7), none, .faddr 15 (.s 6)⟩,
    ⟨none, none, .store 1 (.s 7) (.c (V.bool false))⟩]
  (.ret)⟩

noncomputable def f_lane_Lane_whole (G : Sem') (t0 : V) : M Res :=
  (M.lift (Ax.nilck t0)).bind fun t4 =>
  (M.lift (Ax.faddr 13 t4)).bind fun t5 =>
  (mstore 1 t5 V.nils).bind fun _ =>
  (M.lift (Ax.nilck t0)).bind fun t6 =>
  (M.lift (Ax.faddr 15 t6)).bind fun t7 =>
  (mstore 1 t7 (V.bool false)).bind fun _ =>
  M.pure (.ret [])

theorem eq_lane_Lane_whole (G : Sem') (t0 : V) : execK G ir_lane_Lane_whole.rv ir_lane_Lane_whole.body [] [] (params 0 [t0]) = f_lane_Lane_whole G t0 := by kernel_rfl

theorem tb_lane_Lane_whole : T fn_lane_Lane_whole = some ir_lane_Lane_whole := by kernel_rfl

theorem ok_lane_Lane_whole {t0 : V} {H : Heap} {Q : V → Heap → Prop} (h : Ok (f_lane_Lane_whole (sem T) t0) H fun r H' => ∃ L, r = .ret L ∧ Q (tupled L) H') : Ok (sem T fn_lane_Lane_whole [t0]) H Q :=
  ok_sem tb_lane_Lane_whole (Nat.le_of_ble_eq_true rfl) (eq_lane_Lane_whole (sem T) t0) h

/-- palanquin/turn.Begin. -/
def ir_turn_Begin : Fn' := ⟨31, [.cell 8 (some 7)],
  .ops [⟨(some 4), none, .box ty_turn_Turn (.s 0)⟩,
    ⟨(some 8), none, .box ty_turn_Turn (.c (V.agg [(V.bool false), (V.int .u16 0), (V.int .u32 0), (V.int .u32 0), (V.int .u16 0), (V.int .u16 0), (V.int .i64 0)]))⟩]
  (.ops [⟨(some 9), none, .faddr 3 (.s 4)⟩,
    ⟨none, none, .store 1 (.s 9) (.c (V.int .u32 0))⟩,
    ⟨(some 10), none, .faddr 5 (.s 4)⟩,
    ⟨none, none, .store 1 (.s 10) (.c (V.int .u16 0))⟩]
  (.ops [⟨(some 11), none, .faddr 0 (.s 4)⟩,
    ⟨(some 12), none, .load none (.s 11)⟩]
  (.condJ (.s 12)
  (.draw [⟨(some 13), none, .faddr 2 (.s 4)⟩,
     ⟨(some 14), none, .load none (.s 13)⟩,
     ⟨(some 15), none, .faddr 6 (.s 4)⟩,
     ⟨(some 16), none, .load none (.s 15)⟩,
     ⟨(some 17), none, .mv (.s 3)⟩,
     ⟨(some 21), none, .mv (.s 1)⟩,
     ⟨(some 18), none, .call fn_turn_ticks [(.s 16), (.s 17)]⟩,
     ⟨(some 19), none, .bin .mul (.c (V.int .u32 90)) (.s 18)⟩,
     ⟨(some 20), none, .bin .add (.s 14) (.s 19)⟩,
     ⟨(some 22), none, .bin .sub (.s 20) (.s 21)⟩,
     ⟨(some 23), none, .faddr 3 (.s 4)⟩,
     ⟨none, none, .store 1 (.s 23) (.s 22)⟩] [(1, 6)]
   (.ops [⟨(some 24), none, .faddr 4 (.s 4)⟩,
     ⟨(some 25), none, .load none (.s 24)⟩,
     ⟨(some 26), none, .bin .add (.s 25) (.c (V.int .u16 1))⟩,
     ⟨(some 27), none, .mv (.s 2)⟩,
     ⟨(some 28), none, .bin .sub (.s 26) (.s 27)⟩,
     ⟨(some 29), none, .faddr 5 (.s 4)⟩,
     ⟨none, none, .store 1 (.s 29) (.s 28)⟩]
   (.done)))
  (.done) [] [13, 14, 15, 16, 17, 18, 19, 20, 21, 22, 23, 24, 25, 26, 27, 28, 29]
  (.ops [⟨(some 30), none, .load (some 7) (.s 4)⟩,
    ⟨none, none, .store 7 (.s 8) (.s 30)⟩]
  (.ret)))))⟩

noncomputable def f_turn_Begin (G : Sem') (t0 t1 t2 t3 : V) : M Res :=
  (mbox ty_turn_Turn t0).bind fun t4 =>
  (mbox ty_turn_Turn (V.agg [(V.bool false), (V.int .u16 0), (V.int .u32 0), (V.int .u32 0), (V.int .u16 0), (V.int .u16 0), (V.int .i64 0)])).bind fun t8 =>
  (M.lift (Ax.faddr 3 t4)).bind fun t9 =>
  (mstore 1 t9 (V.int .u32 0)).bind fun _ =>
  (M.lift (Ax.faddr 5 t4)).bind fun t10 =>
  (mstore 1 t10 (V.int .u16 0)).bind fun _ =>
  (M.lift (Ax.faddr 0 t4)).bind fun t11 =>
  (mload none t11).bind fun t12 =>
  M.join (M.ite t12
    ((M.lift (Ax.faddr 2 t4)).bind fun t13 =>
    (mload none t13).bind fun t14 =>
    (M.lift (Ax.faddr 6 t4)).bind fun t15 =>
    (mload none t15).bind fun t16 =>
    M.getH.bind fun h0 =>
    (G fn_turn_ticks [t16, t3]).bind fun t18 =>
    M.getH.bind fun h0' =>
    (M.unch t13 h0 h0').bind fun _ =>
    (M.lift (Ax.bin .mul (V.int .u32 90) t18)).bind fun t19 =>
    (M.lift (Ax.bin .add t14 t19)).bind fun t20 =>
    (M.lift (Ax.bin .sub t20 t1)).bind fun t22 =>
    (M.lift (Ax.faddr 3 t4)).bind fun t23 =>
    (mstore 1 t23 t22).bind fun _ =>
    (M.lift (Ax.faddr 4 t4)).bind fun t24 =>
    (mload none t24).bind fun t25 =>
    (M.lift (Ax.bin .add t25 (V.int .u16 1))).bind fun t26 =>
    (M.lift (Ax.bin .sub t26 t2)).bind fun t28 =>
    (M.lift (Ax.faddr 5 t4)).bind fun t29 =>
    (mstore 1 t29 t28).bind fun _ =>
    M.pure (.nrm []))
    (M.pure (.nrm []))) fun _ =>
  (mload (some 7) t4).bind fun t30 =>
  (mstore 7 t8 t30).bind fun _ =>
  (mload (some 7) t8).bind fun r0 =>
  M.pure (.ret [r0])

theorem eq_turn_Begin (G : Sem') (t0 t1 t2 t3 : V) : execK G ir_turn_Begin.rv ir_turn_Begin.body [] [] (params 0 [t0, t1, t2, t3]) = f_turn_Begin G t0 t1 t2 t3 := by kernel_rfl

theorem tb_turn_Begin : T fn_turn_Begin = some ir_turn_Begin := by kernel_rfl

theorem ok_turn_Begin {t0 t1 t2 t3 : V} {H : Heap} {Q : V → Heap → Prop} (h : Ok (f_turn_Begin (sem T) t0 t1 t2 t3) H fun r H' => ∃ L, r = .ret L ∧ Q (tupled L) H') : Ok (sem T fn_turn_Begin [t0, t1, t2, t3]) H Q :=
  ok_sem tb_turn_Begin (Nat.le_of_ble_eq_true rfl) (eq_turn_Begin (sem T) t0 t1 t2 t3) h

/-- palanquin/turn.ticks. -/
def ir_turn_ticks : Fn' := ⟨15, [.tmp 4],
  .ops [⟨(some 4), none, .mv (.c (V.int .u32 0))⟩]
  (.ops [⟨(some 5), none, .mv (.s 1)⟩,
    ⟨(some 6), none, .mv (.s 0)⟩,
    ⟨(some 7), none, .bin .leq (.s 5) (.s 6)⟩]
  (.cond (.s 7)
  (.ops [⟨(some 4), none, .mv (.c (V.int .u32 1))⟩]
   (.ret))
  (.ops [⟨(some 8), none, .mv (.s 1)⟩,
     ⟨(some 9), none, .cint .u64 (.s 8)⟩,
     ⟨(some 10), none, .mv (.s 0)⟩,
     ⟨(some 11), none, .cint .u64 (.s 10)⟩,
     ⟨(some 12), none, .bin .sub (.s 9) (.s 11)⟩,
     ⟨(some 13), none, .minmax false (.s 12) [(.c (V.int .u64 100000))]⟩,
     ⟨(some 14), none, .cint .u32 (.s 13)⟩,
     ⟨(some 4), none, .mv (.s 14)⟩]
   (.ret))))⟩

noncomputable def f_turn_ticks (G : Sem') (t0 t1 : V) : M Res :=
  (M.lift (Ax.bin .leq t1 t0)).bind fun t7 =>
  M.ite t7
    (M.pure (.ret [(V.int .u32 1)]))
    ((M.lift (Ax.cint .u64 t1)).bind fun t9 =>
    (M.lift (Ax.cint .u64 t0)).bind fun t11 =>
    (M.lift (Ax.bin .sub t9 t11)).bind fun t12 =>
    (M.lift (Ax.minmax false t12 [(V.int .u64 100000)])).bind fun t13 =>
    (M.lift (Ax.cint .u32 t13)).bind fun t14 =>
    M.pure (.ret [t14]))

theorem eq_turn_ticks (G : Sem') (t0 t1 : V) : execK G ir_turn_ticks.rv ir_turn_ticks.body [] [] (params 0 [t0, t1]) = f_turn_ticks G t0 t1 := by kernel_rfl

theorem tb_turn_ticks : T fn_turn_ticks = some ir_turn_ticks := by kernel_rfl

theorem ok_turn_ticks {t0 t1 : V} {H : Heap} {Q : V → Heap → Prop} (h : Ok (f_turn_ticks (sem T) t0 t1) H fun r H' => ∃ L, r = .ret L ∧ Q (tupled L) H') : Ok (sem T fn_turn_ticks [t0, t1]) H Q :=
  ok_sem tb_turn_ticks (Nat.le_of_ble_eq_true rfl) (eq_turn_ticks (sem T) t0 t1) h

/-- (*palanquin/lane.Lane).why. -/
def ir_lane_Lane_why : Fn' := ⟨69, [.tmp 8],
  .ops [⟨(some 5), none, .box ty_depend_Frame (.s 1)⟩,
    ⟨(some 6), none, .box ty_depend_Structure (.s 2)⟩,
    ⟨(some 8), none, .mv (.c (V.int .i64 0))⟩]
  (.ops [⟨(some 11), none, .mv (.s 0)⟩,
    ⟨(some 12), none, .nilck (.s 11)⟩,
    ⟨(some 13), none, .faddr 15 (.s 12)⟩,
    ⟨(some 14), none, .load none (.s 13)⟩]
  (.cond (.s 14)
  (.ops [⟨(some 8), none, .mv (.c (V.int .i64 2))⟩]
   (.ret))
  (.draw [⟨(some 16), none, .load (some 6) (.s 6)⟩,
     ⟨(some 17), none, .mv (.s 3)⟩,
     ⟨(some 18), none, .mv (.s 0)⟩,
     ⟨(some 19), none, .nilck (.s 18)⟩,
     ⟨(some 20), none, .faddr 1 (.s 19)⟩,
     ⟨(some 21), none, .load none (.s 20)⟩,
     ⟨(some 22), none, .mv (.s 0)⟩,
     ⟨(some 23), none, .nilck (.s 22)⟩,
     ⟨(some 24), none, .faddr 2 (.s 23)⟩,
     ⟨(some 25), none, .load none (.s 24)⟩,
     ⟨(some 26), none, .call fn_pick_Fits [(.s 16), (.s 17), (.s 21), (.s 25)]⟩,
     ⟨(some 15), none, .mv (.s 26)⟩,
     ⟨(some 27), none, .ext 0 (.s 15)⟩,
     ⟨(some 28), none, .ext 1 (.s 15)⟩,
     ⟨(some 9), none, .mv (.s 27)⟩,
     ⟨(some 10), none, .mv (.s 28)⟩] []
   (.blk 0
   (.ops [⟨(some 30), none, .mv (.s 10)⟩,
      ⟨(some 31), none, .un .not (.s 30)⟩,
      ⟨(some 29), none, .mv (.s 31)⟩]
    (.cond (.s 29)
    (.ops [⟨(some 8), none, .mv (.c (V.int .i64 3))⟩]
     (.ret))
    (.ops [⟨(some 33), none, .load (some 19) (.s 5)⟩,
       ⟨(some 34), none, .mv (.s 9)⟩,
       ⟨(some 35), none, .call fn_pick_In [(.s 33), (.s 34)]⟩,
       ⟨(some 36), none, .un .not (.s 35)⟩,
       ⟨(some 32), none, .mv (.s 36)⟩]
     (.cond (.s 32)
     (.ops [⟨(some 8), none, .mv (.c (V.int .i64 4))⟩]
      (.ret))
     (.draw [⟨(some 38), none, .faddr 0 (.s 5)⟩,
        ⟨(some 39), none, .load none (.s 38)⟩,
        ⟨(some 40), none, .mv (.s 39)⟩,
        ⟨(some 41), (some (40, true)), .mv (.s 0)⟩,
        ⟨(some 42), (some (40, true)), .nilck (.s 41)⟩,
        ⟨(some 43), (some (40, true)), .faddr 13 (.s 42)⟩,
        ⟨(some 44), (some (40, true)), .load none (.s 43)⟩,
        ⟨(some 45), (some (40, true)), .faddr 3 (.s 5)⟩,
        ⟨(some 46), (some (40, true)), .load none (.s 45)⟩,
        ⟨(some 47), (some (40, true)), .faddr 17 (.s 5)⟩,
        ⟨(some 48), (some (40, true)), .load none (.s 47)⟩,
        ⟨(some 49), (some (40, true)), .call fn_refs_Fit [(.s 44), (.s 46), (.s 48)]⟩,
        ⟨(some 50), (some (40, true)), .un .not (.s 49)⟩,
        ⟨(some 51), none, .pick (.s 40) (.s 50) (.c (V.bool false))⟩,
        ⟨(some 37), none, .mv (.s 51)⟩] []
      (.cond (.s 37)
      (.ops [⟨(some 52), none, .mv (.s 0)⟩,
         ⟨(some 53), none, .nilck (.s 52)⟩,
         ⟨(some 54), none, .faddr 15 (.s 53)⟩,
         ⟨none, none, .store 1 (.s 54) (.c (V.bool true))⟩]
       (.ops [⟨(some 8), none, .mv (.c (V.int .i64 5))⟩]
       (.ret)))
      (.draw [⟨(some 56), none, .faddr 0 (.s 5)⟩,
         ⟨(some 57), none, .load none (.s 56)⟩,
         ⟨(some 58), none, .un .not (.s 57)⟩,
         ⟨(some 59), none, .mv (.s 58)⟩,
         ⟨(some 60), (some (59, true)), .mv (.s 0)⟩,
         ⟨(some 61), (some (59, true)), .nilck (.s 60)⟩,
         ⟨(some 62), (some (59, true)), .faddr 13 (.s 61)⟩,
         ⟨(some 63), (some (59, true)), .load none (.s 62)⟩,
         ⟨(some 64), (some (59, true)), .faddr 3 (.s 5)⟩,
         ⟨(some 65), (some (59, true)), .load none (.s 64)⟩,
         ⟨(some 66), (some (59, true)), .call fn_refs_Has [(.s 63), (.s 65)]⟩,
         ⟨(some 67), (some (59, true)), .un .not (.s 66)⟩,
         ⟨(some 68), none, .pick (.s 59) (.s 67) (.c (V.bool false))⟩,
         ⟨(some 55), none, .mv (.s 68)⟩] []
       (.cond (.s 55)
       (.ops [⟨(some 8), none, .mv (.c (V.int .i64 6))⟩]
        (.ret))
       (.done))))))))) [] [30, 31, 29, 8, 33, 34, 35, 36, 32, 8, 38, 39, 40, 41, 42, 43, 44, 45, 46, 47, 48, 49, 50, 51, 37, 52, 53, 54, 8, 56, 57, 58, 59, 60, 61, 62, 63, 64, 65, 66, 67, 68, 55, 8]
   (.ops [⟨(some 8), none, .mv (.c (V.int .i64 0))⟩]
   (.ret))))))⟩

noncomputable def f_lane_Lane_why (G : Sem') (t0 t1 t2 t3 : V) : M Res :=
  (mbox ty_depend_Frame t1).bind fun t5 =>
  (mbox ty_depend_Structure t2).bind fun t6 =>
  (M.lift (Ax.nilck t0)).bind fun t12 =>
  (M.lift (Ax.faddr 15 t12)).bind fun t13 =>
  (mload none t13).bind fun t14 =>
  M.ite t14
    (M.pure (.ret [(V.int .i64 2)]))
    ((mload (some 6) t6).bind fun t16 =>
    (M.lift (Ax.nilck t0)).bind fun t19 =>
    (M.lift (Ax.faddr 1 t19)).bind fun t20 =>
    (mload none t20).bind fun t21 =>
    (M.lift (Ax.nilck t0)).bind fun t23 =>
    (M.lift (Ax.faddr 2 t23)).bind fun t24 =>
    (mload none t24).bind fun t25 =>
    (G fn_pick_Fits [t16, t3, t21, t25]).bind fun t26 =>
    (M.lift (Ax.ext 0 t26)).bind fun t27 =>
    (M.lift (Ax.ext 1 t26)).bind fun t28 =>
    M.blk 0 (
      (M.lift (Ax.un .not t28)).bind fun t31 =>
      M.ite t31
        (M.pure (.ret [(V.int .i64 3)]))
        ((mload (some 19) t5).bind fun t33 =>
        (G fn_pick_In [t33, t27]).bind fun t35 =>
        (M.lift (Ax.un .not t35)).bind fun t36 =>
        M.ite t36
          (M.pure (.ret [(V.int .i64 4)]))
          ((M.lift (Ax.faddr 0 t5)).bind fun t38 =>
          (mload none t38).bind fun t39 =>
          (guarded [(0, t39)] (some (0, true)) (M.pure t0)).bind fun t41 =>
          (guarded [(0, t39)] (some (0, true)) (M.lift (Ax.nilck t41))).bind fun t42 =>
          (guarded [(0, t39)] (some (0, true)) (M.lift (Ax.faddr 13 t42))).bind fun t43 =>
          (guarded [(0, t39)] (some (0, true)) (mload none t43)).bind fun t44 =>
          (guarded [(0, t39)] (some (0, true)) (M.lift (Ax.faddr 3 t5))).bind fun t45 =>
          (guarded [(0, t39)] (some (0, true)) (mload none t45)).bind fun t46 =>
          (guarded [(0, t39)] (some (0, true)) (M.lift (Ax.faddr 17 t5))).bind fun t47 =>
          (guarded [(0, t39)] (some (0, true)) (mload none t47)).bind fun t48 =>
          (guarded [(0, t39)] (some (0, true)) (G fn_refs_Fit [t44, t46, t48])).bind fun t49 =>
          (guarded [(0, t39)] (some (0, true)) (M.lift (Ax.un .not t49))).bind fun t50 =>
          (M.lift (Ax.pick t39 t50 (V.bool false))).bind fun t51 =>
          M.ite t51
            ((M.lift (Ax.nilck t0)).bind fun t53 =>
            (M.lift (Ax.faddr 15 t53)).bind fun t54 =>
            (mstore 1 t54 (V.bool true)).bind fun _ =>
            M.pure (.ret [(V.int .i64 5)]))
            ((M.lift (Ax.faddr 0 t5)).bind fun t56 =>
            (mload none t56).bind fun t57 =>
            (M.lift (Ax.un .not t57)).bind fun t58 =>
            (guarded [(0, t58)] (some (0, true)) (M.pure t0)).bind fun t60 =>
            (guarded [(0, t58)] (some (0, true)) (M.lift (Ax.nilck t60))).bind fun t61 =>
            (guarded [(0, t58)] (some (0, true)) (M.lift (Ax.faddr 13 t61))).bind fun t62 =>
            (guarded [(0, t58)] (some (0, true)) (mload none t62)).bind fun t63 =>
            (guarded [(0, t58)] (some (0, true)) (M.lift (Ax.faddr 3 t5))).bind fun t64 =>
            (guarded [(0, t58)] (some (0, true)) (mload none t64)).bind fun t65 =>
            (guarded [(0, t58)] (some (0, true)) (G fn_refs_Has [t63, t65])).bind fun t66 =>
            (guarded [(0, t58)] (some (0, true)) (M.lift (Ax.un .not t66))).bind fun t67 =>
            (M.lift (Ax.pick t58 t67 (V.bool false))).bind fun t68 =>
            M.ite t68
              (M.pure (.ret [(V.int .i64 6)]))
              (M.pure (.nrm [])))))) fun _ =>
    M.pure (.ret [(V.int .i64 0)]))

theorem eq_lane_Lane_why (G : Sem') (t0 t1 t2 t3 : V) : execK G ir_lane_Lane_why.rv ir_lane_Lane_why.body [] [] (params 0 [t0, t1, t2, t3]) = f_lane_Lane_why G t0 t1 t2 t3 := by kernel_rfl

theorem tb_lane_Lane_why : T fn_lane_Lane_why = some ir_lane_Lane_why := by kernel_rfl

theorem ok_lane_Lane_why {t0 t1 t2 t3 : V} {H : Heap} {Q : V → Heap → Prop} (h : Ok (f_lane_Lane_why (sem T) t0 t1 t2 t3) H fun r H' => ∃ L, r = .ret L ∧ Q (tupled L) H') : Ok (sem T fn_lane_Lane_why [t0, t1, t2, t3]) H Q :=
  ok_sem tb_lane_Lane_why (Nat.le_of_ble_eq_true rfl) (eq_lane_Lane_why (sem T) t0 t1 t2 t3) h

/-- palanquin/pick.Fits. -/
def loop_pick_Fits_0 : C :=
  .ops [⟨(some 24), none, .bin .lss (.s 23) (.s 22)⟩]
  (.cond (.s 24)
  (.blk 1
   (.ops [⟨(some 25), none, .mv (.s 23)⟩,
      ⟨(some 14), none, .mv (.s 25)⟩]
    (.ops [⟨(some 27), none, .load (some 6) (.s 4)⟩,
      ⟨(some 28), none, .mv (.s 14)⟩,
      ⟨(some 29), none, .call fn_depend_Layers [(.s 27), (.s 28)]⟩,
      ⟨(some 26), none, .mv (.s 29)⟩,
      ⟨(some 30), none, .ext 0 (.s 26)⟩,
      ⟨(some 31), none, .ext 1 (.s 26)⟩,
      ⟨(some 32), none, .ext 2 (.s 26)⟩,
      ⟨(some 15), none, .mv (.s 30)⟩,
      ⟨(some 16), none, .mv (.s 31)⟩,
      ⟨(some 17), none, .mv (.s 32)⟩]
    (.ops [⟨(some 33), none, .mv (.s 17)⟩,
      ⟨(some 34), none, .un .not (.s 33)⟩,
      ⟨(some 35), none, .mv (.s 34)⟩,
      ⟨(some 36), (some (35, false)), .mv (.s 1)⟩,
      ⟨(some 37), (some (35, false)), .mv (.s 14)⟩,
      ⟨(some 38), (some (35, false)), .bin .shr (.s 36) (.s 37)⟩,
      ⟨(some 39), (some (35, false)), .bin .and (.s 38) (.c (V.int .u32 1))⟩,
      ⟨(some 40), (some (35, false)), .bin .eql (.s 39) (.c (V.int .u32 0))⟩,
      ⟨(some 41), none, .pick (.s 35) (.c (V.bool true)) (.s 40)⟩,
      ⟨(some 42), none, .mv (.s 41)⟩,
      ⟨(some 43), (some (42, false)), .mv (.s 15)⟩,
      ⟨(some 44), (some (42, false)), .mv (.s 2)⟩,
      ⟨(some 45), (some (42, false)), .bin .gtr (.s 43) (.s 44)⟩,
      ⟨(some 46), none, .pick (.s 42) (.c (V.bool true)) (.s 45)⟩,
      ⟨(some 47), none, .mv (.s 46)⟩,
      ⟨(some 48), (some (47, false)), .mv (.s 16)⟩,
      ⟨(some 49), (some (47, false)), .mv (.s 3)⟩,
      ⟨(some 50), (some (47, false)), .bin .gtr (.s 48) (.s 49)⟩,
      ⟨(some 51), none, .pick (.s 47) (.c (V.bool true)) (.s 50)⟩]
    (.cond (.s 51)
    (.exit 1)
    (.ops [⟨(some 52), none, .mv (.s 13)⟩,
       ⟨(some 53), none, .un .not (.s 52)⟩,
       ⟨(some 54), none, .mv (.s 53)⟩,
       ⟨(some 55), (some (54, false)), .mv (.s 15)⟩,
       ⟨(some 56), (some (54, false)), .mv (.s 11)⟩,
       ⟨(some 57), (some (54, false)), .bin .gtr (.s 55) (.s 56)⟩,
       ⟨(some 58), none, .pick (.s 54) (.c (V.bool true)) (.s 57)⟩,
       ⟨(some 59), none, .mv (.s 58)⟩,
       ⟨(some 60), (some (59, false)), .mv (.s 15)⟩,
       ⟨(some 61), (some (59, false)), .mv (.s 11)⟩,
       ⟨(some 62), (some (59, false)), .bin .eql (.s 60) (.s 61)⟩,
       ⟨(some 63), (some (59, false)), .mv (.s 62)⟩,
       ⟨(some 64), (some (63, true)), .mv (.s 16)⟩,
       ⟨(some 65), (some (63, true)), .mv (.s 12)⟩,
       ⟨(some 66), (some (63, true)), .bin .gtr (.s 64) (.s 65)⟩,
       ⟨(some 67), (some (59, false)), .pick (.s 63) (.s 66) (.c (V.bool false))⟩,
       ⟨(some 68), none, .pick (.s 59) (.c (V.bool true)) (.s 67)⟩]
     (.condJ (.s 68)
     (.ops [⟨(some 69), none, .mv (.s 14)⟩,
        ⟨(some 70), none, .mv (.s 15)⟩,
        ⟨(some 71), none, .mv (.s 16)⟩,
        ⟨(some 10), none, .mv (.s 69)⟩,
        ⟨(some 11), none, .mv (.s 70)⟩,
        ⟨(some 12), none, .mv (.s 71)⟩,
        ⟨(some 13), none, .mv (.c (V.bool true))⟩]
      (.done))
     (.done) [10, 11, 12, 13] [69, 70, 71, 10, 11, 12, 13]
     (.done))))))) [10, 11, 12, 13] [25, 14, 27, 28, 29, 26, 30, 31, 32, 15, 16, 17, 33, 34, 35, 36, 37, 38, 39, 40, 41, 42, 43, 44, 45, 46, 47, 48, 49, 50, 51, 52, 53, 54, 55, 56, 57, 58, 59, 60, 61, 62, 63, 64, 65, 66, 67, 68, 69, 70, 71, 10, 11, 12, 13]
   (.ops [⟨(some 72), none, .bin .add (.s 23) (.c (V.int .i64 1))⟩,
     ⟨(some 23), none, .mv (.s 72)⟩]
   (.done)))
  (.exit 0))

def ir_pick_Fits : Fn' := ⟨75, [.tmp 8, .tmp 9],
  .ops [⟨(some 4), none, .box ty_depend_Structure (.s 0)⟩,
    ⟨(some 8), none, .mv (.c (V.int .i64 0))⟩,
    ⟨(some 9), none, .mv (.c (V.bool false))⟩]
  (.ops [⟨(some 18), none, .load (some 6) (.s 4)⟩,
    ⟨(some 19), none, .call fn_depend_Fine [(.s 18)]⟩,
    ⟨(some 20), none, .un .not (.s 19)⟩]
  (.cond (.s 20)
  (.ops [⟨(some 8), none, .mv (.c (V.int .i64 0))⟩,
     ⟨(some 9), none, .mv (.c (V.bool false))⟩]
   (.ret))
  (.ops [⟨(some 10), none, .mv (.c (V.int .i64 0))⟩,
     ⟨(some 11), none, .mv (.c (V.int .i64 0))⟩,
     ⟨(some 12), none, .mv (.c (V.int .i64 0))⟩,
     ⟨(some 13), none, .mv (.c (V.bool false))⟩]
   (.ops [⟨(some 21), none, .faddr 1 (.s 4)⟩,
     ⟨(some 22), none, .load none (.s 21)⟩,
     ⟨(some 23), none, .mv (.c (V.int .i64 0))⟩]
   (.blk 0
   (.loop loop_pick_Fits_0 [10, 11, 12, 13, 23] [24, 25, 14, 27, 28, 29, 26, 30, 31, 32, 15, 16, 17, 33, 34, 35, 36, 37, 38, 39, 40, 41, 42, 43, 44, 45, 46, 47, 48, 49, 50, 51, 52, 53, 54, 55, 56, 57, 58, 59, 60, 61, 62, 63, 64, 65, 66, 67, 68, 69, 70, 71, 10, 11, 12, 13, 72, 23]) [10, 13] [24, 25, 14, 27, 28, 29, 26, 30, 31, 32, 15, 16, 17, 33, 34, 35, 36, 37, 38, 39, 40, 41, 42, 43, 44, 45, 46, 47, 48, 49, 50, 51, 52, 53, 54, 55, 56, 57, 58, 59, 60, 61, 62, 63, 64, 65, 66, 67, 68, 69, 70, 71, 10, 11, 12, 13, 72, 23]
   (.ops [⟨(some 73), none, .mv (.s 10)⟩,
     ⟨(some 74), none, .mv (.s 13)⟩,
     ⟨(some 8), none, .mv (.s 73)⟩,
     ⟨(some 9), none, .mv (.s 74)⟩]
   (.ret)))))))⟩

noncomputable def f_pick_Fits_0 (G : Sem') (t22 t4 t1 t2 t3 t8 t9 : V) (L : List V) : M Res :=
  (M.lift (Ax.bin .lss (L.getD 4 .undef) t22)).bind fun t24 =>
  M.ite t24
    (M.blk 1 (
      (mload (some 6) t4).bind fun t27 =>
      (G fn_depend_Layers [t27, (L.getD 4 .undef)]).bind fun t29 =>
      (M.lift (Ax.ext 0 t29)).bind fun t30 =>
      (M.lift (Ax.ext 1 t29)).bind fun t31 =>
      (M.lift (Ax.ext 2 t29)).bind fun t32 =>
      (M.lift (Ax.un .not t32)).bind fun t34 =>
      (guarded [(0, t34)] (some (0, false)) (M.pure t1)).bind fun t36 =>
      (guarded [(0, t34)] (some (0, false)) (M.pure (L.getD 4 .undef))).bind fun t37 =>
      (guarded [(0, t34)] (some (0, false)) (M.lift (Ax.bin .shr t36 t37))).bind fun t38 =>
      (guarded [(0, t34)] (some (0, false)) (M.lift (Ax.bin .and t38 (V.int .u32 1)))).bind fun t39 =>
      (guarded [(0, t34)] (some (0, false)) (M.lift (Ax.bin .eql t39 (V.int .u32 0)))).bind fun t40 =>
      (M.lift (Ax.pick t34 (V.bool true) t40)).bind fun t41 =>
      (guarded [(0, t41)] (some (0, false)) (M.pure t30)).bind fun t43 =>
      (guarded [(0, t41)] (some (0, false)) (M.pure t2)).bind fun t44 =>
      (guarded [(0, t41)] (some (0, false)) (M.lift (Ax.bin .gtr t43 t44))).bind fun t45 =>
      (M.lift (Ax.pick t41 (V.bool true) t45)).bind fun t46 =>
      (guarded [(0, t46)] (some (0, false)) (M.pure t31)).bind fun t48 =>
      (guarded [(0, t46)] (some (0, false)) (M.pure t3)).bind fun t49 =>
      (guarded [(0, t46)] (some (0, false)) (M.lift (Ax.bin .gtr t48 t49))).bind fun t50 =>
      (M.lift (Ax.pick t46 (V.bool true) t50)).bind fun t51 =>
      M.ite t51
        (M.pure (.ex 1 [(L.getD 0 .undef), (L.getD 1 .undef), (L.getD 2 .undef), (L.getD 3 .undef)]))
        ((M.lift (Ax.un .not (L.getD 3 .undef))).bind fun t53 =>
        (guarded [(0, t53)] (some (0, false)) (M.pure t30)).bind fun t55 =>
        (guarded [(0, t53)] (some (0, false)) (M.pure (L.getD 1 .undef))).bind fun t56 =>
        (guarded [(0, t53)] (some (0, false)) (M.lift (Ax.bin .gtr t55 t56))).bind fun t57 =>
        (M.lift (Ax.pick t53 (V.bool true) t57)).bind fun t58 =>
        (guarded [(0, t58)] (some (0, false)) (M.pure t30)).bind fun t60 =>
        (guarded [(0, t58)] (some (0, false)) (M.pure (L.getD 1 .undef))).bind fun t61 =>
        (guarded [(0, t58)] (some (0, false)) (M.lift (Ax.bin .eql t60 t61))).bind fun t62 =>
        (guarded [(0, t58)] (some (0, false)) (M.pure t62)).bind fun t63 =>
        (guarded [(0, t63)] (some (0, true)) (M.pure t31)).bind fun t64 =>
        (guarded [(0, t63)] (some (0, true)) (M.pure (L.getD 2 .undef))).bind fun t65 =>
        (guarded [(0, t63)] (some (0, true)) (M.lift (Ax.bin .gtr t64 t65))).bind fun t66 =>
        (guarded [(0, t58)] (some (0, false)) (M.lift (Ax.pick t63 t66 (V.bool false)))).bind fun t67 =>
        (M.lift (Ax.pick t58 (V.bool true) t67)).bind fun t68 =>
        M.join (M.ite t68
          (M.pure (.nrm [(L.getD 4 .undef), t30, t31, (V.bool true)]))
          (M.pure (.nrm [(L.getD 0 .undef), (L.getD 1 .undef), (L.getD 2 .undef), (L.getD 3 .undef)]))) fun L0 =>
        M.pure (.nrm [(L0.getD 0 .undef), (L0.getD 1 .undef), (L0.getD 2 .undef), (L0.getD 3 .undef)]))) fun L1 =>
    (M.lift (Ax.bin .add (L.getD 4 .undef) (V.int .i64 1))).bind fun t72 =>
    M.pure (.nrm [(L1.getD 0 .undef), (L1.getD 1 .undef), (L1.getD 2 .undef), (L1.getD 3 .undef), t72]))
    (M.pure (.ex 0 [(L.getD 0 .undef), (L.getD 3 .undef)]))

noncomputable def f_pick_Fits (G : Sem') (t0 t1 t2 t3 : V) : M Res :=
  (mbox ty_depend_Structure t0).bind fun t4 =>
  (mload (some 6) t4).bind fun t18 =>
  (G fn_depend_Fine [t18]).bind fun t19 =>
  (M.lift (Ax.un .not t19)).bind fun t20 =>
  M.ite t20
    (M.pure (.ret [(V.int .i64 0), (V.bool false)]))
    ((M.lift (Ax.faddr 1 t4)).bind fun t21 =>
    (mload none t21).bind fun t22 =>
    M.blk 0 (
      M.iter (f_pick_Fits_0 G t22 t4 t1 t2 t3 (V.int .i64 0) (V.bool false)) [(V.int .i64 0), (V.int .i64 0), (V.int .i64 0), (V.bool false), (V.int .i64 0)]) fun L2 =>
    M.pure (.ret [(L2.getD 0 .undef), (L2.getD 1 .undef)]))

theorem eq_pick_Fits (G : Sem') (t0 t1 t2 t3 : V) : execK G ir_pick_Fits.rv ir_pick_Fits.body [] [] (params 0 [t0, t1, t2, t3]) = f_pick_Fits G t0 t1 t2 t3 := by kernel_rfl

theorem tb_pick_Fits : T fn_pick_Fits = some ir_pick_Fits := by kernel_rfl

theorem ok_pick_Fits {t0 t1 t2 t3 : V} {H : Heap} {Q : V → Heap → Prop} (h : Ok (f_pick_Fits (sem T) t0 t1 t2 t3) H fun r H' => ∃ L, r = .ret L ∧ Q (tupled L) H') : Ok (sem T fn_pick_Fits [t0, t1, t2, t3]) H Q :=
  ok_sem tb_pick_Fits (Nat.le_of_ble_eq_true rfl) (eq_pick_Fits (sem T) t0 t1 t2 t3) h

/-- palanquin/depend.Layers. -/
def loop_depend_Layers_0 : C :=
  .ops [⟨(some 26), none, .bin .lss (.s 25) (.s 24)⟩]
  (.cond (.s 26)
  (.blk 1
   (.ops [⟨(some 27), none, .iaddr none 5 (.s 23) (.s 25)⟩,
      ⟨(some 28), none, .load (some 5) (.s 27)⟩,
      ⟨(some 8), none, .box ty_depend_Template (.c (V.agg [(V.int .i64 0), (V.int .i64 0), V.nils, V.nils, V.nils]))⟩,
      ⟨none, none, .store 5 (.s 8) (.s 28)⟩]
    (.ops [⟨(some 29), none, .faddr 2 (.s 8)⟩,
      ⟨(some 30), none, .load none (.s 29)⟩,
      ⟨(some 31), none, .mv (.s 1)⟩,
      ⟨(some 32), none, .iaddr none 1 (.s 30) (.s 31)⟩,
      ⟨(some 33), none, .load none (.s 32)⟩,
      ⟨(some 34), none, .bin .neq (.s 33) (.c (V.int .i64 0))⟩]
    (.condJ (.s 34)
    (.draw [⟨(some 35), none, .mv (.s 4)⟩,
       ⟨(some 36), none, .faddr 0 (.s 8)⟩,
       ⟨(some 37), none, .load none (.s 36)⟩,
       ⟨(some 38), none, .minmax true (.s 35) [(.s 37)]⟩,
       ⟨(some 39), none, .mv (.s 5)⟩,
       ⟨(some 40), none, .faddr 1 (.s 8)⟩,
       ⟨(some 41), none, .load none (.s 40)⟩,
       ⟨(some 42), none, .minmax true (.s 39) [(.s 41)]⟩,
       ⟨(some 4), none, .mv (.s 38)⟩,
       ⟨(some 5), none, .mv (.s 42)⟩,
       ⟨(some 6), none, .mv (.c (V.bool true))⟩] []
     (.done))
    (.done) [4, 5, 6] [35, 36, 37, 38, 39, 40, 41, 42, 4, 5, 6]
    (.done)))) [4, 5, 6] [27, 28, 8, 29, 30, 31, 32, 33, 34, 35, 36, 37, 38, 39, 40, 41, 42, 4, 5, 6]
   (.ops [⟨(some 43), none, .bin .add (.s 25) (.c (V.int .i64 1))⟩,
     ⟨(some 25), none, .mv (.s 43)⟩]
   (.done)))
  (.exit 0))

def ir_depend_Layers : Fn' := ⟨47, [.tmp 4, .tmp 5, .tmp 6],
  .ops [⟨(some 2), none, .box ty_depend_Structure (.s 0)⟩,
    ⟨(some 4), none, .mv (.c (V.int .i64 0))⟩,
    ⟨(some 5), none, .mv (.c (V.int .i64 0))⟩,
    ⟨(some 6), none, .mv (.c (V.bool false))⟩]
  (.ops [⟨(some 9), none, .load (some 6) (.s 2)⟩,
    ⟨(some 10), none, .call fn_depend_Fine [(.s 9)]⟩,
    ⟨(some 11), none, .un .not (.s 10)⟩,
    ⟨(some 12), none, .mv (.s 11)⟩,
    ⟨(some 13), (some (12, false)), .mv (.s 1)⟩,
    ⟨(some 14), (some (12, false)), .bin .lss (.s 13) (.c (V.int .i64 0))⟩,
    ⟨(some 15), none, .pick (.s 12) (.c (V.bool true)) (.s 14)⟩,
    ⟨(some 16), none, .mv (.s 15)⟩,
    ⟨(some 17), (some (16, false)), .mv (.s 1)⟩,
    ⟨(some 18), (some (16, false)), .faddr 1 (.s 2)⟩,
    ⟨(some 19), (some (16, false)), .load none (.s 18)⟩,
    ⟨(some 20), (some (16, false)), .bin .geq (.s 17) (.s 19)⟩,
    ⟨(some 21), none, .pick (.s 16) (.c (V.bool true)) (.s 20)⟩]
  (.cond (.s 21)
  (.ops [⟨(some 4), none, .mv (.c (V.int .i64 0))⟩,
     ⟨(some 5), none, .mv (.c (V.int .i64 0))⟩,
     ⟨(some 6), none, .mv (.c (V.bool false))⟩]
   (.ret))
  (.ops [⟨(some 22), none, .faddr 2 (.s 2)⟩,
     ⟨(some 23), none, .load none (.s 22)⟩,
     ⟨(some 24), none, .len (.s 23)⟩,
     ⟨(some 25), none, .mv (.c (V.int .i64 0))⟩]
   (.blk 0
   (.loop loop_depend_Layers_0 [4, 5, 6, 25] [26, 27, 28, 8, 29, 30, 31, 32, 33, 34, 35, 36, 37, 38, 39, 40, 41, 42, 4, 5, 6, 43, 25]) [4, 5, 6] [26, 27, 28, 8, 29, 30, 31, 32, 33, 34, 35, 36, 37, 38, 39, 40, 41, 42, 4, 5, 6, 43, 25]
   (.ops [⟨(some 44), none, .mv (.s 4)⟩,
     ⟨(some 45), none, .mv (.s 5)⟩,
     ⟨(some 46), none, .mv (.s 6)⟩,
     ⟨(some 4), none, .mv (.s 44)⟩,
     ⟨(some 5), none, .mv (.s 45)⟩,
     ⟨(some 6), none, .mv (.s 46)⟩]
   (.ret))))))⟩

noncomputable def f_depend_Layers_0 (G : Sem') (t24 t23 t1 : V) (L : List V) : M Res :=
  (M.lift (Ax.bin .lss (L.getD 3 .undef) t24)).bind fun t26 =>
  M.ite t26
    (M.blk 1 (
      (M.lift (Ax.iaddr none 5 t23 (L.getD 3 .undef))).bind fun t27 =>
      (mload (some 5) t27).bind fun t28 =>
      (mbox ty_depend_Template (V.agg [(V.int .i64 0), (V.int .i64 0), V.nils, V.nils, V.nils])).bind fun t8 =>
      (mstore 5 t8 t28).bind fun _ =>
      (M.lift (Ax.faddr 2 t8)).bind fun t29 =>
      (mload none t29).bind fun t30 =>
      (M.lift (Ax.iaddr none 1 t30 t1)).bind fun t32 =>
      (mload none t32).bind fun t33 =>
      (M.lift (Ax.bin .neq t33 (V.int .i64 0))).bind fun t34 =>
      M.join (M.ite t34
        ((M.lift (Ax.faddr 0 t8)).bind fun t36 =>
        (mload none t36).bind fun t37 =>
        (M.lift (Ax.minmax true (L.getD 0 .undef) [t37])).bind fun t38 =>
        (M.lift (Ax.faddr 1 t8)).bind fun t40 =>
        (mload none t40).bind fun t41 =>
        (M.lift (Ax.minmax true (L.getD 1 .undef) [t41])).bind fun t42 =>
        M.pure (.nrm [t38, t42, (V.bool true)]))
        (M.pure (.nrm [(L.getD 0 .undef), (L.getD 1 .undef), (L.getD 2 .undef)]))) fun L0 =>
      M.pure (.nrm [(L0.getD 0 .undef), (L0.getD 1 .undef), (L0.getD 2 .undef)])) fun L1 =>
    (M.lift (Ax.bin .add (L.getD 3 .undef) (V.int .i64 1))).bind fun t43 =>
    M.pure (.nrm [(L1.getD 0 .undef), (L1.getD 1 .undef), (L1.getD 2 .undef), t43]))
    (M.pure (.ex 0 [(L.getD 0 .undef), (L.getD 1 .undef), (L.getD 2 .undef)]))

noncomputable def f_depend_Layers (G : Sem') (t0 t1 : V) : M Res :=
  (mbox ty_depend_Structure t0).bind fun t2 =>
  (mload (some 6) t2).bind fun t9 =>
  (G fn_depend_Fine [t9]).bind fun t10 =>
  (M.lift (Ax.un .not t10)).bind fun t11 =>
  (guarded [(0, t11)] (some (0, false)) (M.pure t1)).bind fun t13 =>
  (guarded [(0, t11)] (some (0, false)) (M.lift (Ax.bin .lss t13 (V.int .i64 0)))).bind fun t14 =>
  (M.lift (Ax.pick t11 (V.bool true) t14)).bind fun t15 =>
  (guarded [(0, t15)] (some (0, false)) (M.pure t1)).bind fun t17 =>
  (guarded [(0, t15)] (some (0, false)) (M.lift (Ax.faddr 1 t2))).bind fun t18 =>
  (guarded [(0, t15)] (some (0, false)) (mload none t18)).bind fun t19 =>
  (guarded [(0, t15)] (some (0, false)) (M.lift (Ax.bin .geq t17 t19))).bind fun t20 =>
  (M.lift (Ax.pick t15 (V.bool true) t20)).bind fun t21 =>
  M.ite t21
    (M.pure (.ret [(V.int .i64 0), (V.int .i64 0), (V.bool false)]))
    ((M.lift (Ax.faddr 2 t2)).bind fun t22 =>
    (mload none t22).bind fun t23 =>
    (M.lift (vlen t23)).bind fun t24 =>
    M.blk 0 (
      M.iter (f_depend_Layers_0 G t24 t23 t1) [(V.int .i64 0), (V.int .i64 0), (V.bool false), (V.int .i64 0)]) fun L2 =>
    M.pure (.ret [(L2.getD 0 .undef), (L2.getD 1 .undef), (L2.getD 2 .undef)]))

theorem eq_depend_Layers (G : Sem') (t0 t1 : V) : execK G ir_depend_Layers.rv ir_depend_Layers.body [] [] (params 0 [t0, t1]) = f_depend_Layers G t0 t1 := by kernel_rfl

theorem tb_depend_Layers : T fn_depend_Layers = some ir_depend_Layers := by kernel_rfl

theorem ok_depend_Layers {t0 t1 : V} {H : Heap} {Q : V → Heap → Prop} (h : Ok (f_depend_Layers (sem T) t0 t1) H fun r H' => ∃ L, r = .ret L ∧ Q (tupled L) H') : Ok (sem T fn_depend_Layers [t0, t1]) H Q :=
  ok_sem tb_depend_Layers (Nat.le_of_ble_eq_true rfl) (eq_depend_Layers (sem T) t0 t1) h

/-- palanquin/pick.In. -/
def ir_pick_In : Fn' := ⟨22, [.tmp 4],
  .ops [⟨(some 2), none, .box ty_depend_Frame (.s 0)⟩,
    ⟨(some 4), none, .mv (.c (V.bool false))⟩]
  (.ops [⟨(some 5), none, .mv (.s 1)⟩,
    ⟨(some 6), none, .bin .geq (.s 5) (.c (V.int .i64 0))⟩,
    ⟨(some 7), none, .mv (.s 6)⟩,
    ⟨(some 8), (some (7, true)), .mv (.s 1)⟩,
    ⟨(some 9), (some (7, true)), .faddr 16 (.s 2)⟩,
    ⟨(some 10), (some (7, true)), .load none (.s 9)⟩,
    ⟨(some 11), (some (7, true)), .len (.s 10)⟩,
    ⟨(some 12), (some (7, true)), .bin .lss (.s 8) (.s 11)⟩,
    ⟨(some 13), none, .pick (.s 7) (.s 12) (.c (V.bool false))⟩,
    ⟨(some 14), none, .mv (.s 13)⟩,
    ⟨(some 15), (some (14, true)), .faddr 16 (.s 2)⟩,
    ⟨(some 16), (some (14, true)), .load none (.s 15)⟩,
    ⟨(some 17), (some (14, true)), .mv (.s 1)⟩,
    ⟨(some 18), (some (14, true)), .iaddr none 1 (.s 16) (.s 17)⟩,
    ⟨(some 19), (some (14, true)), .load none (.s 18)⟩,
    ⟨(some 20), (some (14, true)), .bin .neq (.s 19) (.c (V.int .i64 0))⟩,
    ⟨(some 21), none, .pick (.s 14) (.s 20) (.c (V.bool false))⟩,
    ⟨(some 4), none, .mv (.s 21)⟩]
  (.ret))⟩

noncomputable def f_pick_In (G : Sem') (t0 t1 : V) : M Res :=
  (mbox ty_depend_Frame t0).bind fun t2 =>
  (M.lift (Ax.bin .geq t1 (V.int .i64 0))).bind fun t6 =>
  (guarded [(0, t6)] (some (0, true)) (M.pure t1)).bind fun t8 =>
  (guarded [(0, t6)] (some (0, true)) (M.lift (Ax.faddr 16 t2))).bind fun t9 =>
  (guarded [(0, t6)] (some (0, true)) (mload none t9)).bind fun t10 =>
  (guarded [(0, t6)] (some (0, true)) (M.lift (vlen t10))).bind fun t11 =>
  (guarded [(0, t6)] (some (0, true)) (M.lift (Ax.bin .lss t8 t11))).bind fun t12 =>
  (M.lift (Ax.pick t6 t12 (V.bool false))).bind fun t13 =>
  (guarded [(0, t13)] (some (0, true)) (M.lift (Ax.faddr 16 t2))).bind fun t15 =>
  (guarded [(0, t13)] (some (0, true)) (mload none t15)).bind fun t16 =>
  (guarded [(0, t13)] (some (0, true)) (M.pure t1)).bind fun t17 =>
  (guarded [(0, t13)] (some (0, true)) (M.lift (Ax.iaddr none 1 t16 t17))).bind fun t18 =>
  (guarded [(0, t13)] (some (0, true)) (mload none t18)).bind fun t19 =>
  (guarded [(0, t13)] (some (0, true)) (M.lift (Ax.bin .neq t19 (V.int .i64 0)))).bind fun t20 =>
  (M.lift (Ax.pick t13 t20 (V.bool false))).bind fun t21 =>
  M.pure (.ret [t21])

theorem eq_pick_In (G : Sem') (t0 t1 : V) : execK G ir_pick_In.rv ir_pick_In.body [] [] (params 0 [t0, t1]) = f_pick_In G t0 t1 := by kernel_rfl

theorem tb_pick_In : T fn_pick_In = some ir_pick_In := by kernel_rfl

theorem ok_pick_In {t0 t1 : V} {H : Heap} {Q : V → Heap → Prop} (h : Ok (f_pick_In (sem T) t0 t1) H fun r H' => ∃ L, r = .ret L ∧ Q (tupled L) H') : Ok (sem T fn_pick_In [t0, t1]) H Q :=
  ok_sem tb_pick_In (Nat.le_of_ble_eq_true rfl) (eq_pick_In (sem T) t0 t1) h

/-- palanquin/refs.Fit. -/
def loop_refs_Fit_0 : C :=
  .ops [⟨(some 12), none, .bin .lss (.s 11) (.s 10)⟩]
  (.cond (.s 12)
  (.blk 1
   (.ops [⟨(some 13), none, .iaddr none 1 (.s 9) (.s 11)⟩,
      ⟨(some 14), none, .load none (.s 13)⟩,
      ⟨(some 8), none, .mv (.s 14)⟩]
    (.ops [⟨(some 15), none, .mv (.s 8)⟩,
      ⟨(some 16), none, .bin .lss (.s 15) (.c (V.int .i64 1))⟩,
      ⟨(some 17), none, .mv (.s 16)⟩,
      ⟨(some 18), (some (17, false)), .mv (.s 8)⟩,
      ⟨(some 19), (some (17, false)), .bin .gtr (.s 18) (.c (V.int .i64 4096))⟩,
      ⟨(some 20), none, .pick (.s 17) (.c (V.bool true)) (.s 19)⟩,
      ⟨(some 21), none, .mv (.s 20)⟩,
      ⟨(some 22), (some (21, false)), .mv (.s 0)⟩,
      ⟨(some 23), (some (21, false)), .mv (.s 1)⟩,
      ⟨(some 24), (some (21, false)), .mv (.s 8)⟩,
      ⟨(some 25), (some (21, false)), .cint .u16 (.s 24)⟩,
      ⟨(some 26), (some (21, false)), .bin .sub (.s 23) (.s 25)⟩,
      ⟨(some 27), (some (21, false)), .call fn_refs_Has [(.s 22), (.s 26)]⟩,
      ⟨(some 28), (some (21, false)), .un .not (.s 27)⟩,
      ⟨(some 29), none, .pick (.s 21) (.c (V.bool true)) (.s 28)⟩]
    (.cond (.s 29)
    (.ops [⟨(some 6), none, .mv (.c (V.bool false))⟩]
     (.ret))
    (.done)))) [] [13, 14, 8, 15, 16, 17, 18, 19, 20, 21, 22, 23, 24, 25, 26, 27, 28, 29, 6]
   (.ops [⟨(some 30), none, .bin .add (.s 11) (.c (V.int .i64 1))⟩,
     ⟨(some 11), none, .mv (.s 30)⟩]
   (.done)))
  (.exit 0))

def ir_refs_Fit : Fn' := ⟨31, [.tmp 6],
  .ops [⟨(some 6), none, .mv (.c (V.bool false))⟩]
  (.ops [⟨(some 9), none, .mv (.s 2)⟩,
    ⟨(some 10), none, .len (.s 9)⟩,
    ⟨(some 11), none, .mv (.c (V.int .i64 0))⟩]
  (.blk 0
  (.loop loop_refs_Fit_0 [11] [12, 13, 14, 8, 15, 16, 17, 18, 19, 20, 21, 22, 23, 24, 25, 26, 27, 28, 29, 6, 30, 11]) [] [12, 13, 14, 8, 15, 16, 17, 18, 19, 20, 21, 22, 23, 24, 25, 26, 27, 28, 29, 6, 30, 11]
  (.ops [⟨(some 6), none, .mv (.c (V.bool true))⟩]
  (.ret))))⟩

noncomputable def f_refs_Fit_0 (G : Sem') (t10 t9 t0 t1 : V) (L : List V) : M Res :=
  (M.lift (Ax.bin .lss (L.getD 0 .undef) t10)).bind fun t12 =>
  M.ite t12
    (M.blk 1 (
      (M.lift (Ax.iaddr none 1 t9 (L.getD 0 .undef))).bind fun t13 =>
      (mload none t13).bind fun t14 =>
      (M.lift (Ax.bin .lss t14 (V.int .i64 1))).bind fun t16 =>
      (guarded [(0, t16)] (some (0, false)) (M.pure t14)).bind fun t18 =>
      (guarded [(0, t16)] (some (0, false)) (M.lift (Ax.bin .gtr t18 (V.int .i64 4096)))).bind fun t19 =>
      (M.lift (Ax.pick t16 (V.bool true) t19)).bind fun t20 =>
      (guarded [(0, t20)] (some (0, false)) (M.pure t0)).bind fun t22 =>
      (guarded [(0, t20)] (some (0, false)) (M.pure t1)).bind fun t23 =>
      (guarded [(0, t20)] (some (0, false)) (M.pure t14)).bind fun t24 =>
      (guarded [(0, t20)] (some (0, false)) (M.lift (Ax.cint .u16 t24))).bind fun t25 =>
      (guarded [(0, t20)] (some (0, false)) (M.lift (Ax.bin .sub t23 t25))).bind fun t26 =>
      (guarded [(0, t20)] (some (0, false)) (G fn_refs_Has [t22, t26])).bind fun t27 =>
      (guarded [(0, t20)] (some (0, false)) (M.lift (Ax.un .not t27))).bind fun t28 =>
      (M.lift (Ax.pick t20 (V.bool true) t28)).bind fun t29 =>
      M.ite t29
        (M.pure (.ret [(V.bool false)]))
        (M.pure (.nrm []))) fun _ =>
    (M.lift (Ax.bin .add (L.getD 0 .undef) (V.int .i64 1))).bind fun t30 =>
    M.pure (.nrm [t30]))
    (M.pure (.ex 0 []))

noncomputable def f_refs_Fit (G : Sem') (t0 t1 t2 : V) : M Res :=
  (M.lift (vlen t2)).bind fun t10 =>
  M.blk 0 (
    M.iter (f_refs_Fit_0 G t10 t2 t0 t1) [(V.int .i64 0)]) fun _ =>
  M.pure (.ret [(V.bool true)])

theorem eq_refs_Fit (G : Sem') (t0 t1 t2 : V) : execK G ir_refs_Fit.rv ir_refs_Fit.body [] [] (params 0 [t0, t1, t2]) = f_refs_Fit G t0 t1 t2 := by kernel_rfl

theorem tb_refs_Fit : T fn_refs_Fit = some ir_refs_Fit := by kernel_rfl

theorem ok_refs_Fit {t0 t1 t2 : V} {H : Heap} {Q : V → Heap → Prop} (h : Ok (f_refs_Fit (sem T) t0 t1 t2) H fun r H' => ∃ L, r = .ret L ∧ Q (tupled L) H') : Ok (sem T fn_refs_Fit [t0, t1, t2]) H Q :=
  ok_sem tb_refs_Fit (Nat.le_of_ble_eq_true rfl) (eq_refs_Fit (sem T) t0 t1 t2) h

/-- palanquin/refs.Has. -/
def ir_refs_Has : Fn' := ⟨8, [.tmp 4],
  .ops [⟨(some 4), none, .mv (.c (V.bool false))⟩]
  (.ops [⟨(some 5), none, .mv (.s 0)⟩,
    ⟨(some 6), none, .mv (.s 1)⟩,
    ⟨(some 7), none, .call fn_slices_Contains_uint16_uint16 [(.s 5), (.s 6)]⟩,
    ⟨(some 4), none, .mv (.s 7)⟩]
  (.ret))⟩

noncomputable def f_refs_Has (G : Sem') (t0 t1 : V) : M Res :=
  (G fn_slices_Contains_uint16_uint16 [t0, t1]).bind fun t7 =>
  M.pure (.ret [t7])

theorem eq_refs_Has (G : Sem') (t0 t1 : V) : execK G ir_refs_Has.rv ir_refs_Has.body [] [] (params 0 [t0, t1]) = f_refs_Has G t0 t1 := by kernel_rfl

theorem tb_refs_Has : T fn_refs_Has = some ir_refs_Has := by kernel_rfl

theorem ok_refs_Has {t0 t1 : V} {H : Heap} {Q : V → Heap → Prop} (h : Ok (f_refs_Has (sem T) t0 t1) H fun r H' => ∃ L, r = .ret L ∧ Q (tupled L) H') : Ok (sem T fn_refs_Has [t0, t1]) H Q :=
  ok_sem tb_refs_Has (Nat.le_of_ble_eq_true rfl) (eq_refs_Has (sem T) t0 t1) h

/-- slices.Contains[[]uint16,uint16]. -/
def ir_slices_Contains_uint16_uint16 : Fn' := ⟨9, [.tmp 4],
  .ops [⟨(some 4), none, .mv (.c (V.bool false))⟩]
  (.ops [⟨(some 5), none, .mv (.s 0)⟩,
    ⟨(some 6), none, .mv (.s 1)⟩,
    ⟨(some 7), none, .call fn_slices_Index_uint16_uint16 [(.s 5), (.s 6)]⟩,
    ⟨(some 8), none, .bin .geq (.s 7) (.c (V.int .i64 0))⟩,
    ⟨(some 4), none, .mv (.s 8)⟩]
  (.ret))⟩

noncomputable def f_slices_Contains_uint16_uint16 (G : Sem') (t0 t1 : V) : M Res :=
  (G fn_slices_Index_uint16_uint16 [t0, t1]).bind fun t7 =>
  (M.lift (Ax.bin .geq t7 (V.int .i64 0))).bind fun t8 =>
  M.pure (.ret [t8])

theorem eq_slices_Contains_uint16_uint16 (G : Sem') (t0 t1 : V) : execK G ir_slices_Contains_uint16_uint16.rv ir_slices_Contains_uint16_uint16.body [] [] (params 0 [t0, t1]) = f_slices_Contains_uint16_uint16 G t0 t1 := by kernel_rfl

theorem tb_slices_Contains_uint16_uint16 : T fn_slices_Contains_uint16_uint16 = some ir_slices_Contains_uint16_uint16 := by kernel_rfl

theorem ok_slices_Contains_uint16_uint16 {t0 t1 : V} {H : Heap} {Q : V → Heap → Prop} (h : Ok (f_slices_Contains_uint16_uint16 (sem T) t0 t1) H fun r H' => ∃ L, r = .ret L ∧ Q (tupled L) H') : Ok (sem T fn_slices_Contains_uint16_uint16 [t0, t1]) H Q :=
  ok_sem tb_slices_Contains_uint16_uint16 (Nat.le_of_ble_eq_true rfl) (eq_slices_Contains_uint16_uint16 (sem T) t0 t1) h

/-- slices.Index[[]uint16,uint16]. -/
def loop_slices_Index_uint16_uint16_0 : C :=
  .ops [⟨(some 9), none, .bin .lss (.s 8) (.s 7)⟩]
  (.cond (.s 9)
  (.blk 1
   (.ops [⟨(some 10), none, .mv (.s 8)⟩,
      ⟨(some 5), none, .mv (.s 10)⟩]
    (.ops [⟨(some 11), none, .mv (.s 1)⟩,
      ⟨(some 12), none, .mv (.s 0)⟩,
      ⟨(some 13), none, .mv (.s 5)⟩,
      ⟨(some 14), none, .iaddr none 1 (.s 12) (.s 13)⟩,
      ⟨(some 15), none, .load none (.s 14)⟩,
      ⟨(some 16), none, .bin .eql (.s 11) (.s 15)⟩]
    (.cond (.s 16)
    (.ops [⟨(some 17), none, .mv (.s 5)⟩,
       ⟨(some 4), none, .mv (.s 17)⟩]
     (.ret))
    (.done)))) [] [10, 5, 11, 12, 13, 14, 15, 16, 17, 4]
   (.ops [⟨(some 18), none, .bin .add (.s 8) (.c (V.int .i64 1))⟩,
     ⟨(some 8), none, .mv (.s 18)⟩]
   (.done)))
  (.exit 0))

def ir_slices_Index_uint16_uint16 : Fn' := ⟨19, [.tmp 4],
  .ops [⟨(some 4), none, .mv (.c (V.int .i64 0))⟩]
  (.ops [⟨(some 6), none, .mv (.s 0)⟩,
    ⟨(some 7), none, .len (.s 6)⟩,
    ⟨(some 8), none, .mv (.c (V.int .i64 0))⟩]
  (.blk 0
  (.loop loop_slices_Index_uint16_uint16_0 [8] [9, 10, 5, 11, 12, 13, 14, 15, 16, 17, 4, 18, 8]) [] [9, 10, 5, 11, 12, 13, 14, 15, 16, 17, 4, 18, 8]
  (.ops [⟨(some 4), none, .mv (.c (V.int .i64 (-1)))⟩]
  (.ret))))⟩

noncomputable def f_slices_Index_uint16_uint16_0 (G : Sem') (t7 t1 t0 : V) (L : List V) : M Res :=
  (M.lift (Ax.bin .lss (L.getD 0 .undef) t7)).bind fun t9 =>
  M.ite t9
    (M.blk 1 (
      (M.lift (Ax.iaddr none 1 t0 (L.getD 0 .undef))).bind fun t14 =>
      (mload none t14).bind fun t15 =>
      (M.lift (Ax.bin .eql t1 t15)).bind fun t16 =>
      M.ite t16
        (M.pure (.ret [(L.getD 0 .undef)]))
        (M.pure (.nrm []))) fun _ =>
    (M.lift (Ax.bin .add (L.getD 0 .undef) (V.int .i64 1))).bind fun t18 =>
    M.pure (.nrm [t18]))
    (M.pure (.ex 0 []))

noncomputable def f_slices_Index_uint16_uint16 (G : Sem') (t0 t1 : V) : M Res :=
  (M.lift (vlen t0)).bind fun t7 =>
  M.blk 0 (
    M.iter (f_slices_Index_uint16_uint16_0 G t7 t1 t0) [(V.int .i64 0)]) fun _ =>
  M.pure (.ret [(V.int .i64 (-1))])

theorem eq_slices_Index_uint16_uint16 (G : Sem') (t0 t1 : V) : execK G ir_slices_Index_uint16_uint16.rv ir_slices_Index_uint16_uint16.body [] [] (params 0 [t0, t1]) = f_slices_Index_uint16_uint16 G t0 t1 := by kernel_rfl

theorem tb_slices_Index_uint16_uint16 : T fn_slices_Index_uint16_uint16 = some ir_slices_Index_uint16_uint16 := by kernel_rfl

theorem ok_slices_Index_uint16_uint16 {t0 t1 : V} {H : Heap} {Q : V → Heap → Prop} (h : Ok (f_slices_Index_uint16_uint16 (sem T) t0 t1) H fun r H' => ∃ L, r = .ret L ∧ Q (tupled L) H') : Ok (sem T fn_slices_Index_uint16_uint16 [t0, t1]) H Q :=
  ok_sem tb_slices_Index_uint16_uint16 (Nat.le_of_ble_eq_true rfl) (eq_slices_Index_uint16_uint16 (sem T) t0 t1) h

/-- palanquin/refs.Add. -/
def loop_refs_Add_0 : C :=
  .ops [⟨(some 16), none, .mv (.s 7)⟩,
    ⟨(some 17), none, .bin .geq (.s 16) (.c (V.int .i64 0))⟩,
    ⟨(some 18), none, .mv (.s 17)⟩,
    ⟨(some 19), (some (18, true)), .mv (.s 6)⟩,
    ⟨(some 20), (some (18, true)), .len (.s 19)⟩,
    ⟨(some 21), (some (18, true)), .bin .lss (.s 20) (.c (V.int .i64 256))⟩,
    ⟨(some 22), none, .pick (.s 18) (.s 21) (.c (V.bool false))⟩]
  (.cond (.s 22)
  (.blk 1
   (.ops [⟨(some 25), none, .mv (.s 6)⟩,
      ⟨(some 26), none, .mv (.s 5)⟩,
      ⟨(some 27), none, .mv (.s 7)⟩,
      ⟨(some 28), none, .iaddr none 1 (.s 26) (.s 27)⟩,
      ⟨(some 29), none, .load none (.s 28)⟩,
      ⟨(some 30), none, .call fn_slices_Contains_uint16_uint16 [(.s 25), (.s 29)]⟩,
      ⟨(some 31), none, .un .not (.s 30)⟩]
    (.condJ (.s 31)
    (.ops [⟨(some 32), none, .mv (.s 6)⟩,
       ⟨(some 33), none, .mv (.s 5)⟩,
       ⟨(some 34), none, .mv (.s 7)⟩,
       ⟨(some 35), none, .iaddr none 1 (.s 33) (.s 34)⟩,
       ⟨(some 36), none, .load none (.s 35)⟩,
       ⟨(some 37), none, .slit ty_uint16 1 [(V.int .u16 0)] [(0, 1, (.s 36))]⟩,
       ⟨(some 38), none, .append ty_uint16 1 2 (.s 32) (.s 37)⟩,
       ⟨(some 6), none, .mv (.s 38)⟩]
     (.done))
    (.done) [6] [32, 33, 34, 35, 36, 37, 38, 6]
    (.done))) [6] [25, 26, 27, 28, 29, 30, 31, 32, 33, 34, 35, 36, 37, 38, 6]
   (.ops [⟨(some 23), none, .mv (.s 7)⟩,
     ⟨(some 24), none, .bin .sub (.s 23) (.c (V.int .i64 1))⟩,
     ⟨(some 7), none, .mv (.s 24)⟩]
   (.done)))
  (.exit 0))

def ir_refs_Add : Fn' := ⟨42, [.tmp 4],
  .ops [⟨(some 4), none, .mv (.c V.nils)⟩]
  (.ops [⟨(some 8), none, .mv (.s 0)⟩,
    ⟨(some 9), none, .call fn_slices_Clone_uint16_uint16 [(.s 8)]⟩,
    ⟨(some 10), none, .mv (.s 1)⟩,
    ⟨(some 11), none, .slit ty_uint16 1 [(V.int .u16 0)] [(0, 1, (.s 10))]⟩,
    ⟨(some 12), none, .append ty_uint16 1 2 (.s 9) (.s 11)⟩,
    ⟨(some 5), none, .mv (.s 12)⟩]
  (.ops [⟨(some 6), none, .mv (.c V.nils)⟩]
  (.ops [⟨(some 13), none, .mv (.s 5)⟩,
    ⟨(some 14), none, .len (.s 13)⟩,
    ⟨(some 15), none, .bin .sub (.s 14) (.c (V.int .i64 1))⟩,
    ⟨(some 7), none, .mv (.s 15)⟩]
  (.blk 0
  (.loop loop_refs_Add_0 [6, 7] [16, 17, 18, 19, 20, 21, 22, 25, 26, 27, 28, 29, 30, 31, 32, 33, 34, 35, 36, 37, 38, 6, 23, 24, 7]) [6] [16, 17, 18, 19, 20, 21, 22, 25, 26, 27, 28, 29, 30, 31, 32, 33, 34, 35, 36, 37, 38, 6, 23, 24, 7]
  (.ops [⟨(some 39), none, .mv (.s 6)⟩,
    ⟨(some 40), none, .call fn_slices_Reverse_uint16_uint16 [(.s 39)]⟩]
  (.ops [⟨(some 41), none, .mv (.s 6)⟩,
    ⟨(some 4), none, .mv (.s 41)⟩]
  (.ret)))))))⟩

noncomputable def f_refs_Add_0 (G : Sem') (t5 t4 : V) (L : List V) : M Res :=
  (M.lift (Ax.bin .geq (L.getD 1 .undef) (V.int .i64 0))).bind fun t17 =>
  (guarded [(0, t17)] (some (0, true)) (M.pure (L.getD 0 .undef))).bind fun t19 =>
  (guarded [(0, t17)] (some (0, true)) (M.lift (vlen t19))).bind fun t20 =>
  (guarded [(0, t17)] (some (0, true)) (M.lift (Ax.bin .lss t20 (V.int .i64 256)))).bind fun t21 =>
  (M.lift (Ax.pick t17 t21 (V.bool false))).bind fun t22 =>
  M.ite t22
    (M.blk 1 (
      (M.lift (Ax.iaddr none 1 t5 (L.getD 1 .undef))).bind fun t28 =>
      (mload none t28).bind fun t29 =>
      (G fn_slices_Contains_uint16_uint16 [(L.getD 0 .undef), t29]).bind fun t30 =>
      (M.lift (Ax.un .not t30)).bind fun t31 =>
      M.join (M.ite t31
        ((M.lift (Ax.iaddr none 1 t5 (L.getD 1 .undef))).bind fun t35 =>
        (mload none t35).bind fun t36 =>
        (mslit ty_uint16 1 [(V.int .u16 0)] [(0, 1, t36)]).bind fun t37 =>
        (mappend ty_uint16 1 2 (L.getD 0 .undef) t37).bind fun t38 =>
        M.pure (.nrm [t38]))
        (M.pure (.nrm [(L.getD 0 .undef)]))) fun L0 =>
      M.pure (.nrm [(L0.getD 0 .undef)])) fun L1 =>
    (M.lift (Ax.bin .sub (L.getD 1 .undef) (V.int .i64 1))).bind fun t24 =>
    M.pure (.nrm [(L1.getD 0 .undef), t24]))
    (M.pure (.ex 0 [(L.getD 0 .undef)]))

noncomputable def f_refs_Add (G : Sem') (t0 t1 : V) : M Res :=
  (G fn_slices_Clone_uint16_uint16 [t0]).bind fun t9 =>
  (mslit ty_uint16 1 [(V.int .u16 0)] [(0, 1, t1)]).bind fun t11 =>
  (mappend ty_uint16 1 2 t9 t11).bind fun t12 =>
  (M.lift (vlen t12)).bind fun t14 =>
  (M.lift (Ax.bin .sub t14 (V.int .i64 1))).bind fun t15 =>
  M.blk 0 (
    M.iter (f_refs_Add_0 G t12 V.nils) [V.nils, t15]) fun L2 =>
  (G fn_slices_Reverse_uint16_uint16 [(L2.getD 0 .undef)]).bind fun t40 =>
  M.pure (.ret [(L2.getD 0 .undef)])

theorem eq_refs_Add (G : Sem') (t0 t1 : V) : execK G ir_refs_Add.rv ir_refs_Add.body [] [] (params 0 [t0, t1]) = f_refs_Add G t0 t1 := by kernel_rfl

theorem tb_refs_Add : T fn_refs_Add = some ir_refs_Add := by kernel_rfl

theorem ok_refs_Add {t0 t1 : V} {H : Heap} {Q : V → Heap → Prop} (h : Ok (f_refs_Add (sem T) t0 t1) H fun r H' => ∃ L, r = .ret L ∧ Q (tupled L) H') : Ok (sem T fn_refs_Add [t0, t1]) H Q :=
  ok_sem tb_refs_Add (Nat.le_of_ble_eq_true rfl) (eq_refs_Add (sem T) t0 t1) h

/-- slices.Clone[[]uint16,uint16]. -/
def ir_slices_Clone_uint16_uint16 : Fn' := ⟨8, [.tmp 2],
  .ops [⟨(some 2), none, .mv (.c V.nils)⟩]
  (.ops [⟨(some 3), none, .mv (.s 0)⟩,
    ⟨(some 4), none, .eq .sl false (.s 3) (.c V.nils)⟩]
  (.cond (.s 4)
  (.ops [⟨(some 2), none, .mv (.c V.nils)⟩]
   (.ret))
  (.ops [⟨(some 5), none, .slit ty_uint16 0 [(V.int .u16 0)] []⟩,
     ⟨(some 6), none, .mv (.s 0)⟩,
     ⟨(some 7), none, .append ty_uint16 1 2 (.s 5) (.s 6)⟩,
     ⟨(some 2), none, .mv (.s 7)⟩]
   (.ret))))⟩

noncomputable def f_slices_Clone_uint16_uint16 (G : Sem') (t0 : V) : M Res :=
  (M.lift (eqr .sl false t0 V.nils)).bind fun t4 =>
  M.ite t4
    (M.pure (.ret [V.nils]))
    ((mslit ty_uint16 0 [(V.int .u16 0)] []).bind fun t5 =>
    (mappend ty_uint16 1 2 t5 t0).bind fun t7 =>
    M.pure (.ret [t7]))

theorem eq_slices_Clone_uint16_uint16 (G : Sem') (t0 : V) : execK G ir_slices_Clone_uint16_uint16.rv ir_slices_Clone_uint16_uint16.body [] [] (params 0 [t0]) = f_slices_Clone_uint16_uint16 G t0 := by kernel_rfl

theorem tb_slices_Clone_uint16_uint16 : T fn_slices_Clone_uint16_uint16 = some ir_slices_Clone_uint16_uint16 := by kernel_rfl

theorem ok_slices_Clone_uint16_uint16 {t0 : V} {H : Heap} {Q : V → Heap → Prop} (h : Ok (f_slices_Clone_uint16_uint16 (sem T) t0) H fun r H' => ∃ L, r = .ret L ∧ Q (tupled L) H') : Ok (sem T fn_slices_Clone_uint16_uint16 [t0]) H Q :=
  ok_sem tb_slices_Clone_uint16_uint16 (Nat.le_of_ble_eq_true rfl) (eq_slices_Clone_uint16_uint16 (sem T) t0) h

/-- slices.Reverse[[]uint16,uint16]. -/
def loop_slices_Reverse_uint16_uint16_0 : C :=
  .ops [⟨(some 7), none, .mv (.s 2)⟩,
    ⟨(some 8), none, .mv (.s 3)⟩,
    ⟨(some 9), none, .bin .lss (.s 7) (.s 8)⟩]
  (.cond (.s 9)
  (.blk 1
   (.draw [⟨(some 14), none, .mv (.s 0)⟩,
      ⟨(some 15), none, .mv (.s 2)⟩,
      ⟨(some 16), none, .mv (.s 0)⟩,
      ⟨(some 17), none, .mv (.s 3)⟩,
      ⟨(some 18), none, .mv (.s 0)⟩,
      ⟨(some 19), none, .mv (.s 3)⟩,
      ⟨(some 20), none, .iaddr none 1 (.s 18) (.s 19)⟩,
      ⟨(some 21), none, .load none (.s 20)⟩,
      ⟨(some 22), none, .mv (.s 0)⟩,
      ⟨(some 23), none, .mv (.s 2)⟩,
      ⟨(some 24), none, .iaddr none 1 (.s 22) (.s 23)⟩,
      ⟨(some 25), none, .load none (.s 24)⟩,
      ⟨(some 26), none, .iaddr none 1 (.s 14) (.s 15)⟩,
      ⟨none, none, .store 1 (.s 26) (.s 21)⟩,
      ⟨(some 27), none, .iaddr none 1 (.s 16) (.s 17)⟩,
      ⟨none, none, .store 1 (.s 27) (.s 25)⟩] []
    (.done)) [] [14, 15, 16, 17, 18, 19, 20, 21, 22, 23, 24, 25, 26, 27]
   (.ops [⟨(some 10), none, .mv (.s 2)⟩,
     ⟨(some 11), none, .bin .add (.s 10) (.c (V.int .i64 1))⟩,
     ⟨(some 12), none, .mv (.s 3)⟩,
     ⟨(some 13), none, .bin .sub (.s 12) (.c (V.int .i64 1))⟩,
     ⟨(some 2), none, .mv (.s 11)⟩,
     ⟨(some 3), none, .mv (.s 13)⟩]
   (.done)))
  (.exit 0))

def ir_slices_Reverse_uint16_uint16 : Fn' := ⟨28, [],
  .ops [⟨(some 4), none, .mv (.s 0)⟩,
    ⟨(some 5), none, .len (.s 4)⟩,
    ⟨(some 6), none, .bin .sub (.s 5) (.c (V.int .i64 1))⟩,
    ⟨(some 2), none, .mv (.c (V.int .i64 0))⟩,
    ⟨(some 3), none, .mv (.s 6)⟩]
  (.blk 0
  (.loop loop_slices_Reverse_uint16_uint16_0 [2, 3] [7, 8, 9, 14, 15, 16, 17, 18, 19, 20, 21, 22, 23, 24, 25, 26, 27, 10, 11, 12, 13, 2, 3]) [] [7, 8, 9, 14, 15, 16, 17, 18, 19, 20, 21, 22, 23, 24, 25, 26, 27, 10, 11, 12, 13, 2, 3]
  (.ret))⟩

noncomputable def f_slices_Reverse_uint16_uint16_0 (G : Sem') (t0 : V) (L : List V) : M Res :=
  (M.lift (Ax.bin .lss (L.getD 0 .undef) (L.getD 1 .undef))).bind fun t9 =>
  M.ite t9
    (M.blk 1 (
      (M.lift (Ax.iaddr none 1 t0 (L.getD 1 .undef))).bind fun t20 =>
      (mload none t20).bind fun t21 =>
      (M.lift (Ax.iaddr none 1 t0 (L.getD 0 .undef))).bind fun t24 =>
      (mload none t24).bind fun t25 =>
      (M.lift (Ax.iaddr none 1 t0 (L.getD 0 .undef))).bind fun t26 =>
      (mstore 1 t26 t21).bind fun _ =>
      (M.lift (Ax.iaddr none 1 t0 (L.getD 1 .undef))).bind fun t27 =>
      (mstore 1 t27 t25).bind fun _ =>
      M.pure (.nrm [])) fun _ =>
    (M.lift (Ax.bin .add (L.getD 0 .undef) (V.int .i64 1))).bind fun t11 =>
    (M.lift (Ax.bin .sub (L.getD 1 .undef) (V.int .i64 1))).bind fun t13 =>
    M.pure (.nrm [t11, t13]))
    (M.pure (.ex 0 []))

noncomputable def f_slices_Reverse_uint16_uint16 (G : Sem') (t0 : V) : M Res :=
  (M.lift (vlen t0)).bind fun t5 =>
  (M.lift (Ax.bin .sub t5 (V.int .i64 1))).bind fun t6 =>
  M.blk 0 (
    M.iter (f_slices_Reverse_uint16_uint16_0 G t0) [(V.int .i64 0), t6]) fun _ =>
  M.pure (.ret [])

theorem eq_slices_Reverse_uint16_uint16 (G : Sem') (t0 : V) : execK G ir_slices_Reverse_uint16_uint16.rv ir_slices_Reverse_uint16_uint16.body [] [] (params 0 [t0]) = f_slices_Reverse_uint16_uint16 G t0 := by kernel_rfl

theorem tb_slices_Reverse_uint16_uint16 : T fn_slices_Reverse_uint16_uint16 = some ir_slices_Reverse_uint16_uint16 := by kernel_rfl

theorem ok_slices_Reverse_uint16_uint16 {t0 : V} {H : Heap} {Q : V → Heap → Prop} (h : Ok (f_slices_Reverse_uint16_uint16 (sem T) t0) H fun r H' => ∃ L, r = .ret L ∧ Q (tupled L) H') : Ok (sem T fn_slices_Reverse_uint16_uint16 [t0]) H Q :=
  ok_sem tb_slices_Reverse_uint16_uint16 (Nat.le_of_ble_eq_true rfl) (eq_slices_Reverse_uint16_uint16 (sem T) t0) h

/-- palanquin/turn.Out. -/
def ir_turn_Out : Fn' := ⟨70, [.cell 8 (some 7), .tmp 9, .tmp 10, .tmp 11],
  .ops [⟨(some 4), none, .box ty_turn_Turn (.s 0)⟩,
    ⟨(some 8), none, .box ty_turn_Turn (.c (V.agg [(V.bool false), (V.int .u16 0), (V.int .u32 0), (V.int .u32 0), (V.int .u16 0), (V.int .u16 0), (V.int .i64 0)]))⟩,
    ⟨(some 9), none, .mv (.c (V.int .u16 0))⟩,
    ⟨(some 10), none, .mv (.c (V.int .u32 0))⟩,
    ⟨(some 11), none, .mv (.c (V.int .u16 0))⟩]
  (.ops [⟨(some 14), none, .faddr 0 (.s 4)⟩,
    ⟨(some 15), none, .load none (.s 14)⟩]
  (.condJ (.s 15)
  (.ops [⟨(some 16), none, .faddr 1 (.s 4)⟩,
     ⟨(some 17), none, .load none (.s 16)⟩,
     ⟨(some 18), none, .bin .add (.s 17) (.c (V.int .u16 1))⟩,
     ⟨(some 9), none, .mv (.s 18)⟩]
   (.done))
  (.done) [9] [16, 17, 18, 9]
  (.draw [⟨(some 19), none, .mv (.s 1)⟩,
    ⟨(some 20), none, .faddr 3 (.s 4)⟩,
    ⟨(some 21), none, .load none (.s 20)⟩,
    ⟨(some 22), none, .bin .add (.s 19) (.s 21)⟩,
    ⟨(some 23), none, .mv (.s 2)⟩,
    ⟨(some 24), none, .faddr 5 (.s 4)⟩,
    ⟨(some 25), none, .load none (.s 24)⟩,
    ⟨(some 26), none, .bin .add (.s 23) (.s 25)⟩,
    ⟨(some 10), none, .mv (.s 22)⟩,
    ⟨(some 11), none, .mv (.s 26)⟩] []
  (.ops [⟨(some 27), none, .mv (.s 10)⟩,
    ⟨(some 28), none, .faddr 2 (.s 4)⟩,
    ⟨(some 29), none, .load none (.s 28)⟩,
    ⟨(some 30), none, .bin .sub (.s 27) (.s 29)⟩,
    ⟨(some 12), none, .mv (.s 30)⟩]
  (.ops [⟨(some 31), none, .faddr 0 (.s 4)⟩,
    ⟨(some 32), none, .load none (.s 31)⟩,
    ⟨(some 33), none, .un .not (.s 32)⟩,
    ⟨(some 34), none, .mv (.s 33)⟩,
    ⟨(some 35), (some (34, false)), .mv (.s 12)⟩,
    ⟨(some 36), (some (34, false)), .bin .geq (.s 35) (.c (V.int .u32 1))⟩,
    ⟨(some 37), (some (34, false)), .mv (.s 36)⟩,
    ⟨(some 38), (some (37, true)), .mv (.s 12)⟩,
    ⟨(some 39), (some (37, true)), .bin .lss (.s 38) (.c (V.int .u32 2147483648))⟩,
    ⟨(some 40), (some (34, false)), .pick (.s 37) (.s 39) (.c (V.bool false))⟩,
    ⟨(some 41), none, .pick (.s 34) (.c (V.bool true)) (.s 40)⟩]
  (.condJ (.s 41)
  (.ops [⟨(some 42), none, .mv (.s 10)⟩,
     ⟨(some 43), none, .faddr 2 (.s 4)⟩,
     ⟨none, none, .store 1 (.s 43) (.s 42)⟩]
   (.done))
  (.done) [] [42, 43]
  (.ops [⟨(some 44), none, .mv (.s 11)⟩,
    ⟨(some 45), none, .faddr 4 (.s 4)⟩,
    ⟨(some 46), none, .load none (.s 45)⟩,
    ⟨(some 47), none, .bin .sub (.s 44) (.s 46)⟩,
    ⟨(some 13), none, .mv (.s 47)⟩]
  (.ops [⟨(some 48), none, .faddr 0 (.s 4)⟩,
    ⟨(some 49), none, .load none (.s 48)⟩,
    ⟨(some 50), none, .un .not (.s 49)⟩,
    ⟨(some 51), none, .mv (.s 50)⟩,
    ⟨(some 52), (some (51, false)), .mv (.s 13)⟩,
    ⟨(some 53), (some (51, false)), .bin .geq (.s 52) (.c (V.int .u16 1))⟩,
    ⟨(some 54), (some (51, false)), .mv (.s 53)⟩,
    ⟨(some 55), (some (54, true)), .mv (.s 13)⟩,
    ⟨(some 56), (some (54, true)), .bin .lss (.s 55) (.c (V.int .u16 32768))⟩,
    ⟨(some 57), (some (51, false)), .pick (.s 54) (.s 56) (.c (V.bool false))⟩,
    ⟨(some 58), none, .pick (.s 51) (.c (V.bool true)) (.s 57)⟩]
  (.condJ (.s 58)
  (.ops [⟨(some 59), none, .mv (.s 11)⟩,
     ⟨(some 60), none, .faddr 4 (.s 4)⟩,
     ⟨none, none, .store 1 (.s 60) (.s 59)⟩]
   (.done))
  (.done) [] [59, 60]
  (.ops [⟨(some 61), none, .mv (.s 9)⟩,
    ⟨(some 62), none, .mv (.s 3)⟩,
    ⟨(some 63), none, .faddr 0 (.s 4)⟩,
    ⟨none, none, .store 1 (.s 63) (.c (V.bool true))⟩,
    ⟨(some 64), none, .faddr 1 (.s 4)⟩,
    ⟨none, none, .store 1 (.s 64) (.s 61)⟩,
    ⟨(some 65), none, .faddr 6 (.s 4)⟩,
    ⟨none, none, .store 1 (.s 65) (.s 62)⟩]
  (.ops [⟨(some 66), none, .load (some 7) (.s 4)⟩,
    ⟨(some 67), none, .mv (.s 9)⟩,
    ⟨(some 68), none, .mv (.s 10)⟩,
    ⟨(some 69), none, .mv (.s 11)⟩,
    ⟨none, none, .store 7 (.s 8) (.s 66)⟩,
    ⟨(some 9), none, .mv (.s 67)⟩,
    ⟨(some 10), none, .mv (.s 68)⟩,
    ⟨(some 11), none, .mv (.s 69)⟩]
  (.ret))))))))))))⟩

noncomputable def f_turn_Out (G : Sem') (t0 t1 t2 t3 : V) : M Res :=
  (mbox ty_turn_Turn t0).bind fun t4 =>
  (mbox ty_turn_Turn (V.agg [(V.bool false), (V.int .u16 0), (V.int .u32 0), (V.int .u32 0), (V.int .u16 0), (V.int .u16 0), (V.int .i64 0)])).bind fun t8 =>
  (M.lift (Ax.faddr 0 t4)).bind fun t14 =>
  (mload none t14).bind fun t15 =>
  M.join (M.ite t15
    ((M.lift (Ax.faddr 1 t4)).bind fun t16 =>
    (mload none t16).bind fun t17 =>
    (M.lift (Ax.bin .add t17 (V.int .u16 1))).bind fun t18 =>
    M.pure (.nrm [t18]))
    (M.pure (.nrm [(V.int .u16 0)]))) fun L0 =>
  (M.lift (Ax.faddr 3 t4)).bind fun t20 =>
  (mload none t20).bind fun t21 =>
  (M.lift (Ax.bin .add t1 t21)).bind fun t22 =>
  (M.lift (Ax.faddr 5 t4)).bind fun t24 =>
  (mload none t24).bind fun t25 =>
  (M.lift (Ax.bin .add t2 t25)).bind fun t26 =>
  (M.lift (Ax.faddr 2 t4)).bind fun t28 =>
  (mload none t28).bind fun t29 =>
  (M.lift (Ax.bin .sub t22 t29)).bind fun t30 =>
  (M.lift (Ax.faddr 0 t4)).bind fun t31 =>
  (mload none t31).bind fun t32 =>
  (M.lift (Ax.un .not t32)).bind fun t33 =>
  (guarded [(0, t33)] (some (0, false)) (M.pure t30)).bind fun t35 =>
  (guarded [(0, t33)] (some (0, false)) (M.lift (Ax.bin .geq t35 (V.int .u32 1)))).bind fun t36 =>
  (guarded [(0, t33)] (some (0, false)) (M.pure t36)).bind fun t37 =>
  (guarded [(0, t37)] (some (0, true)) (M.pure t30)).bind fun t38 =>
  (guarded [(0, t37)] (some (0, true)) (M.lift (Ax.bin .lss t38 (V.int .u32 2147483648)))).bind fun t39 =>
  (guarded [(0, t33)] (some (0, false)) (M.lift (Ax.pick t37 t39 (V.bool false)))).bind fun t40 =>
  (M.lift (Ax.pick t33 (V.bool true) t40)).bind fun t41 =>
  M.join (M.ite t41
    ((M.lift (Ax.faddr 2 t4)).bind fun t43 =>
    (mstore 1 t43 t22).bind fun _ =>
    M.pure (.nrm []))
    (M.pure (.nrm []))) fun _ =>
  (M.lift (Ax.faddr 4 t4)).bind fun t45 =>
  (mload none t45).bind fun t46 =>
  (M.lift (Ax.bin .sub t26 t46)).bind fun t47 =>
  (M.lift (Ax.faddr 0 t4)).bind fun t48 =>
  (mload none t48).bind fun t49 =>
  (M.lift (Ax.un .not t49)).bind fun t50 =>
  (guarded [(0, t50)] (some (0, false)) (M.pure t47)).bind fun t52 =>
  (guarded [(0, t50)] (some (0, false)) (M.lift (Ax.bin .geq t52 (V.int .u16 1)))).bind fun t53 =>
  (guarded [(0, t50)] (some (0, false)) (M.pure t53)).bind fun t54 =>
  (guarded [(0, t54)] (some (0, true)) (M.pure t47)).bind fun t55 =>
  (guarded [(0, t54)] (some (0, true)) (M.lift (Ax.bin .lss t55 (V.int .u16 32768)))).bind fun t56 =>
  (guarded [(0, t50)] (some (0, false)) (M.lift (Ax.pick t54 t56 (V.bool false)))).bind fun t57 =>
  (M.lift (Ax.pick t50 (V.bool true) t57)).bind fun t58 =>
  M.join (M.ite t58
    ((M.lift (Ax.faddr 4 t4)).bind fun t60 =>
    (mstore 1 t60 t26).bind fun _ =>
    M.pure (.nrm []))
    (M.pure (.nrm []))) fun _ =>
  (M.lift (Ax.faddr 0 t4)).bind fun t63 =>
  (mstore 1 t63 (V.bool true)).bind fun _ =>
  (M.lift (Ax.faddr 1 t4)).bind fun t64 =>
  (mstore 1 t64 (L0.getD 0 .undef)).bind fun _ =>
  (M.lift (Ax.faddr 6 t4)).bind fun t65 =>
  (mstore 1 t65 t3).bind fun _ =>
  (mload (some 7) t4).bind fun t66 =>
  (mstore 7 t8 t66).bind fun _ =>
  (mload (some 7) t8).bind fun r0 =>
  M.pure (.ret [r0, (L0.getD 0 .undef), t22, t26])

theorem eq_turn_Out (G : Sem') (t0 t1 t2 t3 : V) : execK G ir_turn_Out.rv ir_turn_Out.body [] [] (params 0 [t0, t1, t2, t3]) = f_turn_Out G t0 t1 t2 t3 := by kernel_rfl

theorem tb_turn_Out : T fn_turn_Out = some ir_turn_Out := by kernel_rfl

theorem ok_turn_Out {t0 t1 t2 t3 : V} {H : Heap} {Q : V → Heap → Prop} (h : Ok (f_turn_Out (sem T) t0 t1 t2 t3) H fun r H' => ∃ L, r = .ret L ∧ Q (tupled L) H') : Ok (sem T fn_turn_Out [t0, t1, t2, t3]) H Q :=
  ok_sem tb_turn_Out (Nat.le_of_ble_eq_true rfl) (eq_turn_Out (sem T) t0 t1 t2 t3) h

end Go.Ax
