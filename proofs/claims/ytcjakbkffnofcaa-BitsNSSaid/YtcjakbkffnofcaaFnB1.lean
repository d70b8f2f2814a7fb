/-
  The functions of this seat as plain texts: printed by program (wip/gen/Emit.lean): part 1.
-/
import Derived.Test.YtcjakbkffnofcaaFnB0
set_option maxRecDepth 100000
set_option linter.unusedVariables false
namespace Go.Ax
open Go.Proofs

/-- palanquin/palanquinlaw6.BitsSays. -/
def loop_palanquinlaw6_BitsSays_0 : C :=
  .ops [⟨(some 18), none, .mv (.s 5)⟩,
    ⟨(some 19), none, .mv (.s 0)⟩,
    ⟨(some 20), none, .len (.s 19)⟩,
    ⟨(some 21), none, .bin .lss (.s 18) (.s 20)⟩,
    ⟨(some 22), none, .mv (.s 21)⟩,
    ⟨(some 23), (some (22, true)), .mv (.s 5)⟩,
    ⟨(some 24), (some (22, true)), .bin .lss (.s 23) (.c (V.int .i64 60))⟩,
    ⟨(some 25), none, .pick (.s 22) (.s 24) (.c (V.bool false))⟩]
  (.cond (.s 25)
  (.blk 1
   (.ops [⟨(some 28), none, .mv (.s 0)⟩,
      ⟨(some 29), none, .mv (.s 5)⟩,
      ⟨(some 30), none, .iaddr none 4 (.s 28) (.s 29)⟩,
      ⟨(some 31), none, .load (some 4) (.s 30)⟩,
      ⟨(some 6), none, .box ty_palanquinlaw6_Step (.c (V.agg [(V.int .u64 0), (V.int .u64 0), (V.int .i64 0), (V.bool false)]))⟩,
      ⟨none, none, .store 4 (.s 6) (.s 31)⟩]
    (.ops [⟨(some 7), none, .mv (.c (V.int .i64 0))⟩,
      ⟨(some 8), none, .mv (.c (V.int .i64 0))⟩]
    (.ops [⟨(some 32), none, .faddr 3 (.s 6)⟩,
      ⟨(some 33), none, .load none (.s 32)⟩]
    (.condJ (.s 33)
    (.draw [⟨(some 34), none, .mv (.s 3)⟩,
       ⟨(some 35), none, .faddr 0 (.s 6)⟩,
       ⟨(some 36), none, .load none (.s 35)⟩,
       ⟨(some 37), none, .faddr 1 (.s 6)⟩,
       ⟨(some 38), none, .load none (.s 37)⟩,
       ⟨(some 40), none, .mv (.s 4)⟩,
       ⟨(some 41), none, .faddr 0 (.s 6)⟩,
       ⟨(some 42), none, .load none (.s 41)⟩,
       ⟨(some 43), none, .faddr 1 (.s 6)⟩,
       ⟨(some 44), none, .load none (.s 43)⟩,
       ⟨(some 39), none, .call fn_bits_Writer_AddNS [(.s 34), (.s 36), (.s 38)]⟩,
       ⟨(some 45), none, .call fn_palanquinref6_Writer_AddNS [(.s 40), (.s 42), (.s 44)]⟩,
       ⟨(some 7), none, .mv (.s 39)⟩,
       ⟨(some 8), none, .mv (.s 45)⟩] [(7, 10), (9, 10)]
     (.done))
    (.draw [⟨(some 46), none, .mv (.s 3)⟩,
       ⟨(some 47), none, .faddr 0 (.s 6)⟩,
       ⟨(some 48), none, .load none (.s 47)⟩,
       ⟨(some 49), none, .faddr 2 (.s 6)⟩,
       ⟨(some 50), none, .load none (.s 49)⟩,
       ⟨(some 52), none, .mv (.s 4)⟩,
       ⟨(some 53), none, .faddr 0 (.s 6)⟩,
       ⟨(some 54), none, .load none (.s 53)⟩,
       ⟨(some 55), none, .faddr 2 (.s 6)⟩,
       ⟨(some 56), none, .load none (.s 55)⟩,
       ⟨(some 51), none, .call fn_bits_Writer_Add [(.s 46), (.s 48), (.s 50)]⟩,
       ⟨(some 57), none, .call fn_palanquinref6_Writer_Add [(.s 52), (.s 54), (.s 56)]⟩,
       ⟨(some 7), none, .mv (.s 51)⟩,
       ⟨(some 8), none, .mv (.s 57)⟩] [(7, 10), (9, 10)]
     (.done)) [7, 8] [34, 35, 36, 37, 38, 39, 40, 41, 42, 43, 44, 45, 7, 8, 46, 47, 48, 49, 50, 51, 52, 53, 54, 55, 56, 57, 7, 8]
    (.draw [⟨(some 58), none, .mv (.s 7)⟩,
      ⟨(some 59), none, .mv (.s 8)⟩,
      ⟨(some 60), none, .bin .neq (.s 58) (.s 59)⟩,
      ⟨(some 61), none, .mv (.s 60)⟩,
      ⟨(some 62), (some (61, false)), .mv (.s 3)⟩,
      ⟨(some 64), (some (61, false)), .mv (.s 4)⟩,
      ⟨(some 65), (some (61, false)), .nilck (.s 64)⟩,
      ⟨(some 66), (some (61, false)), .faddr 0 (.s 65)⟩,
      ⟨(some 67), (some (61, false)), .load none (.s 66)⟩,
      ⟨(some 68), (some (61, false)), .len (.s 67)⟩,
      ⟨(some 63), (some (61, false)), .call fn_bits_Writer_Len [(.s 62)]⟩,
      ⟨(some 69), (some (61, false)), .bin .neq (.s 63) (.s 68)⟩,
      ⟨(some 70), none, .pick (.s 61) (.c (V.bool true)) (.s 69)⟩] [(8, 10)]
    (.cond (.s 70)
    (.ops [⟨(some 2), none, .mv (.c (V.bool false))⟩]
     (.ret))
    (.done))))))) [] [28, 29, 30, 31, 6, 7, 8, 32, 33, 34, 35, 36, 37, 38, 39, 40, 41, 42, 43, 44, 45, 7, 8, 46, 47, 48, 49, 50, 51, 52, 53, 54, 55, 56, 57, 7, 8, 58, 59, 60, 61, 62, 63, 64, 65, 66, 67, 68, 69, 70, 2]
   (.ops [⟨(some 26), none, .mv (.s 5)⟩,
     ⟨(some 27), none, .bin .add (.s 26) (.c (V.int .i64 1))⟩,
     ⟨(some 5), none, .mv (.s 27)⟩]
   (.done)))
  (.exit 0))

def ir_palanquinlaw6_BitsSays : Fn' := ⟨76, [.tmp 2],
  .ops [⟨(some 2), none, .mv (.c (V.bool false))⟩]
  (.ops [⟨(some 9), none, .call fn_bits_New []⟩,
    ⟨(some 10), none, .build [V.nils] []⟩,
    ⟨(some 11), none, .box ty_palanquinref6_Writer (.s 10)⟩,
    ⟨(some 3), none, .mv (.s 9)⟩,
    ⟨(some 4), none, .mv (.s 11)⟩]
  (.ops [⟨(some 12), none, .call fn_palanquinlaw6_awake []⟩,
    ⟨(some 13), none, .un .not (.s 12)⟩,
    ⟨(some 14), none, .mv (.s 13)⟩,
    ⟨(some 15), (some (14, false)), .mv (.s 3)⟩,
    ⟨(some 16), (some (14, false)), .eq .ptr false (.s 15) (.c V.nilp)⟩,
    ⟨(some 17), none, .pick (.s 14) (.c (V.bool true)) (.s 16)⟩]
  (.cond (.s 17)
  (.ops [⟨(some 2), none, .mv (.c (V.bool false))⟩]
   (.ret))
  (.ops [⟨(some 5), none, .mv (.c (V.int .i64 0))⟩]
   (.blk 0
   (.loop loop_palanquinlaw6_BitsSays_0 [5] [18, 19, 20, 21, 22, 23, 24, 25, 28, 29, 30, 31, 6, 7, 8, 32, 33, 34, 35, 36, 37, 38, 39, 40, 41, 42, 43, 44, 45, 7, 8, 46, 47, 48, 49, 50, 51, 52, 53, 54, 55, 56, 57, 7, 8, 58, 59, 60, 61, 62, 63, 64, 65, 66, 67, 68, 69, 70, 2, 26, 27, 5]) [] [18, 19, 20, 21, 22, 23, 24, 25, 28, 29, 30, 31, 6, 7, 8, 32, 33, 34, 35, 36, 37, 38, 39, 40, 41, 42, 43, 44, 45, 7, 8, 46, 47, 48, 49, 50, 51, 52, 53, 54, 55, 56, 57, 7, 8, 58, 59, 60, 61, 62, 63, 64, 65, 66, 67, 68, 69, 70, 2, 26, 27, 5]
   (.ops [⟨(some 71), none, .mv (.s 3)⟩,
     ⟨(some 72), none, .call fn_bits_Writer_Bytes [(.s 71)]⟩,
     ⟨(some 73), none, .mv (.s 4)⟩,
     ⟨(some 74), none, .call fn_palanquinref6_Writer_Bytes [(.s 73)]⟩,
     ⟨(some 75), none, .call fn_palanquinref1_Same [(.s 72), (.s 74)]⟩,
     ⟨(some 2), none, .mv (.s 75)⟩]
   (.ret)))))))⟩

noncomputable def f_palanquinlaw6_BitsSays_0 (G : Sem') (t0 t3 t4 : V) (L : List V) : M Res :=
  (M.lift (vlen t0)).bind fun t20 =>
  (M.lift (Ax.bin .lss (L.getD 0 .undef) t20)).bind fun t21 =>
  (guarded [(0, t21)] (some (0, true)) (M.pure (L.getD 0 .undef))).bind fun t23 =>
  (guarded [(0, t21)] (some (0, true)) (M.lift (Ax.bin .lss t23 (V.int .i64 60)))).bind fun t24 =>
  (M.lift (Ax.pick t21 t24 (V.bool false))).bind fun t25 =>
  M.ite t25
    (M.blk 1 (
      (M.lift (Ax.iaddr none 4 t0 (L.getD 0 .undef))).bind fun t30 =>
      (mload (some 4) t30).bind fun t31 =>
      (mbox ty_palanquinlaw6_Step (V.agg [(V.int .u64 0), (V.int .u64 0), (V.int .i64 0), (V.bool false)])).bind fun t6 =>
      (mstore 4 t6 t31).bind fun _ =>
      (M.lift (Ax.faddr 3 t6)).bind fun t32 =>
      (mload none t32).bind fun t33 =>
      M.join (M.ite t33
        ((M.lift (Ax.faddr 0 t6)).bind fun t35 =>
        (mload none t35).bind fun t36 =>
        (M.lift (Ax.faddr 1 t6)).bind fun t37 =>
        (mload none t37).bind fun t38 =>
        (M.lift (Ax.faddr 0 t6)).bind fun t41 =>
        (mload none t41).bind fun t42 =>
        (M.lift (Ax.faddr 1 t6)).bind fun t43 =>
        (mload none t43).bind fun t44 =>
        M.getH.bind fun h0 =>
        (G fn_bits_Writer_AddNS [t3, t36, t38]).bind fun t39 =>
        M.getH.bind fun h0' =>
        (M.unch t43 h0 h0').bind fun _ =>
        (M.unch t41 h0 h0').bind fun _ =>
        (G fn_palanquinref6_Writer_AddNS [t4, t42, t44]).bind fun t45 =>
        M.pure (.nrm [t39, t45]))
        ((M.lift (Ax.faddr 0 t6)).bind fun t47 =>
        (mload none t47).bind fun t48 =>
        (M.lift (Ax.faddr 2 t6)).bind fun t49 =>
        (mload none t49).bind fun t50 =>
        (M.lift (Ax.faddr 0 t6)).bind fun t53 =>
        (mload none t53).bind fun t54 =>
        (M.lift (Ax.faddr 2 t6)).bind fun t55 =>
        (mload none t55).bind fun t56 =>
        M.getH.bind fun h1 =>
        (G fn_bits_Writer_Add [t3, t48, t50]).bind fun t51 =>
        M.getH.bind fun h1' =>
        (M.unch t55 h1 h1').bind fun _ =>
        (M.unch t53 h1 h1').bind fun _ =>
        (G fn_palanquinref6_Writer_Add [t4, t54, t56]).bind fun t57 =>
        M.pure (.nrm [t51, t57]))) fun L0 =>
      (M.lift (Ax.bin .neq (L0.getD 0 .undef) (L0.getD 1 .undef))).bind fun t60 =>
      (guarded [(0, t60)] (some (0, false)) (M.pure t3)).bind fun t62 =>
      (guarded [(0, t60)] (some (0, false)) (M.pure t4)).bind fun t64 =>
      (guarded [(0, t60)] (some (0, false)) (M.lift (Ax.nilck t64))).bind fun t65 =>
      (guarded [(0, t60)] (some (0, false)) (M.lift (Ax.faddr 0 t65))).bind fun t66 =>
      (guarded [(0, t60)] (some (0, false)) (mload none t66)).bind fun t67 =>
      (guarded [(0, t60)] (some (0, false)) (M.lift (vlen t67))).bind fun t68 =>
      M.getH.bind fun h2 =>
      (guarded [(0, t60)] (some (0, false)) (G fn_bits_Writer_Len [t62])).bind fun t63 =>
      M.getH.bind fun h2' =>
      (M.unch t66 h2 h2').bind fun _ =>
      (guarded [(0, t60)] (some (0, false)) (M.lift (Ax.bin .neq t63 t68))).bind fun t69 =>
      (M.lift (Ax.pick t60 (V.bool true) t69)).bind fun t70 =>
      M.ite t70
        (M.pure (.ret [(V.bool false)]))
        (M.pure (.nrm []))) fun _ =>
    (M.lift (Ax.bin .add (L.getD 0 .undef) (V.int .i64 1))).bind fun t27 =>
    M.pure (.nrm [t27]))
    (M.pure (.ex 0 []))

noncomputable def f_palanquinlaw6_BitsSays (G : Sem') (t0 : V) : M Res :=
  (G fn_bits_New []).bind fun t9 =>
  (M.lift (Ax.build [V.nils] [])).bind fun t10 =>
  (mbox ty_palanquinref6_Writer t10).bind fun t11 =>
  (G fn_palanquinlaw6_awake []).bind fun t12 =>
  (M.lift (Ax.un .not t12)).bind fun t13 =>
  (guarded [(0, t13)] (some (0, false)) (M.pure t9)).bind fun t15 =>
  (guarded [(0, t13)] (some (0, false)) (M.lift (eqr .ptr false t15 V.nilp))).bind fun t16 =>
  (M.lift (Ax.pick t13 (V.bool true) t16)).bind fun t17 =>
  M.ite t17
    (M.pure (.ret [(V.bool false)]))
    (M.blk 0 (
      M.iter (f_palanquinlaw6_BitsSays_0 G t0 t9 t11) [(V.int .i64 0)]) fun _ =>
    (G fn_bits_Writer_Bytes [t9]).bind fun t72 =>
    (G fn_palanquinref6_Writer_Bytes [t11]).bind fun t74 =>
    (G fn_palanquinref1_Same [t72, t74]).bind fun t75 =>
    M.pure (.ret [t75]))

theorem eq_palanquinlaw6_BitsSays (G : Sem') (t0 : V) : execK G ir_palanquinlaw6_BitsSays.rv ir_palanquinlaw6_BitsSays.body [] [] (params 0 [t0]) = f_palanquinlaw6_BitsSays G t0 := by kernel_rfl

theorem tb_palanquinlaw6_BitsSays : T fn_palanquinlaw6_BitsSays = some ir_palanquinlaw6_BitsSays := by kernel_rfl

theorem ok_palanquinlaw6_BitsSays {t0 : V} {H : Heap} {Q : V → Heap → Prop} (h : Ok (f_palanquinlaw6_BitsSays (sem T) t0) H fun r H' => ∃ L, r = .ret L ∧ Q (tupled L) H') : Ok (sem T fn_palanquinlaw6_BitsSays [t0]) H Q :=
  ok_sem tb_palanquinlaw6_BitsSays (Nat.le_of_ble_eq_true rfl) (eq_palanquinlaw6_BitsSays (sem T) t0) h

/-- palanquin/bits.New. -/
def ir_bits_New : Fn' := ⟨3, [.tmp 0],
  .ops [⟨(some 0), none, .mv (.c V.nilp)⟩]
  (.ops [⟨(some 1), none, .build [V.nils, (V.int .i64 0)] []⟩,
    ⟨(some 2), none, .box ty_bits_Writer (.s 1)⟩,
    ⟨(some 0), none, .mv (.s 2)⟩]
  (.ret))⟩

noncomputable def f_bits_New (G : Sem') : M Res :=
  (M.lift (Ax.build [V.nils, (V.int .i64 0)] [])).bind fun t1 =>
  (mbox ty_bits_Writer t1).bind fun t2 =>
  M.pure (.ret [t2])

theorem eq_bits_New (G : Sem') : execK G ir_bits_New.rv ir_bits_New.body [] [] (params 0 []) = f_bits_New G := by kernel_rfl

theorem tb_bits_New : T fn_bits_New = some ir_bits_New := by kernel_rfl

theorem ok_bits_New {H : Heap} {Q : V → Heap → Prop} (h : Ok (f_bits_New (sem T)) H fun r H' => ∃ L, r = .ret L ∧ Q (tupled L) H') : Ok (sem T fn_bits_New []) H Q :=
  ok_sem tb_bits_New (Nat.le_of_ble_eq_true rfl) (eq_bits_New (sem T)) h

/-- palanquin/palanquinlaw6.awake. -/
def ir_palanquinlaw6_awake : Fn' := ⟨36, [.tmp 0],
  .ops [⟨(some 0), none, .mv (.c (V.bool false))⟩]
  (.ops [⟨(some 5), none, .call fn_bits_New []⟩,
    ⟨(some 1), none, .mv (.s 5)⟩]
  (.ops [⟨(some 6), none, .mv (.s 1)⟩,
    ⟨(some 7), none, .eq .ptr false (.s 6) (.c V.nilp)⟩]
  (.cond (.s 7)
  (.ops [⟨(some 0), none, .mv (.c (V.bool false))⟩]
   (.ret))
  (.ops [⟨(some 8), none, .mv (.s 1)⟩,
     ⟨(some 9), none, .call fn_bits_Writer_Add [(.s 8), (.c (V.int .u64 5)), (.c (V.int .i64 3))]⟩,
     ⟨(some 10), none, .mv (.s 1)⟩,
     ⟨(some 11), none, .call fn_bits_Writer_Add [(.s 10), (.c (V.int .u64 1)), (.c (V.int .i64 2))]⟩,
     ⟨(some 2), none, .mv (.s 9)⟩,
     ⟨(some 3), none, .mv (.s 11)⟩]
   (.ops [⟨(some 12), none, .mv (.s 1)⟩,
     ⟨(some 13), none, .call fn_bits_Writer_Bytes [(.s 12)]⟩,
     ⟨(some 4), none, .mv (.s 13)⟩]
   (.ops [⟨(some 14), none, .mv (.s 2)⟩,
     ⟨(some 15), none, .bin .eql (.s 14) (.c (V.int .i64 0))⟩,
     ⟨(some 16), none, .mv (.s 15)⟩,
     ⟨(some 17), (some (16, true)), .mv (.s 3)⟩,
     ⟨(some 18), (some (16, true)), .bin .eql (.s 17) (.c (V.int .i64 0))⟩,
     ⟨(some 19), none, .pick (.s 16) (.s 18) (.c (V.bool false))⟩,
     ⟨(some 20), none, .mv (.s 19)⟩,
     ⟨(some 21), (some (20, true)), .mv (.s 1)⟩,
     ⟨(some 22), (some (20, true)), .call fn_bits_Writer_Len [(.s 21)]⟩,
     ⟨(some 23), (some (20, true)), .bin .eql (.s 22) (.c (V.int .i64 5))⟩,
     ⟨(some 24), none, .pick (.s 20) (.s 23) (.c (V.bool false))⟩,
     ⟨(some 25), none, .mv (.s 24)⟩,
     ⟨(some 26), (some (25, true)), .mv (.s 4)⟩,
     ⟨(some 27), (some (25, true)), .len (.s 26)⟩,
     ⟨(some 28), (some (25, true)), .bin .eql (.s 27) (.c (V.int .i64 1))⟩,
     ⟨(some 29), none, .pick (.s 25) (.s 28) (.c (V.bool false))⟩,
     ⟨(some 30), none, .mv (.s 29)⟩,
     ⟨(some 31), (some (30, true)), .mv (.s 4)⟩,
     ⟨(some 32), (some (30, true)), .iaddr none 1 (.s 31) (.c (V.int .i64 0))⟩,
     ⟨(some 33), (some (30, true)), .load none (.s 32)⟩,
     ⟨(some 34), (some (30, true)), .bin .eql (.s 33) (.c (V.int .u8 168))⟩,
     ⟨(some 35), none, .pick (.s 30) (.s 34) (.c (V.bool false))⟩,
     ⟨(some 0), none, .mv (.s 35)⟩]
   (.ret)))))))⟩

noncomputable def f_palanquinlaw6_awake (G : Sem') : M Res :=
  (G fn_bits_New []).bind fun t5 =>
  (M.lift (eqr .ptr false t5 V.nilp)).bind fun t7 =>
  M.ite t7
    (M.pure (.ret [(V.bool false)]))
    ((G fn_bits_Writer_Add [t5, (V.int .u64 5), (V.int .i64 3)]).bind fun t9 =>
    (G fn_bits_Writer_Add [t5, (V.int .u64 1), (V.int .i64 2)]).bind fun t11 =>
    (G fn_bits_Writer_Bytes [t5]).bind fun t13 =>
    (M.lift (Ax.bin .eql t9 (V.int .i64 0))).bind fun t15 =>
    (guarded [(0, t15)] (some (0, true)) (M.pure t11)).bind fun t17 =>
    (guarded [(0, t15)] (some (0, true)) (M.lift (Ax.bin .eql t17 (V.int .i64 0)))).bind fun t18 =>
    (M.lift (Ax.pick t15 t18 (V.bool false))).bind fun t19 =>
    (guarded [(0, t19)] (some (0, true)) (M.pure t5)).bind fun t21 =>
    (guarded [(0, t19)] (some (0, true)) (G fn_bits_Writer_Len [t21])).bind fun t22 =>
    (guarded [(0, t19)] (some (0, true)) (M.lift (Ax.bin .eql t22 (V.int .i64 5)))).bind fun t23 =>
    (M.lift (Ax.pick t19 t23 (V.bool false))).bind fun t24 =>
    (guarded [(0, t24)] (some (0, true)) (M.pure t13)).bind fun t26 =>
    (guarded [(0, t24)] (some (0, true)) (M.lift (vlen t26))).bind fun t27 =>
    (guarded [(0, t24)] (some (0, true)) (M.lift (Ax.bin .eql t27 (V.int .i64 1)))).bind fun t28 =>
    (M.lift (Ax.pick t24 t28 (V.bool false))).bind fun t29 =>
    (guarded [(0, t29)] (some (0, true)) (M.pure t13)).bind fun t31 =>
    (guarded [(0, t29)] (some (0, true)) (M.lift (Ax.iaddr none 1 t31 (V.int .i64 0)))).bind fun t32 =>
    (guarded [(0, t29)] (some (0, true)) (mload none t32)).bind fun t33 =>
    (guarded [(0, t29)] (some (0, true)) (M.lift (Ax.bin .eql t33 (V.int .u8 168)))).bind fun t34 =>
    (M.lift (Ax.pick t29 t34 (V.bool false))).bind fun t35 =>
    M.pure (.ret [t35]))

theorem eq_palanquinlaw6_awake (G : Sem') : execK G ir_palanquinlaw6_awake.rv ir_palanquinlaw6_awake.body [] [] (params 0 []) = f_palanquinlaw6_awake G := by kernel_rfl

theorem tb_palanquinlaw6_awake : T fn_palanquinlaw6_awake = some ir_palanquinlaw6_awake := by kernel_rfl

theorem ok_palanquinlaw6_awake {H : Heap} {Q : V → Heap → Prop} (h : Ok (f_palanquinlaw6_awake (sem T)) H fun r H' => ∃ L, r = .ret L ∧ Q (tupled L) H') : Ok (sem T fn_palanquinlaw6_awake []) H Q :=
  ok_sem tb_palanquinlaw6_awake (Nat.le_of_ble_eq_true rfl) (eq_palanquinlaw6_awake (sem T)) h

/-- (*palanquin/bits.Writer).Add. -/
def loop_bits_Writer_Add_0 : C :=
  .ops [⟨(some 22), none, .mv (.s 7)⟩,
    ⟨(some 23), none, .bin .geq (.s 22) (.c (V.int .i64 0))⟩]
  (.cond (.s 23)
  (.blk 1
   (.ops [⟨(some 26), none, .mv (.s 0)⟩,
      ⟨(some 27), none, .nilck (.s 26)⟩,
      ⟨(some 28), none, .faddr 1 (.s 27)⟩,
      ⟨(some 29), none, .load none (.s 28)⟩,
      ⟨(some 30), none, .bin .rem (.s 29) (.c (V.int .i64 8))⟩,
      ⟨(some 31), none, .bin .eql (.s 30) (.c (V.int .i64 0))⟩]
    (.condJ (.s 31)
    (.ops [⟨(some 32), none, .mv (.s 0)⟩,
       ⟨(some 33), none, .mv (.s 0)⟩,
       ⟨(some 34), none, .nilck (.s 33)⟩,
       ⟨(some 35), none, .faddr 0 (.s 34)⟩,
       ⟨(some 36), none, .load none (.s 35)⟩,
       ⟨(some 37), none, .slit ty_uint8 1 [(V.int .u8 0)] [(0, 1, (.c (V.int .u8 0)))]⟩,
       ⟨(some 38), none, .append ty_uint8 1 1 (.s 36) (.s 37)⟩,
       ⟨(some 39), none, .nilck (.s 32)⟩,
       ⟨(some 40), none, .faddr 0 (.s 39)⟩,
       ⟨none, none, .store 1 (.s 40) (.s 38)⟩]
     (.done))
    (.done) [] [32, 33, 34, 35, 36, 37, 38, 39, 40]
    (.ops [⟨(some 41), none, .mv (.s 1)⟩,
      ⟨(some 42), none, .mv (.s 7)⟩,
      ⟨(some 43), none, .bin .shr (.s 41) (.s 42)⟩,
      ⟨(some 44), none, .bin .and (.s 43) (.c (V.int .u64 1))⟩,
      ⟨(some 45), none, .bin .eql (.s 44) (.c (V.int .u64 1))⟩]
    (.condJ (.s 45)
    (.draw [⟨(some 46), none, .mv (.s 0)⟩,
       ⟨(some 47), none, .nilck (.s 46)⟩,
       ⟨(some 48), none, .faddr 0 (.s 47)⟩,
       ⟨(some 49), none, .load none (.s 48)⟩,
       ⟨(some 50), none, .mv (.s 0)⟩,
       ⟨(some 51), none, .nilck (.s 50)⟩,
       ⟨(some 52), none, .faddr 1 (.s 51)⟩,
       ⟨(some 53), none, .load none (.s 52)⟩,
       ⟨(some 54), none, .bin .quo (.s 53) (.c (V.int .i64 8))⟩,
       ⟨(some 55), none, .iaddr none 1 (.s 49) (.s 54)⟩,
       ⟨(some 56), none, .load none (.s 55)⟩,
       ⟨(some 57), none, .mv (.s 0)⟩,
       ⟨(some 58), none, .nilck (.s 57)⟩,
       ⟨(some 59), none, .faddr 1 (.s 58)⟩,
       ⟨(some 60), none, .load none (.s 59)⟩,
       ⟨(some 61), none, .bin .rem (.s 60) (.c (V.int .i64 8))⟩,
       ⟨(some 62), none, .bin .shr (.c (V.int .u8 128)) (.s 61)⟩,
       ⟨(some 63), none, .bin .or (.s 56) (.s 62)⟩,
       ⟨(some 64), none, .iaddr none 1 (.s 49) (.s 54)⟩,
       ⟨none, none, .store 1 (.s 64) (.s 63)⟩] []
     (.done))
    (.done) [] [46, 47, 48, 49, 50, 51, 52, 53, 54, 55, 56, 57, 58, 59, 60, 61, 62, 63, 64]
    (.ops [⟨(some 65), none, .mv (.s 0)⟩,
      ⟨(some 66), none, .nilck (.s 65)⟩,
      ⟨(some 67), none, .faddr 1 (.s 66)⟩,
      ⟨(some 68), none, .load none (.s 67)⟩,
      ⟨(some 69), none, .bin .add (.s 68) (.c (V.int .i64 1))⟩,
      ⟨(some 70), none, .nilck (.s 65)⟩,
      ⟨(some 71), none, .faddr 1 (.s 70)⟩,
      ⟨none, none, .store 1 (.s 71) (.s 69)⟩]
    (.done)))))) [] [26, 27, 28, 29, 30, 31, 32, 33, 34, 35, 36, 37, 38, 39, 40, 41, 42, 43, 44, 45, 46, 47, 48, 49, 50, 51, 52, 53, 54, 55, 56, 57, 58, 59, 60, 61, 62, 63, 64, 65, 66, 67, 68, 69, 70, 71]
   (.ops [⟨(some 24), none, .mv (.s 7)⟩,
     ⟨(some 25), none, .bin .sub (.s 24) (.c (V.int .i64 1))⟩,
     ⟨(some 7), none, .mv (.s 25)⟩]
   (.done)))
  (.exit 0))

def ir_bits_Writer_Add : Fn' := ⟨72, [.tmp 6],
  .ops [⟨(some 6), none, .mv (.c (V.int .i64 0))⟩]
  (.ops [⟨(some 8), none, .mv (.s 2)⟩,
    ⟨(some 9), none, .bin .lss (.s 8) (.c (V.int .i64 0))⟩,
    ⟨(some 10), none, .mv (.s 9)⟩,
    ⟨(some 11), (some (10, false)), .mv (.s 2)⟩,
    ⟨(some 12), (some (10, false)), .bin .gtr (.s 11) (.c (V.int .i64 64))⟩,
    ⟨(some 13), none, .pick (.s 10) (.c (V.bool true)) (.s 12)⟩,
    ⟨(some 14), none, .mv (.s 13)⟩,
    ⟨(some 15), (some (14, false)), .mv (.s 1)⟩,
    ⟨(some 16), (some (14, false)), .call fn_math_bits_Len64 [(.s 15)]⟩,
    ⟨(some 17), (some (14, false)), .mv (.s 2)⟩,
    ⟨(some 18), (some (14, false)), .bin .gtr (.s 16) (.s 17)⟩,
    ⟨(some 19), none, .pick (.s 14) (.c (V.bool true)) (.s 18)⟩]
  (.cond (.s 19)
  (.ops [⟨(some 6), none, .mv (.c (V.int .i64 1))⟩]
   (.ret))
  (.ops [⟨(some 20), none, .mv (.s 2)⟩,
     ⟨(some 21), none, .bin .sub (.s 20) (.c (V.int .i64 1))⟩,
     ⟨(some 7), none, .mv (.s 21)⟩]
   (.blk 0
   (.loop loop_bits_Writer_Add_0 [7] [22, 23, 26, 27, 28, 29, 30, 31, 32, 33, 34, 35, 36, 37, 38, 39, 40, 41, 42, 43, 44, 45, 46, 47, 48, 49, 50, 51, 52, 53, 54, 55, 56, 57, 58, 59, 60, 61, 62, 63, 64, 65, 66, 67, 68, 69, 70, 71, 24, 25, 7]) [] [22, 23, 26, 27, 28, 29, 30, 31, 32, 33, 34, 35, 36, 37, 38, 39, 40, 41, 42, 43, 44, 45, 46, 47, 48, 49, 50, 51, 52, 53, 54, 55, 56, 57, 58, 59, 60, 61, 62, 63, 64, 65, 66, 67, 68, 69, 70, 71, 24, 25, 7]
   (.ops [⟨(some 6), none, .mv (.c (V.int .i64 0))⟩]
   (.ret))))))⟩

noncomputable def f_bits_Writer_Add_0 (G : Sem') (t1 t0 t6 : V) (L : List V) : M Res :=
  (M.lift (Ax.bin .geq (L.getD 0 .undef) (V.int .i64 0))).bind fun t23 =>
  M.ite t23
    (M.blk 1 (
      (M.lift (Ax.nilck t0)).bind fun t27 =>
      (M.lift (Ax.faddr 1 t27)).bind fun t28 =>
      (mload none t28).bind fun t29 =>
      (M.lift (Ax.bin .rem t29 (V.int .i64 8))).bind fun t30 =>
      (M.lift (Ax.bin .eql t30 (V.int .i64 0))).bind fun t31 =>
      M.join (M.ite t31
        ((M.lift (Ax.nilck t0)).bind fun t34 =>
        (M.lift (Ax.faddr 0 t34)).bind fun t35 =>
        (mload none t35).bind fun t36 =>
        (mslit ty_uint8 1 [(V.int .u8 0)] [(0, 1, (V.int .u8 0))]).bind fun t37 =>
        (mappend ty_uint8 1 1 t36 t37).bind fun t38 =>
        (M.lift (Ax.nilck t0)).bind fun t39 =>
        (M.lift (Ax.faddr 0 t39)).bind fun t40 =>
        (mstore 1 t40 t38).bind fun _ =>
        M.pure (.nrm []))
        (M.pure (.nrm []))) fun _ =>
      (M.lift (Ax.bin .shr t1 (L.getD 0 .undef))).bind fun t43 =>
      (M.lift (Ax.bin .and t43 (V.int .u64 1))).bind fun t44 =>
      (M.lift (Ax.bin .eql t44 (V.int .u64 1))).bind fun t45 =>
      M.join (M.ite t45
        ((M.lift (Ax.nilck t0)).bind fun t47 =>
        (M.lift (Ax.faddr 0 t47)).bind fun t48 =>
        (mload none t48).bind fun t49 =>
        (M.lift (Ax.nilck t0)).bind fun t51 =>
        (M.lift (Ax.faddr 1 t51)).bind fun t52 =>
        (mload none t52).bind fun t53 =>
        (M.lift (Ax.bin .quo t53 (V.int .i64 8))).bind fun t54 =>
        (M.lift (Ax.iaddr none 1 t49 t54)).bind fun t55 =>
        (mload none t55).bind fun t56 =>
        (M.lift (Ax.nilck t0)).bind fun t58 =>
        (M.lift (Ax.faddr 1 t58)).bind fun t59 =>
        (mload none t59).bind fun t60 =>
        (M.lift (Ax.bin .rem t60 (V.int .i64 8))).bind fun t61 =>
        (M.lift (Ax.bin .shr (V.int .u8 128) t61)).bind fun t62 =>
        (M.lift (Ax.bin .or t56 t62)).bind fun t63 =>
        (M.lift (Ax.iaddr none 1 t49 t54)).bind fun t64 =>
        (mstore 1 t64 t63).bind fun _ =>
        M.pure (.nrm []))
        (M.pure (.nrm []))) fun _ =>
      (M.lift (Ax.nilck t0)).bind fun t66 =>
      (M.lift (Ax.faddr 1 t66)).bind fun t67 =>
      (mload none t67).bind fun t68 =>
      (M.lift (Ax.bin .add t68 (V.int .i64 1))).bind fun t69 =>
      (M.lift (Ax.nilck t0)).bind fun t70 =>
      (M.lift (Ax.faddr 1 t70)).bind fun t71 =>
      (mstore 1 t71 t69).bind fun _ =>
      M.pure (.nrm [])) fun _ =>
    (M.lift (Ax.bin .sub (L.getD 0 .undef) (V.int .i64 1))).bind fun t25 =>
    M.pure (.nrm [t25]))
    (M.pure (.ex 0 []))

noncomputable def f_bits_Writer_Add (G : Sem') (t0 t1 t2 : V) : M Res :=
  (M.lift (Ax.bin .lss t2 (V.int .i64 0))).bind fun t9 =>
  (guarded [(0, t9)] (some (0, false)) (M.pure t2)).bind fun t11 =>
  (guarded [(0, t9)] (some (0, false)) (M.lift (Ax.bin .gtr t11 (V.int .i64 64)))).bind fun t12 =>
  (M.lift (Ax.pick t9 (V.bool true) t12)).bind fun t13 =>
  (guarded [(0, t13)] (some (0, false)) (M.pure t1)).bind fun t15 =>
  (guarded [(0, t13)] (some (0, false)) (G fn_math_bits_Len64 [t15])).bind fun t16 =>
  (guarded [(0, t13)] (some (0, false)) (M.pure t2)).bind fun t17 =>
  (guarded [(0, t13)] (some (0, false)) (M.lift (Ax.bin .gtr t16 t17))).bind fun t18 =>
  (M.lift (Ax.pick t13 (V.bool true) t18)).bind fun t19 =>
  M.ite t19
    (M.pure (.ret [(V.int .i64 1)]))
    ((M.lift (Ax.bin .sub t2 (V.int .i64 1))).bind fun t21 =>
    M.blk 0 (
      M.iter (f_bits_Writer_Add_0 G t1 t0 (V.int .i64 0)) [t21]) fun _ =>
    M.pure (.ret [(V.int .i64 0)]))

theorem eq_bits_Writer_Add (G : Sem') (t0 t1 t2 : V) : execK G ir_bits_Writer_Add.rv ir_bits_Writer_Add.body [] [] (params 0 [t0, t1, t2]) = f_bits_Writer_Add G t0 t1 t2 := by kernel_rfl

theorem tb_bits_Writer_Add : T fn_bits_Writer_Add = some ir_bits_Writer_Add := by kernel_rfl

theorem ok_bits_Writer_Add {t0 t1 t2 : V} {H : Heap} {Q : V → Heap → Prop} (h : Ok (f_bits_Writer_Add (sem T) t0 t1 t2) H fun r H' => ∃ L, r = .ret L ∧ Q (tupled L) H') : Ok (sem T fn_bits_Writer_Add [t0, t1, t2]) H Q :=
  ok_sem tb_bits_Writer_Add (Nat.le_of_ble_eq_true rfl) (eq_bits_Writer_Add (sem T) t0 t1 t2) h

def str_math_bits_Len64_0 : ByteArray := ⟨#[0, 1, 2, 2, 3, 3, 3, 3, 4, 4, 4, 4, 4, 4, 4, 4, 5, 5, 5, 5, 5, 5, 5, 5, 5, 5, 5, 5, 5, 5, 5, 5, 6, 6, 6, 6, 6, 6, 6, 6, 6, 6, 6, 6, 6, 6, 6, 6, 6, 6, 6, 6, 6, 6, 6, 6, 6, 6, 6, 6, 6, 6, 6, 6, 7, 7, 7, 7, 7, 7, 7, 7, 7, 7, 7, 7, 7, 7, 7, 7, 7, 7, 7, 7, 7, 7, 7, 7, 7, 7, 7, 7, 7, 7, 7, 7, 7, 7, 7, 7, 7, 7, 7, 7, 7, 7, 7, 7, 7, 7, 7, 7, 7, 7, 7, 7, 7, 7, 7, 7, 7, 7, 7, 7, 7, 7, 7, 7, 8, 8, 8, 8, 8, 8, 8, 8, 8, 8, 8, 8, 8, 8, 8, 8, 8, 8, 8, 8, 8, 8, 8, 8, 8, 8, 8, 8, 8, 8, 8, 8, 8, 8, 8, 8, 8, 8, 8, 8, 8, 8, 8, 8, 8, 8, 8, 8, 8, 8, 8, 8, 8, 8, 8, 8, 8, 8, 8, 8, 8, 8, 8, 8, 8, 8, 8, 8, 8, 8, 8, 8, 8, 8, 8, 8, 8, 8, 8, 8, 8, 8, 8, 8, 8, 8, 8, 8, 8, 8, 8, 8, 8, 8, 8, 8, 8, 8, 8, 8, 8, 8, 8, 8, 8, 8, 8, 8, 8, 8, 8, 8, 8, 8, 8, 8, 8, 8, 8, 8, 8, 8, 8, 8, 8, 8, 8, 8]⟩

/-- math/bits.Len64. -/
def ir_math_bits_Len64 : Fn' := ⟨25, [.tmp 2],
  .ops [⟨(some 2), none, .mv (.c (V.int .i64 0))⟩]
  (.ops [⟨(some 3), none, .mv (.s 0)⟩,
    ⟨(some 4), none, .bin .geq (.s 3) (.c (V.int .u64 4294967296))⟩]
  (.condJ (.s 4)
  (.ops [⟨(some 5), none, .mv (.s 0)⟩,
     ⟨(some 6), none, .bin .shr (.s 5) (.c (V.int .u64 32))⟩,
     ⟨(some 0), none, .mv (.s 6)⟩]
   (.ops [⟨(some 2), none, .mv (.c (V.int .i64 32))⟩]
   (.done)))
  (.done) [0, 2] [5, 6, 0, 2]
  (.ops [⟨(some 7), none, .mv (.s 0)⟩,
    ⟨(some 8), none, .bin .geq (.s 7) (.c (V.int .u64 65536))⟩]
  (.condJ (.s 8)
  (.ops [⟨(some 9), none, .mv (.s 0)⟩,
     ⟨(some 10), none, .bin .shr (.s 9) (.c (V.int .u64 16))⟩,
     ⟨(some 0), none, .mv (.s 10)⟩]
   (.ops [⟨(some 11), none, .mv (.s 2)⟩,
     ⟨(some 12), none, .bin .add (.s 11) (.c (V.int .i64 16))⟩,
     ⟨(some 2), none, .mv (.s 12)⟩]
   (.done)))
  (.done) [0, 2] [9, 10, 0, 11, 12, 2]
  (.ops [⟨(some 13), none, .mv (.s 0)⟩,
    ⟨(some 14), none, .bin .geq (.s 13) (.c (V.int .u64 256))⟩]
  (.condJ (.s 14)
  (.ops [⟨(some 15), none, .mv (.s 0)⟩,
     ⟨(some 16), none, .bin .shr (.s 15) (.c (V.int .u64 8))⟩,
     ⟨(some 0), none, .mv (.s 16)⟩]
   (.ops [⟨(some 17), none, .mv (.s 2)⟩,
     ⟨(some 18), none, .bin .add (.s 17) (.c (V.int .i64 8))⟩,
     ⟨(some 2), none, .mv (.s 18)⟩]
   (.done)))
  (.done) [0, 2] [15, 16, 0, 17, 18, 2]
  (.ops [⟨(some 19), none, .mv (.s 2)⟩,
    ⟨(some 20), none, .mv (.s 0)⟩,
    ⟨(some 21), none, .cint .u8 (.s 20)⟩,
    ⟨(some 22), none, .sindex (.c (V.str str_math_bits_Len64_0)) (.s 21)⟩,
    ⟨(some 23), none, .cint .i64 (.s 22)⟩,
    ⟨(some 24), none, .bin .add (.s 19) (.s 23)⟩,
    ⟨(some 2), none, .mv (.s 24)⟩]
  (.ret))))))))⟩

noncomputable def f_math_bits_Len64 (G : Sem') (t0 : V) : M Res :=
  (M.lift (Ax.bin .geq t0 (V.int .u64 4294967296))).bind fun t4 =>
  M.join (M.ite t4
    ((M.lift (Ax.bin .shr t0 (V.int .u64 32))).bind fun t6 =>
    M.pure (.nrm [t6, (V.int .i64 32)]))
    (M.pure (.nrm [t0, (V.int .i64 0)]))) fun L0 =>
  (M.lift (Ax.bin .geq (L0.getD 0 .undef) (V.int .u64 65536))).bind fun t8 =>
  M.join (M.ite t8
    ((M.lift (Ax.bin .shr (L0.getD 0 .undef) (V.int .u64 16))).bind fun t10 =>
    (M.lift (Ax.bin .add (L0.getD 1 .undef) (V.int .i64 16))).bind fun t12 =>
    M.pure (.nrm [t10, t12]))
    (M.pure (.nrm [(L0.getD 0 .undef), (L0.getD 1 .undef)]))) fun L1 =>
  (M.lift (Ax.bin .geq (L1.getD 0 .undef) (V.int .u64 256))).bind fun t14 =>
  M.join (M.ite t14
    ((M.lift (Ax.bin .shr (L1.getD 0 .undef) (V.int .u64 8))).bind fun t16 =>
    (M.lift (Ax.bin .add (L1.getD 1 .undef) (V.int .i64 8))).bind fun t18 =>
    M.pure (.nrm [t16, t18]))
    (M.pure (.nrm [(L1.getD 0 .undef), (L1.getD 1 .undef)]))) fun L2 =>
  (M.lift (Ax.cint .u8 (L2.getD 0 .undef))).bind fun t21 =>
  (M.lift (Ax.sindex (V.str str_math_bits_Len64_0) t21)).bind fun t22 =>
  (M.lift (Ax.cint .i64 t22)).bind fun t23 =>
  (M.lift (Ax.bin .add (L2.getD 1 .undef) t23)).bind fun t24 =>
  M.pure (.ret [t24])

theorem eq_math_bits_Len64 (G : Sem') (t0 : V) : execK G ir_math_bits_Len64.rv ir_math_bits_Len64.body [] [] (params 0 [t0]) = f_math_bits_Len64 G t0 := by kernel_rfl

theorem tb_math_bits_Len64 : T fn_math_bits_Len64 = some ir_math_bits_Len64 := by kernel_rfl

theorem ok_math_bits_Len64 {t0 : V} {H : Heap} {Q : V → Heap → Prop} (h : Ok (f_math_bits_Len64 (sem T) t0) H fun r H' => ∃ L, r = .ret L ∧ Q (tupled L) H') : Ok (sem T fn_math_bits_Len64 [t0]) H Q :=
  ok_sem tb_math_bits_Len64 (Nat.le_of_ble_eq_true rfl) (eq_math_bits_Len64 (sem T) t0) h

/-- (*palanquin/bits.Writer).Bytes. -/
def ir_bits_Writer_Bytes : Fn' := ⟨8, [.tmp 2],
  .ops [⟨(some 2), none, .mv (.c V.nils)⟩]
  (.ops [⟨(some 3), none, .mv (.s 0)⟩,
    ⟨(some 4), none, .nilck (.s 3)⟩,
    ⟨(some 5), none, .faddr 0 (.s 4)⟩,
    ⟨(some 6), none, .load none (.s 5)⟩,
    ⟨(some 7), none, .append ty_uint8 1 1 (.c V.nils) (.s 6)⟩,
    ⟨(some 2), none, .mv (.s 7)⟩]
  (.ret))⟩

noncomputable def f_bits_Writer_Bytes (G : Sem') (t0 : V) : M Res :=
  (M.lift (Ax.nilck t0)).bind fun t4 =>
  (M.lift (Ax.faddr 0 t4)).bind fun t5 =>
  (mload none t5).bind fun t6 =>
  (mappend ty_uint8 1 1 V.nils t6).bind fun t7 =>
  M.pure (.ret [t7])

theorem eq_bits_Writer_Bytes (G : Sem') (t0 : V) : execK G ir_bits_Writer_Bytes.rv ir_bits_Writer_Bytes.body [] [] (params 0 [t0]) = f_bits_Writer_Bytes G t0 := by kernel_rfl

theorem tb_bits_Writer_Bytes : T fn_bits_Writer_Bytes = some ir_bits_Writer_Bytes := by kernel_rfl

theorem ok_bits_Writer_Bytes {t0 : V} {H : Heap} {Q : V → Heap → Prop} (h : Ok (f_bits_Writer_Bytes (sem T) t0) H fun r H' => ∃ L, r = .ret L ∧ Q (tupled L) H') : Ok (sem T fn_bits_Writer_Bytes [t0]) H Q :=
  ok_sem tb_bits_Writer_Bytes (Nat.le_of_ble_eq_true rfl) (eq_bits_Writer_Bytes (sem T) t0) h

/-- (*palanquin/bits.Writer).Len. -/
def ir_bits_Writer_Len : Fn' := ⟨7, [.tmp 2],
  .ops [⟨(some 2), none, .mv (.c (V.int .i64 0))⟩]
  (.ops [⟨(some 3), none, .mv (.s 0)⟩,
    ⟨(some 4), none, .nilck (.s 3)⟩,
    ⟨(some 5), none, .faddr 1 (.s 4)⟩,
    ⟨(some 6), none, .load none (.s 5)⟩,
    ⟨(some 2), none, .mv (.s 6)⟩]
  (.ret))⟩

noncomputable def f_bits_Writer_Len (G : Sem') (t0 : V) : M Res :=
  (M.lift (Ax.nilck t0)).bind fun t4 =>
  (M.lift (Ax.faddr 1 t4)).bind fun t5 =>
  (mload none t5).bind fun t6 =>
  M.pure (.ret [t6])

theorem eq_bits_Writer_Len (G : Sem') (t0 : V) : execK G ir_bits_Writer_Len.rv ir_bits_Writer_Len.body [] [] (params 0 [t0]) = f_bits_Writer_Len G t0 := by kernel_rfl

theorem tb_bits_Writer_Len : T fn_bits_Writer_Len = some ir_bits_Writer_Len := by kernel_rfl

theorem ok_bits_Writer_Len {t0 : V} {H : Heap} {Q : V → Heap → Prop} (h : Ok (f_bits_Writer_Len (sem T) t0) H fun r H' => ∃ L, r = .ret L ∧ Q (tupled L) H') : Ok (sem T fn_bits_Writer_Len [t0]) H Q :=
  ok_sem tb_bits_Writer_Len (Nat.le_of_ble_eq_true rfl) (eq_bits_Writer_Len (sem T) t0) h

/-- (*palanquin/bits.Writer).AddNS. -/
def ir_bits_Writer_AddNS : Fn' := ⟨39, [.tmp 6],
  .ops [⟨(some 6), none, .mv (.c (V.int .i64 0))⟩]
  (.ops [⟨(some 9), none, .mv (.s 2)⟩,
    ⟨(some 10), none, .bin .lss (.s 9) (.c (V.int .u64 1))⟩,
    ⟨(some 11), none, .mv (.s 10)⟩,
    ⟨(some 12), (some (11, false)), .mv (.s 2)⟩,
    ⟨(some 13), (some (11, false)), .bin .gtr (.s 12) (.c (V.int .u64 4294967296))⟩,
    ⟨(some 14), none, .pick (.s 11) (.c (V.bool true)) (.s 13)⟩,
    ⟨(some 15), none, .mv (.s 14)⟩,
    ⟨(some 16), (some (15, false)), .mv (.s 1)⟩,
    ⟨(some 17), (some (15, false)), .mv (.s 2)⟩,
    ⟨(some 18), (some (15, false)), .bin .geq (.s 16) (.s 17)⟩,
    ⟨(some 19), none, .pick (.s 15) (.c (V.bool true)) (.s 18)⟩]
  (.cond (.s 19)
  (.ops [⟨(some 6), none, .mv (.c (V.int .i64 1))⟩]
   (.ret))
  (.ops [⟨(some 21), none, .mv (.s 2)⟩,
     ⟨(some 22), none, .call fn_bits_short [(.s 21)]⟩,
     ⟨(some 20), none, .mv (.s 22)⟩,
     ⟨(some 23), none, .ext 0 (.s 20)⟩,
     ⟨(some 24), none, .ext 1 (.s 20)⟩,
     ⟨(some 7), none, .mv (.s 23)⟩,
     ⟨(some 8), none, .mv (.s 24)⟩]
   (.ops [⟨(some 25), none, .mv (.s 1)⟩,
     ⟨(some 26), none, .mv (.s 8)⟩,
     ⟨(some 27), none, .bin .lss (.s 25) (.s 26)⟩]
   (.cond (.s 27)
   (.ops [⟨(some 28), none, .mv (.s 0)⟩,
      ⟨(some 29), none, .mv (.s 1)⟩,
      ⟨(some 30), none, .mv (.s 7)⟩,
      ⟨(some 31), none, .bin .sub (.s 30) (.c (V.int .i64 1))⟩,
      ⟨(some 32), none, .call fn_bits_Writer_Add [(.s 28), (.s 29), (.s 31)]⟩,
      ⟨(some 6), none, .mv (.s 32)⟩]
    (.ret))
   (.ops [⟨(some 33), none, .mv (.s 0)⟩,
      ⟨(some 34), none, .mv (.s 1)⟩,
      ⟨(some 35), none, .mv (.s 8)⟩,
      ⟨(some 36), none, .bin .add (.s 34) (.s 35)⟩,
      ⟨(some 37), none, .mv (.s 7)⟩,
      ⟨(some 38), none, .call fn_bits_Writer_Add [(.s 33), (.s 36), (.s 37)]⟩,
      ⟨(some 6), none, .mv (.s 38)⟩]
    (.ret)))))))⟩

noncomputable def f_bits_Writer_AddNS (G : Sem') (t0 t1 t2 : V) : M Res :=
  (M.lift (Ax.bin .lss t2 (V.int .u64 1))).bind fun t10 =>
  (guarded [(0, t10)] (some (0, false)) (M.pure t2)).bind fun t12 =>
  (guarded [(0, t10)] (some (0, false)) (M.lift (Ax.bin .gtr t12 (V.int .u64 4294967296)))).bind fun t13 =>
  (M.lift (Ax.pick t10 (V.bool true) t13)).bind fun t14 =>
  (guarded [(0, t14)] (some (0, false)) (M.pure t1)).bind fun t16 =>
  (guarded [(0, t14)] (some (0, false)) (M.pure t2)).bind fun t17 =>
  (guarded [(0, t14)] (some (0, false)) (M.lift (Ax.bin .geq t16 t17))).bind fun t18 =>
  (M.lift (Ax.pick t14 (V.bool true) t18)).bind fun t19 =>
  M.ite t19
    (M.pure (.ret [(V.int .i64 1)]))
    ((G fn_bits_short [t2]).bind fun t22 =>
    (M.lift (Ax.ext 0 t22)).bind fun t23 =>
    (M.lift (Ax.ext 1 t22)).bind fun t24 =>
    (M.lift (Ax.bin .lss t1 t24)).bind fun t27 =>
    M.ite t27
      ((M.lift (Ax.bin .sub t23 (V.int .i64 1))).bind fun t31 =>
      (G fn_bits_Writer_Add [t0, t1, t31]).bind fun t32 =>
      M.pure (.ret [t32]))
      ((M.lift (Ax.bin .add t1 t24)).bind fun t36 =>
      (G fn_bits_Writer_Add [t0, t36, t23]).bind fun t38 =>
      M.pure (.ret [t38])))

theorem eq_bits_Writer_AddNS (G : Sem') (t0 t1 t2 : V) : execK G ir_bits_Writer_AddNS.rv ir_bits_Writer_AddNS.body [] [] (params 0 [t0, t1, t2]) = f_bits_Writer_AddNS G t0 t1 t2 := by kernel_rfl

theorem tb_bits_Writer_AddNS : T fn_bits_Writer_AddNS = some ir_bits_Writer_AddNS := by kernel_rfl

theorem ok_bits_Writer_AddNS {t0 t1 t2 : V} {H : Heap} {Q : V → Heap → Prop} (h : Ok (f_bits_Writer_AddNS (sem T) t0 t1 t2) H fun r H' => ∃ L, r = .ret L ∧ Q (tupled L) H') : Ok (sem T fn_bits_Writer_AddNS [t0, t1, t2]) H Q :=
  ok_sem tb_bits_Writer_AddNS (Nat.le_of_ble_eq_true rfl) (eq_bits_Writer_AddNS (sem T) t0 t1 t2) h

/-- palanquin/bits.short. -/
def ir_bits_short : Fn' := ⟨12, [.tmp 2, .tmp 3],
  .ops [⟨(some 2), none, .mv (.c (V.int .i64 0))⟩,
    ⟨(some 3), none, .mv (.c (V.int .u64 0))⟩]
  (.ops [⟨(some 5), none, .mv (.s 0)⟩,
    ⟨(some 6), none, .call fn_math_bits_Len64 [(.s 5)]⟩,
    ⟨(some 4), none, .mv (.s 6)⟩]
  (.draw [⟨(some 7), none, .mv (.s 4)⟩,
    ⟨(some 8), none, .mv (.s 4)⟩,
    ⟨(some 9), none, .bin .shl (.c (V.int .u64 1)) (.s 8)⟩,
    ⟨(some 10), none, .mv (.s 0)⟩,
    ⟨(some 11), none, .bin .sub (.s 9) (.s 10)⟩,
    ⟨(some 2), none, .mv (.s 7)⟩,
    ⟨(some 3), none, .mv (.s 11)⟩] []
  (.ret)))⟩

noncomputable def f_bits_short (G : Sem') (t0 : V) : M Res :=
  (G fn_math_bits_Len64 [t0]).bind fun t6 =>
  (M.lift (Ax.bin .shl (V.int .u64 1) t6)).bind fun t9 =>
  (M.lift (Ax.bin .sub t9 t0)).bind fun t11 =>
  M.pure (.ret [t6, t11])

theorem eq_bits_short (G : Sem') (t0 : V) : execK G ir_bits_short.rv ir_bits_short.body [] [] (params 0 [t0]) = f_bits_short G t0 := by kernel_rfl

theorem tb_bits_short : T fn_bits_short = some ir_bits_short := by kernel_rfl

theorem ok_bits_short {t0 : V} {H : Heap} {Q : V → Heap → Prop} (h : Ok (f_bits_short (sem T) t0) H fun r H' => ∃ L, r = .ret L ∧ Q (tupled L) H') : Ok (sem T fn_bits_short [t0]) H Q :=
  ok_sem tb_bits_short (Nat.le_of_ble_eq_true rfl) (eq_bits_short (sem T) t0) h

/-- (*palanquin/palanquinref6.Writer).AddNS. -/
def ir_palanquinref6_Writer_AddNS : Fn' := ⟨39, [.tmp 6],
  .ops [⟨(some 6), none, .mv (.c (V.int .i64 0))⟩]
  (.ops [⟨(some 9), none, .mv (.s 2)⟩,
    ⟨(some 10), none, .bin .lss (.s 9) (.c (V.int .u64 1))⟩,
    ⟨(some 11), none, .mv (.s 10)⟩,
    ⟨(some 12), (some (11, false)), .mv (.s 2)⟩,
    ⟨(some 13), (some (11, false)), .bin .gtr (.s 12) (.c (V.int .u64 4294967296))⟩,
    ⟨(some 14), none, .pick (.s 11) (.c (V.bool true)) (.s 13)⟩,
    ⟨(some 15), none, .mv (.s 14)⟩,
    ⟨(some 16), (some (15, false)), .mv (.s 1)⟩,
    ⟨(some 17), (some (15, false)), .mv (.s 2)⟩,
    ⟨(some 18), (some (15, false)), .bin .geq (.s 16) (.s 17)⟩,
    ⟨(some 19), none, .pick (.s 15) (.c (V.bool true)) (.s 18)⟩]
  (.cond (.s 19)
  (.ops [⟨(some 6), none, .mv (.c (V.int .i64 1))⟩]
   (.ret))
  (.ops [⟨(some 21), none, .mv (.s 2)⟩,
     ⟨(some 22), none, .call fn_palanquinref6_width [(.s 21)]⟩,
     ⟨(some 20), none, .mv (.s 22)⟩,
     ⟨(some 23), none, .ext 0 (.s 20)⟩,
     ⟨(some 24), none, .ext 1 (.s 20)⟩,
     ⟨(some 7), none, .mv (.s 23)⟩,
     ⟨(some 8), none, .mv (.s 24)⟩]
   (.ops [⟨(some 25), none, .mv (.s 1)⟩,
     ⟨(some 26), none, .mv (.s 8)⟩,
     ⟨(some 27), none, .bin .lss (.s 25) (.s 26)⟩]
   (.cond (.s 27)
   (.ops [⟨(some 28), none, .mv (.s 0)⟩,
      ⟨(some 29), none, .mv (.s 1)⟩,
      ⟨(some 30), none, .mv (.s 7)⟩,
      ⟨(some 31), none, .bin .sub (.s 30) (.c (V.int .i64 1))⟩,
      ⟨(some 32), none, .call fn_palanquinref6_Writer_Add [(.s 28), (.s 29), (.s 31)]⟩,
      ⟨(some 6), none, .mv (.s 32)⟩]
    (.ret))
   (.ops [⟨(some 33), none, .mv (.s 0)⟩,
      ⟨(some 34), none, .mv (.s 1)⟩,
      ⟨(some 35), none, .mv (.s 8)⟩,
      ⟨(some 36), none, .bin .add (.s 34) (.s 35)⟩,
      ⟨(some 37), none, .mv (.s 7)⟩,
      ⟨(some 38), none, .call fn_palanquinref6_Writer_Add [(.s 33), (.s 36), (.s 37)]⟩,
      ⟨(some 6), none, .mv (.s 38)⟩]
    (.ret)))))))⟩

noncomputable def f_palanquinref6_Writer_AddNS (G : Sem') (t0 t1 t2 : V) : M Res :=
  (M.lift (Ax.bin .lss t2 (V.int .u64 1))).bind fun t10 =>
  (guarded [(0, t10)] (some (0, false)) (M.pure t2)).bind fun t12 =>
  (guarded [(0, t10)] (some (0, false)) (M.lift (Ax.bin .gtr t12 (V.int .u64 4294967296)))).bind fun t13 =>
  (M.lift (Ax.pick t10 (V.bool true) t13)).bind fun t14 =>
  (guarded [(0, t14)] (some (0, false)) (M.pure t1)).bind fun t16 =>
  (guarded [(0, t14)] (some (0, false)) (M.pure t2)).bind fun t17 =>
  (guarded [(0, t14)] (some (0, false)) (M.lift (Ax.bin .geq t16 t17))).bind fun t18 =>
  (M.lift (Ax.pick t14 (V.bool true) t18)).bind fun t19 =>
  M.ite t19
    (M.pure (.ret [(V.int .i64 1)]))
    ((G fn_palanquinref6_width [t2]).bind fun t22 =>
    (M.lift (Ax.ext 0 t22)).bind fun t23 =>
    (M.lift (Ax.ext 1 t22)).bind fun t24 =>
    (M.lift (Ax.bin .lss t1 t24)).bind fun t27 =>
    M.ite t27
      ((M.lift (Ax.bin .sub t23 (V.int .i64 1))).bind fun t31 =>
      (G fn_palanquinref6_Writer_Add [t0, t1, t31]).bind fun t32 =>
      M.pure (.ret [t32]))
      ((M.lift (Ax.bin .add t1 t24)).bind fun t36 =>
      (G fn_palanquinref6_Writer_Add [t0, t36, t23]).bind fun t38 =>
      M.pure (.ret [t38])))

theorem eq_palanquinref6_Writer_AddNS (G : Sem') (t0 t1 t2 : V) : execK G ir_palanquinref6_Writer_AddNS.rv ir_palanquinref6_Writer_AddNS.body [] [] (params 0 [t0, t1, t2]) = f_palanquinref6_Writer_AddNS G t0 t1 t2 := by kernel_rfl

theorem tb_palanquinref6_Writer_AddNS : T fn_palanquinref6_Writer_AddNS = some ir_palanquinref6_Writer_AddNS := by kernel_rfl

theorem ok_palanquinref6_Writer_AddNS {t0 t1 t2 : V} {H : Heap} {Q : V → Heap → Prop} (h : Ok (f_palanquinref6_Writer_AddNS (sem T) t0 t1 t2) H fun r H' => ∃ L, r = .ret L ∧ Q (tupled L) H') : Ok (sem T fn_palanquinref6_Writer_AddNS [t0, t1, t2]) H Q :=
  ok_sem tb_palanquinref6_Writer_AddNS (Nat.le_of_ble_eq_true rfl) (eq_palanquinref6_Writer_AddNS (sem T) t0 t1 t2) h

/-- palanquin/palanquinref6.width. -/
def loop_palanquinref6_width_0 : C :=
  .ops [⟨(some 7), none, .mv (.s 5)⟩,
    ⟨(some 8), none, .bin .gtr (.s 7) (.c (V.int .u64 0))⟩]
  (.cond (.s 8)
  (.blk 1
   (.ops [⟨(some 11), none, .mv (.s 4)⟩,
      ⟨(some 12), none, .bin .add (.s 11) (.c (V.int .i64 1))⟩,
      ⟨(some 4), none, .mv (.s 12)⟩]
    (.done)) [4] [11, 12, 4]
   (.ops [⟨(some 9), none, .mv (.s 5)⟩,
     ⟨(some 10), none, .bin .shr (.s 9) (.c (V.int .u64 1))⟩,
     ⟨(some 5), none, .mv (.s 10)⟩]
   (.done)))
  (.exit 0))

def ir_palanquinref6_width : Fn' := ⟨19, [.tmp 2, .tmp 3],
  .ops [⟨(some 2), none, .mv (.c (V.int .i64 0))⟩,
    ⟨(some 3), none, .mv (.c (V.int .u64 0))⟩]
  (.ops [⟨(some 4), none, .mv (.c (V.int .i64 0))⟩]
  (.ops [⟨(some 6), none, .mv (.s 0)⟩,
    ⟨(some 5), none, .mv (.s 6)⟩]
  (.blk 0
  (.loop loop_palanquinref6_width_0 [4, 5] [7, 8, 11, 12, 4, 9, 10, 5]) [4] [7, 8, 11, 12, 4, 9, 10, 5]
  (.ops [⟨(some 13), none, .mv (.s 4)⟩,
    ⟨(some 14), none, .mv (.s 4)⟩,
    ⟨(some 15), none, .cint .u64 (.s 14)⟩,
    ⟨(some 16), none, .bin .shl (.c (V.int .u64 1)) (.s 15)⟩,
    ⟨(some 17), none, .mv (.s 0)⟩,
    ⟨(some 18), none, .bin .sub (.s 16) (.s 17)⟩,
    ⟨(some 2), none, .mv (.s 13)⟩,
    ⟨(some 3), none, .mv (.s 18)⟩]
  (.ret)))))⟩

noncomputable def f_palanquinref6_width_0 (G : Sem') (t2 t3 : V) (L : List V) : M Res :=
  (M.lift (Ax.bin .gtr (L.getD 1 .undef) (V.int .u64 0))).bind fun t8 =>
  M.ite t8
    (M.blk 1 (
      (M.lift (Ax.bin .add (L.getD 0 .undef) (V.int .i64 1))).bind fun t12 =>
      M.pure (.nrm [t12])) fun L0 =>
    (M.lift (Ax.bin .shr (L.getD 1 .undef) (V.int .u64 1))).bind fun t10 =>
    M.pure (.nrm [(L0.getD 0 .undef), t10]))
    (M.pure (.ex 0 [(L.getD 0 .undef)]))

noncomputable def f_palanquinref6_width (G : Sem') (t0 : V) : M Res :=
  M.blk 0 (
    M.iter (f_palanquinref6_width_0 G (V.int .i64 0) (V.int .u64 0)) [(V.int .i64 0), t0]) fun L1 =>
  (M.lift (Ax.cint .u64 (L1.getD 0 .undef))).bind fun t15 =>
  (M.lift (Ax.bin .shl (V.int .u64 1) t15)).bind fun t16 =>
  (M.lift (Ax.bin .sub t16 t0)).bind fun t18 =>
  M.pure (.ret [(L1.getD 0 .undef), t18])

theorem eq_palanquinref6_width (G : Sem') (t0 : V) : execK G ir_palanquinref6_width.rv ir_palanquinref6_width.body [] [] (params 0 [t0]) = f_palanquinref6_width G t0 := by kernel_rfl

theorem tb_palanquinref6_width : T fn_palanquinref6_width = some ir_palanquinref6_width := by kernel_rfl

theorem ok_palanquinref6_width {t0 : V} {H : Heap} {Q : V → Heap → Prop} (h : Ok (f_palanquinref6_width (sem T) t0) H fun r H' => ∃ L, r = .ret L ∧ Q (tupled L) H') : Ok (sem T fn_palanquinref6_width [t0]) H Q :=
  ok_sem tb_palanquinref6_width (Nat.le_of_ble_eq_true rfl) (eq_palanquinref6_width (sem T) t0) h

/-- (*palanquin/palanquinref6.Writer).Add. -/
def loop_palanquinref6_Writer_Add_0 : C :=
  .ops [⟨(some 27), none, .mv (.s 7)⟩,
    ⟨(some 28), none, .bin .geq (.s 27) (.c (V.int .i64 0))⟩]
  (.cond (.s 28)
  (.blk 1
   (.ops [⟨(some 31), none, .mv (.s 0)⟩,
      ⟨(some 32), none, .mv (.s 0)⟩,
      ⟨(some 33), none, .nilck (.s 32)⟩,
      ⟨(some 34), none, .faddr 0 (.s 33)⟩,
      ⟨(some 35), none, .load none (.s 34)⟩,
      ⟨(some 36), none, .mv (.s 1)⟩,
      ⟨(some 37), none, .mv (.s 7)⟩,
      ⟨(some 38), none, .cint .u64 (.s 37)⟩,
      ⟨(some 39), none, .bin .shr (.s 36) (.s 38)⟩,
      ⟨(some 40), none, .bin .and (.s 39) (.c (V.int .u64 1))⟩,
      ⟨(some 41), none, .bin .eql (.s 40) (.c (V.int .u64 1))⟩,
      ⟨(some 42), none, .slit ty_bool 1 [(V.bool false)] [(0, 1, (.s 41))]⟩,
      ⟨(some 43), none, .append ty_bool 1 1 (.s 35) (.s 42)⟩,
      ⟨(some 44), none, .nilck (.s 31)⟩,
      ⟨(some 45), none, .faddr 0 (.s 44)⟩,
      ⟨none, none, .store 1 (.s 45) (.s 43)⟩]
    (.done)) [] [31, 32, 33, 34, 35, 36, 37, 38, 39, 40, 41, 42, 43, 44, 45]
   (.ops [⟨(some 29), none, .mv (.s 7)⟩,
     ⟨(some 30), none, .bin .sub (.s 29) (.c (V.int .i64 1))⟩,
     ⟨(some 7), none, .mv (.s 30)⟩]
   (.done)))
  (.exit 0))

def ir_palanquinref6_Writer_Add : Fn' := ⟨46, [.tmp 6],
  .ops [⟨(some 6), none, .mv (.c (V.int .i64 0))⟩]
  (.ops [⟨(some 8), none, .mv (.s 2)⟩,
    ⟨(some 9), none, .bin .lss (.s 8) (.c (V.int .i64 0))⟩,
    ⟨(some 10), none, .mv (.s 9)⟩,
    ⟨(some 11), (some (10, false)), .mv (.s 2)⟩,
    ⟨(some 12), (some (10, false)), .bin .gtr (.s 11) (.c (V.int .i64 64))⟩,
    ⟨(some 13), none, .pick (.s 10) (.c (V.bool true)) (.s 12)⟩,
    ⟨(some 14), none, .mv (.s 13)⟩,
    ⟨(some 15), (some (14, false)), .mv (.s 2)⟩,
    ⟨(some 16), (some (14, false)), .bin .lss (.s 15) (.c (V.int .i64 64))⟩,
    ⟨(some 17), (some (14, false)), .mv (.s 16)⟩,
    ⟨(some 18), (some (17, true)), .mv (.s 1)⟩,
    ⟨(some 19), (some (17, true)), .mv (.s 2)⟩,
    ⟨(some 20), (some (17, true)), .cint .u64 (.s 19)⟩,
    ⟨(some 21), (some (17, true)), .bin .shr (.s 18) (.s 20)⟩,
    ⟨(some 22), (some (17, true)), .bin .neq (.s 21) (.c (V.int .u64 0))⟩,
    ⟨(some 23), (some (14, false)), .pick (.s 17) (.s 22) (.c (V.bool false))⟩,
    ⟨(some 24), none, .pick (.s 14) (.c (V.bool true)) (.s 23)⟩]
  (.cond (.s 24)
  (.ops [⟨(some 6), none, .mv (.c (V.int .i64 1))⟩]
   (.ret))
  (.ops [⟨(some 25), none, .mv (.s 2)⟩,
     ⟨(some 26), none, .bin .sub (.s 25) (.c (V.int .i64 1))⟩,
     ⟨(some 7), none, .mv (.s 26)⟩]
   (.blk 0
   (.loop loop_palanquinref6_Writer_Add_0 [7] [27, 28, 31, 32, 33, 34, 35, 36, 37, 38, 39, 40, 41, 42, 43, 44, 45, 29, 30, 7]) [] [27, 28, 31, 32, 33, 34, 35, 36, 37, 38, 39, 40, 41, 42, 43, 44, 45, 29, 30, 7]
   (.ops [⟨(some 6), none, .mv (.c (V.int .i64 0))⟩]
   (.ret))))))⟩

noncomputable def f_palanquinref6_Writer_Add_0 (G : Sem') (t0 t1 t6 : V) (L : List V) : M Res :=
  (M.lift (Ax.bin .geq (L.getD 0 .undef) (V.int .i64 0))).bind fun t28 =>
  M.ite t28
    (M.blk 1 (
      (M.lift (Ax.nilck t0)).bind fun t33 =>
      (M.lift (Ax.faddr 0 t33)).bind fun t34 =>
      (mload none t34).bind fun t35 =>
      (M.lift (Ax.cint .u64 (L.getD 0 .undef))).bind fun t38 =>
      (M.lift (Ax.bin .shr t1 t38)).bind fun t39 =>
      (M.lift (Ax.bin .and t39 (V.int .u64 1))).bind fun t40 =>
      (M.lift (Ax.bin .eql t40 (V.int .u64 1))).bind fun t41 =>
      (mslit ty_bool 1 [(V.bool false)] [(0, 1, t41)]).bind fun t42 =>
      (mappend ty_bool 1 1 t35 t42).bind fun t43 =>
      (M.lift (Ax.nilck t0)).bind fun t44 =>
      (M.lift (Ax.faddr 0 t44)).bind fun t45 =>
      (mstore 1 t45 t43).bind fun _ =>
      M.pure (.nrm [])) fun _ =>
    (M.lift (Ax.bin .sub (L.getD 0 .undef) (V.int .i64 1))).bind fun t30 =>
    M.pure (.nrm [t30]))
    (M.pure (.ex 0 []))

noncomputable def f_palanquinref6_Writer_Add (G : Sem') (t0 t1 t2 : V) : M Res :=
  (M.lift (Ax.bin .lss t2 (V.int .i64 0))).bind fun t9 =>
  (guarded [(0, t9)] (some (0, false)) (M.pure t2)).bind fun t11 =>
  (guarded [(0, t9)] (some (0, false)) (M.lift (Ax.bin .gtr t11 (V.int .i64 64)))).bind fun t12 =>
  (M.lift (Ax.pick t9 (V.bool true) t12)).bind fun t13 =>
  (guarded [(0, t13)] (some (0, false)) (M.pure t2)).bind fun t15 =>
  (guarded [(0, t13)] (some (0, false)) (M.lift (Ax.bin .lss t15 (V.int .i64 64)))).bind fun t16 =>
  (guarded [(0, t13)] (some (0, false)) (M.pure t16)).bind fun t17 =>
  (guarded [(0, t17)] (some (0, true)) (M.pure t1)).bind fun t18 =>
  (guarded [(0, t17)] (some (0, true)) (M.pure t2)).bind fun t19 =>
  (guarded [(0, t17)] (some (0, true)) (M.lift (Ax.cint .u64 t19))).bind fun t20 =>
  (guarded [(0, t17)] (some (0, true)) (M.lift (Ax.bin .shr t18 t20))).bind fun t21 =>
  (guarded [(0, t17)] (some (0, true)) (M.lift (Ax.bin .neq t21 (V.int .u64 0)))).bind fun t22 =>
  (guarded [(0, t13)] (some (0, false)) (M.lift (Ax.pick t17 t22 (V.bool false)))).bind fun t23 =>
  (M.lift (Ax.pick t13 (V.bool true) t23)).bind fun t24 =>
  M.ite t24
    (M.pure (.ret [(V.int .i64 1)]))
    ((M.lift (Ax.bin .sub t2 (V.int .i64 1))).bind fun t26 =>
    M.blk 0 (
      M.iter (f_palanquinref6_Writer_Add_0 G t0 t1 (V.int .i64 0)) [t26]) fun _ =>
    M.pure (.ret [(V.int .i64 0)]))

theorem eq_palanquinref6_Writer_Add (G : Sem') (t0 t1 t2 : V) : execK G ir_palanquinref6_Writer_Add.rv ir_palanquinref6_Writer_Add.body [] [] (params 0 [t0, t1, t2]) = f_palanquinref6_Writer_Add G t0 t1 t2 := by kernel_rfl

theorem tb_palanquinref6_Writer_Add : T fn_palanquinref6_Writer_Add = some ir_palanquinref6_Writer_Add := by kernel_rfl

theorem ok_palanquinref6_Writer_Add {t0 t1 t2 : V} {H : Heap} {Q : V → Heap → Prop} (h : Ok (f_palanquinref6_Writer_Add (sem T) t0 t1 t2) H fun r H' => ∃ L, r = .ret L ∧ Q (tupled L) H') : Ok (sem T fn_palanquinref6_Writer_Add [t0, t1, t2]) H Q :=
  ok_sem tb_palanquinref6_Writer_Add (Nat.le_of_ble_eq_true rfl) (eq_palanquinref6_Writer_Add (sem T) t0 t1 t2) h

/-- (*palanquin/palanquinref6.Writer).Bytes. -/
def loop_palanquinref6_Writer_Bytes_0 : C :=
  .ops [⟨(some 13), none, .mv (.s 4)⟩,
    ⟨(some 14), none, .mv (.s 0)⟩,
    ⟨(some 15), none, .nilck (.s 14)⟩,
    ⟨(some 16), none, .faddr 0 (.s 15)⟩,
    ⟨(some 17), none, .load none (.s 16)⟩,
    ⟨(some 18), none, .len (.s 17)⟩,
    ⟨(some 19), none, .bin .lss (.s 13) (.s 18)⟩]
  (.cond (.s 19)
  (.blk 1
   (.ops [⟨(some 22), none, .mv (.s 0)⟩,
      ⟨(some 23), none, .nilck (.s 22)⟩,
      ⟨(some 24), none, .faddr 0 (.s 23)⟩,
      ⟨(some 25), none, .load none (.s 24)⟩,
      ⟨(some 26), none, .mv (.s 4)⟩,
      ⟨(some 27), none, .iaddr none 1 (.s 25) (.s 26)⟩,
      ⟨(some 28), none, .load none (.s 27)⟩]
    (.condJ (.s 28)
    (.ops [⟨(some 29), none, .mv (.s 3)⟩,
       ⟨(some 30), none, .mv (.s 4)⟩,
       ⟨(some 31), none, .bin .quo (.s 30) (.c (V.int .i64 8))⟩,
       ⟨(some 32), none, .mv (.s 3)⟩,
       ⟨(some 33), none, .mv (.s 4)⟩,
       ⟨(some 34), none, .bin .quo (.s 33) (.c (V.int .i64 8))⟩,
       ⟨(some 35), none, .iaddr none 1 (.s 32) (.s 34)⟩,
       ⟨(some 36), none, .load none (.s 35)⟩,
       ⟨(some 37), none, .mv (.s 4)⟩,
       ⟨(some 38), none, .bin .rem (.s 37) (.c (V.int .i64 8))⟩,
       ⟨(some 39), none, .cint .u64 (.s 38)⟩,
       ⟨(some 40), none, .bin .shr (.c (V.int .u8 128)) (.s 39)⟩,
       ⟨(some 41), none, .bin .or (.s 36) (.s 40)⟩,
       ⟨(some 42), none, .iaddr none 1 (.s 29) (.s 31)⟩,
       ⟨none, none, .store 1 (.s 42) (.s 41)⟩]
     (.done))
    (.done) [] [29, 30, 31, 32, 33, 34, 35, 36, 37, 38, 39, 40, 41, 42]
    (.done))) [] [22, 23, 24, 25, 26, 27, 28, 29, 30, 31, 32, 33, 34, 35, 36, 37, 38, 39, 40, 41, 42]
   (.ops [⟨(some 20), none, .mv (.s 4)⟩,
     ⟨(some 21), none, .bin .add (.s 20) (.c (V.int .i64 1))⟩,
     ⟨(some 4), none, .mv (.s 21)⟩]
   (.done)))
  (.exit 0))

def ir_palanquinref6_Writer_Bytes : Fn' := ⟨44, [.tmp 2],
  .ops [⟨(some 2), none, .mv (.c V.nils)⟩]
  (.ops [⟨(some 5), none, .mv (.s 0)⟩,
    ⟨(some 6), none, .nilck (.s 5)⟩,
    ⟨(some 7), none, .faddr 0 (.s 6)⟩,
    ⟨(some 8), none, .load none (.s 7)⟩,
    ⟨(some 9), none, .len (.s 8)⟩,
    ⟨(some 10), none, .bin .add (.s 9) (.c (V.int .i64 7))⟩,
    ⟨(some 11), none, .bin .quo (.s 10) (.c (V.int .i64 8))⟩,
    ⟨(some 12), none, .mkslice ty_uint8 1 [(V.int .u8 0)] (.s 11) (.s 11)⟩,
    ⟨(some 3), none, .mv (.s 12)⟩]
  (.ops [⟨(some 4), none, .mv (.c (V.int .i64 0))⟩]
  (.blk 0
  (.loop loop_palanquinref6_Writer_Bytes_0 [4] [13, 14, 15, 16, 17, 18, 19, 22, 23, 24, 25, 26, 27, 28, 29, 30, 31, 32, 33, 34, 35, 36, 37, 38, 39, 40, 41, 42, 20, 21, 4]) [] [13, 14, 15, 16, 17, 18, 19, 22, 23, 24, 25, 26, 27, 28, 29, 30, 31, 32, 33, 34, 35, 36, 37, 38, 39, 40, 41, 42, 20, 21, 4]
  (.ops [⟨(some 43), none, .mv (.s 3)⟩,
    ⟨(some 2), none, .mv (.s 43)⟩]
  (.ret)))))⟩

noncomputable def f_palanquinref6_Writer_Bytes_0 (G : Sem') (t0 t3 t2 : V) (L : List V) : M Res :=
  (M.lift (Ax.nilck t0)).bind fun t15 =>
  (M.lift (Ax.faddr 0 t15)).bind fun t16 =>
  (mload none t16).bind fun t17 =>
  (M.lift (vlen t17)).bind fun t18 =>
  (M.lift (Ax.bin .lss (L.getD 0 .undef) t18)).bind fun t19 =>
  M.ite t19
    (M.blk 1 (
      (M.lift (Ax.nilck t0)).bind fun t23 =>
      (M.lift (Ax.faddr 0 t23)).bind fun t24 =>
      (mload none t24).bind fun t25 =>
      (M.lift (Ax.iaddr none 1 t25 (L.getD 0 .undef))).bind fun t27 =>
      (mload none t27).bind fun t28 =>
      M.join (M.ite t28
        ((M.lift (Ax.bin .quo (L.getD 0 .undef) (V.int .i64 8))).bind fun t31 =>
        (M.lift (Ax.bin .quo (L.getD 0 .undef) (V.int .i64 8))).bind fun t34 =>
        (M.lift (Ax.iaddr none 1 t3 t34)).bind fun t35 =>
        (mload none t35).bind fun t36 =>
        (M.lift (Ax.bin .rem (L.getD 0 .undef) (V.int .i64 8))).bind fun t38 =>
        (M.lift (Ax.cint .u64 t38)).bind fun t39 =>
        (M.lift (Ax.bin .shr (V.int .u8 128) t39)).bind fun t40 =>
        (M.lift (Ax.bin .or t36 t40)).bind fun t41 =>
        (M.lift (Ax.iaddr none 1 t3 t31)).bind fun t42 =>
        (mstore 1 t42 t41).bind fun _ =>
        M.pure (.nrm []))
        (M.pure (.nrm []))) fun _ =>
      M.pure (.nrm [])) fun _ =>
    (M.lift (Ax.bin .add (L.getD 0 .undef) (V.int .i64 1))).bind fun t21 =>
    M.pure (.nrm [t21]))
    (M.pure (.ex 0 []))

noncomputable def f_palanquinref6_Writer_Bytes (G : Sem') (t0 : V) : M Res :=
  (M.lift (Ax.nilck t0)).bind fun t6 =>
  (M.lift (Ax.faddr 0 t6)).bind fun t7 =>
  (mload none t7).bind fun t8 =>
  (M.lift (vlen t8)).bind fun t9 =>
  (M.lift (Ax.bin .add t9 (V.int .i64 7))).bind fun t10 =>
  (M.lift (Ax.bin .quo t10 (V.int .i64 8))).bind fun t11 =>
  (mmkslice ty_uint8 1 [(V.int .u8 0)] t11 t11).bind fun t12 =>
  M.blk 0 (
    M.iter (f_palanquinref6_Writer_Bytes_0 G t0 t12 V.nils) [(V.int .i64 0)]) fun _ =>
  M.pure (.ret [t12])

theorem eq_palanquinref6_Writer_Bytes (G : Sem') (t0 : V) : execK G ir_palanquinref6_Writer_Bytes.rv ir_palanquinref6_Writer_Bytes.body [] [] (params 0 [t0]) = f_palanquinref6_Writer_Bytes G t0 := by kernel_rfl

theorem tb_palanquinref6_Writer_Bytes : T fn_palanquinref6_Writer_Bytes = some ir_palanquinref6_Writer_Bytes := by kernel_rfl

theorem ok_palanquinref6_Writer_Bytes {t0 : V} {H : Heap} {Q : V → Heap → Prop} (h : Ok (f_palanquinref6_Writer_Bytes (sem T) t0) H fun r H' => ∃ L, r = .ret L ∧ Q (tupled L) H') : Ok (sem T fn_palanquinref6_Writer_Bytes [t0]) H Q :=
  ok_sem tb_palanquinref6_Writer_Bytes (Nat.le_of_ble_eq_true rfl) (eq_palanquinref6_Writer_Bytes (sem T) t0) h

/-- palanquin/palanquinref1.Same. -/
def ir_palanquinref1_Same : Fn' := ⟨10, [.tmp 4],
  .ops [⟨(some 4), none, .mv (.c (V.bool false))⟩]
  (.ops [⟨(some 5), none, .mv (.s 0)⟩,
    ⟨(some 6), none, .tostr (.s 5)⟩,
    ⟨(some 7), none, .mv (.s 1)⟩,
    ⟨(some 8), none, .tostr (.s 7)⟩,
    ⟨(some 9), none, .bin .eql (.s 6) (.s 8)⟩,
    ⟨(some 4), none, .mv (.s 9)⟩]
  (.ret))⟩

noncomputable def f_palanquinref1_Same (G : Sem') (t0 t1 : V) : M Res :=
  (mtostr t0).bind fun t6 =>
  (mtostr t1).bind fun t8 =>
  (M.lift (Ax.bin .eql t6 t8)).bind fun t9 =>
  M.pure (.ret [t9])

theorem eq_palanquinref1_Same (G : Sem') (t0 t1 : V) : execK G ir_palanquinref1_Same.rv ir_palanquinref1_Same.body [] [] (params 0 [t0, t1]) = f_palanquinref1_Same G t0 t1 := by kernel_rfl

theorem tb_palanquinref1_Same : T fn_palanquinref1_Same = some ir_palanquinref1_Same := by kernel_rfl

theorem ok_palanquinref1_Same {t0 t1 : V} {H : Heap} {Q : V → Heap → Prop} (h : Ok (f_palanquinref1_Same (sem T) t0 t1) H fun r H' => ∃ L, r = .ret L ∧ Q (tupled L) H') : Ok (sem T fn_palanquinref1_Same [t0, t1]) H Q :=
  ok_sem tb_palanquinref1_Same (Nat.le_of_ble_eq_true rfl) (eq_palanquinref1_Same (sem T) t0 t1) h

/-- palanquin/palanquinlaw6.BitsNS. -/
def ir_palanquinlaw6_BitsNS : Fn' := ⟨104, [.tmp 6],
  .ops [⟨(some 6), none, .mv (.c (V.bool false))⟩]
  (.ops [⟨(some 15), none, .mv (.s 0)⟩,
    ⟨(some 16), none, .cint .u64 (.s 15)⟩,
    ⟨(some 17), none, .bin .add (.s 16) (.c (V.int .u64 1))⟩,
    ⟨(some 7), none, .mv (.s 17)⟩]
  (.draw [⟨(some 18), none, .mv (.s 1)⟩,
    ⟨(some 19), none, .cint .u64 (.s 18)⟩,
    ⟨(some 20), none, .mv (.s 7)⟩,
    ⟨(some 21), none, .bin .rem (.s 19) (.s 20)⟩,
    ⟨(some 22), none, .mv (.s 2)⟩,
    ⟨(some 23), none, .cint .u64 (.s 22)⟩,
    ⟨(some 24), none, .mv (.s 7)⟩,
    ⟨(some 25), none, .bin .rem (.s 23) (.s 24)⟩,
    ⟨(some 8), none, .mv (.s 21)⟩,
    ⟨(some 9), none, .mv (.s 25)⟩] []
  (.ops [⟨(some 26), none, .call fn_bits_New []⟩,
    ⟨(some 27), none, .call fn_bits_New []⟩,
    ⟨(some 10), none, .mv (.s 26)⟩,
    ⟨(some 11), none, .mv (.s 27)⟩]
  (.ops [⟨(some 28), none, .call fn_palanquinlaw6_awake []⟩,
    ⟨(some 29), none, .un .not (.s 28)⟩,
    ⟨(some 30), none, .mv (.s 29)⟩,
    ⟨(some 31), (some (30, false)), .mv (.s 10)⟩,
    ⟨(some 32), (some (30, false)), .eq .ptr false (.s 31) (.c V.nilp)⟩,
    ⟨(some 33), none, .pick (.s 30) (.c (V.bool true)) (.s 32)⟩,
    ⟨(some 34), none, .mv (.s 33)⟩,
    ⟨(some 35), (some (34, false)), .mv (.s 11)⟩,
    ⟨(some 36), (some (34, false)), .eq .ptr false (.s 35) (.c V.nilp)⟩,
    ⟨(some 37), none, .pick (.s 34) (.c (V.bool true)) (.s 36)⟩,
    ⟨(some 38), none, .mv (.s 37)⟩,
    ⟨(some 39), (some (38, false)), .mv (.s 10)⟩,
    ⟨(some 40), (some (38, false)), .mv (.s 8)⟩,
    ⟨(some 41), (some (38, false)), .mv (.s 7)⟩,
    ⟨(some 42), (some (38, false)), .call fn_bits_Writer_AddNS [(.s 39), (.s 40), (.s 41)]⟩,
    ⟨(some 43), (some (38, false)), .bin .neq (.s 42) (.c (V.int .i64 0))⟩,
    ⟨(some 44), none, .pick (.s 38) (.c (V.bool true)) (.s 43)⟩,
    ⟨(some 45), none, .mv (.s 44)⟩,
    ⟨(some 46), (some (45, false)), .mv (.s 11)⟩,
    ⟨(some 47), (some (45, false)), .mv (.s 9)⟩,
    ⟨(some 48), (some (45, false)), .mv (.s 7)⟩,
    ⟨(some 49), (some (45, false)), .call fn_bits_Writer_AddNS [(.s 46), (.s 47), (.s 48)]⟩,
    ⟨(some 50), (some (45, false)), .bin .neq (.s 49) (.c (V.int .i64 0))⟩,
    ⟨(some 51), none, .pick (.s 45) (.c (V.bool true)) (.s 50)⟩]
  (.cond (.s 51)
  (.ops [⟨(some 6), none, .mv (.c (V.bool false))⟩]
   (.ret))
  (.ops [⟨(some 52), none, .mv (.s 10)⟩,
     ⟨(some 53), none, .call fn_bits_Writer_Bytes [(.s 52)]⟩,
     ⟨(some 54), none, .mv (.s 11)⟩,
     ⟨(some 55), none, .call fn_bits_Writer_Bytes [(.s 54)]⟩,
     ⟨(some 12), none, .mv (.s 53)⟩,
     ⟨(some 13), none, .mv (.s 55)⟩]
   (.ops [⟨(some 56), none, .mv (.s 10)⟩,
     ⟨(some 57), none, .call fn_bits_Writer_Len [(.s 56)]⟩,
     ⟨(some 58), none, .mv (.s 11)⟩,
     ⟨(some 59), none, .call fn_bits_Writer_Len [(.s 58)]⟩,
     ⟨(some 60), none, .bin .eql (.s 57) (.s 59)⟩,
     ⟨(some 61), none, .mv (.s 60)⟩,
     ⟨(some 62), (some (61, true)), .mv (.s 12)⟩,
     ⟨(some 63), (some (61, true)), .mv (.s 13)⟩,
     ⟨(some 64), (some (61, true)), .call fn_palanquinref1_Same [(.s 62), (.s 63)]⟩,
     ⟨(some 65), none, .pick (.s 61) (.s 64) (.c (V.bool false))⟩,
     ⟨(some 14), none, .mv (.s 65)⟩]
   (.ops [⟨(some 66), none, .mv (.s 14)⟩,
     ⟨(some 67), none, .mv (.s 8)⟩,
     ⟨(some 68), none, .mv (.s 9)⟩,
     ⟨(some 69), none, .bin .eql (.s 67) (.s 68)⟩,
     ⟨(some 70), none, .eq .bool false (.s 66) (.s 69)⟩,
     ⟨(some 71), none, .mv (.s 70)⟩,
     ⟨(some 72), (some (71, true)), .mv (.s 8)⟩,
     ⟨(some 73), (some (71, true)), .mv (.s 9)⟩,
     ⟨(some 74), (some (71, true)), .bin .gtr (.s 72) (.s 73)⟩,
     ⟨(some 75), (some (71, true)), .mv (.s 74)⟩,
     ⟨(some 76), (some (75, false)), .mv (.s 10)⟩,
     ⟨(some 77), (some (75, false)), .call fn_bits_Writer_Len [(.s 76)]⟩,
     ⟨(some 78), (some (75, false)), .mv (.s 11)⟩,
     ⟨(some 79), (some (75, false)), .call fn_bits_Writer_Len [(.s 78)]⟩,
     ⟨(some 80), (some (75, false)), .bin .leq (.s 77) (.s 79)⟩,
     ⟨(some 81), (some (71, true)), .pick (.s 75) (.c (V.bool true)) (.s 80)⟩,
     ⟨(some 82), none, .pick (.s 71) (.s 81) (.c (V.bool false))⟩,
     ⟨(some 83), none, .mv (.s 82)⟩,
     ⟨(some 84), (some (83, true)), .mv (.s 11)⟩,
     ⟨(some 85), (some (83, true)), .call fn_bits_Writer_Len [(.s 84)]⟩,
     ⟨(some 86), (some (83, true)), .mv (.s 10)⟩,
     ⟨(some 87), (some (83, true)), .call fn_bits_Writer_Len [(.s 86)]⟩,
     ⟨(some 88), (some (83, true)), .bin .sub (.s 85) (.s 87)⟩,
     ⟨(some 89), (some (83, true)), .bin .leq (.s 88) (.c (V.int .i64 1))⟩,
     ⟨(some 90), none, .pick (.s 83) (.s 89) (.c (V.bool false))⟩,
     ⟨(some 91), none, .mv (.s 90)⟩,
     ⟨(some 92), (some (91, true)), .mv (.s 10)⟩,
     ⟨(some 93), (some (91, true)), .call fn_bits_Writer_Len [(.s 92)]⟩,
     ⟨(some 94), (some (91, true)), .mv (.s 11)⟩,
     ⟨(some 95), (some (91, true)), .call fn_bits_Writer_Len [(.s 94)]⟩,
     ⟨(some 96), (some (91, true)), .bin .sub (.s 93) (.s 95)⟩,
     ⟨(some 97), (some (91, true)), .bin .leq (.s 96) (.c (V.int .i64 1))⟩,
     ⟨(some 98), none, .pick (.s 91) (.s 97) (.c (V.bool false))⟩,
     ⟨(some 99), none, .mv (.s 98)⟩,
     ⟨(some 100), (some (99, true)), .mv (.s 10)⟩,
     ⟨(some 101), (some (99, true)), .call fn_bits_Writer_Len [(.s 100)]⟩,
     ⟨(some 102), (some (99, true)), .bin .leq (.s 101) (.c (V.int .i64 17))⟩,
     ⟨(some 103), none, .pick (.s 99) (.s 102) (.c (V.bool false))⟩,
     ⟨(some 6), none, .mv (.s 103)⟩]
   (.ret)))))))))⟩

noncomputable def f_palanquinlaw6_BitsNS (G : Sem') (t0 t1 t2 : V) : M Res :=
  (M.lift (Ax.cint .u64 t0)).bind fun t16 =>
  (M.lift (Ax.bin .add t16 (V.int .u64 1))).bind fun t17 =>
  (M.lift (Ax.cint .u64 t1)).bind fun t19 =>
  (M.lift (Ax.bin .rem t19 t17)).bind fun t21 =>
  (M.lift (Ax.cint .u64 t2)).bind fun t23 =>
  (M.lift (Ax.bin .rem t23 t17)).bind fun t25 =>
  (G fn_bits_New []).bind fun t26 =>
  (G fn_bits_New []).bind fun t27 =>
  (G fn_palanquinlaw6_awake []).bind fun t28 =>
  (M.lift (Ax.un .not t28)).bind fun t29 =>
  (guarded [(0, t29)] (some (0, false)) (M.pure t26)).bind fun t31 =>
  (guarded [(0, t29)] (some (0, false)) (M.lift (eqr .ptr false t31 V.nilp))).bind fun t32 =>
  (M.lift (Ax.pick t29 (V.bool true) t32)).bind fun t33 =>
  (guarded [(0, t33)] (some (0, false)) (M.pure t27)).bind fun t35 =>
  (guarded [(0, t33)] (some (0, false)) (M.lift (eqr .ptr false t35 V.nilp))).bind fun t36 =>
  (M.lift (Ax.pick t33 (V.bool true) t36)).bind fun t37 =>
  (guarded [(0, t37)] (some (0, false)) (M.pure t26)).bind fun t39 =>
  (guarded [(0, t37)] (some (0, false)) (M.pure t21)).bind fun t40 =>
  (guarded [(0, t37)] (some (0, false)) (M.pure t17)).bind fun t41 =>
  (guarded [(0, t37)] (some (0, false)) (G fn_bits_Writer_AddNS [t39, t40, t41])).bind fun t42 =>
  (guarded [(0, t37)] (some (0, false)) (M.lift (Ax.bin .neq t42 (V.int .i64 0)))).bind fun t43 =>
  (M.lift (Ax.pick t37 (V.bool true) t43)).bind fun t44 =>
  (guarded [(0, t44)] (some (0, false)) (M.pure t27)).bind fun t46 =>
  (guarded [(0, t44)] (some (0, false)) (M.pure t25)).bind fun t47 =>
  (guarded [(0, t44)] (some (0, false)) (M.pure t17)).bind fun t48 =>
  (guarded [(0, t44)] (some (0, false)) (G fn_bits_Writer_AddNS [t46, t47, t48])).bind fun t49 =>
  (guarded [(0, t44)] (some (0, false)) (M.lift (Ax.bin .neq t49 (V.int .i64 0)))).bind fun t50 =>
  (M.lift (Ax.pick t44 (V.bool true) t50)).bind fun t51 =>
  M.ite t51
    (M.pure (.ret [(V.bool false)]))
    ((G fn_bits_Writer_Bytes [t26]).bind fun t53 =>
    (G fn_bits_Writer_Bytes [t27]).bind fun t55 =>
    (G fn_bits_Writer_Len [t26]).bind fun t57 =>
    (G fn_bits_Writer_Len [t27]).bind fun t59 =>
    (M.lift (Ax.bin .eql t57 t59)).bind fun t60 =>
    (guarded [(0, t60)] (some (0, true)) (M.pure t53)).bind fun t62 =>
    (guarded [(0, t60)] (some (0, true)) (M.pure t55)).bind fun t63 =>
    (guarded [(0, t60)] (some (0, true)) (G fn_palanquinref1_Same [t62, t63])).bind fun t64 =>
    (M.lift (Ax.pick t60 t64 (V.bool false))).bind fun t65 =>
    (M.lift (Ax.bin .eql t21 t25)).bind fun t69 =>
    (M.lift (eqr .bool false t65 t69)).bind fun t70 =>
    (guarded [(0, t70)] (some (0, true)) (M.pure t21)).bind fun t72 =>
    (guarded [(0, t70)] (some (0, true)) (M.pure t25)).bind fun t73 =>
    (guarded [(0, t70)] (some (0, true)) (M.lift (Ax.bin .gtr t72 t73))).bind fun t74 =>
    (guarded [(0, t70)] (some (0, true)) (M.pure t74)).bind fun t75 =>
    (guarded [(0, t75)] (some (0, false)) (M.pure t26)).bind fun t76 =>
    (guarded [(0, t75)] (some (0, false)) (G fn_bits_Writer_Len [t76])).bind fun t77 =>
    (guarded [(0, t75)] (some (0, false)) (M.pure t27)).bind fun t78 =>
    (guarded [(0, t75)] (some (0, false)) (G fn_bits_Writer_Len [t78])).bind fun t79 =>
    (guarded [(0, t75)] (some (0, false)) (M.lift (Ax.bin .leq t77 t79))).bind fun t80 =>
    (guarded [(0, t70)] (some (0, true)) (M.lift (Ax.pick t75 (V.bool true) t80))).bind fun t81 =>
    (M.lift (Ax.pick t70 t81 (V.bool false))).bind fun t82 =>
    (guarded [(0, t82)] (some (0, true)) (M.pure t27)).bind fun t84 =>
    (guarded [(0, t82)] (some (0, true)) (G fn_bits_Writer_Len [t84])).bind fun t85 =>
    (guarded [(0, t82)] (some (0, true)) (M.pure t26)).bind fun t86 =>
    (guarded [(0, t82)] (some (0, true)) (G fn_bits_Writer_Len [t86])).bind fun t87 =>
    (guarded [(0, t82)] (some (0, true)) (M.lift (Ax.bin .sub t85 t87))).bind fun t88 =>
    (guarded [(0, t82)] (some (0, true)) (M.lift (Ax.bin .leq t88 (V.int .i64 1)))).bind fun t89 =>
    (M.lift (Ax.pick t82 t89 (V.bool false))).bind fun t90 =>
    (guarded [(0, t90)] (some (0, true)) (M.pure t26)).bind fun t92 =>
    (guarded [(0, t90)] (some (0, true)) (G fn_bits_Writer_Len [t92])).bind fun t93 =>
    (guarded [(0, t90)] (some (0, true)) (M.pure t27)).bind fun t94 =>
    (guarded [(0, t90)] (some (0, true)) (G fn_bits_Writer_Len [t94])).bind fun t95 =>
    (guarded [(0, t90)] (some (0, true)) (M.lift (Ax.bin .sub t93 t95))).bind fun t96 =>
    (guarded [(0, t90)] (some (0, true)) (M.lift (Ax.bin .leq t96 (V.int .i64 1)))).bind fun t97 =>
    (M.lift (Ax.pick t90 t97 (V.bool false))).bind fun t98 =>
    (guarded [(0, t98)] (some (0, true)) (M.pure t26)).bind fun t100 =>
    (guarded [(0, t98)] (some (0, true)) (G fn_bits_Writer_Len [t100])).bind fun t101 =>
    (guarded [(0, t98)] (some (0, true)) (M.lift (Ax.bin .leq t101 (V.int .i64 17)))).bind fun t102 =>
    (M.lift (Ax.pick t98 t102 (V.bool false))).bind fun t103 =>
    M.pure (.ret [t103]))

theorem eq_palanquinlaw6_BitsNS (G : Sem') (t0 t1 t2 : V) : execK G ir_palanquinlaw6_BitsNS.rv ir_palanquinlaw6_BitsNS.body [] [] (params 0 [t0, t1, t2]) = f_palanquinlaw6_BitsNS G t0 t1 t2 := by kernel_rfl

theorem tb_palanquinlaw6_BitsNS : T fn_palanquinlaw6_BitsNS = some ir_palanquinlaw6_BitsNS := by kernel_rfl

theorem ok_palanquinlaw6_BitsNS {t0 t1 t2 : V} {H : Heap} {Q : V → Heap → Prop} (h : Ok (f_palanquinlaw6_BitsNS (sem T) t0 t1 t2) H fun r H' => ∃ L, r = .ret L ∧ Q (tupled L) H') : Ok (sem T fn_palanquinlaw6_BitsNS [t0, t1, t2]) H Q :=
  ok_sem tb_palanquinlaw6_BitsNS (Nat.le_of_ble_eq_true rfl) (eq_palanquinlaw6_BitsNS (sem T) t0 t1 t2) h

/-- palanquin/palanquinlaw6.BitsTakes. -/
def loop_palanquinlaw6_BitsTakes_0 : C :=
  .ops [⟨(some 23), none, .mv (.s 7)⟩,
    ⟨(some 24), none, .mv (.s 1)⟩,
    ⟨(some 25), none, .len (.s 24)⟩,
    ⟨(some 26), none, .bin .lss (.s 23) (.s 25)⟩,
    ⟨(some 27), none, .mv (.s 26)⟩,
    ⟨(some 28), (some (27, true)), .mv (.s 7)⟩,
    ⟨(some 29), (some (27, true)), .bin .lss (.s 28) (.c (V.int .i64 100))⟩,
    ⟨(some 30), none, .pick (.s 27) (.s 29) (.c (V.bool false))⟩]
  (.cond (.s 30)
  (.blk 1
   (.ops [⟨(some 8), none, .mv (.c (V.int .u64 0))⟩,
      ⟨(some 9), none, .mv (.c (V.int .u64 0))⟩,
      ⟨(some 10), none, .mv (.c (V.int .i64 0))⟩,
      ⟨(some 11), none, .mv (.c (V.int .i64 0))⟩]
    (.ops [⟨(some 33), none, .mv (.s 1)⟩,
      ⟨(some 34), none, .mv (.s 7)⟩,
      ⟨(some 35), none, .iaddr none 4 (.s 33) (.s 34)⟩,
      ⟨(some 36), none, .faddr 3 (.s 35)⟩,
      ⟨(some 37), none, .load none (.s 36)⟩]
    (.condJ (.s 37)
    (.ops [⟨(some 39), none, .mv (.s 5)⟩,
       ⟨(some 40), none, .mv (.s 1)⟩,
       ⟨(some 41), none, .mv (.s 7)⟩,
       ⟨(some 42), none, .iaddr none 4 (.s 40) (.s 41)⟩,
       ⟨(some 43), none, .faddr 1 (.s 42)⟩,
       ⟨(some 44), none, .load none (.s 43)⟩,
       ⟨(some 45), none, .call fn_bits_Reader_TakeNS [(.s 39), (.s 44)]⟩,
       ⟨(some 38), none, .mv (.s 45)⟩,
       ⟨(some 46), none, .ext 0 (.s 38)⟩,
       ⟨(some 47), none, .ext 1 (.s 38)⟩,
       ⟨(some 8), none, .mv (.s 46)⟩,
       ⟨(some 10), none, .mv (.s 47)⟩]
     (.ops [⟨(some 49), none, .mv (.s 6)⟩,
       ⟨(some 50), none, .mv (.s 1)⟩,
       ⟨(some 51), none, .mv (.s 7)⟩,
       ⟨(some 52), none, .iaddr none 4 (.s 50) (.s 51)⟩,
       ⟨(some 53), none, .faddr 1 (.s 52)⟩,
       ⟨(some 54), none, .load none (.s 53)⟩,
       ⟨(some 55), none, .call fn_palanquinref6_Reader_TakeNS [(.s 49), (.s 54)]⟩,
       ⟨(some 48), none, .mv (.s 55)⟩,
       ⟨(some 56), none, .ext 0 (.s 48)⟩,
       ⟨(some 57), none, .ext 1 (.s 48)⟩,
       ⟨(some 9), none, .mv (.s 56)⟩,
       ⟨(some 11), none, .mv (.s 57)⟩]
     (.done)))
    (.ops [⟨(some 59), none, .mv (.s 5)⟩,
       ⟨(some 60), none, .mv (.s 1)⟩,
       ⟨(some 61), none, .mv (.s 7)⟩,
       ⟨(some 62), none, .iaddr none 4 (.s 60) (.s 61)⟩,
       ⟨(some 63), none, .faddr 2 (.s 62)⟩,
       ⟨(some 64), none, .load none (.s 63)⟩,
       ⟨(some 65), none, .call fn_bits_Reader_Take [(.s 59), (.s 64)]⟩,
       ⟨(some 58), none, .mv (.s 65)⟩,
       ⟨(some 66), none, .ext 0 (.s 58)⟩,
       ⟨(some 67), none, .ext 1 (.s 58)⟩,
       ⟨(some 8), none, .mv (.s 66)⟩,
       ⟨(some 10), none, .mv (.s 67)⟩]
     (.ops [⟨(some 69), none, .mv (.s 6)⟩,
       ⟨(some 70), none, .mv (.s 1)⟩,
       ⟨(some 71), none, .mv (.s 7)⟩,
       ⟨(some 72), none, .iaddr none 4 (.s 70) (.s 71)⟩,
       ⟨(some 73), none, .faddr 2 (.s 72)⟩,
       ⟨(some 74), none, .load none (.s 73)⟩,
       ⟨(some 75), none, .call fn_palanquinref6_Reader_Take [(.s 69), (.s 74)]⟩,
       ⟨(some 68), none, .mv (.s 75)⟩,
       ⟨(some 76), none, .ext 0 (.s 68)⟩,
       ⟨(some 77), none, .ext 1 (.s 68)⟩,
       ⟨(some 9), none, .mv (.s 76)⟩,
       ⟨(some 11), none, .mv (.s 77)⟩]
     (.done))) [8, 9, 10, 11] [39, 40, 41, 42, 43, 44, 45, 38, 46, 47, 8, 10, 49, 50, 51, 52, 53, 54, 55, 48, 56, 57, 9, 11, 59, 60, 61, 62, 63, 64, 65, 58, 66, 67, 8, 10, 69, 70, 71, 72, 73, 74, 75, 68, 76, 77, 9, 11]
    (.ops [⟨(some 78), none, .mv (.s 8)⟩,
      ⟨(some 79), none, .mv (.s 9)⟩,
      ⟨(some 80), none, .bin .neq (.s 78) (.s 79)⟩,
      ⟨(some 81), none, .mv (.s 80)⟩,
      ⟨(some 82), (some (81, false)), .mv (.s 10)⟩,
      ⟨(some 83), (some (81, false)), .mv (.s 11)⟩,
      ⟨(some 84), (some (81, false)), .bin .neq (.s 82) (.s 83)⟩,
      ⟨(some 85), none, .pick (.s 81) (.c (V.bool true)) (.s 84)⟩,
      ⟨(some 86), none, .mv (.s 85)⟩,
      ⟨(some 87), (some (86, false)), .mv (.s 5)⟩,
      ⟨(some 88), (some (86, false)), .call fn_bits_Reader_Left [(.s 87)]⟩,
      ⟨(some 89), (some (86, false)), .mv (.s 6)⟩,
      ⟨(some 90), (some (86, false)), .call fn_palanquinref6_Reader_Left [(.s 89)]⟩,
      ⟨(some 91), (some (86, false)), .bin .neq (.s 88) (.s 90)⟩,
      ⟨(some 92), none, .pick (.s 86) (.c (V.bool true)) (.s 91)⟩]
    (.cond (.s 92)
    (.ops [⟨(some 4), none, .mv (.c (V.bool false))⟩]
     (.ret))
    (.done)))))) [] [8, 9, 10, 11, 33, 34, 35, 36, 37, 39, 40, 41, 42, 43, 44, 45, 38, 46, 47, 8, 10, 49, 50, 51, 52, 53, 54, 55, 48, 56, 57, 9, 11, 59, 60, 61, 62, 63, 64, 65, 58, 66, 67, 8, 10, 69, 70, 71, 72, 73, 74, 75, 68, 76, 77, 9, 11, 78, 79, 80, 81, 82, 83, 84, 85, 86, 87, 88, 89, 90, 91, 92, 4]
   (.ops [⟨(some 31), none, .mv (.s 7)⟩,
     ⟨(some 32), none, .bin .add (.s 31) (.c (V.int .i64 1))⟩,
     ⟨(some 7), none, .mv (.s 32)⟩]
   (.done)))
  (.exit 0))

def ir_palanquinlaw6_BitsTakes : Fn' := ⟨93, [.tmp 4],
  .ops [⟨(some 4), none, .mv (.c (V.bool false))⟩]
  (.ops [⟨(some 12), none, .mv (.s 0)⟩,
    ⟨(some 13), none, .call fn_bits_Over [(.s 12)]⟩,
    ⟨(some 14), none, .mv (.s 0)⟩,
    ⟨(some 15), none, .build [V.nils, (V.int .i64 0)] [(0, 1, (.s 14))]⟩,
    ⟨(some 16), none, .box ty_palanquinref6_Reader (.s 15)⟩,
    ⟨(some 5), none, .mv (.s 13)⟩,
    ⟨(some 6), none, .mv (.s 16)⟩]
  (.ops [⟨(some 17), none, .call fn_palanquinlaw6_awake []⟩,
    ⟨(some 18), none, .un .not (.s 17)⟩,
    ⟨(some 19), none, .mv (.s 18)⟩,
    ⟨(some 20), (some (19, false)), .mv (.s 5)⟩,
    ⟨(some 21), (some (19, false)), .eq .ptr false (.s 20) (.c V.nilp)⟩,
    ⟨(some 22), none, .pick (.s 19) (.c (V.bool true)) (.s 21)⟩]
  (.cond (.s 22)
  (.ops [⟨(some 4), none, .mv (.c (V.bool false))⟩]
   (.ret))
  (.ops [⟨(some 7), none, .mv (.c (V.int .i64 0))⟩]
   (.blk 0
   (.loop loop_palanquinlaw6_BitsTakes_0 [7] [23, 24, 25, 26, 27, 28, 29, 30, 8, 9, 10, 11, 33, 34, 35, 36, 37, 39, 40, 41, 42, 43, 44, 45, 38, 46, 47, 8, 10, 49, 50, 51, 52, 53, 54, 55, 48, 56, 57, 9, 11, 59, 60, 61, 62, 63, 64, 65, 58, 66, 67, 8, 10, 69, 70, 71, 72, 73, 74, 75, 68, 76, 77, 9, 11, 78, 79, 80, 81, 82, 83, 84, 85, 86, 87, 88, 89, 90, 91, 92, 4, 31, 32, 7]) [] [23, 24, 25, 26, 27, 28, 29, 30, 8, 9, 10, 11, 33, 34, 35, 36, 37, 39, 40, 41, 42, 43, 44, 45, 38, 46, 47, 8, 10, 49, 50, 51, 52, 53, 54, 55, 48, 56, 57, 9, 11, 59, 60, 61, 62, 63, 64, 65, 58, 66, 67, 8, 10, 69, 70, 71, 72, 73, 74, 75, 68, 76, 77, 9, 11, 78, 79, 80, 81, 82, 83, 84, 85, 86, 87, 88, 89, 90, 91, 92, 4, 31, 32, 7]
   (.ops [⟨(some 4), none, .mv (.c (V.bool true))⟩]
   (.ret)))))))⟩

noncomputable def f_palanquinlaw6_BitsTakes_0 (G : Sem') (t1 t5 t6 : V) (L : List V) : M Res :=
  (M.lift (vlen t1)).bind fun t25 =>
  (M.lift (Ax.bin .lss (L.getD 0 .undef) t25)).bind fun t26 =>
  (guarded [(0, t26)] (some (0, true)) (M.pure (L.getD 0 .undef))).bind fun t28 =>
  (guarded [(0, t26)] (some (0, true)) (M.lift (Ax.bin .lss t28 (V.int .i64 100)))).bind fun t29 =>
  (M.lift (Ax.pick t26 t29 (V.bool false))).bind fun t30 =>
  M.ite t30
    (M.blk 1 (
      (M.lift (Ax.iaddr none 4 t1 (L.getD 0 .undef))).bind fun t35 =>
      (M.lift (Ax.faddr 3 t35)).bind fun t36 =>
      (mload none t36).bind fun t37 =>
      M.join (M.ite t37
        ((M.lift (Ax.iaddr none 4 t1 (L.getD 0 .undef))).bind fun t42 =>
        (M.lift (Ax.faddr 1 t42)).bind fun t43 =>
        (mload none t43).bind fun t44 =>
        (G fn_bits_Reader_TakeNS [t5, t44]).bind fun t45 =>
        (M.lift (Ax.ext 0 t45)).bind fun t46 =>
        (M.lift (Ax.ext 1 t45)).bind fun t47 =>
        (M.lift (Ax.iaddr none 4 t1 (L.getD 0 .undef))).bind fun t52 =>
        (M.lift (Ax.faddr 1 t52)).bind fun t53 =>
        (mload none t53).bind fun t54 =>
        (G fn_palanquinref6_Reader_TakeNS [t6, t54]).bind fun t55 =>
        (M.lift (Ax.ext 0 t55)).bind fun t56 =>
        (M.lift (Ax.ext 1 t55)).bind fun t57 =>
        M.pure (.nrm [t46, t56, t47, t57]))
        ((M.lift (Ax.iaddr none 4 t1 (L.getD 0 .undef))).bind fun t62 =>
        (M.lift (Ax.faddr 2 t62)).bind fun t63 =>
        (mload none t63).bind fun t64 =>
        (G fn_bits_Reader_Take [t5, t64]).bind fun t65 =>
        (M.lift (Ax.ext 0 t65)).bind fun t66 =>
        (M.lift (Ax.ext 1 t65)).bind fun t67 =>
        (M.lift (Ax.iaddr none 4 t1 (L.getD 0 .undef))).bind fun t72 =>
        (M.lift (Ax.faddr 2 t72)).bind fun t73 =>
        (mload none t73).bind fun t74 =>
        (G fn_palanquinref6_Reader_Take [t6, t74]).bind fun t75 =>
        (M.lift (Ax.ext 0 t75)).bind fun t76 =>
        (M.lift (Ax.ext 1 t75)).bind fun t77 =>
        M.pure (.nrm [t66, t76, t67, t77]))) fun L0 =>
      (M.lift (Ax.bin .neq (L0.getD 0 .undef) (L0.getD 1 .undef))).bind fun t80 =>
      (guarded [(0, t80)] (some (0, false)) (M.pure (L0.getD 2 .undef))).bind fun t82 =>
      (guarded [(0, t80)] (some (0, false)) (M.pure (L0.getD 3 .undef))).bind fun t83 =>
      (guarded [(0, t80)] (some (0, false)) (M.lift (Ax.bin .neq t82 t83))).bind fun t84 =>
      (M.lift (Ax.pick t80 (V.bool true) t84)).bind fun t85 =>
      (guarded [(0, t85)] (some (0, false)) (M.pure t5)).bind fun t87 =>
      (guarded [(0, t85)] (some (0, false)) (G fn_bits_Reader_Left [t87])).bind fun t88 =>
      (guarded [(0, t85)] (some (0, false)) (M.pure t6)).bind fun t89 =>
      (guarded [(0, t85)] (some (0, false)) (G fn_palanquinref6_Reader_Left [t89])).bind fun t90 =>
      (guarded [(0, t85)] (some (0, false)) (M.lift (Ax.bin .neq t88 t90))).bind fun t91 =>
      (M.lift (Ax.pick t85 (V.bool true) t91)).bind fun t92 =>
      M.ite t92
        (M.pure (.ret [(V.bool false)]))
        (M.pure (.nrm []))) fun _ =>
    (M.lift (Ax.bin .add (L.getD 0 .undef) (V.int .i64 1))).bind fun t32 =>
    M.pure (.nrm [t32]))
    (M.pure (.ex 0 []))

noncomputable def f_palanquinlaw6_BitsTakes (G : Sem') (t0 t1 : V) : M Res :=
  (G fn_bits_Over [t0]).bind fun t13 =>
  (M.lift (Ax.build [V.nils, (V.int .i64 0)] [(0, 1, t0)])).bind fun t15 =>
  (mbox ty_palanquinref6_Reader t15).bind fun t16 =>
  (G fn_palanquinlaw6_awake []).bind fun t17 =>
  (M.lift (Ax.un .not t17)).bind fun t18 =>
  (guarded [(0, t18)] (some (0, false)) (M.pure t13)).bind fun t20 =>
  (guarded [(0, t18)] (some (0, false)) (M.lift (eqr .ptr false t20 V.nilp))).bind fun t21 =>
  (M.lift (Ax.pick t18 (V.bool true) t21)).bind fun t22 =>
  M.ite t22
    (M.pure (.ret [(V.bool false)]))
    (M.blk 0 (
      M.iter (f_palanquinlaw6_BitsTakes_0 G t1 t13 t16) [(V.int .i64 0)]) fun _ =>
    M.pure (.ret [(V.bool true)]))

theorem eq_palanquinlaw6_BitsTakes (G : Sem') (t0 t1 : V) : execK G ir_palanquinlaw6_BitsTakes.rv ir_palanquinlaw6_BitsTakes.body [] [] (params 0 [t0, t1]) = f_palanquinlaw6_BitsTakes G t0 t1 := by kernel_rfl

theorem tb_palanquinlaw6_BitsTakes : T fn_palanquinlaw6_BitsTakes = some ir_palanquinlaw6_BitsTakes := by kernel_rfl

theorem ok_palanquinlaw6_BitsTakes {t0 t1 : V} {H : Heap} {Q : V → Heap → Prop} (h : Ok (f_palanquinlaw6_BitsTakes (sem T) t0 t1) H fun r H' => ∃ L, r = .ret L ∧ Q (tupled L) H') : Ok (sem T fn_palanquinlaw6_BitsTakes [t0, t1]) H Q :=
  ok_sem tb_palanquinlaw6_BitsTakes (Nat.le_of_ble_eq_true rfl) (eq_palanquinlaw6_BitsTakes (sem T) t0 t1) h

/-- palanquin/bits.Over. -/
def ir_bits_Over : Fn' := ⟨7, [.tmp 2],
  .ops [⟨(some 2), none, .mv (.c V.nilp)⟩]
  (.ops [⟨(some 3), none, .mv (.s 0)⟩,
    ⟨(some 4), none, .append ty_uint8 1 1 (.c V.nils) (.s 3)⟩,
    ⟨(some 5), none, .build [V.nils, (V.int .i64 0)] [(0, 1, (.s 4))]⟩,
    ⟨(some 6), none, .box ty_bits_Reader (.s 5)⟩,
    ⟨(some 2), none, .mv (.s 6)⟩]
  (.ret))⟩

noncomputable def f_bits_Over (G : Sem') (t0 : V) : M Res :=
  (mappend ty_uint8 1 1 V.nils t0).bind fun t4 =>
  (M.lift (Ax.build [V.nils, (V.int .i64 0)] [(0, 1, t4)])).bind fun t5 =>
  (mbox ty_bits_Reader t5).bind fun t6 =>
  M.pure (.ret [t6])

theorem eq_bits_Over (G : Sem') (t0 : V) : execK G ir_bits_Over.rv ir_bits_Over.body [] [] (params 0 [t0]) = f_bits_Over G t0 := by kernel_rfl

theorem tb_bits_Over : T fn_bits_Over = some ir_bits_Over := by kernel_rfl

theorem ok_bits_Over {t0 : V} {H : Heap} {Q : V → Heap → Prop} (h : Ok (f_bits_Over (sem T) t0) H fun r H' => ∃ L, r = .ret L ∧ Q (tupled L) H') : Ok (sem T fn_bits_Over [t0]) H Q :=
  ok_sem tb_bits_Over (Nat.le_of_ble_eq_true rfl) (eq_bits_Over (sem T) t0) h

/-- (*palanquin/bits.Reader).TakeNS. -/
def ir_bits_Reader_TakeNS : Fn' := ⟨61, [.tmp 4, .tmp 5],
  .ops [⟨(some 4), none, .mv (.c (V.int .u64 0))⟩,
    ⟨(some 5), none, .mv (.c (V.int .i64 0))⟩]
  (.ops [⟨(some 12), none, .mv (.s 1)⟩,
    ⟨(some 13), none, .bin .lss (.s 12) (.c (V.int .u64 1))⟩,
    ⟨(some 14), none, .mv (.s 13)⟩,
    ⟨(some 15), (some (14, false)), .mv (.s 1)⟩,
    ⟨(some 16), (some (14, false)), .bin .gtr (.s 15) (.c (V.int .u64 4294967296))⟩,
    ⟨(some 17), none, .pick (.s 14) (.c (V.bool true)) (.s 16)⟩]
  (.cond (.s 17)
  (.ops [⟨(some 4), none, .mv (.c (V.int .u64 0))⟩,
     ⟨(some 5), none, .mv (.c (V.int .i64 1))⟩]
   (.ret))
  (.ops [⟨(some 18), none, .mv (.s 0)⟩,
     ⟨(some 19), none, .nilck (.s 18)⟩,
     ⟨(some 20), none, .faddr 1 (.s 19)⟩,
     ⟨(some 21), none, .load none (.s 20)⟩,
     ⟨(some 6), none, .mv (.s 21)⟩]
   (.ops [⟨(some 23), none, .mv (.s 1)⟩,
     ⟨(some 24), none, .call fn_bits_short [(.s 23)]⟩,
     ⟨(some 22), none, .mv (.s 24)⟩,
     ⟨(some 25), none, .ext 0 (.s 22)⟩,
     ⟨(some 26), none, .ext 1 (.s 22)⟩,
     ⟨(some 7), none, .mv (.s 25)⟩,
     ⟨(some 8), none, .mv (.s 26)⟩]
   (.ops [⟨(some 28), none, .mv (.s 0)⟩,
     ⟨(some 29), none, .mv (.s 7)⟩,
     ⟨(some 30), none, .bin .sub (.s 29) (.c (V.int .i64 1))⟩,
     ⟨(some 31), none, .call fn_bits_Reader_Take [(.s 28), (.s 30)]⟩,
     ⟨(some 27), none, .mv (.s 31)⟩,
     ⟨(some 32), none, .ext 0 (.s 27)⟩,
     ⟨(some 33), none, .ext 1 (.s 27)⟩,
     ⟨(some 9), none, .mv (.s 32)⟩,
     ⟨(some 10), none, .mv (.s 33)⟩]
   (.ops [⟨(some 34), none, .mv (.s 10)⟩,
     ⟨(some 35), none, .bin .neq (.s 34) (.c (V.int .i64 0))⟩,
     ⟨(some 36), none, .mv (.s 35)⟩,
     ⟨(some 37), (some (36, false)), .mv (.s 9)⟩,
     ⟨(some 38), (some (36, false)), .mv (.s 8)⟩,
     ⟨(some 39), (some (36, false)), .bin .lss (.s 37) (.s 38)⟩,
     ⟨(some 40), none, .pick (.s 36) (.c (V.bool true)) (.s 39)⟩]
   (.cond (.s 40)
   (.ops [⟨(some 41), none, .mv (.s 9)⟩,
      ⟨(some 42), none, .mv (.s 10)⟩,
      ⟨(some 4), none, .mv (.s 41)⟩,
      ⟨(some 5), none, .mv (.s 42)⟩]
    (.ret))
   (.ops [⟨(some 44), none, .mv (.s 0)⟩,
      ⟨(some 45), none, .call fn_bits_Reader_Take [(.s 44), (.c (V.int .i64 1))]⟩,
      ⟨(some 43), none, .mv (.s 45)⟩,
      ⟨(some 46), none, .ext 0 (.s 43)⟩,
      ⟨(some 47), none, .ext 1 (.s 43)⟩,
      ⟨(some 11), none, .mv (.s 46)⟩,
      ⟨(some 10), none, .mv (.s 47)⟩]
    (.ops [⟨(some 48), none, .mv (.s 10)⟩,
      ⟨(some 49), none, .bin .neq (.s 48) (.c (V.int .i64 0))⟩]
    (.cond (.s 49)
    (.ops [⟨(some 50), none, .mv (.s 0)⟩,
       ⟨(some 51), none, .mv (.s 6)⟩,
       ⟨(some 52), none, .nilck (.s 50)⟩,
       ⟨(some 53), none, .faddr 1 (.s 52)⟩,
       ⟨none, none, .store 1 (.s 53) (.s 51)⟩]
     (.ops [⟨(some 54), none, .mv (.s 10)⟩,
       ⟨(some 4), none, .mv (.c (V.int .u64 0))⟩,
       ⟨(some 5), none, .mv (.s 54)⟩]
     (.ret)))
    (.ops [⟨(some 55), none, .mv (.s 9)⟩,
       ⟨(some 56), none, .bin .shl (.s 55) (.c (V.int .u64 1))⟩,
       ⟨(some 57), none, .mv (.s 11)⟩,
       ⟨(some 58), none, .bin .add (.s 56) (.s 57)⟩,
       ⟨(some 59), none, .mv (.s 8)⟩,
       ⟨(some 60), none, .bin .sub (.s 58) (.s 59)⟩,
       ⟨(some 4), none, .mv (.s 60)⟩,
       ⟨(some 5), none, .mv (.c (V.int .i64 0))⟩]
     (.ret))))))))))))⟩

noncomputable def f_bits_Reader_TakeNS (G : Sem') (t0 t1 : V) : M Res :=
  (M.lift (Ax.bin .lss t1 (V.int .u64 1))).bind fun t13 =>
  (guarded [(0, t13)] (some (0, false)) (M.pure t1)).bind fun t15 =>
  (guarded [(0, t13)] (some (0, false)) (M.lift (Ax.bin .gtr t15 (V.int .u64 4294967296)))).bind fun t16 =>
  (M.lift (Ax.pick t13 (V.bool true) t16)).bind fun t17 =>
  M.ite t17
    (M.pure (.ret [(V.int .u64 0), (V.int .i64 1)]))
    ((M.lift (Ax.nilck t0)).bind fun t19 =>
    (M.lift (Ax.faddr 1 t19)).bind fun t20 =>
    (mload none t20).bind fun t21 =>
    (G fn_bits_short [t1]).bind fun t24 =>
    (M.lift (Ax.ext 0 t24)).bind fun t25 =>
    (M.lift (Ax.ext 1 t24)).bind fun t26 =>
    (M.lift (Ax.bin .sub t25 (V.int .i64 1))).bind fun t30 =>
    (G fn_bits_Reader_Take [t0, t30]).bind fun t31 =>
    (M.lift (Ax.ext 0 t31)).bind fun t32 =>
    (M.lift (Ax.ext 1 t31)).bind fun t33 =>
    (M.lift (Ax.bin .neq t33 (V.int .i64 0))).bind fun t35 =>
    (guarded [(0, t35)] (some (0, false)) (M.pure t32)).bind fun t37 =>
    (guarded [(0, t35)] (some (0, false)) (M.pure t26)).bind fun t38 =>
    (guarded [(0, t35)] (some (0, false)) (M.lift (Ax.bin .lss t37 t38))).bind fun t39 =>
    (M.lift (Ax.pick t35 (V.bool true) t39)).bind fun t40 =>
    M.ite t40
      (M.pure (.ret [t32, t33]))
      ((G fn_bits_Reader_Take [t0, (V.int .i64 1)]).bind fun t45 =>
      (M.lift (Ax.ext 0 t45)).bind fun t46 =>
      (M.lift (Ax.ext 1 t45)).bind fun t47 =>
      (M.lift (Ax.bin .neq t47 (V.int .i64 0))).bind fun t49 =>
      M.ite t49
        ((M.lift (Ax.nilck t0)).bind fun t52 =>
        (M.lift (Ax.faddr 1 t52)).bind fun t53 =>
        (mstore 1 t53 t21).bind fun _ =>
        M.pure (.ret [(V.int .u64 0), t47]))
        ((M.lift (Ax.bin .shl t32 (V.int .u64 1))).bind fun t56 =>
        (M.lift (Ax.bin .add t56 t46)).bind fun t58 =>
        (M.lift (Ax.bin .sub t58 t26)).bind fun t60 =>
        M.pure (.ret [t60, (V.int .i64 0)]))))

theorem eq_bits_Reader_TakeNS (G : Sem') (t0 t1 : V) : execK G ir_bits_Reader_TakeNS.rv ir_bits_Reader_TakeNS.body [] [] (params 0 [t0, t1]) = f_bits_Reader_TakeNS G t0 t1 := by kernel_rfl

theorem tb_bits_Reader_TakeNS : T fn_bits_Reader_TakeNS = some ir_bits_Reader_TakeNS := by kernel_rfl

theorem ok_bits_Reader_TakeNS {t0 t1 : V} {H : Heap} {Q : V → Heap → Prop} (h : Ok (f_bits_Reader_TakeNS (sem T) t0 t1) H fun r H' => ∃ L, r = .ret L ∧ Q (tupled L) H') : Ok (sem T fn_bits_Reader_TakeNS [t0, t1]) H Q :=
  ok_sem tb_bits_Reader_TakeNS (Nat.le_of_ble_eq_true rfl) (eq_bits_Reader_TakeNS (sem T) t0 t1) h

/-- (*palanquin/bits.Reader).Take. -/
def loop_bits_Reader_Take_0 : C :=
  .ops [⟨(some 21), none, .bin .lss (.s 20) (.s 19)⟩]
  (.cond (.s 21)
  (.blk 2
   (.draw [⟨(some 22), none, .mv (.s 6)⟩,
      ⟨(some 23), none, .bin .shl (.s 22) (.c (V.int .u64 1))⟩,
      ⟨(some 24), none, .mv (.s 0)⟩,
      ⟨(some 25), none, .nilck (.s 24)⟩,
      ⟨(some 26), none, .faddr 0 (.s 25)⟩,
      ⟨(some 27), none, .load none (.s 26)⟩,
      ⟨(some 28), none, .mv (.s 0)⟩,
      ⟨(some 29), none, .nilck (.s 28)⟩,
      ⟨(some 30), none, .faddr 1 (.s 29)⟩,
      ⟨(some 31), none, .load none (.s 30)⟩,
      ⟨(some 32), none, .bin .quo (.s 31) (.c (V.int .i64 8))⟩,
      ⟨(some 33), none, .iaddr none 1 (.s 27) (.s 32)⟩,
      ⟨(some 34), none, .load none (.s 33)⟩,
      ⟨(some 35), none, .mv (.s 0)⟩,
      ⟨(some 36), none, .nilck (.s 35)⟩,
      ⟨(some 37), none, .faddr 1 (.s 36)⟩,
      ⟨(some 38), none, .load none (.s 37)⟩,
      ⟨(some 39), none, .bin .rem (.s 38) (.c (V.int .i64 8))⟩,
      ⟨(some 40), none, .bin .sub (.c (V.int .i64 7)) (.s 39)⟩,
      ⟨(some 41), none, .bin .shr (.s 34) (.s 40)⟩,
      ⟨(some 42), none, .bin .and (.s 41) (.c (V.int .u8 1))⟩,
      ⟨(some 43), none, .cint .u64 (.s 42)⟩,
      ⟨(some 44), none, .bin .or (.s 23) (.s 43)⟩,
      ⟨(some 6), none, .mv (.s 44)⟩] []
    (.ops [⟨(some 45), none, .mv (.s 0)⟩,
      ⟨(some 46), none, .nilck (.s 45)⟩,
      ⟨(some 47), none, .faddr 1 (.s 46)⟩,
      ⟨(some 48), none, .load none (.s 47)⟩,
      ⟨(some 49), none, .bin .add (.s 48) (.c (V.int .i64 1))⟩,
      ⟨(some 50), none, .nilck (.s 45)⟩,
      ⟨(some 51), none, .faddr 1 (.s 50)⟩,
      ⟨none, none, .store 1 (.s 51) (.s 49)⟩]
    (.done))) [6] [22, 23, 24, 25, 26, 27, 28, 29, 30, 31, 32, 33, 34, 35, 36, 37, 38, 39, 40, 41, 42, 43, 44, 6, 45, 46, 47, 48, 49, 50, 51]
   (.ops [⟨(some 52), none, .bin .add (.s 20) (.c (V.int .i64 1))⟩,
     ⟨(some 20), none, .mv (.s 52)⟩]
   (.done)))
  (.exit 1))

def ir_bits_Reader_Take : Fn' := ⟨54, [.tmp 4, .tmp 5],
  .ops [⟨(some 4), none, .mv (.c (V.int .u64 0))⟩,
    ⟨(some 5), none, .mv (.c (V.int .i64 0))⟩]
  (.blk 0
  (.ops [⟨(some 8), none, .mv (.s 1)⟩,
     ⟨(some 9), none, .bin .lss (.s 8) (.c (V.int .i64 0))⟩,
     ⟨(some 10), none, .mv (.s 9)⟩,
     ⟨(some 11), (some (10, false)), .mv (.s 1)⟩,
     ⟨(some 12), (some (10, false)), .bin .gtr (.s 11) (.c (V.int .i64 64))⟩,
     ⟨(some 13), none, .pick (.s 10) (.c (V.bool true)) (.s 12)⟩,
     ⟨(some 7), none, .mv (.s 13)⟩]
   (.cond (.s 7)
   (.ops [⟨(some 4), none, .mv (.c (V.int .u64 0))⟩,
      ⟨(some 5), none, .mv (.c (V.int .i64 1))⟩]
    (.ret))
   (.ops [⟨(some 15), none, .mv (.s 1)⟩,
      ⟨(some 16), none, .mv (.s 0)⟩,
      ⟨(some 17), none, .call fn_bits_Reader_Left [(.s 16)]⟩,
      ⟨(some 18), none, .bin .gtr (.s 15) (.s 17)⟩,
      ⟨(some 14), none, .mv (.s 18)⟩]
    (.cond (.s 14)
    (.ops [⟨(some 4), none, .mv (.c (V.int .u64 0))⟩,
       ⟨(some 5), none, .mv (.c (V.int .i64 3))⟩]
     (.ret))
    (.done))))) [] [8, 9, 10, 11, 12, 13, 7, 4, 5, 15, 16, 17, 18, 14, 4, 5]
  (.ops [⟨(some 6), none, .mv (.c (V.int .u64 0))⟩]
  (.ops [⟨(some 19), none, .mv (.s 1)⟩,
    ⟨(some 20), none, .mv (.c (V.int .i64 0))⟩]
  (.blk 1
  (.loop loop_bits_Reader_Take_0 [6, 20] [21, 22, 23, 24, 25, 26, 27, 28, 29, 30, 31, 32, 33, 34, 35, 36, 37, 38, 39, 40, 41, 42, 43, 44, 6, 45, 46, 47, 48, 49, 50, 51, 52, 20]) [6] [21, 22, 23, 24, 25, 26, 27, 28, 29, 30, 31, 32, 33, 34, 35, 36, 37, 38, 39, 40, 41, 42, 43, 44, 6, 45, 46, 47, 48, 49, 50, 51, 52, 20]
  (.ops [⟨(some 53), none, .mv (.s 6)⟩,
    ⟨(some 4), none, .mv (.s 53)⟩,
    ⟨(some 5), none, .mv (.c (V.int .i64 0))⟩]
  (.ret))))))⟩

noncomputable def f_bits_Reader_Take_0 (G : Sem') (t19 t0 : V) (L : List V) : M Res :=
  (M.lift (Ax.bin .lss (L.getD 1 .undef) t19)).bind fun t21 =>
  M.ite t21
    (M.blk 2 (
      (M.lift (Ax.bin .shl (L.getD 0 .undef) (V.int .u64 1))).bind fun t23 =>
      (M.lift (Ax.nilck t0)).bind fun t25 =>
      (M.lift (Ax.faddr 0 t25)).bind fun t26 =>
      (mload none t26).bind fun t27 =>
      (M.lift (Ax.nilck t0)).bind fun t29 =>
      (M.lift (Ax.faddr 1 t29)).bind fun t30 =>
      (mload none t30).bind fun t31 =>
      (M.lift (Ax.bin .quo t31 (V.int .i64 8))).bind fun t32 =>
      (M.lift (Ax.iaddr none 1 t27 t32)).bind fun t33 =>
      (mload none t33).bind fun t34 =>
      (M.lift (Ax.nilck t0)).bind fun t36 =>
      (M.lift (Ax.faddr 1 t36)).bind fun t37 =>
      (mload none t37).bind fun t38 =>
      (M.lift (Ax.bin .rem t38 (V.int .i64 8))).bind fun t39 =>
      (M.lift (Ax.bin .sub (V.int .i64 7) t39)).bind fun t40 =>
      (M.lift (Ax.bin .shr t34 t40)).bind fun t41 =>
      (M.lift (Ax.bin .and t41 (V.int .u8 1))).bind fun t42 =>
      (M.lift (Ax.cint .u64 t42)).bind fun t43 =>
      (M.lift (Ax.bin .or t23 t43)).bind fun t44 =>
      (M.lift (Ax.nilck t0)).bind fun t46 =>
      (M.lift (Ax.faddr 1 t46)).bind fun t47 =>
      (mload none t47).bind fun t48 =>
      (M.lift (Ax.bin .add t48 (V.int .i64 1))).bind fun t49 =>
      (M.lift (Ax.nilck t0)).bind fun t50 =>
      (M.lift (Ax.faddr 1 t50)).bind fun t51 =>
      (mstore 1 t51 t49).bind fun _ =>
      M.pure (.nrm [t44])) fun L1 =>
    (M.lift (Ax.bin .add (L.getD 1 .undef) (V.int .i64 1))).bind fun t52 =>
    M.pure (.nrm [(L1.getD 0 .undef), t52]))
    (M.pure (.ex 1 [(L.getD 0 .undef)]))

noncomputable def f_bits_Reader_Take (G : Sem') (t0 t1 : V) : M Res :=
  M.blk 0 (
    (M.lift (Ax.bin .lss t1 (V.int .i64 0))).bind fun t9 =>
    (guarded [(0, t9)] (some (0, false)) (M.pure t1)).bind fun t11 =>
    (guarded [(0, t9)] (some (0, false)) (M.lift (Ax.bin .gtr t11 (V.int .i64 64)))).bind fun t12 =>
    (M.lift (Ax.pick t9 (V.bool true) t12)).bind fun t13 =>
    M.ite t13
      (M.pure (.ret [(V.int .u64 0), (V.int .i64 1)]))
      ((G fn_bits_Reader_Left [t0]).bind fun t17 =>
      (M.lift (Ax.bin .gtr t1 t17)).bind fun t18 =>
      M.ite t18
        (M.pure (.ret [(V.int .u64 0), (V.int .i64 3)]))
        (M.pure (.nrm [])))) fun _ =>
  M.blk 1 (
    M.iter (f_bits_Reader_Take_0 G t1 t0) [(V.int .u64 0), (V.int .i64 0)]) fun L2 =>
  M.pure (.ret [(L2.getD 0 .undef), (V.int .i64 0)])

theorem eq_bits_Reader_Take (G : Sem') (t0 t1 : V) : execK G ir_bits_Reader_Take.rv ir_bits_Reader_Take.body [] [] (params 0 [t0, t1]) = f_bits_Reader_Take G t0 t1 := by kernel_rfl

theorem tb_bits_Reader_Take : T fn_bits_Reader_Take = some ir_bits_Reader_Take := by kernel_rfl

theorem ok_bits_Reader_Take {t0 t1 : V} {H : Heap} {Q : V → Heap → Prop} (h : Ok (f_bits_Reader_Take (sem T) t0 t1) H fun r H' => ∃ L, r = .ret L ∧ Q (tupled L) H') : Ok (sem T fn_bits_Reader_Take [t0, t1]) H Q :=
  ok_sem tb_bits_Reader_Take (Nat.le_of_ble_eq_true rfl) (eq_bits_Reader_Take (sem T) t0 t1) h

/-- (*palanquin/bits.Reader).Left. -/
def ir_bits_Reader_Left : Fn' := ⟨14, [.tmp 2],
  .ops [⟨(some 2), none, .mv (.c (V.int .i64 0))⟩]
  (.draw [⟨(some 3), none, .mv (.s 0)⟩,
    ⟨(some 4), none, .nilck (.s 3)⟩,
    ⟨(some 5), none, .faddr 0 (.s 4)⟩,
    ⟨(some 6), none, .load none (.s 5)⟩,
    ⟨(some 7), none, .len (.s 6)⟩,
    ⟨(some 8), none, .bin .mul (.c (V.int .i64 8)) (.s 7)⟩,
    ⟨(some 9), none, .mv (.s 0)⟩,
    ⟨(some 10), none, .nilck (.s 9)⟩,
    ⟨(some 11), none, .faddr 1 (.s 10)⟩,
    ⟨(some 12), none, .load none (.s 11)⟩,
    ⟨(some 13), none, .bin .sub (.s 8) (.s 12)⟩,
    ⟨(some 2), none, .mv (.s 13)⟩] []
  (.ret))⟩

noncomputable def f_bits_Reader_Left (G : Sem') (t0 : V) : M Res :=
  (M.lift (Ax.nilck t0)).bind fun t4 =>
  (M.lift (Ax.faddr 0 t4)).bind fun t5 =>
  (mload none t5).bind fun t6 =>
  (M.lift (vlen t6)).bind fun t7 =>
  (M.lift (Ax.bin .mul (V.int .i64 8) t7)).bind fun t8 =>
  (M.lift (Ax.nilck t0)).bind fun t10 =>
  (M.lift (Ax.faddr 1 t10)).bind fun t11 =>
  (mload none t11).bind fun t12 =>
  (M.lift (Ax.bin .sub t8 t12)).bind fun t13 =>
  M.pure (.ret [t13])

theorem eq_bits_Reader_Left (G : Sem') (t0 : V) : execK G ir_bits_Reader_Left.rv ir_bits_Reader_Left.body [] [] (params 0 [t0]) = f_bits_Reader_Left G t0 := by kernel_rfl

theorem tb_bits_Reader_Left : T fn_bits_Reader_Left = some ir_bits_Reader_Left := by kernel_rfl

theorem ok_bits_Reader_Left {t0 : V} {H : Heap} {Q : V → Heap → Prop} (h : Ok (f_bits_Reader_Left (sem T) t0) H fun r H' => ∃ L, r = .ret L ∧ Q (tupled L) H') : Ok (sem T fn_bits_Reader_Left [t0]) H Q :=
  ok_sem tb_bits_Reader_Left (Nat.le_of_ble_eq_true rfl) (eq_bits_Reader_Left (sem T) t0) h

/-- (*palanquin/palanquinref6.Reader).TakeNS. -/
def ir_palanquinref6_Reader_TakeNS : Fn' := ⟨59, [.tmp 4, .tmp 5],
  .ops [⟨(some 4), none, .mv (.c (V.int .u64 0))⟩,
    ⟨(some 5), none, .mv (.c (V.int .i64 0))⟩]
  (.ops [⟨(some 12), none, .mv (.s 1)⟩,
    ⟨(some 13), none, .bin .lss (.s 12) (.c (V.int .u64 1))⟩,
    ⟨(some 14), none, .mv (.s 13)⟩,
    ⟨(some 15), (some (14, false)), .mv (.s 1)⟩,
    ⟨(some 16), (some (14, false)), .bin .gtr (.s 15) (.c (V.int .u64 4294967296))⟩,
    ⟨(some 17), none, .pick (.s 14) (.c (V.bool true)) (.s 16)⟩]
  (.cond (.s 17)
  (.ops [⟨(some 4), none, .mv (.c (V.int .u64 0))⟩,
     ⟨(some 5), none, .mv (.c (V.int .i64 1))⟩]
   (.ret))
  (.ops [⟨(some 19), none, .mv (.s 1)⟩,
     ⟨(some 20), none, .call fn_palanquinref6_width [(.s 19)]⟩,
     ⟨(some 18), none, .mv (.s 20)⟩,
     ⟨(some 21), none, .ext 0 (.s 18)⟩,
     ⟨(some 22), none, .ext 1 (.s 18)⟩,
     ⟨(some 6), none, .mv (.s 21)⟩,
     ⟨(some 7), none, .mv (.s 22)⟩]
   (.ops [⟨(some 23), none, .mv (.s 0)⟩,
     ⟨(some 24), none, .nilck (.s 23)⟩,
     ⟨(some 25), none, .faddr 1 (.s 24)⟩,
     ⟨(some 26), none, .load none (.s 25)⟩,
     ⟨(some 8), none, .mv (.s 26)⟩]
   (.ops [⟨(some 28), none, .mv (.s 0)⟩,
     ⟨(some 29), none, .mv (.s 6)⟩,
     ⟨(some 30), none, .bin .sub (.s 29) (.c (V.int .i64 1))⟩,
     ⟨(some 31), none, .call fn_palanquinref6_Reader_Take [(.s 28), (.s 30)]⟩,
     ⟨(some 27), none, .mv (.s 31)⟩,
     ⟨(some 32), none, .ext 0 (.s 27)⟩,
     ⟨(some 33), none, .ext 1 (.s 27)⟩,
     ⟨(some 9), none, .mv (.s 32)⟩,
     ⟨(some 10), none, .mv (.s 33)⟩]
   (.ops [⟨(some 34), none, .mv (.s 10)⟩,
     ⟨(some 35), none, .bin .neq (.s 34) (.c (V.int .i64 0))⟩]
   (.cond (.s 35)
   (.ops [⟨(some 36), none, .mv (.s 10)⟩,
      ⟨(some 4), none, .mv (.c (V.int .u64 0))⟩,
      ⟨(some 5), none, .mv (.s 36)⟩]
    (.ret))
   (.ops [⟨(some 37), none, .mv (.s 9)⟩,
      ⟨(some 38), none, .mv (.s 7)⟩,
      ⟨(some 39), none, .bin .lss (.s 37) (.s 38)⟩]
    (.cond (.s 39)
    (.ops [⟨(some 40), none, .mv (.s 9)⟩,
       ⟨(some 4), none, .mv (.s 40)⟩,
       ⟨(some 5), none, .mv (.c (V.int .i64 0))⟩]
     (.ret))
    (.ops [⟨(some 42), none, .mv (.s 0)⟩,
       ⟨(some 43), none, .call fn_palanquinref6_Reader_Take [(.s 42), (.c (V.int .i64 1))]⟩,
       ⟨(some 41), none, .mv (.s 43)⟩,
       ⟨(some 44), none, .ext 0 (.s 41)⟩,
       ⟨(some 45), none, .ext 1 (.s 41)⟩,
       ⟨(some 11), none, .mv (.s 44)⟩,
       ⟨(some 10), none, .mv (.s 45)⟩]
     (.ops [⟨(some 46), none, .mv (.s 10)⟩,
       ⟨(some 47), none, .bin .neq (.s 46) (.c (V.int .i64 0))⟩]
     (.cond (.s 47)
     (.ops [⟨(some 48), none, .mv (.s 0)⟩,
        ⟨(some 49), none, .mv (.s 8)⟩,
        ⟨(some 50), none, .nilck (.s 48)⟩,
        ⟨(some 51), none, .faddr 1 (.s 50)⟩,
        ⟨none, none, .store 1 (.s 51) (.s 49)⟩]
      (.ops [⟨(some 52), none, .mv (.s 10)⟩,
        ⟨(some 4), none, .mv (.c (V.int .u64 0))⟩,
        ⟨(some 5), none, .mv (.s 52)⟩]
      (.ret)))
     (.ops [⟨(some 53), none, .mv (.s 9)⟩,
        ⟨(some 54), none, .bin .shl (.s 53) (.c (V.int .u64 1))⟩,
        ⟨(some 55), none, .mv (.s 7)⟩,
        ⟨(some 56), none, .bin .sub (.s 54) (.s 55)⟩,
        ⟨(some 57), none, .mv (.s 11)⟩,
        ⟨(some 58), none, .bin .add (.s 56) (.s 57)⟩,
        ⟨(some 4), none, .mv (.s 58)⟩,
        ⟨(some 5), none, .mv (.c (V.int .i64 0))⟩]
      (.ret))))))))))))))⟩

noncomputable def f_palanquinref6_Reader_TakeNS (G : Sem') (t0 t1 : V) : M Res :=
  (M.lift (Ax.bin .lss t1 (V.int .u64 1))).bind fun t13 =>
  (guarded [(0, t13)] (some (0, false)) (M.pure t1)).bind fun t15 =>
  (guarded [(0, t13)] (some (0, false)) (M.lift (Ax.bin .gtr t15 (V.int .u64 4294967296)))).bind fun t16 =>
  (M.lift (Ax.pick t13 (V.bool true) t16)).bind fun t17 =>
  M.ite t17
    (M.pure (.ret [(V.int .u64 0), (V.int .i64 1)]))
    ((G fn_palanquinref6_width [t1]).bind fun t20 =>
    (M.lift (Ax.ext 0 t20)).bind fun t21 =>
    (M.lift (Ax.ext 1 t20)).bind fun t22 =>
    (M.lift (Ax.nilck t0)).bind fun t24 =>
    (M.lift (Ax.faddr 1 t24)).bind fun t25 =>
    (mload none t25).bind fun t26 =>
    (M.lift (Ax.bin .sub t21 (V.int .i64 1))).bind fun t30 =>
    (G fn_palanquinref6_Reader_Take [t0, t30]).bind fun t31 =>
    (M.lift (Ax.ext 0 t31)).bind fun t32 =>
    (M.lift (Ax.ext 1 t31)).bind fun t33 =>
    (M.lift (Ax.bin .neq t33 (V.int .i64 0))).bind fun t35 =>
    M.ite t35
      (M.pure (.ret [(V.int .u64 0), t33]))
      ((M.lift (Ax.bin .lss t32 t22)).bind fun t39 =>
      M.ite t39
        (M.pure (.ret [t32, (V.int .i64 0)]))
        ((G fn_palanquinref6_Reader_Take [t0, (V.int .i64 1)]).bind fun t43 =>
        (M.lift (Ax.ext 0 t43)).bind fun t44 =>
        (M.lift (Ax.ext 1 t43)).bind fun t45 =>
        (M.lift (Ax.bin .neq t45 (V.int .i64 0))).bind fun t47 =>
        M.ite t47
          ((M.lift (Ax.nilck t0)).bind fun t50 =>
          (M.lift (Ax.faddr 1 t50)).bind fun t51 =>
          (mstore 1 t51 t26).bind fun _ =>
          M.pure (.ret [(V.int .u64 0), t45]))
          ((M.lift (Ax.bin .shl t32 (V.int .u64 1))).bind fun t54 =>
          (M.lift (Ax.bin .sub t54 t22)).bind fun t56 =>
          (M.lift (Ax.bin .add t56 t44)).bind fun t58 =>
          M.pure (.ret [t58, (V.int .i64 0)])))))

theorem eq_palanquinref6_Reader_TakeNS (G : Sem') (t0 t1 : V) : execK G ir_palanquinref6_Reader_TakeNS.rv ir_palanquinref6_Reader_TakeNS.body [] [] (params 0 [t0, t1]) = f_palanquinref6_Reader_TakeNS G t0 t1 := by kernel_rfl

theorem tb_palanquinref6_Reader_TakeNS : T fn_palanquinref6_Reader_TakeNS = some ir_palanquinref6_Reader_TakeNS := by kernel_rfl

theorem ok_palanquinref6_Reader_TakeNS {t0 t1 : V} {H : Heap} {Q : V → Heap → Prop} (h : Ok (f_palanquinref6_Reader_TakeNS (sem T) t0 t1) H fun r H' => ∃ L, r = .ret L ∧ Q (tupled L) H') : Ok (sem T fn_palanquinref6_Reader_TakeNS [t0, t1]) H Q :=
  ok_sem tb_palanquinref6_Reader_TakeNS (Nat.le_of_ble_eq_true rfl) (eq_palanquinref6_Reader_TakeNS (sem T) t0 t1) h

/-- (*palanquin/palanquinref6.Reader).Take. -/
def loop_palanquinref6_Reader_Take_0 : C :=
  .ops [⟨(some 18), none, .mv (.s 7)⟩,
    ⟨(some 19), none, .mv (.s 1)⟩,
    ⟨(some 20), none, .bin .lss (.s 18) (.s 19)⟩]
  (.cond (.s 20)
  (.blk 1
   (.ops [⟨(some 23), none, .mv (.s 6)⟩,
      ⟨(some 24), none, .bin .shl (.s 23) (.c (V.int .u64 1))⟩,
      ⟨(some 25), none, .mv (.s 0)⟩,
      ⟨(some 26), none, .call fn_palanquinref6_Reader_bit [(.s 25)]⟩,
      ⟨(some 27), none, .bin .or (.s 24) (.s 26)⟩,
      ⟨(some 6), none, .mv (.s 27)⟩]
    (.done)) [6] [23, 24, 25, 26, 27, 6]
   (.ops [⟨(some 21), none, .mv (.s 7)⟩,
     ⟨(some 22), none, .bin .add (.s 21) (.c (V.int .i64 1))⟩,
     ⟨(some 7), none, .mv (.s 22)⟩]
   (.done)))
  (.exit 0))

def ir_palanquinref6_Reader_Take : Fn' := ⟨29, [.tmp 4, .tmp 5],
  .ops [⟨(some 4), none, .mv (.c (V.int .u64 0))⟩,
    ⟨(some 5), none, .mv (.c (V.int .i64 0))⟩]
  (.ops [⟨(some 8), none, .mv (.s 1)⟩,
    ⟨(some 9), none, .bin .lss (.s 8) (.c (V.int .i64 0))⟩,
    ⟨(some 10), none, .mv (.s 9)⟩,
    ⟨(some 11), (some (10, false)), .mv (.s 1)⟩,
    ⟨(some 12), (some (10, false)), .bin .gtr (.s 11) (.c (V.int .i64 64))⟩,
    ⟨(some 13), none, .pick (.s 10) (.c (V.bool true)) (.s 12)⟩]
  (.cond (.s 13)
  (.ops [⟨(some 4), none, .mv (.c (V.int .u64 0))⟩,
     ⟨(some 5), none, .mv (.c (V.int .i64 1))⟩]
   (.ret))
  (.ops [⟨(some 14), none, .mv (.s 1)⟩,
     ⟨(some 15), none, .mv (.s 0)⟩,
     ⟨(some 16), none, .call fn_palanquinref6_Reader_Left [(.s 15)]⟩,
     ⟨(some 17), none, .bin .gtr (.s 14) (.s 16)⟩]
   (.cond (.s 17)
   (.ops [⟨(some 4), none, .mv (.c (V.int .u64 0))⟩,
      ⟨(some 5), none, .mv (.c (V.int .i64 3))⟩]
    (.ret))
   (.ops [⟨(some 6), none, .mv (.c (V.int .u64 0))⟩]
    (.ops [⟨(some 7), none, .mv (.c (V.int .i64 0))⟩]
    (.blk 0
    (.loop loop_palanquinref6_Reader_Take_0 [6, 7] [18, 19, 20, 23, 24, 25, 26, 27, 6, 21, 22, 7]) [6] [18, 19, 20, 23, 24, 25, 26, 27, 6, 21, 22, 7]
    (.ops [⟨(some 28), none, .mv (.s 6)⟩,
      ⟨(some 4), none, .mv (.s 28)⟩,
      ⟨(some 5), none, .mv (.c (V.int .i64 0))⟩]
    (.ret)))))))))⟩

noncomputable def f_palanquinref6_Reader_Take_0 (G : Sem') (t1 t0 t4 t5 : V) (L : List V) : M Res :=
  (M.lift (Ax.bin .lss (L.getD 1 .undef) t1)).bind fun t20 =>
  M.ite t20
    (M.blk 1 (
      (M.lift (Ax.bin .shl (L.getD 0 .undef) (V.int .u64 1))).bind fun t24 =>
      (G fn_palanquinref6_Reader_bit [t0]).bind fun t26 =>
      (M.lift (Ax.bin .or t24 t26)).bind fun t27 =>
      M.pure (.nrm [t27])) fun L0 =>
    (M.lift (Ax.bin .add (L.getD 1 .undef) (V.int .i64 1))).bind fun t22 =>
    M.pure (.nrm [(L0.getD 0 .undef), t22]))
    (M.pure (.ex 0 [(L.getD 0 .undef)]))

noncomputable def f_palanquinref6_Reader_Take (G : Sem') (t0 t1 : V) : M Res :=
  (M.lift (Ax.bin .lss t1 (V.int .i64 0))).bind fun t9 =>
  (guarded [(0, t9)] (some (0, false)) (M.pure t1)).bind fun t11 =>
  (guarded [(0, t9)] (some (0, false)) (M.lift (Ax.bin .gtr t11 (V.int .i64 64)))).bind fun t12 =>
  (M.lift (Ax.pick t9 (V.bool true) t12)).bind fun t13 =>
  M.ite t13
    (M.pure (.ret [(V.int .u64 0), (V.int .i64 1)]))
    ((G fn_palanquinref6_Reader_Left [t0]).bind fun t16 =>
    (M.lift (Ax.bin .gtr t1 t16)).bind fun t17 =>
    M.ite t17
      (M.pure (.ret [(V.int .u64 0), (V.int .i64 3)]))
      (M.blk 0 (
        M.iter (f_palanquinref6_Reader_Take_0 G t1 t0 (V.int .u64 0) (V.int .i64 0)) [(V.int .u64 0), (V.int .i64 0)]) fun L1 =>
      M.pure (.ret [(L1.getD 0 .undef), (V.int .i64 0)])))

theorem eq_palanquinref6_Reader_Take (G : Sem') (t0 t1 : V) : execK G ir_palanquinref6_Reader_Take.rv ir_palanquinref6_Reader_Take.body [] [] (params 0 [t0, t1]) = f_palanquinref6_Reader_Take G t0 t1 := by kernel_rfl

theorem tb_palanquinref6_Reader_Take : T fn_palanquinref6_Reader_Take = some ir_palanquinref6_Reader_Take := by kernel_rfl

theorem ok_palanquinref6_Reader_Take {t0 t1 : V} {H : Heap} {Q : V → Heap → Prop} (h : Ok (f_palanquinref6_Reader_Take (sem T) t0 t1) H fun r H' => ∃ L, r = .ret L ∧ Q (tupled L) H') : Ok (sem T fn_palanquinref6_Reader_Take [t0, t1]) H Q :=
  ok_sem tb_palanquinref6_Reader_Take (Nat.le_of_ble_eq_true rfl) (eq_palanquinref6_Reader_Take (sem T) t0 t1) h

/-- (*palanquin/palanquinref6.Reader).Left. -/
def ir_palanquinref6_Reader_Left : Fn' := ⟨14, [.tmp 2],
  .ops [⟨(some 2), none, .mv (.c (V.int .i64 0))⟩]
  (.draw [⟨(some 3), none, .mv (.s 0)⟩,
    ⟨(some 4), none, .nilck (.s 3)⟩,
    ⟨(some 5), none, .faddr 0 (.s 4)⟩,
    ⟨(some 6), none, .load none (.s 5)⟩,
    ⟨(some 7), none, .len (.s 6)⟩,
    ⟨(some 8), none, .bin .mul (.c (V.int .i64 8)) (.s 7)⟩,
    ⟨(some 9), none, .mv (.s 0)⟩,
    ⟨(some 10), none, .nilck (.s 9)⟩,
    ⟨(some 11), none, .faddr 1 (.s 10)⟩,
    ⟨(some 12), none, .load none (.s 11)⟩,
    ⟨(some 13), none, .bin .sub (.s 8) (.s 12)⟩,
    ⟨(some 2), none, .mv (.s 13)⟩] []
  (.ret))⟩

noncomputable def f_palanquinref6_Reader_Left (G : Sem') (t0 : V) : M Res :=
  (M.lift (Ax.nilck t0)).bind fun t4 =>
  (M.lift (Ax.faddr 0 t4)).bind fun t5 =>
  (mload none t5).bind fun t6 =>
  (M.lift (vlen t6)).bind fun t7 =>
  (M.lift (Ax.bin .mul (V.int .i64 8) t7)).bind fun t8 =>
  (M.lift (Ax.nilck t0)).bind fun t10 =>
  (M.lift (Ax.faddr 1 t10)).bind fun t11 =>
  (mload none t11).bind fun t12 =>
  (M.lift (Ax.bin .sub t8 t12)).bind fun t13 =>
  M.pure (.ret [t13])

theorem eq_palanquinref6_Reader_Left (G : Sem') (t0 : V) : execK G ir_palanquinref6_Reader_Left.rv ir_palanquinref6_Reader_Left.body [] [] (params 0 [t0]) = f_palanquinref6_Reader_Left G t0 := by kernel_rfl

theorem tb_palanquinref6_Reader_Left : T fn_palanquinref6_Reader_Left = some ir_palanquinref6_Reader_Left := by kernel_rfl

theorem ok_palanquinref6_Reader_Left {t0 : V} {H : Heap} {Q : V → Heap → Prop} (h : Ok (f_palanquinref6_Reader_Left (sem T) t0) H fun r H' => ∃ L, r = .ret L ∧ Q (tupled L) H') : Ok (sem T fn_palanquinref6_Reader_Left [t0]) H Q :=
  ok_sem tb_palanquinref6_Reader_Left (Nat.le_of_ble_eq_true rfl) (eq_palanquinref6_Reader_Left (sem T) t0) h

/-- (*palanquin/palanquinref6.Reader).bit. -/
def ir_palanquinref6_Reader_bit : Fn' := ⟨33, [.tmp 2],
  .ops [⟨(some 2), none, .mv (.c (V.int .u64 0))⟩]
  (.draw [⟨(some 4), none, .mv (.s 0)⟩,
    ⟨(some 5), none, .nilck (.s 4)⟩,
    ⟨(some 6), none, .faddr 0 (.s 5)⟩,
    ⟨(some 7), none, .load none (.s 6)⟩,
    ⟨(some 8), none, .mv (.s 0)⟩,
    ⟨(some 9), none, .nilck (.s 8)⟩,
    ⟨(some 10), none, .faddr 1 (.s 9)⟩,
    ⟨(some 11), none, .load none (.s 10)⟩,
    ⟨(some 12), none, .bin .quo (.s 11) (.c (V.int .i64 8))⟩,
    ⟨(some 13), none, .iaddr none 1 (.s 7) (.s 12)⟩,
    ⟨(some 14), none, .load none (.s 13)⟩,
    ⟨(some 15), none, .mv (.s 0)⟩,
    ⟨(some 16), none, .nilck (.s 15)⟩,
    ⟨(some 17), none, .faddr 1 (.s 16)⟩,
    ⟨(some 18), none, .load none (.s 17)⟩,
    ⟨(some 19), none, .bin .rem (.s 18) (.c (V.int .i64 8))⟩,
    ⟨(some 20), none, .bin .sub (.c (V.int .i64 7)) (.s 19)⟩,
    ⟨(some 21), none, .cint .u64 (.s 20)⟩,
    ⟨(some 22), none, .bin .shr (.s 14) (.s 21)⟩,
    ⟨(some 23), none, .bin .and (.s 22) (.c (V.int .u8 1))⟩,
    ⟨(some 3), none, .mv (.s 23)⟩] []
  (.ops [⟨(some 24), none, .mv (.s 0)⟩,
    ⟨(some 25), none, .nilck (.s 24)⟩,
    ⟨(some 26), none, .faddr 1 (.s 25)⟩,
    ⟨(some 27), none, .load none (.s 26)⟩,
    ⟨(some 28), none, .bin .add (.s 27) (.c (V.int .i64 1))⟩,
    ⟨(some 29), none, .nilck (.s 24)⟩,
    ⟨(some 30), none, .faddr 1 (.s 29)⟩,
    ⟨none, none, .store 1 (.s 30) (.s 28)⟩]
  (.ops [⟨(some 31), none, .mv (.s 3)⟩,
    ⟨(some 32), none, .cint .u64 (.s 31)⟩,
    ⟨(some 2), none, .mv (.s 32)⟩]
  (.ret))))⟩

noncomputable def f_palanquinref6_Reader_bit (G : Sem') (t0 : V) : M Res :=
  (M.lift (Ax.nilck t0)).bind fun t5 =>
  (M.lift (Ax.faddr 0 t5)).bind fun t6 =>
  (mload none t6).bind fun t7 =>
  (M.lift (Ax.nilck t0)).bind fun t9 =>
  (M.lift (Ax.faddr 1 t9)).bind fun t10 =>
  (mload none t10).bind fun t11 =>
  (M.lift (Ax.bin .quo t11 (V.int .i64 8))).bind fun t12 =>
  (M.lift (Ax.iaddr none 1 t7 t12)).bind fun t13 =>
  (mload none t13).bind fun t14 =>
  (M.lift (Ax.nilck t0)).bind fun t16 =>
  (M.lift (Ax.faddr 1 t16)).bind fun t17 =>
  (mload none t17).bind fun t18 =>
  (M.lift (Ax.bin .rem t18 (V.int .i64 8))).bind fun t19 =>
  (M.lift (Ax.bin .sub (V.int .i64 7) t19)).bind fun t20 =>
  (M.lift (Ax.cint .u64 t20)).bind fun t21 =>
  (M.lift (Ax.bin .shr t14 t21)).bind fun t22 =>
  (M.lift (Ax.bin .and t22 (V.int .u8 1))).bind fun t23 =>
  (M.lift (Ax.nilck t0)).bind fun t25 =>
  (M.lift (Ax.faddr 1 t25)).bind fun t26 =>
  (mload none t26).bind fun t27 =>
  (M.lift (Ax.bin .add t27 (V.int .i64 1))).bind fun t28 =>
  (M.lift (Ax.nilck t0)).bind fun t29 =>
  (M.lift (Ax.faddr 1 t29)).bind fun t30 =>
  (mstore 1 t30 t28).bind fun _ =>
  (M.lift (Ax.cint .u64 t23)).bind fun t32 =>
  M.pure (.ret [t32])

theorem eq_palanquinref6_Reader_bit (G : Sem') (t0 : V) : execK G ir_palanquinref6_Reader_bit.rv ir_palanquinref6_Reader_bit.body [] [] (params 0 [t0]) = f_palanquinref6_Reader_bit G t0 := by kernel_rfl

theorem tb_palanquinref6_Reader_bit : T fn_palanquinref6_Reader_bit = some ir_palanquinref6_Reader_bit := by kernel_rfl

theorem ok_palanquinref6_Reader_bit {t0 : V} {H : Heap} {Q : V → Heap → Prop} (h : Ok (f_palanquinref6_Reader_bit (sem T) t0) H fun r H' => ∃ L, r = .ret L ∧ Q (tupled L) H') : Ok (sem T fn_palanquinref6_Reader_bit [t0]) H Q :=
  ok_sem tb_palanquinref6_Reader_bit (Nat.le_of_ble_eq_true rfl) (eq_palanquinref6_Reader_bit (sem T) t0) h

/-- palanquin/palanquinlaw6.BitsBack. -/
def loop_palanquinlaw6_BitsBack_0 : C :=
  .ops [⟨(some 18), none, .mv (.s 5)⟩,
    ⟨(some 19), none, .mv (.s 0)⟩,
    ⟨(some 20), none, .len (.s 19)⟩,
    ⟨(some 21), none, .bin .lss (.s 18) (.s 20)⟩,
    ⟨(some 22), none, .mv (.s 21)⟩,
    ⟨(some 23), (some (22, true)), .mv (.s 5)⟩,
    ⟨(some 24), (some (22, true)), .bin .lss (.s 23) (.c (V.int .i64 60))⟩,
    ⟨(some 25), none, .pick (.s 22) (.s 24) (.c (V.bool false))⟩]
  (.cond (.s 25)
  (.blk 1
   (.ops [⟨(some 6), none, .mv (.c (V.int .i64 0))⟩]
    (.ops [⟨(some 28), none, .mv (.s 0)⟩,
      ⟨(some 29), none, .mv (.s 5)⟩,
      ⟨(some 30), none, .iaddr none 4 (.s 28) (.s 29)⟩,
      ⟨(some 31), none, .faddr 3 (.s 30)⟩,
      ⟨(some 32), none, .load none (.s 31)⟩]
    (.condJ (.s 32)
    (.draw [⟨(some 33), none, .mv (.s 3)⟩,
       ⟨(some 34), none, .mv (.s 0)⟩,
       ⟨(some 35), none, .mv (.s 5)⟩,
       ⟨(some 36), none, .iaddr none 4 (.s 34) (.s 35)⟩,
       ⟨(some 37), none, .faddr 0 (.s 36)⟩,
       ⟨(some 38), none, .load none (.s 37)⟩,
       ⟨(some 39), none, .mv (.s 0)⟩,
       ⟨(some 40), none, .mv (.s 5)⟩,
       ⟨(some 41), none, .iaddr none 4 (.s 39) (.s 40)⟩,
       ⟨(some 42), none, .faddr 1 (.s 41)⟩,
       ⟨(some 43), none, .load none (.s 42)⟩,
       ⟨(some 44), none, .call fn_bits_Writer_AddNS [(.s 33), (.s 38), (.s 43)]⟩,
       ⟨(some 6), none, .mv (.s 44)⟩] []
     (.done))
    (.draw [⟨(some 45), none, .mv (.s 3)⟩,
       ⟨(some 46), none, .mv (.s 0)⟩,
       ⟨(some 47), none, .mv (.s 5)⟩,
       ⟨(some 48), none, .iaddr none 4 (.s 46) (.s 47)⟩,
       ⟨(some 49), none, .faddr 0 (.s 48)⟩,
       ⟨(some 50), none, .load none (.s 49)⟩,
       ⟨(some 51), none, .mv (.s 0)⟩,
       ⟨(some 52), none, .mv (.s 5)⟩,
       ⟨(some 53), none, .iaddr none 4 (.s 51) (.s 52)⟩,
       ⟨(some 54), none, .faddr 2 (.s 53)⟩,
       ⟨(some 55), none, .load none (.s 54)⟩,
       ⟨(some 56), none, .call fn_bits_Writer_Add [(.s 45), (.s 50), (.s 55)]⟩,
       ⟨(some 6), none, .mv (.s 56)⟩] []
     (.done)) [6] [33, 34, 35, 36, 37, 38, 39, 40, 41, 42, 43, 44, 6, 45, 46, 47, 48, 49, 50, 51, 52, 53, 54, 55, 56, 6]
    (.ops [⟨(some 57), none, .mv (.s 6)⟩,
      ⟨(some 58), none, .bin .eql (.s 57) (.c (V.int .i64 0))⟩]
    (.condJ (.s 58)
    (.ops [⟨(some 59), none, .mv (.s 4)⟩,
       ⟨(some 60), none, .mv (.s 0)⟩,
       ⟨(some 61), none, .mv (.s 5)⟩,
       ⟨(some 62), none, .iaddr none 4 (.s 60) (.s 61)⟩,
       ⟨(some 63), none, .load (some 4) (.s 62)⟩,
       ⟨(some 64), none, .slit ty_palanquinlaw6_Step 1 [(V.int .u64 0), (V.int .u64 0), (V.int .i64 0), (V.bool false)] [(0, 4, (.s 63))]⟩,
       ⟨(some 65), none, .append ty_palanquinlaw6_Step 4 32 (.s 59) (.s 64)⟩,
       ⟨(some 4), none, .mv (.s 65)⟩]
     (.done))
    (.done) [4] [59, 60, 61, 62, 63, 64, 65, 4]
    (.done)))))) [4] [6, 28, 29, 30, 31, 32, 33, 34, 35, 36, 37, 38, 39, 40, 41, 42, 43, 44, 6, 45, 46, 47, 48, 49, 50, 51, 52, 53, 54, 55, 56, 6, 57, 58, 59, 60, 61, 62, 63, 64, 65, 4]
   (.ops [⟨(some 26), none, .mv (.s 5)⟩,
     ⟨(some 27), none, .bin .add (.s 26) (.c (V.int .i64 1))⟩,
     ⟨(some 5), none, .mv (.s 27)⟩]
   (.done)))
  (.exit 0))

def loop_palanquinlaw6_BitsBack_1 : C :=
  .ops [⟨(some 71), none, .mv (.s 8)⟩,
    ⟨(some 72), none, .mv (.s 4)⟩,
    ⟨(some 73), none, .len (.s 72)⟩,
    ⟨(some 74), none, .bin .lss (.s 71) (.s 73)⟩]
  (.cond (.s 74)
  (.blk 3
   (.ops [⟨(some 9), none, .mv (.c (V.int .u64 0))⟩,
      ⟨(some 10), none, .mv (.c (V.int .i64 0))⟩]
    (.ops [⟨(some 77), none, .mv (.s 4)⟩,
      ⟨(some 78), none, .mv (.s 8)⟩,
      ⟨(some 79), none, .iaddr none 4 (.s 77) (.s 78)⟩,
      ⟨(some 80), none, .faddr 3 (.s 79)⟩,
      ⟨(some 81), none, .load none (.s 80)⟩]
    (.condJ (.s 81)
    (.ops [⟨(some 83), none, .mv (.s 7)⟩,
       ⟨(some 84), none, .mv (.s 4)⟩,
       ⟨(some 85), none, .mv (.s 8)⟩,
       ⟨(some 86), none, .iaddr none 4 (.s 84) (.s 85)⟩,
       ⟨(some 87), none, .faddr 1 (.s 86)⟩,
       ⟨(some 88), none, .load none (.s 87)⟩,
       ⟨(some 89), none, .call fn_bits_Reader_TakeNS [(.s 83), (.s 88)]⟩,
       ⟨(some 82), none, .mv (.s 89)⟩,
       ⟨(some 90), none, .ext 0 (.s 82)⟩,
       ⟨(some 91), none, .ext 1 (.s 82)⟩,
       ⟨(some 9), none, .mv (.s 90)⟩,
       ⟨(some 10), none, .mv (.s 91)⟩]
     (.done))
    (.ops [⟨(some 93), none, .mv (.s 7)⟩,
       ⟨(some 94), none, .mv (.s 4)⟩,
       ⟨(some 95), none, .mv (.s 8)⟩,
       ⟨(some 96), none, .iaddr none 4 (.s 94) (.s 95)⟩,
       ⟨(some 97), none, .faddr 2 (.s 96)⟩,
       ⟨(some 98), none, .load none (.s 97)⟩,
       ⟨(some 99), none, .call fn_bits_Reader_Take [(.s 93), (.s 98)]⟩,
       ⟨(some 92), none, .mv (.s 99)⟩,
       ⟨(some 100), none, .ext 0 (.s 92)⟩,
       ⟨(some 101), none, .ext 1 (.s 92)⟩,
       ⟨(some 9), none, .mv (.s 100)⟩,
       ⟨(some 10), none, .mv (.s 101)⟩]
     (.done)) [9, 10] [83, 84, 85, 86, 87, 88, 89, 82, 90, 91, 9, 10, 93, 94, 95, 96, 97, 98, 99, 92, 100, 101, 9, 10]
    (.ops [⟨(some 102), none, .mv (.s 10)⟩,
      ⟨(some 103), none, .bin .neq (.s 102) (.c (V.int .i64 0))⟩,
      ⟨(some 104), none, .mv (.s 103)⟩,
      ⟨(some 105), (some (104, false)), .mv (.s 9)⟩,
      ⟨(some 106), (some (104, false)), .mv (.s 4)⟩,
      ⟨(some 107), (some (104, false)), .mv (.s 8)⟩,
      ⟨(some 108), (some (104, false)), .iaddr none 4 (.s 106) (.s 107)⟩,
      ⟨(some 109), (some (104, false)), .faddr 0 (.s 108)⟩,
      ⟨(some 110), (some (104, false)), .load none (.s 109)⟩,
      ⟨(some 111), (some (104, false)), .bin .neq (.s 105) (.s 110)⟩,
      ⟨(some 112), none, .pick (.s 104) (.c (V.bool true)) (.s 111)⟩]
    (.cond (.s 112)
    (.ops [⟨(some 2), none, .mv (.c (V.bool false))⟩]
     (.ret))
    (.done)))))) [] [9, 10, 77, 78, 79, 80, 81, 83, 84, 85, 86, 87, 88, 89, 82, 90, 91, 9, 10, 93, 94, 95, 96, 97, 98, 99, 92, 100, 101, 9, 10, 102, 103, 104, 105, 106, 107, 108, 109, 110, 111, 112, 2]
   (.ops [⟨(some 75), none, .mv (.s 8)⟩,
     ⟨(some 76), none, .bin .add (.s 75) (.c (V.int .i64 1))⟩,
     ⟨(some 8), none, .mv (.s 76)⟩]
   (.done)))
  (.exit 2))

def ir_palanquinlaw6_BitsBack : Fn' := ⟨121, [.tmp 2],
  .ops [⟨(some 2), none, .mv (.c (V.bool false))⟩]
  (.ops [⟨(some 11), none, .call fn_bits_New []⟩,
    ⟨(some 3), none, .mv (.s 11)⟩]
  (.ops [⟨(some 12), none, .call fn_palanquinlaw6_awake []⟩,
    ⟨(some 13), none, .un .not (.s 12)⟩,
    ⟨(some 14), none, .mv (.s 13)⟩,
    ⟨(some 15), (some (14, false)), .mv (.s 3)⟩,
    ⟨(some 16), (some (14, false)), .eq .ptr false (.s 15) (.c V.nilp)⟩,
    ⟨(some 17), none, .pick (.s 14) (.c (V.bool true)) (.s 16)⟩]
  (.cond (.s 17)
  (.ops [⟨(some 2), none, .mv (.c (V.bool false))⟩]
   (.ret))
  (.ops [⟨(some 4), none, .mv (.c V.nils)⟩]
   (.ops [⟨(some 5), none, .mv (.c (V.int .i64 0))⟩]
   (.blk 0
   (.loop loop_palanquinlaw6_BitsBack_0 [4, 5] [18, 19, 20, 21, 22, 23, 24, 25, 6, 28, 29, 30, 31, 32, 33, 34, 35, 36, 37, 38, 39, 40, 41, 42, 43, 44, 6, 45, 46, 47, 48, 49, 50, 51, 52, 53, 54, 55, 56, 6, 57, 58, 59, 60, 61, 62, 63, 64, 65, 4, 26, 27, 5]) [4] [18, 19, 20, 21, 22, 23, 24, 25, 6, 28, 29, 30, 31, 32, 33, 34, 35, 36, 37, 38, 39, 40, 41, 42, 43, 44, 6, 45, 46, 47, 48, 49, 50, 51, 52, 53, 54, 55, 56, 6, 57, 58, 59, 60, 61, 62, 63, 64, 65, 4, 26, 27, 5]
   (.ops [⟨(some 66), none, .mv (.s 3)⟩,
     ⟨(some 67), none, .call fn_bits_Writer_Bytes [(.s 66)]⟩,
     ⟨(some 68), none, .call fn_bits_Over [(.s 67)]⟩,
     ⟨(some 7), none, .mv (.s 68)⟩]
   (.ops [⟨(some 69), none, .mv (.s 7)⟩,
     ⟨(some 70), none, .eq .ptr false (.s 69) (.c V.nilp)⟩]
   (.cond (.s 70)
   (.ops [⟨(some 2), none, .mv (.c (V.bool false))⟩]
    (.ret))
   (.ops [⟨(some 8), none, .mv (.c (V.int .i64 0))⟩]
    (.blk 2
    (.loop loop_palanquinlaw6_BitsBack_1 [8] [71, 72, 73, 74, 9, 10, 77, 78, 79, 80, 81, 83, 84, 85, 86, 87, 88, 89, 82, 90, 91, 9, 10, 93, 94, 95, 96, 97, 98, 99, 92, 100, 101, 9, 10, 102, 103, 104, 105, 106, 107, 108, 109, 110, 111, 112, 2, 75, 76, 8]) [] [71, 72, 73, 74, 9, 10, 77, 78, 79, 80, 81, 83, 84, 85, 86, 87, 88, 89, 82, 90, 91, 9, 10, 93, 94, 95, 96, 97, 98, 99, 92, 100, 101, 9, 10, 102, 103, 104, 105, 106, 107, 108, 109, 110, 111, 112, 2, 75, 76, 8]
    (.ops [⟨(some 113), none, .mv (.s 7)⟩,
      ⟨(some 114), none, .call fn_bits_Reader_Left [(.s 113)]⟩,
      ⟨(some 115), none, .bin .geq (.s 114) (.c (V.int .i64 0))⟩,
      ⟨(some 116), none, .mv (.s 115)⟩,
      ⟨(some 117), (some (116, true)), .mv (.s 7)⟩,
      ⟨(some 118), (some (116, true)), .call fn_bits_Reader_Left [(.s 117)]⟩,
      ⟨(some 119), (some (116, true)), .bin .lss (.s 118) (.c (V.int .i64 8))⟩,
      ⟨(some 120), none, .pick (.s 116) (.s 119) (.c (V.bool false))⟩,
      ⟨(some 2), none, .mv (.s 120)⟩]
    (.ret)))))))))))))⟩

noncomputable def f_palanquinlaw6_BitsBack_0 (G : Sem') (t3 t0 t2 : V) (L : List V) : M Res :=
  (M.lift (vlen t0)).bind fun t20 =>
  (M.lift (Ax.bin .lss (L.getD 1 .undef) t20)).bind fun t21 =>
  (guarded [(0, t21)] (some (0, true)) (M.pure (L.getD 1 .undef))).bind fun t23 =>
  (guarded [(0, t21)] (some (0, true)) (M.lift (Ax.bin .lss t23 (V.int .i64 60)))).bind fun t24 =>
  (M.lift (Ax.pick t21 t24 (V.bool false))).bind fun t25 =>
  M.ite t25
    (M.blk 1 (
      (M.lift (Ax.iaddr none 4 t0 (L.getD 1 .undef))).bind fun t30 =>
      (M.lift (Ax.faddr 3 t30)).bind fun t31 =>
      (mload none t31).bind fun t32 =>
      M.join (M.ite t32
        ((M.lift (Ax.iaddr none 4 t0 (L.getD 1 .undef))).bind fun t36 =>
        (M.lift (Ax.faddr 0 t36)).bind fun t37 =>
        (mload none t37).bind fun t38 =>
        (M.lift (Ax.iaddr none 4 t0 (L.getD 1 .undef))).bind fun t41 =>
        (M.lift (Ax.faddr 1 t41)).bind fun t42 =>
        (mload none t42).bind fun t43 =>
        (G fn_bits_Writer_AddNS [t3, t38, t43]).bind fun t44 =>
        M.pure (.nrm [t44]))
        ((M.lift (Ax.iaddr none 4 t0 (L.getD 1 .undef))).bind fun t48 =>
        (M.lift (Ax.faddr 0 t48)).bind fun t49 =>
        (mload none t49).bind fun t50 =>
        (M.lift (Ax.iaddr none 4 t0 (L.getD 1 .undef))).bind fun t53 =>
        (M.lift (Ax.faddr 2 t53)).bind fun t54 =>
        (mload none t54).bind fun t55 =>
        (G fn_bits_Writer_Add [t3, t50, t55]).bind fun t56 =>
        M.pure (.nrm [t56]))) fun L0 =>
      (M.lift (Ax.bin .eql (L0.getD 0 .undef) (V.int .i64 0))).bind fun t58 =>
      M.join (M.ite t58
        ((M.lift (Ax.iaddr none 4 t0 (L.getD 1 .undef))).bind fun t62 =>
        (mload (some 4) t62).bind fun t63 =>
        (mslit ty_palanquinlaw6_Step 1 [(V.int .u64 0), (V.int .u64 0), (V.int .i64 0), (V.bool false)] [(0, 4, t63)]).bind fun t64 =>
        (mappend ty_palanquinlaw6_Step 4 32 (L.getD 0 .undef) t64).bind fun t65 =>
        M.pure (.nrm [t65]))
        (M.pure (.nrm [(L.getD 0 .undef)]))) fun L1 =>
      M.pure (.nrm [(L1.getD 0 .undef)])) fun L2 =>
    (M.lift (Ax.bin .add (L.getD 1 .undef) (V.int .i64 1))).bind fun t27 =>
    M.pure (.nrm [(L2.getD 0 .undef), t27]))
    (M.pure (.ex 0 [(L.getD 0 .undef)]))

noncomputable def f_palanquinlaw6_BitsBack_1 (G : Sem') (t7 t4 : V) (L : List V) : M Res :=
  (M.lift (vlen t4)).bind fun t73 =>
  (M.lift (Ax.bin .lss (L.getD 0 .undef) t73)).bind fun t74 =>
  M.ite t74
    (M.blk 3 (
      (M.lift (Ax.iaddr none 4 t4 (L.getD 0 .undef))).bind fun t79 =>
      (M.lift (Ax.faddr 3 t79)).bind fun t80 =>
      (mload none t80).bind fun t81 =>
      M.join (M.ite t81
        ((M.lift (Ax.iaddr none 4 t4 (L.getD 0 .undef))).bind fun t86 =>
        (M.lift (Ax.faddr 1 t86)).bind fun t87 =>
        (mload none t87).bind fun t88 =>
        (G fn_bits_Reader_TakeNS [t7, t88]).bind fun t89 =>
        (M.lift (Ax.ext 0 t89)).bind fun t90 =>
        (M.lift (Ax.ext 1 t89)).bind fun t91 =>
        M.pure (.nrm [t90, t91]))
        ((M.lift (Ax.iaddr none 4 t4 (L.getD 0 .undef))).bind fun t96 =>
        (M.lift (Ax.faddr 2 t96)).bind fun t97 =>
        (mload none t97).bind fun t98 =>
        (G fn_bits_Reader_Take [t7, t98]).bind fun t99 =>
        (M.lift (Ax.ext 0 t99)).bind fun t100 =>
        (M.lift (Ax.ext 1 t99)).bind fun t101 =>
        M.pure (.nrm [t100, t101]))) fun L4 =>
      (M.lift (Ax.bin .neq (L4.getD 1 .undef) (V.int .i64 0))).bind fun t103 =>
      (guarded [(0, t103)] (some (0, false)) (M.pure (L4.getD 0 .undef))).bind fun t105 =>
      (guarded [(0, t103)] (some (0, false)) (M.pure t4)).bind fun t106 =>
      (guarded [(0, t103)] (some (0, false)) (M.pure (L.getD 0 .undef))).bind fun t107 =>
      (guarded [(0, t103)] (some (0, false)) (M.lift (Ax.iaddr none 4 t106 t107))).bind fun t108 =>
      (guarded [(0, t103)] (some (0, false)) (M.lift (Ax.faddr 0 t108))).bind fun t109 =>
      (guarded [(0, t103)] (some (0, false)) (mload none t109)).bind fun t110 =>
      (guarded [(0, t103)] (some (0, false)) (M.lift (Ax.bin .neq t105 t110))).bind fun t111 =>
      (M.lift (Ax.pick t103 (V.bool true) t111)).bind fun t112 =>
      M.ite t112
        (M.pure (.ret [(V.bool false)]))
        (M.pure (.nrm []))) fun _ =>
    (M.lift (Ax.bin .add (L.getD 0 .undef) (V.int .i64 1))).bind fun t76 =>
    M.pure (.nrm [t76]))
    (M.pure (.ex 2 []))

noncomputable def f_palanquinlaw6_BitsBack (G : Sem') (t0 : V) : M Res :=
  (G fn_bits_New []).bind fun t11 =>
  (G fn_palanquinlaw6_awake []).bind fun t12 =>
  (M.lift (Ax.un .not t12)).bind fun t13 =>
  (guarded [(0, t13)] (some (0, false)) (M.pure t11)).bind fun t15 =>
  (guarded [(0, t13)] (some (0, false)) (M.lift (eqr .ptr false t15 V.nilp))).bind fun t16 =>
  (M.lift (Ax.pick t13 (V.bool true) t16)).bind fun t17 =>
  M.ite t17
    (M.pure (.ret [(V.bool false)]))
    (M.blk 0 (
      M.iter (f_palanquinlaw6_BitsBack_0 G t11 t0 (V.bool false)) [V.nils, (V.int .i64 0)]) fun L3 =>
    (G fn_bits_Writer_Bytes [t11]).bind fun t67 =>
    (G fn_bits_Over [t67]).bind fun t68 =>
    (M.lift (eqr .ptr false t68 V.nilp)).bind fun t70 =>
    M.ite t70
      (M.pure (.ret [(V.bool false)]))
      (M.blk 2 (
        M.iter (f_palanquinlaw6_BitsBack_1 G t68 (L3.getD 0 .undef)) [(V.int .i64 0)]) fun _ =>
      (G fn_bits_Reader_Left [t68]).bind fun t114 =>
      (M.lift (Ax.bin .geq t114 (V.int .i64 0))).bind fun t115 =>
      (guarded [(0, t115)] (some (0, true)) (M.pure t68)).bind fun t117 =>
      (guarded [(0, t115)] (some (0, true)) (G fn_bits_Reader_Left [t117])).bind fun t118 =>
      (guarded [(0, t115)] (some (0, true)) (M.lift (Ax.bin .lss t118 (V.int .i64 8)))).bind fun t119 =>
      (M.lift (Ax.pick t115 t119 (V.bool false))).bind fun t120 =>
      M.pure (.ret [t120])))

theorem eq_palanquinlaw6_BitsBack (G : Sem') (t0 : V) : execK G ir_palanquinlaw6_BitsBack.rv ir_palanquinlaw6_BitsBack.body [] [] (params 0 [t0]) = f_palanquinlaw6_BitsBack G t0 := by kernel_rfl

theorem tb_palanquinlaw6_BitsBack : T fn_palanquinlaw6_BitsBack = some ir_palanquinlaw6_BitsBack := by kernel_rfl

theorem ok_palanquinlaw6_BitsBack {t0 : V} {H : Heap} {Q : V → Heap → Prop} (h : Ok (f_palanquinlaw6_BitsBack (sem T) t0) H fun r H' => ∃ L, r = .ret L ∧ Q (tupled L) H') : Ok (sem T fn_palanquinlaw6_BitsBack [t0]) H Q :=
  ok_sem tb_palanquinlaw6_BitsBack (Nat.le_of_ble_eq_true rfl) (eq_palanquinlaw6_BitsBack (sem T) t0) h

end Go.Ax
