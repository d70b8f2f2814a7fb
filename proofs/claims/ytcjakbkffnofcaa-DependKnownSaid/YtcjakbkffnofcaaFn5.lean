/-
  The functions of this seat as plain texts: printed by program (wip/gen/Emit.lean): part 5.
-/
import Derived.Test.YtcjakbkffnofcaaFn0
set_option maxRecDepth 100000
set_option linter.unusedVariables false
namespace Go.Ax
open Go.Proofs

/-- (*palanquin/palanquinref9.reader).layers. -/
def loop_palanquinref9_reader_layers_0 : C :=
  .ops [⟨(some 8), none, .mv (.s 0)⟩,
    ⟨(some 9), none, .nilck (.s 8)⟩,
    ⟨(some 10), none, .faddr 1 (.s 9)⟩,
    ⟨(some 11), none, .load none (.s 10)⟩,
    ⟨(some 12), none, .bin .eql (.s 11) (.c (V.int .i64 0))⟩]
  (.cond (.s 12)
  (.blk 1
   (.ops [⟨(some 13), none, .mv (.s 0)⟩,
      ⟨(some 14), none, .call fn_palanquinref9_reader_n [(.s 13), (.c (V.int .i64 2))]⟩,
      ⟨(some 4), none, .mv (.s 14)⟩]
    (.ops [⟨(some 15), none, .mv (.s 0)⟩,
      ⟨(some 16), none, .nilck (.s 15)⟩,
      ⟨(some 17), none, .faddr 1 (.s 16)⟩,
      ⟨(some 18), none, .load none (.s 17)⟩,
      ⟨(some 19), none, .bin .neq (.s 18) (.c (V.int .i64 0))⟩,
      ⟨(some 20), none, .mv (.s 19)⟩,
      ⟨(some 21), (some (20, false)), .mv (.s 4)⟩,
      ⟨(some 22), (some (20, false)), .bin .eql (.s 21) (.c (V.int .i64 3))⟩,
      ⟨(some 23), none, .pick (.s 20) (.c (V.bool true)) (.s 22)⟩]
    (.cond (.s 23)
    (.ops [⟨(some 24), none, .mv (.s 3)⟩,
       ⟨(some 2), none, .mv (.s 24)⟩]
     (.ret))
    (.draw [⟨(some 25), none, .mv (.s 3)⟩,
       ⟨(some 26), none, .mv (.s 3)⟩,
       ⟨(some 27), none, .len (.s 26)⟩,
       ⟨(some 28), none, .bin .sub (.s 27) (.c (V.int .i64 1))⟩,
       ⟨(some 29), none, .iaddr none 5 (.s 25) (.s 28)⟩,
       ⟨(some 30), none, .faddr 0 (.s 29)⟩,
       ⟨(some 31), none, .load none (.s 30)⟩,
       ⟨(some 32), none, .mv (.s 3)⟩,
       ⟨(some 33), none, .mv (.s 3)⟩,
       ⟨(some 34), none, .len (.s 33)⟩,
       ⟨(some 35), none, .bin .sub (.s 34) (.c (V.int .i64 1))⟩,
       ⟨(some 36), none, .iaddr none 5 (.s 32) (.s 35)⟩,
       ⟨(some 37), none, .faddr 1 (.s 36)⟩,
       ⟨(some 38), none, .load none (.s 37)⟩,
       ⟨(some 39), none, .build [(V.int .i64 0), (V.int .i64 0), V.nils, V.nils, V.nils] [(0, 1, (.s 31)), (1, 1, (.s 38))]⟩,
       ⟨(some 5), none, .box ty_palanquinref9_Template (.c (V.agg [(V.int .i64 0), (V.int .i64 0), V.nils, V.nils, V.nils]))⟩,
       ⟨none, none, .store 5 (.s 5) (.s 39)⟩] []
     (.ops [⟨(some 40), none, .mv (.s 4)⟩,
       ⟨(some 41), none, .bin .eql (.s 40) (.c (V.int .i64 1))⟩]
     (.condJ (.s 41)
     (.ops [⟨(some 42), none, .faddr 1 (.s 5)⟩,
        ⟨(some 43), none, .load none (.s 42)⟩,
        ⟨(some 44), none, .bin .add (.s 43) (.c (V.int .i64 1))⟩,
        ⟨(some 45), none, .faddr 1 (.s 5)⟩,
        ⟨none, none, .store 1 (.s 45) (.s 44)⟩]
      (.done))
     (.done) [] [42, 43, 44, 45]
     (.ops [⟨(some 46), none, .mv (.s 4)⟩,
       ⟨(some 47), none, .bin .eql (.s 46) (.c (V.int .i64 2))⟩]
     (.condJ (.s 47)
     (.ops [⟨(some 48), none, .faddr 0 (.s 5)⟩,
        ⟨(some 49), none, .load none (.s 48)⟩,
        ⟨(some 50), none, .bin .add (.s 49) (.c (V.int .i64 1))⟩,
        ⟨(some 51), none, .faddr 0 (.s 5)⟩,
        ⟨none, none, .store 1 (.s 51) (.s 50)⟩,
        ⟨(some 52), none, .faddr 1 (.s 5)⟩,
        ⟨none, none, .store 1 (.s 52) (.c (V.int .i64 0))⟩]
      (.done))
     (.done) [] [48, 49, 50, 51, 52]
     (.ops [⟨(some 53), none, .mv (.s 3)⟩,
       ⟨(some 54), none, .len (.s 53)⟩,
       ⟨(some 55), none, .bin .eql (.s 54) (.c (V.int .i64 64))⟩,
       ⟨(some 56), none, .mv (.s 55)⟩,
       ⟨(some 57), (some (56, false)), .faddr 0 (.s 5)⟩,
       ⟨(some 58), (some (56, false)), .load none (.s 57)⟩,
       ⟨(some 59), (some (56, false)), .bin .gtr (.s 58) (.c (V.int .i64 3))⟩,
       ⟨(some 60), none, .pick (.s 56) (.c (V.bool true)) (.s 59)⟩,
       ⟨(some 61), none, .mv (.s 60)⟩,
       ⟨(some 62), (some (61, false)), .faddr 1 (.s 5)⟩,
       ⟨(some 63), (some (61, false)), .load none (.s 62)⟩,
       ⟨(some 64), (some (61, false)), .bin .gtr (.s 63) (.c (V.int .i64 7))⟩,
       ⟨(some 65), none, .pick (.s 61) (.c (V.bool true)) (.s 64)⟩]
     (.cond (.s 65)
     (.ops [⟨(some 66), none, .mv (.s 0)⟩,
        ⟨(some 67), none, .call fn_palanquinref9_reader_bad [(.s 66), (.c (V.int .i64 2))]⟩]
      (.ops [⟨(some 68), none, .mv (.s 3)⟩,
        ⟨(some 2), none, .mv (.s 68)⟩]
      (.ret)))
     (.ops [⟨(some 69), none, .mv (.s 3)⟩,
        ⟨(some 70), none, .load (some 5) (.s 5)⟩,
        ⟨(some 71), none, .slit ty_palanquinref9_Template 1 [(V.int .i64 0), (V.int .i64 0), V.nils, V.nils, V.nils] [(0, 5, (.s 70))]⟩,
        ⟨(some 72), none, .append ty_palanquinref9_Template 5 88 (.s 69) (.s 71)⟩,
        ⟨(some 3), none, .mv (.s 72)⟩]
      (.done)))))))))))) [3] [13, 14, 4, 15, 16, 17, 18, 19, 20, 21, 22, 23, 24, 2, 25, 26, 27, 28, 29, 30, 31, 32, 33, 34, 35, 36, 37, 38, 39, 5, 40, 41, 42, 43, 44, 45, 46, 47, 48, 49, 50, 51, 52, 53, 54, 55, 56, 57, 58, 59, 60, 61, 62, 63, 64, 65, 66, 67, 68, 2, 69, 70, 71, 72, 3]
   (.done))
  (.exit 0))

def ir_palanquinref9_reader_layers : Fn' := ⟨74, [.tmp 2],
  .ops [⟨(some 2), none, .mv (.c V.nils)⟩]
  (.ops [⟨(some 6), none, .build [(V.int .i64 0), (V.int .i64 0), V.nils, V.nils, V.nils] []⟩,
    ⟨(some 7), none, .slit ty_palanquinref9_Template 1 [(V.int .i64 0), (V.int .i64 0), V.nils, V.nils, V.nils] [(0, 5, (.s 6))]⟩,
    ⟨(some 3), none, .mv (.s 7)⟩]
  (.blk 0
  (.loop loop_palanquinref9_reader_layers_0 [3] [8, 9, 10, 11, 12, 13, 14, 4, 15, 16, 17, 18, 19, 20, 21, 22, 23, 24, 2, 25, 26, 27, 28, 29, 30, 31, 32, 33, 34, 35, 36, 37, 38, 39, 5, 40, 41, 42, 43, 44, 45, 46, 47, 48, 49, 50, 51, 52, 53, 54, 55, 56, 57, 58, 59, 60, 61, 62, 63, 64, 65, 66, 67, 68, 2, 69, 70, 71, 72, 3]) [3] [8, 9, 10, 11, 12, 13, 14, 4, 15, 16, 17, 18, 19, 20, 21, 22, 23, 24, 2, 25, 26, 27, 28, 29, 30, 31, 32, 33, 34, 35, 36, 37, 38, 39, 5, 40, 41, 42, 43, 44, 45, 46, 47, 48, 49, 50, 51, 52, 53, 54, 55, 56, 57, 58, 59, 60, 61, 62, 63, 64, 65, 66, 67, 68, 2, 69, 70, 71, 72, 3]
  (.ops [⟨(some 73), none, .mv (.s 3)⟩,
    ⟨(some 2), none, .mv (.s 73)⟩]
  (.ret))))⟩

noncomputable def f_palanquinref9_reader_layers_0 (G : Sem') (t0 : V) (L : List V) : M Res :=
  (M.lift (Ax.nilck t0)).bind fun t9 =>
  (M.lift (Ax.faddr 1 t9)).bind fun t10 =>
  (mload none t10).bind fun t11 =>
  (M.lift (Ax.bin .eql t11 (V.int .i64 0))).bind fun t12 =>
  M.ite t12
    (M.blk 1 (
      (G fn_palanquinref9_reader_n [t0, (V.int .i64 2)]).bind fun t14 =>
      (M.lift (Ax.nilck t0)).bind fun t16 =>
      (M.lift (Ax.faddr 1 t16)).bind fun t17 =>
      (mload none t17).bind fun t18 =>
      (M.lift (Ax.bin .neq t18 (V.int .i64 0))).bind fun t19 =>
      (guarded [(0, t19)] (some (0, false)) (M.pure t14)).bind fun t21 =>
      (guarded [(0, t19)] (some (0, false)) (M.lift (Ax.bin .eql t21 (V.int .i64 3)))).bind fun t22 =>
      (M.lift (Ax.pick t19 (V.bool true) t22)).bind fun t23 =>
      M.ite t23
        (M.pure (.ret [(L.getD 0 .undef)]))
        ((M.lift (vlen (L.getD 0 .undef))).bind fun t27 =>
        (M.lift (Ax.bin .sub t27 (V.int .i64 1))).bind fun t28 =>
        (M.lift (Ax.iaddr none 5 (L.getD 0 .undef) t28)).bind fun t29 =>
        (M.lift (Ax.faddr 0 t29)).bind fun t30 =>
        (mload none t30).bind fun t31 =>
        (M.lift (vlen (L.getD 0 .undef))).bind fun t34 =>
        (M.lift (Ax.bin .sub t34 (V.int .i64 1))).bind fun t35 =>
        (M.lift (Ax.iaddr none 5 (L.getD 0 .undef) t35)).bind fun t36 =>
        (M.lift (Ax.faddr 1 t36)).bind fun t37 =>
        (mload none t37).bind fun t38 =>
        (M.lift (Ax.build [(V.int .i64 0), (V.int .i64 0), V.nils, V.nils, V.nils] [(0, 1, t31), (1, 1, t38)])).bind fun t39 =>
        (mbox ty_palanquinref9_Template (V.agg [(V.int .i64 0), (V.int .i64 0), V.nils, V.nils, V.nils])).bind fun t5 =>
        (mstore 5 t5 t39).bind fun _ =>
        (M.lift (Ax.bin .eql t14 (V.int .i64 1))).bind fun t41 =>
        M.join (M.ite t41
          ((M.lift (Ax.faddr 1 t5)).bind fun t42 =>
          (mload none t42).bind fun t43 =>
          (M.lift (Ax.bin .add t43 (V.int .i64 1))).bind fun t44 =>
          (M.lift (Ax.faddr 1 t5)).bind fun t45 =>
          (mstore 1 t45 t44).bind fun _ =>
          M.pure (.nrm []))
          (M.pure (.nrm []))) fun _ =>
        (M.lift (Ax.bin .eql t14 (V.int .i64 2))).bind fun t47 =>
        M.join (M.ite t47
          ((M.lift (Ax.faddr 0 t5)).bind fun t48 =>
          (mload none t48).bind fun t49 =>
          (M.lift (Ax.bin .add t49 (V.int .i64 1))).bind fun t50 =>
          (M.lift (Ax.faddr 0 t5)).bind fun t51 =>
          (mstore 1 t51 t50).bind fun _ =>
          (M.lift (Ax.faddr 1 t5)).bind fun t52 =>
          (mstore 1 t52 (V.int .i64 0)).bind fun _ =>
          M.pure (.nrm []))
          (M.pure (.nrm []))) fun _ =>
        (M.lift (vlen (L.getD 0 .undef))).bind fun t54 =>
        (M.lift (Ax.bin .eql t54 (V.int .i64 64))).bind fun t55 =>
        (guarded [(0, t55)] (some (0, false)) (M.lift (Ax.faddr 0 t5))).bind fun t57 =>
        (guarded [(0, t55)] (some (0, false)) (mload none t57)).bind fun t58 =>
        (guarded [(0, t55)] (some (0, false)) (M.lift (Ax.bin .gtr t58 (V.int .i64 3)))).bind fun t59 =>
        (M.lift (Ax.pick t55 (V.bool true) t59)).bind fun t60 =>
        (guarded [(0, t60)] (some (0, false)) (M.lift (Ax.faddr 1 t5))).bind fun t62 =>
        (guarded [(0, t60)] (some (0, false)) (mload none t62)).bind fun t63 =>
        (guarded [(0, t60)] (some (0, false)) (M.lift (Ax.bin .gtr t63 (V.int .i64 7)))).bind fun t64 =>
        (M.lift (Ax.pick t60 (V.bool true) t64)).bind fun t65 =>
        M.ite t65
          ((G fn_palanquinref9_reader_bad [t0, (V.int .i64 2)]).bind fun t67 =>
          M.pure (.ret [(L.getD 0 .undef)]))
          ((mload (some 5) t5).bind fun t70 =>
          (mslit ty_palanquinref9_Template 1 [(V.int .i64 0), (V.int .i64 0), V.nils, V.nils, V.nils] [(0, 5, t70)]).bind fun t71 =>
          (mappend ty_palanquinref9_Template 5 88 (L.getD 0 .undef) t71).bind fun t72 =>
          M.pure (.nrm [t72])))) fun L2 =>
    M.pure (.nrm [(L2.getD 0 .undef)]))
    (M.pure (.ex 0 [(L.getD 0 .undef)]))

noncomputable def f_palanquinref9_reader_layers (G : Sem') (t0 : V) : M Res :=
  (M.lift (Ax.build [(V.int .i64 0), (V.int .i64 0), V.nils, V.nils, V.nils] [])).bind fun t6 =>
  (mslit ty_palanquinref9_Template 1 [(V.int .i64 0), (V.int .i64 0), V.nils, V.nils, V.nils] [(0, 5, t6)]).bind fun t7 =>
  M.blk 0 (
    M.iter (f_palanquinref9_reader_layers_0 G t0) [t7]) fun L3 =>
  M.pure (.ret [(L3.getD 0 .undef)])

theorem eq_palanquinref9_reader_layers (G : Sem') (t0 : V) : execK G ir_palanquinref9_reader_layers.rv ir_palanquinref9_reader_layers.body [] [] (params 0 [t0]) = f_palanquinref9_reader_layers G t0 := by kernel_rfl

theorem tb_palanquinref9_reader_layers : T fn_palanquinref9_reader_layers = some ir_palanquinref9_reader_layers := by kernel_rfl

theorem ok_palanquinref9_reader_layers {t0 : V} {H : Heap} {Q : V → Heap → Prop} (h : Ok (f_palanquinref9_reader_layers (sem T) t0) H fun r H' => ∃ L, r = .ret L ∧ Q (tupled L) H') : Ok (sem T fn_palanquinref9_reader_layers [t0]) H Q :=
  ok_sem tb_palanquinref9_reader_layers (Nat.le_of_ble_eq_true rfl) (eq_palanquinref9_reader_layers (sem T) t0) h

/-- (*palanquin/palanquinref9.reader).bad. -/
def ir_palanquinref9_reader_bad : Fn' := ⟨13, [],
  .ops [⟨(some 4), none, .mv (.s 0)⟩,
    ⟨(some 5), none, .nilck (.s 4)⟩,
    ⟨(some 6), none, .faddr 1 (.s 5)⟩,
    ⟨(some 7), none, .load none (.s 6)⟩,
    ⟨(some 8), none, .bin .eql (.s 7) (.c (V.int .i64 0))⟩]
  (.condJ (.s 8)
  (.ops [⟨(some 9), none, .mv (.s 0)⟩,
     ⟨(some 10), none, .mv (.s 1)⟩,
     ⟨(some 11), none, .nilck (.s 9)⟩,
     ⟨(some 12), none, .faddr 1 (.s 11)⟩,
     ⟨none, none, .store 1 (.s 12) (.s 10)⟩]
   (.done))
  (.done) [] [9, 10, 11, 12]
  (.ret))⟩

noncomputable def f_palanquinref9_reader_bad (G : Sem') (t0 t1 : V) : M Res :=
  (M.lift (Ax.nilck t0)).bind fun t5 =>
  (M.lift (Ax.faddr 1 t5)).bind fun t6 =>
  (mload none t6).bind fun t7 =>
  (M.lift (Ax.bin .eql t7 (V.int .i64 0))).bind fun t8 =>
  M.join (M.ite t8
    ((M.lift (Ax.nilck t0)).bind fun t11 =>
    (M.lift (Ax.faddr 1 t11)).bind fun t12 =>
    (mstore 1 t12 t1).bind fun _ =>
    M.pure (.nrm []))
    (M.pure (.nrm []))) fun _ =>
  M.pure (.ret [])

theorem eq_palanquinref9_reader_bad (G : Sem') (t0 t1 : V) : execK G ir_palanquinref9_reader_bad.rv ir_palanquinref9_reader_bad.body [] [] (params 0 [t0, t1]) = f_palanquinref9_reader_bad G t0 t1 := by kernel_rfl

theorem tb_palanquinref9_reader_bad : T fn_palanquinref9_reader_bad = some ir_palanquinref9_reader_bad := by kernel_rfl

theorem ok_palanquinref9_reader_bad {t0 t1 : V} {H : Heap} {Q : V → Heap → Prop} (h : Ok (f_palanquinref9_reader_bad (sem T) t0 t1) H fun r H' => ∃ L, r = .ret L ∧ Q (tupled L) H') : Ok (sem T fn_palanquinref9_reader_bad [t0, t1]) H Q :=
  ok_sem tb_palanquinref9_reader_bad (Nat.le_of_ble_eq_true rfl) (eq_palanquinref9_reader_bad (sem T) t0 t1) h

/-- (*palanquin/palanquinref9.reader).ns. -/
def ir_palanquinref9_reader_ns : Fn' := ⟨28, [.tmp 4],
  .ops [⟨(some 4), none, .mv (.c (V.int .i64 0))⟩]
  (.ops [⟨(some 7), none, .mv (.s 0)⟩,
    ⟨(some 8), none, .nilck (.s 7)⟩,
    ⟨(some 9), none, .faddr 1 (.s 8)⟩,
    ⟨(some 10), none, .load none (.s 9)⟩,
    ⟨(some 11), none, .bin .neq (.s 10) (.c (V.int .i64 0))⟩]
  (.cond (.s 11)
  (.ops [⟨(some 4), none, .mv (.c (V.int .i64 0))⟩]
   (.ret))
  (.ops [⟨(some 13), none, .mv (.s 0)⟩,
     ⟨(some 14), none, .nilck (.s 13)⟩,
     ⟨(some 15), none, .faddr 0 (.s 14)⟩,
     ⟨(some 16), none, .load none (.s 15)⟩,
     ⟨(some 17), none, .mv (.s 1)⟩,
     ⟨(some 18), none, .cint .u64 (.s 17)⟩,
     ⟨(some 19), none, .call fn_palanquinref6_Reader_TakeNS [(.s 16), (.s 18)]⟩,
     ⟨(some 12), none, .mv (.s 19)⟩,
     ⟨(some 20), none, .ext 0 (.s 12)⟩,
     ⟨(some 21), none, .ext 1 (.s 12)⟩,
     ⟨(some 5), none, .mv (.s 20)⟩,
     ⟨(some 6), none, .mv (.s 21)⟩]
   (.ops [⟨(some 22), none, .mv (.s 0)⟩,
     ⟨(some 23), none, .mv (.s 6)⟩,
     ⟨(some 24), none, .nilck (.s 22)⟩,
     ⟨(some 25), none, .faddr 1 (.s 24)⟩,
     ⟨none, none, .store 1 (.s 25) (.s 23)⟩]
   (.ops [⟨(some 26), none, .mv (.s 5)⟩,
     ⟨(some 27), none, .cint .i64 (.s 26)⟩,
     ⟨(some 4), none, .mv (.s 27)⟩]
   (.ret))))))⟩

noncomputable def f_palanquinref9_reader_ns (G : Sem') (t0 t1 : V) : M Res :=
  (M.lift (Ax.nilck t0)).bind fun t8 =>
  (M.lift (Ax.faddr 1 t8)).bind fun t9 =>
  (mload none t9).bind fun t10 =>
  (M.lift (Ax.bin .neq t10 (V.int .i64 0))).bind fun t11 =>
  M.ite t11
    (M.pure (.ret [(V.int .i64 0)]))
    ((M.lift (Ax.nilck t0)).bind fun t14 =>
    (M.lift (Ax.faddr 0 t14)).bind fun t15 =>
    (mload none t15).bind fun t16 =>
    (M.lift (Ax.cint .u64 t1)).bind fun t18 =>
    (G fn_palanquinref6_Reader_TakeNS [t16, t18]).bind fun t19 =>
    (M.lift (Ax.ext 0 t19)).bind fun t20 =>
    (M.lift (Ax.ext 1 t19)).bind fun t21 =>
    (M.lift (Ax.nilck t0)).bind fun t24 =>
    (M.lift (Ax.faddr 1 t24)).bind fun t25 =>
    (mstore 1 t25 t21).bind fun _ =>
    (M.lift (Ax.cint .i64 t20)).bind fun t27 =>
    M.pure (.ret [t27]))

theorem eq_palanquinref9_reader_ns (G : Sem') (t0 t1 : V) : execK G ir_palanquinref9_reader_ns.rv ir_palanquinref9_reader_ns.body [] [] (params 0 [t0, t1]) = f_palanquinref9_reader_ns G t0 t1 := by kernel_rfl

theorem tb_palanquinref9_reader_ns : T fn_palanquinref9_reader_ns = some ir_palanquinref9_reader_ns := by kernel_rfl

theorem ok_palanquinref9_reader_ns {t0 t1 : V} {H : Heap} {Q : V → Heap → Prop} (h : Ok (f_palanquinref9_reader_ns (sem T) t0 t1) H fun r H' => ∃ L, r = .ret L ∧ Q (tupled L) H') : Ok (sem T fn_palanquinref9_reader_ns [t0, t1]) H Q :=
  ok_sem tb_palanquinref9_reader_ns (Nat.le_of_ble_eq_true rfl) (eq_palanquinref9_reader_ns (sem T) t0 t1) h

/-- (*palanquin/palanquinref9.reader).own. -/
def loop_palanquinref9_reader_own_0 : C :=
  .ops [⟨(some 39), none, .mv (.s 8)⟩,
    ⟨(some 40), none, .faddr 1 (.s 7)⟩,
    ⟨(some 41), none, .load none (.s 40)⟩,
    ⟨(some 42), none, .bin .lss (.s 39) (.s 41)⟩]
  (.cond (.s 42)
  (.blk 1
   (.draw [⟨(some 45), none, .mv (.s 1)⟩,
      ⟨(some 46), none, .mv (.s 1)⟩,
      ⟨(some 47), none, .nilck (.s 46)⟩,
      ⟨(some 48), none, .faddr 16 (.s 47)⟩,
      ⟨(some 49), none, .load none (.s 48)⟩,
      ⟨(some 50), none, .mv (.s 0)⟩,
      ⟨(some 51), none, .call fn_palanquinref9_reader_n [(.s 50), (.c (V.int .i64 2))]⟩,
      ⟨(some 52), none, .slit ty_int 1 [(V.int .i64 0)] [(0, 1, (.s 51))]⟩,
      ⟨(some 53), none, .append ty_int 1 8 (.s 49) (.s 52)⟩,
      ⟨(some 54), none, .nilck (.s 45)⟩,
      ⟨(some 55), none, .faddr 16 (.s 54)⟩,
      ⟨none, none, .store 1 (.s 55) (.s 53)⟩] [(4, 6)]
    (.done)) [] [45, 46, 47, 48, 49, 50, 51, 52, 53, 54, 55]
   (.ops [⟨(some 43), none, .mv (.s 8)⟩,
     ⟨(some 44), none, .bin .add (.s 43) (.c (V.int .i64 1))⟩,
     ⟨(some 8), none, .mv (.s 44)⟩]
   (.done)))
  (.exit 0))

def loop_palanquinref9_reader_own_1 : C :=
  .ops [⟨(some 65), none, .mv (.s 9)⟩,
    ⟨(some 66), none, .bin .gtr (.s 65) (.c (V.int .i64 0))⟩]
  (.cond (.s 66)
  (.blk 3
   (.ops [⟨(some 69), none, .mv (.s 1)⟩,
      ⟨(some 70), none, .nilck (.s 69)⟩,
      ⟨(some 71), none, .faddr 17 (.s 70)⟩,
      ⟨(some 72), none, .load none (.s 71)⟩,
      ⟨(some 73), none, .len (.s 72)⟩,
      ⟨(some 74), none, .bin .eql (.s 73) (.c (V.int .i64 16))⟩]
    (.cond (.s 74)
    (.ops [⟨(some 75), none, .mv (.s 0)⟩,
       ⟨(some 76), none, .call fn_palanquinref9_reader_bad [(.s 75), (.c (V.int .i64 4))]⟩]
     (.ret))
    (.draw [⟨(some 77), none, .mv (.s 1)⟩,
       ⟨(some 78), none, .mv (.s 1)⟩,
       ⟨(some 79), none, .nilck (.s 78)⟩,
       ⟨(some 80), none, .faddr 17 (.s 79)⟩,
       ⟨(some 81), none, .load none (.s 80)⟩,
       ⟨(some 82), none, .mv (.s 0)⟩,
       ⟨(some 83), none, .mv (.s 9)⟩,
       ⟨(some 84), none, .bin .mul (.c (V.int .i64 4)) (.s 83)⟩,
       ⟨(some 85), none, .call fn_palanquinref9_reader_n [(.s 82), (.s 84)]⟩,
       ⟨(some 86), none, .bin .add (.s 85) (.c (V.int .i64 1))⟩,
       ⟨(some 87), none, .slit ty_int 1 [(V.int .i64 0)] [(0, 1, (.s 86))]⟩,
       ⟨(some 88), none, .append ty_int 1 8 (.s 81) (.s 87)⟩,
       ⟨(some 89), none, .nilck (.s 77)⟩,
       ⟨(some 90), none, .faddr 17 (.s 89)⟩,
       ⟨none, none, .store 1 (.s 90) (.s 88)⟩] [(4, 8)]
     (.done)))) [] [69, 70, 71, 72, 73, 74, 75, 76, 77, 78, 79, 80, 81, 82, 83, 84, 85, 86, 87, 88, 89, 90]
   (.ops [⟨(some 67), none, .mv (.s 0)⟩,
     ⟨(some 68), none, .call fn_palanquinref9_reader_n [(.s 67), (.c (V.int .i64 2))]⟩,
     ⟨(some 9), none, .mv (.s 68)⟩]
   (.done)))
  (.exit 2))

def loop_palanquinref9_reader_own_2 : C :=
  .ops [⟨(some 98), none, .mv (.s 10)⟩,
    ⟨(some 99), none, .faddr 3 (.s 7)⟩,
    ⟨(some 100), none, .load none (.s 99)⟩,
    ⟨(some 101), none, .bin .lss (.s 98) (.s 100)⟩]
  (.cond (.s 101)
  (.blk 5
   (.draw [⟨(some 104), none, .mv (.s 1)⟩,
      ⟨(some 105), none, .mv (.s 1)⟩,
      ⟨(some 106), none, .nilck (.s 105)⟩,
      ⟨(some 107), none, .faddr 18 (.s 106)⟩,
      ⟨(some 108), none, .load none (.s 107)⟩,
      ⟨(some 109), none, .mv (.s 0)⟩,
      ⟨(some 110), none, .call fn_palanquinref9_reader_n [(.s 109), (.c (V.int .i64 8))]⟩,
      ⟨(some 111), none, .slit ty_int 1 [(V.int .i64 0)] [(0, 1, (.s 110))]⟩,
      ⟨(some 112), none, .append ty_int 1 8 (.s 108) (.s 111)⟩,
      ⟨(some 113), none, .nilck (.s 104)⟩,
      ⟨(some 114), none, .faddr 18 (.s 113)⟩,
      ⟨none, none, .store 1 (.s 114) (.s 112)⟩] [(4, 6)]
    (.done)) [] [104, 105, 106, 107, 108, 109, 110, 111, 112, 113, 114]
   (.ops [⟨(some 102), none, .mv (.s 10)⟩,
     ⟨(some 103), none, .bin .add (.s 102) (.c (V.int .i64 1))⟩,
     ⟨(some 10), none, .mv (.s 103)⟩]
   (.done)))
  (.exit 4))

def ir_palanquinref9_reader_own : Fn' := ⟨115, [],
  .ops [⟨(some 6), none, .box ty_palanquinref9_Template (.s 2)⟩,
    ⟨(some 7), none, .box ty_palanquinref9_Structure (.s 3)⟩]
  (.draw [⟨(some 11), none, .mv (.s 1)⟩,
    ⟨(some 12), none, .mv (.s 1)⟩,
    ⟨(some 13), none, .mv (.s 1)⟩,
    ⟨(some 15), none, .faddr 2 (.s 6)⟩,
    ⟨(some 16), none, .load none (.s 15)⟩,
    ⟨(some 19), none, .faddr 3 (.s 6)⟩,
    ⟨(some 20), none, .load none (.s 19)⟩,
    ⟨(some 23), none, .faddr 4 (.s 6)⟩,
    ⟨(some 24), none, .load none (.s 23)⟩,
    ⟨(some 14), none, .slit ty_int 0 [(V.int .i64 0)] []⟩,
    ⟨(some 17), none, .append ty_int 1 8 (.s 14) (.s 16)⟩,
    ⟨(some 18), none, .slit ty_int 0 [(V.int .i64 0)] []⟩,
    ⟨(some 21), none, .append ty_int 1 8 (.s 18) (.s 20)⟩,
    ⟨(some 22), none, .slit ty_int 0 [(V.int .i64 0)] []⟩,
    ⟨(some 25), none, .append ty_int 1 8 (.s 22) (.s 24)⟩,
    ⟨(some 26), none, .nilck (.s 11)⟩,
    ⟨(some 27), none, .faddr 16 (.s 26)⟩,
    ⟨none, none, .store 1 (.s 27) (.s 17)⟩,
    ⟨(some 28), none, .nilck (.s 12)⟩,
    ⟨(some 29), none, .faddr 17 (.s 28)⟩,
    ⟨none, none, .store 1 (.s 29) (.s 21)⟩,
    ⟨(some 30), none, .nilck (.s 13)⟩,
    ⟨(some 31), none, .faddr 18 (.s 30)⟩,
    ⟨none, none, .store 1 (.s 31) (.s 25)⟩] [(6, 10), (8, 10), (8, 12)]
  (.ops [⟨(some 32), none, .mv (.s 1)⟩,
    ⟨(some 33), none, .nilck (.s 32)⟩,
    ⟨(some 34), none, .faddr 13 (.s 33)⟩,
    ⟨(some 35), none, .load none (.s 34)⟩]
  (.condJ (.s 35)
  (.ops [⟨(some 36), none, .mv (.s 1)⟩,
     ⟨(some 37), none, .nilck (.s 36)⟩,
     ⟨(some 38), none, .faddr 16 (.s 37)⟩,
     ⟨none, none, .store 1 (.s 38) (.c V.nils)⟩]
   (.ops [⟨(some 8), none, .mv (.c (V.int .i64 0))⟩]
   (.blk 0
   (.loop loop_palanquinref9_reader_own_0 [8] [39, 40, 41, 42, 45, 46, 47, 48, 49, 50, 51, 52, 53, 54, 55, 43, 44, 8]) [] [39, 40, 41, 42, 45, 46, 47, 48, 49, 50, 51, 52, 53, 54, 55, 43, 44, 8]
   (.done))))
  (.done) [] [36, 37, 38, 8, 39, 40, 41, 42, 45, 46, 47, 48, 49, 50, 51, 52, 53, 54, 55, 43, 44, 8]
  (.ops [⟨(some 56), none, .mv (.s 1)⟩,
    ⟨(some 57), none, .nilck (.s 56)⟩,
    ⟨(some 58), none, .faddr 14 (.s 57)⟩,
    ⟨(some 59), none, .load none (.s 58)⟩]
  (.condJ (.s 59)
  (.ops [⟨(some 60), none, .mv (.s 1)⟩,
     ⟨(some 61), none, .nilck (.s 60)⟩,
     ⟨(some 62), none, .faddr 17 (.s 61)⟩,
     ⟨none, none, .store 1 (.s 62) (.c V.nils)⟩]
   (.ops [⟨(some 63), none, .mv (.s 0)⟩,
     ⟨(some 64), none, .call fn_palanquinref9_reader_n [(.s 63), (.c (V.int .i64 2))]⟩,
     ⟨(some 9), none, .mv (.s 64)⟩]
   (.blk 2
   (.loop loop_palanquinref9_reader_own_1 [9] [65, 66, 69, 70, 71, 72, 73, 74, 75, 76, 77, 78, 79, 80, 81, 82, 83, 84, 85, 86, 87, 88, 89, 90, 67, 68, 9]) [] [65, 66, 69, 70, 71, 72, 73, 74, 75, 76, 77, 78, 79, 80, 81, 82, 83, 84, 85, 86, 87, 88, 89, 90, 67, 68, 9]
   (.done))))
  (.done) [] [60, 61, 62, 63, 64, 9, 65, 66, 69, 70, 71, 72, 73, 74, 75, 76, 77, 78, 79, 80, 81, 82, 83, 84, 85, 86, 87, 88, 89, 90, 67, 68, 9]
  (.ops [⟨(some 91), none, .mv (.s 1)⟩,
    ⟨(some 92), none, .nilck (.s 91)⟩,
    ⟨(some 93), none, .faddr 15 (.s 92)⟩,
    ⟨(some 94), none, .load none (.s 93)⟩]
  (.condJ (.s 94)
  (.ops [⟨(some 95), none, .mv (.s 1)⟩,
     ⟨(some 96), none, .nilck (.s 95)⟩,
     ⟨(some 97), none, .faddr 18 (.s 96)⟩,
     ⟨none, none, .store 1 (.s 97) (.c V.nils)⟩]
   (.ops [⟨(some 10), none, .mv (.c (V.int .i64 0))⟩]
   (.blk 4
   (.loop loop_palanquinref9_reader_own_2 [10] [98, 99, 100, 101, 104, 105, 106, 107, 108, 109, 110, 111, 112, 113, 114, 102, 103, 10]) [] [98, 99, 100, 101, 104, 105, 106, 107, 108, 109, 110, 111, 112, 113, 114, 102, 103, 10]
   (.done))))
  (.done) [] [95, 96, 97, 10, 98, 99, 100, 101, 104, 105, 106, 107, 108, 109, 110, 111, 112, 113, 114, 102, 103, 10]
  (.ret))))))))⟩

noncomputable def f_palanquinref9_reader_own_0 (G : Sem') (t7 t1 t0 : V) (L : List V) : M Res :=
  (M.lift (Ax.faddr 1 t7)).bind fun t40 =>
  (mload none t40).bind fun t41 =>
  (M.lift (Ax.bin .lss (L.getD 0 .undef) t41)).bind fun t42 =>
  M.ite t42
    (M.blk 1 (
      (M.lift (Ax.nilck t1)).bind fun t47 =>
      (M.lift (Ax.faddr 16 t47)).bind fun t48 =>
      (mload none t48).bind fun t49 =>
      M.getH.bind fun h2 =>
      (G fn_palanquinref9_reader_n [t0, (V.int .i64 2)]).bind fun t51 =>
      M.getH.bind fun h2' =>
      (M.unch t48 h2 h2').bind fun _ =>
      (mslit ty_int 1 [(V.int .i64 0)] [(0, 1, t51)]).bind fun t52 =>
      (mappend ty_int 1 8 t49 t52).bind fun t53 =>
      (M.lift (Ax.nilck t1)).bind fun t54 =>
      (M.lift (Ax.faddr 16 t54)).bind fun t55 =>
      (mstore 1 t55 t53).bind fun _ =>
      M.pure (.nrm [])) fun _ =>
    (M.lift (Ax.bin .add (L.getD 0 .undef) (V.int .i64 1))).bind fun t44 =>
    M.pure (.nrm [t44]))
    (M.pure (.ex 0 []))

noncomputable def f_palanquinref9_reader_own_1 (G : Sem') (t1 t0 : V) (L : List V) : M Res :=
  (M.lift (Ax.bin .gtr (L.getD 0 .undef) (V.int .i64 0))).bind fun t66 =>
  M.ite t66
    (M.blk 3 (
      (M.lift (Ax.nilck t1)).bind fun t70 =>
      (M.lift (Ax.faddr 17 t70)).bind fun t71 =>
      (mload none t71).bind fun t72 =>
      (M.lift (vlen t72)).bind fun t73 =>
      (M.lift (Ax.bin .eql t73 (V.int .i64 16))).bind fun t74 =>
      M.ite t74
        ((G fn_palanquinref9_reader_bad [t0, (V.int .i64 4)]).bind fun t76 =>
        M.pure (.ret []))
        ((M.lift (Ax.nilck t1)).bind fun t79 =>
        (M.lift (Ax.faddr 17 t79)).bind fun t80 =>
        (mload none t80).bind fun t81 =>
        (M.lift (Ax.bin .mul (V.int .i64 4) (L.getD 0 .undef))).bind fun t84 =>
        M.getH.bind fun h3 =>
        (G fn_palanquinref9_reader_n [t0, t84]).bind fun t85 =>
        M.getH.bind fun h3' =>
        (M.unch t80 h3 h3').bind fun _ =>
        (M.lift (Ax.bin .add t85 (V.int .i64 1))).bind fun t86 =>
        (mslit ty_int 1 [(V.int .i64 0)] [(0, 1, t86)]).bind fun t87 =>
        (mappend ty_int 1 8 t81 t87).bind fun t88 =>
        (M.lift (Ax.nilck t1)).bind fun t89 =>
        (M.lift (Ax.faddr 17 t89)).bind fun t90 =>
        (mstore 1 t90 t88).bind fun _ =>
        M.pure (.nrm []))) fun _ =>
    (G fn_palanquinref9_reader_n [t0, (V.int .i64 2)]).bind fun t68 =>
    M.pure (.nrm [t68]))
    (M.pure (.ex 2 []))

noncomputable def f_palanquinref9_reader_own_2 (G : Sem') (t7 t1 t0 : V) (L : List V) : M Res :=
  (M.lift (Ax.faddr 3 t7)).bind fun t99 =>
  (mload none t99).bind fun t100 =>
  (M.lift (Ax.bin .lss (L.getD 0 .undef) t100)).bind fun t101 =>
  M.ite t101
    (M.blk 5 (
      (M.lift (Ax.nilck t1)).bind fun t106 =>
      (M.lift (Ax.faddr 18 t106)).bind fun t107 =>
      (mload none t107).bind fun t108 =>
      M.getH.bind fun h4 =>
      (G fn_palanquinref9_reader_n [t0, (V.int .i64 8)]).bind fun t110 =>
      M.getH.bind fun h4' =>
      (M.unch t107 h4 h4').bind fun _ =>
      (mslit ty_int 1 [(V.int .i64 0)] [(0, 1, t110)]).bind fun t111 =>
      (mappend ty_int 1 8 t108 t111).bind fun t112 =>
      (M.lift (Ax.nilck t1)).bind fun t113 =>
      (M.lift (Ax.faddr 18 t113)).bind fun t114 =>
      (mstore 1 t114 t112).bind fun _ =>
      M.pure (.nrm [])) fun _ =>
    (M.lift (Ax.bin .add (L.getD 0 .undef) (V.int .i64 1))).bind fun t103 =>
    M.pure (.nrm [t103]))
    (M.pure (.ex 4 []))

noncomputable def f_palanquinref9_reader_own (G : Sem') (t0 t1 t2 t3 : V) : M Res :=
  (mbox ty_palanquinref9_Template t2).bind fun t6 =>
  (mbox ty_palanquinref9_Structure t3).bind fun t7 =>
  (M.lift (Ax.faddr 2 t6)).bind fun t15 =>
  (mload none t15).bind fun t16 =>
  (M.lift (Ax.faddr 3 t6)).bind fun t19 =>
  (mload none t19).bind fun t20 =>
  (M.lift (Ax.faddr 4 t6)).bind fun t23 =>
  (mload none t23).bind fun t24 =>
  (mslit ty_int 0 [(V.int .i64 0)] []).bind fun t14 =>
  M.getH.bind fun h0 =>
  (mappend ty_int 1 8 t14 t16).bind fun t17 =>
  M.getH.bind fun h0' =>
  (M.unch t23 h0 h0').bind fun _ =>
  (M.unch t19 h0 h0').bind fun _ =>
  (mslit ty_int 0 [(V.int .i64 0)] []).bind fun t18 =>
  M.getH.bind fun h1 =>
  (mappend ty_int 1 8 t18 t20).bind fun t21 =>
  M.getH.bind fun h1' =>
  (M.unch t23 h1 h1').bind fun _ =>
  (mslit ty_int 0 [(V.int .i64 0)] []).bind fun t22 =>
  (mappend ty_int 1 8 t22 t24).bind fun t25 =>
  (M.lift (Ax.nilck t1)).bind fun t26 =>
  (M.lift (Ax.faddr 16 t26)).bind fun t27 =>
  (mstore 1 t27 t17).bind fun _ =>
  (M.lift (Ax.nilck t1)).bind fun t28 =>
  (M.lift (Ax.faddr 17 t28)).bind fun t29 =>
  (mstore 1 t29 t21).bind fun _ =>
  (M.lift (Ax.nilck t1)).bind fun t30 =>
  (M.lift (Ax.faddr 18 t30)).bind fun t31 =>
  (mstore 1 t31 t25).bind fun _ =>
  (M.lift (Ax.nilck t1)).bind fun t33 =>
  (M.lift (Ax.faddr 13 t33)).bind fun t34 =>
  (mload none t34).bind fun t35 =>
  M.join (M.ite t35
    ((M.lift (Ax.nilck t1)).bind fun t37 =>
    (M.lift (Ax.faddr 16 t37)).bind fun t38 =>
    (mstore 1 t38 V.nils).bind fun _ =>
    M.blk 0 (
      M.iter (f_palanquinref9_reader_own_0 G t7 t1 t0) [(V.int .i64 0)]) fun _ =>
    M.pure (.nrm []))
    (M.pure (.nrm []))) fun _ =>
  (M.lift (Ax.nilck t1)).bind fun t57 =>
  (M.lift (Ax.faddr 14 t57)).bind fun t58 =>
  (mload none t58).bind fun t59 =>
  M.join (M.ite t59
    ((M.lift (Ax.nilck t1)).bind fun t61 =>
    (M.lift (Ax.faddr 17 t61)).bind fun t62 =>
    (mstore 1 t62 V.nils).bind fun _ =>
    (G fn_palanquinref9_reader_n [t0, (V.int .i64 2)]).bind fun t64 =>
    M.blk 2 (
      M.iter (f_palanquinref9_reader_own_1 G t1 t0) [t64]) fun _ =>
    M.pure (.nrm []))
    (M.pure (.nrm []))) fun _ =>
  (M.lift (Ax.nilck t1)).bind fun t92 =>
  (M.lift (Ax.faddr 15 t92)).bind fun t93 =>
  (mload none t93).bind fun t94 =>
  M.join (M.ite t94
    ((M.lift (Ax.nilck t1)).bind fun t96 =>
    (M.lift (Ax.faddr 18 t96)).bind fun t97 =>
    (mstore 1 t97 V.nils).bind fun _ =>
    M.blk 4 (
      M.iter (f_palanquinref9_reader_own_2 G t7 t1 t0) [(V.int .i64 0)]) fun _ =>
    M.pure (.nrm []))
    (M.pure (.nrm []))) fun _ =>
  M.pure (.ret [])

theorem eq_palanquinref9_reader_own (G : Sem') (t0 t1 t2 t3 : V) : execK G ir_palanquinref9_reader_own.rv ir_palanquinref9_reader_own.body [] [] (params 0 [t0, t1, t2, t3]) = f_palanquinref9_reader_own G t0 t1 t2 t3 := by kernel_rfl

theorem tb_palanquinref9_reader_own : T fn_palanquinref9_reader_own = some ir_palanquinref9_reader_own := by kernel_rfl

theorem ok_palanquinref9_reader_own {t0 t1 t2 t3 : V} {H : Heap} {Q : V → Heap → Prop} (h : Ok (f_palanquinref9_reader_own (sem T) t0 t1 t2 t3) H fun r H' => ∃ L, r = .ret L ∧ Q (tupled L) H') : Ok (sem T fn_palanquinref9_reader_own [t0, t1, t2, t3]) H Q :=
  ok_sem tb_palanquinref9_reader_own (Nat.le_of_ble_eq_true rfl) (eq_palanquinref9_reader_own (sem T) t0 t1 t2 t3) h

/-- palanquin/palanquinref9.SameFrame. -/
def ir_palanquinref9_SameFrame : Fn' := ⟨101, [.tmp 4],
  .ops [⟨(some 2), none, .box ty_palanquinref9_Frame (.s 0)⟩,
    ⟨(some 3), none, .box ty_palanquinref9_Frame (.s 1)⟩,
    ⟨(some 4), none, .mv (.c (V.bool false))⟩]
  (.ops [⟨(some 5), none, .faddr 0 (.s 2)⟩,
    ⟨(some 6), none, .load none (.s 5)⟩,
    ⟨(some 7), none, .faddr 0 (.s 3)⟩,
    ⟨(some 8), none, .load none (.s 7)⟩,
    ⟨(some 9), none, .eq .bool false (.s 6) (.s 8)⟩,
    ⟨(some 10), none, .mv (.s 9)⟩,
    ⟨(some 11), (some (10, true)), .faddr 1 (.s 2)⟩,
    ⟨(some 12), (some (10, true)), .load none (.s 11)⟩,
    ⟨(some 13), (some (10, true)), .faddr 1 (.s 3)⟩,
    ⟨(some 14), (some (10, true)), .load none (.s 13)⟩,
    ⟨(some 15), (some (10, true)), .eq .bool false (.s 12) (.s 14)⟩,
    ⟨(some 16), none, .pick (.s 10) (.s 15) (.c (V.bool false))⟩,
    ⟨(some 17), none, .mv (.s 16)⟩,
    ⟨(some 18), (some (17, true)), .faddr 2 (.s 2)⟩,
    ⟨(some 19), (some (17, true)), .load none (.s 18)⟩,
    ⟨(some 20), (some (17, true)), .faddr 2 (.s 3)⟩,
    ⟨(some 21), (some (17, true)), .load none (.s 20)⟩,
    ⟨(some 22), (some (17, true)), .bin .eql (.s 19) (.s 21)⟩,
    ⟨(some 23), none, .pick (.s 17) (.s 22) (.c (V.bool false))⟩,
    ⟨(some 24), none, .mv (.s 23)⟩,
    ⟨(some 25), (some (24, true)), .faddr 3 (.s 2)⟩,
    ⟨(some 26), (some (24, true)), .load none (.s 25)⟩,
    ⟨(some 27), (some (24, true)), .faddr 3 (.s 3)⟩,
    ⟨(some 28), (some (24, true)), .load none (.s 27)⟩,
    ⟨(some 29), (some (24, true)), .bin .eql (.s 26) (.s 28)⟩,
    ⟨(some 30), none, .pick (.s 24) (.s 29) (.c (V.bool false))⟩,
    ⟨(some 31), none, .mv (.s 30)⟩,
    ⟨(some 32), (some (31, true)), .faddr 4 (.s 2)⟩,
    ⟨(some 33), (some (31, true)), .load none (.s 32)⟩,
    ⟨(some 34), (some (31, true)), .faddr 4 (.s 3)⟩,
    ⟨(some 35), (some (31, true)), .load none (.s 34)⟩,
    ⟨(some 36), (some (31, true)), .eq .bool false (.s 33) (.s 35)⟩,
    ⟨(some 37), none, .pick (.s 31) (.s 36) (.c (V.bool false))⟩,
    ⟨(some 38), none, .mv (.s 37)⟩,
    ⟨(some 39), (some (38, true)), .faddr 5 (.s 2)⟩,
    ⟨(some 40), (some (38, true)), .load (some 6) (.s 39)⟩,
    ⟨(some 41), (some (38, true)), .faddr 5 (.s 3)⟩,
    ⟨(some 42), (some (38, true)), .load (some 6) (.s 41)⟩,
    ⟨(some 43), (some (38, true)), .call fn_palanquinref9_SameStructure [(.s 40), (.s 42)]⟩,
    ⟨(some 44), none, .pick (.s 38) (.s 43) (.c (V.bool false))⟩,
    ⟨(some 45), none, .mv (.s 44)⟩,
    ⟨(some 46), (some (45, true)), .faddr 11 (.s 2)⟩,
    ⟨(some 47), (some (45, true)), .load none (.s 46)⟩,
    ⟨(some 48), (some (45, true)), .faddr 11 (.s 3)⟩,
    ⟨(some 49), (some (45, true)), .load none (.s 48)⟩,
    ⟨(some 50), (some (45, true)), .eq .bool false (.s 47) (.s 49)⟩,
    ⟨(some 51), none, .pick (.s 45) (.s 50) (.c (V.bool false))⟩,
    ⟨(some 52), none, .mv (.s 51)⟩,
    ⟨(some 53), (some (52, true)), .faddr 12 (.s 2)⟩,
    ⟨(some 54), (some (52, true)), .load none (.s 53)⟩,
    ⟨(some 55), (some (52, true)), .faddr 12 (.s 3)⟩,
    ⟨(some 56), (some (52, true)), .load none (.s 55)⟩,
    ⟨(some 57), (some (52, true)), .bin .eql (.s 54) (.s 56)⟩,
    ⟨(some 58), none, .pick (.s 52) (.s 57) (.c (V.bool false))⟩,
    ⟨(some 59), none, .mv (.s 58)⟩,
    ⟨(some 60), (some (59, true)), .faddr 13 (.s 2)⟩,
    ⟨(some 61), (some (59, true)), .load none (.s 60)⟩,
    ⟨(some 62), (some (59, true)), .faddr 13 (.s 3)⟩,
    ⟨(some 63), (some (59, true)), .load none (.s 62)⟩,
    ⟨(some 64), (some (59, true)), .eq .bool false (.s 61) (.s 63)⟩,
    ⟨(some 65), none, .pick (.s 59) (.s 64) (.c (V.bool false))⟩,
    ⟨(some 66), none, .mv (.s 65)⟩,
    ⟨(some 67), (some (66, true)), .faddr 14 (.s 2)⟩,
    ⟨(some 68), (some (66, true)), .load none (.s 67)⟩,
    ⟨(some 69), (some (66, true)), .faddr 14 (.s 3)⟩,
    ⟨(some 70), (some (66, true)), .load none (.s 69)⟩,
    ⟨(some 71), (some (66, true)), .eq .bool false (.s 68) (.s 70)⟩,
    ⟨(some 72), none, .pick (.s 66) (.s 71) (.c (V.bool false))⟩,
    ⟨(some 73), none, .mv (.s 72)⟩,
    ⟨(some 74), (some (73, true)), .faddr 15 (.s 2)⟩,
    ⟨(some 75), (some (73, true)), .load none (.s 74)⟩,
    ⟨(some 76), (some (73, true)), .faddr 15 (.s 3)⟩,
    ⟨(some 77), (some (73, true)), .load none (.s 76)⟩,
    ⟨(some 78), (some (73, true)), .eq .bool false (.s 75) (.s 77)⟩,
    ⟨(some 79), none, .pick (.s 73) (.s 78) (.c (V.bool false))⟩,
    ⟨(some 80), none, .mv (.s 79)⟩,
    ⟨(some 81), (some (80, true)), .faddr 16 (.s 2)⟩,
    ⟨(some 82), (some (80, true)), .load none (.s 81)⟩,
    ⟨(some 83), (some (80, true)), .faddr 16 (.s 3)⟩,
    ⟨(some 84), (some (80, true)), .load none (.s 83)⟩,
    ⟨(some 85), (some (80, true)), .call fn_palanquinref9_SameInts [(.s 82), (.s 84)]⟩,
    ⟨(some 86), none, .pick (.s 80) (.s 85) (.c (V.bool false))⟩,
    ⟨(some 87), none, .mv (.s 86)⟩,
    ⟨(some 88), (some (87, true)), .faddr 17 (.s 2)⟩,
    ⟨(some 89), (some (87, true)), .load none (.s 88)⟩,
    ⟨(some 90), (some (87, true)), .faddr 17 (.s 3)⟩,
    ⟨(some 91), (some (87, true)), .load none (.s 90)⟩,
    ⟨(some 92), (some (87, true)), .call fn_palanquinref9_SameInts [(.s 89), (.s 91)]⟩,
    ⟨(some 93), none, .pick (.s 87) (.s 92) (.c (V.bool false))⟩,
    ⟨(some 94), none, .mv (.s 93)⟩,
    ⟨(some 95), (some (94, true)), .faddr 18 (.s 2)⟩,
    ⟨(some 96), (some (94, true)), .load none (.s 95)⟩,
    ⟨(some 97), (some (94, true)), .faddr 18 (.s 3)⟩,
    ⟨(some 98), (some (94, true)), .load none (.s 97)⟩,
    ⟨(some 99), (some (94, true)), .call fn_palanquinref9_SameInts [(.s 96), (.s 98)]⟩,
    ⟨(some 100), none, .pick (.s 94) (.s 99) (.c (V.bool false))⟩,
    ⟨(some 4), none, .mv (.s 100)⟩]
  (.ret))⟩

noncomputable def f_palanquinref9_SameFrame (G : Sem') (t0 t1 : V) : M Res :=
  (mbox ty_palanquinref9_Frame t0).bind fun t2 =>
  (mbox ty_palanquinref9_Frame t1).bind fun t3 =>
  (M.lift (Ax.faddr 0 t2)).bind fun t5 =>
  (mload none t5).bind fun t6 =>
  (M.lift (Ax.faddr 0 t3)).bind fun t7 =>
  (mload none t7).bind fun t8 =>
  (M.lift (eqr .bool false t6 t8)).bind fun t9 =>
  (guarded [(0, t9)] (some (0, true)) (M.lift (Ax.faddr 1 t2))).bind fun t11 =>
  (guarded [(0, t9)] (some (0, true)) (mload none t11)).bind fun t12 =>
  (guarded [(0, t9)] (some (0, true)) (M.lift (Ax.faddr 1 t3))).bind fun t13 =>
  (guarded [(0, t9)] (some (0, true)) (mload none t13)).bind fun t14 =>
  (guarded [(0, t9)] (some (0, true)) (M.lift (eqr .bool false t12 t14))).bind fun t15 =>
  (M.lift (Ax.pick t9 t15 (V.bool false))).bind fun t16 =>
  (guarded [(0, t16)] (some (0, true)) (M.lift (Ax.faddr 2 t2))).bind fun t18 =>
  (guarded [(0, t16)] (some (0, true)) (mload none t18)).bind fun t19 =>
  (guarded [(0, t16)] (some (0, true)) (M.lift (Ax.faddr 2 t3))).bind fun t20 =>
  (guarded [(0, t16)] (some (0, true)) (mload none t20)).bind fun t21 =>
  (guarded [(0, t16)] (some (0, true)) (M.lift (Ax.bin .eql t19 t21))).bind fun t22 =>
  (M.lift (Ax.pick t16 t22 (V.bool false))).bind fun t23 =>
  (guarded [(0, t23)] (some (0, true)) (M.lift (Ax.faddr 3 t2))).bind fun t25 =>
  (guarded [(0, t23)] (some (0, true)) (mload none t25)).bind fun t26 =>
  (guarded [(0, t23)] (some (0, true)) (M.lift (Ax.faddr 3 t3))).bind fun t27 =>
  (guarded [(0, t23)] (some (0, true)) (mload none t27)).bind fun t28 =>
  (guarded [(0, t23)] (some (0, true)) (M.lift (Ax.bin .eql t26 t28))).bind fun t29 =>
  (M.lift (Ax.pick t23 t29 (V.bool false))).bind fun t30 =>
  (guarded [(0, t30)] (some (0, true)) (M.lift (Ax.faddr 4 t2))).bind fun t32 =>
  (guarded [(0, t30)] (some (0, true)) (mload none t32)).bind fun t33 =>
  (guarded [(0, t30)] (some (0, true)) (M.lift (Ax.faddr 4 t3))).bind fun t34 =>
  (guarded [(0, t30)] (some (0, true)) (mload none t34)).bind fun t35 =>
  (guarded [(0, t30)] (some (0, true)) (M.lift (eqr .bool false t33 t35))).bind fun t36 =>
  (M.lift (Ax.pick t30 t36 (V.bool false))).bind fun t37 =>
  (guarded [(0, t37)] (some (0, true)) (M.lift (Ax.faddr 5 t2))).bind fun t39 =>
  (guarded [(0, t37)] (some (0, true)) (mload (some 6) t39)).bind fun t40 =>
  (guarded [(0, t37)] (some (0, true)) (M.lift (Ax.faddr 5 t3))).bind fun t41 =>
  (guarded [(0, t37)] (some (0, true)) (mload (some 6) t41)).bind fun t42 =>
  (guarded [(0, t37)] (some (0, true)) (G fn_palanquinref9_SameStructure [t40, t42])).bind fun t43 =>
  (M.lift (Ax.pick t37 t43 (V.bool false))).bind fun t44 =>
  (guarded [(0, t44)] (some (0, true)) (M.lift (Ax.faddr 11 t2))).bind fun t46 =>
  (guarded [(0, t44)] (some (0, true)) (mload none t46)).bind fun t47 =>
  (guarded [(0, t44)] (some (0, true)) (M.lift (Ax.faddr 11 t3))).bind fun t48 =>
  (guarded [(0, t44)] (some (0, true)) (mload none t48)).bind fun t49 =>
  (guarded [(0, t44)] (some (0, true)) (M.lift (eqr .bool false t47 t49))).bind fun t50 =>
  (M.lift (Ax.pick t44 t50 (V.bool false))).bind fun t51 =>
  (guarded [(0, t51)] (some (0, true)) (M.lift (Ax.faddr 12 t2))).bind fun t53 =>
  (guarded [(0, t51)] (some (0, true)) (mload none t53)).bind fun t54 =>
  (guarded [(0, t51)] (some (0, true)) (M.lift (Ax.faddr 12 t3))).bind fun t55 =>
  (guarded [(0, t51)] (some (0, true)) (mload none t55)).bind fun t56 =>
  (guarded [(0, t51)] (some (0, true)) (M.lift (Ax.bin .eql t54 t56))).bind fun t57 =>
  (M.lift (Ax.pick t51 t57 (V.bool false))).bind fun t58 =>
  (guarded [(0, t58)] (some (0, true)) (M.lift (Ax.faddr 13 t2))).bind fun t60 =>
  (guarded [(0, t58)] (some (0, true)) (mload none t60)).bind fun t61 =>
  (guarded [(0, t58)] (some (0, true)) (M.lift (Ax.faddr 13 t3))).bind fun t62 =>
  (guarded [(0, t58)] (some (0, true)) (mload none t62)).bind fun t63 =>
  (guarded [(0, t58)] (some (0, true)) (M.lift (eqr .bool false t61 t63))).bind fun t64 =>
  (M.lift (Ax.pick t58 t64 (V.bool false))).bind fun t65 =>
  (guarded [(0, t65)] (some (0, true)) (M.lift (Ax.faddr 14 t2))).bind fun t67 =>
  (guarded [(0, t65)] (some (0, true)) (mload none t67)).bind fun t68 =>
  (guarded [(0, t65)] (some (0, true)) (M.lift (Ax.faddr 14 t3))).bind fun t69 =>
  (guarded [(0, t65)] (some (0, true)) (mload none t69)).bind fun t70 =>
  (guarded [(0, t65)] (some (0, true)) (M.lift (eqr .bool false t68 t70))).bind fun t71 =>
  (M.lift (Ax.pick t65 t71 (V.bool false))).bind fun t72 =>
  (guarded [(0, t72)] (some (0, true)) (M.lift (Ax.faddr 15 t2))).bind fun t74 =>
  (guarded [(0, t72)] (some (0, true)) (mload none t74)).bind fun t75 =>
  (guarded [(0, t72)] (some (0, true)) (M.lift (Ax.faddr 15 t3))).bind fun t76 =>
  (guarded [(0, t72)] (some (0, true)) (mload none t76)).bind fun t77 =>
  (guarded [(0, t72)] (some (0, true)) (M.lift (eqr .bool false t75 t77))).bind fun t78 =>
  (M.lift (Ax.pick t72 t78 (V.bool false))).bind fun t79 =>
  (guarded [(0, t79)] (some (0, true)) (M.lift (Ax.faddr 16 t2))).bind fun t81 =>
  (guarded [(0, t79)] (some (0, true)) (mload none t81)).bind fun t82 =>
  (guarded [(0, t79)] (some (0, true)) (M.lift (Ax.faddr 16 t3))).bind fun t83 =>
  (guarded [(0, t79)] (some (0, true)) (mload none t83)).bind fun t84 =>
  (guarded [(0, t79)] (some (0, true)) (G fn_palanquinref9_SameInts [t82, t84])).bind fun t85 =>
  (M.lift (Ax.pick t79 t85 (V.bool false))).bind fun t86 =>
  (guarded [(0, t86)] (some (0, true)) (M.lift (Ax.faddr 17 t2))).bind fun t88 =>
  (guarded [(0, t86)] (some (0, true)) (mload none t88)).bind fun t89 =>
  (guarded [(0, t86)] (some (0, true)) (M.lift (Ax.faddr 17 t3))).bind fun t90 =>
  (guarded [(0, t86)] (some (0, true)) (mload none t90)).bind fun t91 =>
  (guarded [(0, t86)] (some (0, true)) (G fn_palanquinref9_SameInts [t89, t91])).bind fun t92 =>
  (M.lift (Ax.pick t86 t92 (V.bool false))).bind fun t93 =>
  (guarded [(0, t93)] (some (0, true)) (M.lift (Ax.faddr 18 t2))).bind fun t95 =>
  (guarded [(0, t93)] (some (0, true)) (mload none t95)).bind fun t96 =>
  (guarded [(0, t93)] (some (0, true)) (M.lift (Ax.faddr 18 t3))).bind fun t97 =>
  (guarded [(0, t93)] (some (0, true)) (mload none t97)).bind fun t98 =>
  (guarded [(0, t93)] (some (0, true)) (G fn_palanquinref9_SameInts [t96, t98])).bind fun t99 =>
  (M.lift (Ax.pick t93 t99 (V.bool false))).bind fun t100 =>
  M.pure (.ret [t100])

theorem eq_palanquinref9_SameFrame (G : Sem') (t0 t1 : V) : execK G ir_palanquinref9_SameFrame.rv ir_palanquinref9_SameFrame.body [] [] (params 0 [t0, t1]) = f_palanquinref9_SameFrame G t0 t1 := by kernel_rfl

theorem tb_palanquinref9_SameFrame : T fn_palanquinref9_SameFrame = some ir_palanquinref9_SameFrame := by kernel_rfl

theorem ok_palanquinref9_SameFrame {t0 t1 : V} {H : Heap} {Q : V → Heap → Prop} (h : Ok (f_palanquinref9_SameFrame (sem T) t0 t1) H fun r H' => ∃ L, r = .ret L ∧ Q (tupled L) H') : Ok (sem T fn_palanquinref9_SameFrame [t0, t1]) H Q :=
  ok_sem tb_palanquinref9_SameFrame (Nat.le_of_ble_eq_true rfl) (eq_palanquinref9_SameFrame (sem T) t0 t1) h

/-- palanquin/palanquinref9.SameStructure. -/
def loop_palanquinref9_SameStructure_0 : C :=
  .ops [⟨(some 54), none, .mv (.s 5)⟩,
    ⟨(some 55), none, .faddr 2 (.s 2)⟩,
    ⟨(some 56), none, .load none (.s 55)⟩,
    ⟨(some 57), none, .len (.s 56)⟩,
    ⟨(some 58), none, .bin .lss (.s 54) (.s 57)⟩]
  (.cond (.s 58)
  (.blk 1
   (.draw [⟨(some 61), none, .faddr 2 (.s 2)⟩,
      ⟨(some 62), none, .load none (.s 61)⟩,
      ⟨(some 63), none, .mv (.s 5)⟩,
      ⟨(some 64), none, .iaddr none 5 (.s 62) (.s 63)⟩,
      ⟨(some 65), none, .load (some 5) (.s 64)⟩,
      ⟨(some 66), none, .faddr 2 (.s 3)⟩,
      ⟨(some 67), none, .load none (.s 66)⟩,
      ⟨(some 68), none, .mv (.s 5)⟩,
      ⟨(some 69), none, .iaddr none 5 (.s 67) (.s 68)⟩,
      ⟨(some 70), none, .load (some 5) (.s 69)⟩,
      ⟨(some 6), none, .box ty_palanquinref9_Template (.c (V.agg [(V.int .i64 0), (V.int .i64 0), V.nils, V.nils, V.nils]))⟩,
      ⟨(some 7), none, .box ty_palanquinref9_Template (.c (V.agg [(V.int .i64 0), (V.int .i64 0), V.nils, V.nils, V.nils]))⟩,
      ⟨none, none, .store 5 (.s 6) (.s 65)⟩,
      ⟨none, none, .store 5 (.s 7) (.s 70)⟩] [(6, 12), (9, 12)]
    (.ops [⟨(some 71), none, .faddr 0 (.s 6)⟩,
      ⟨(some 72), none, .load none (.s 71)⟩,
      ⟨(some 73), none, .faddr 0 (.s 7)⟩,
      ⟨(some 74), none, .load none (.s 73)⟩,
      ⟨(some 75), none, .bin .neq (.s 72) (.s 74)⟩,
      ⟨(some 76), none, .mv (.s 75)⟩,
      ⟨(some 77), (some (76, false)), .faddr 1 (.s 6)⟩,
      ⟨(some 78), (some (76, false)), .load none (.s 77)⟩,
      ⟨(some 79), (some (76, false)), .faddr 1 (.s 7)⟩,
      ⟨(some 80), (some (76, false)), .load none (.s 79)⟩,
      ⟨(some 81), (some (76, false)), .bin .neq (.s 78) (.s 80)⟩,
      ⟨(some 82), none, .pick (.s 76) (.c (V.bool true)) (.s 81)⟩,
      ⟨(some 83), none, .mv (.s 82)⟩,
      ⟨(some 84), (some (83, false)), .faddr 2 (.s 6)⟩,
      ⟨(some 85), (some (83, false)), .load none (.s 84)⟩,
      ⟨(some 86), (some (83, false)), .faddr 2 (.s 7)⟩,
      ⟨(some 87), (some (83, false)), .load none (.s 86)⟩,
      ⟨(some 88), (some (83, false)), .call fn_palanquinref9_SameInts [(.s 85), (.s 87)]⟩,
      ⟨(some 89), (some (83, false)), .un .not (.s 88)⟩,
      ⟨(some 90), none, .pick (.s 83) (.c (V.bool true)) (.s 89)⟩,
      ⟨(some 91), none, .mv (.s 90)⟩,
      ⟨(some 92), (some (91, false)), .faddr 3 (.s 6)⟩,
      ⟨(some 93), (some (91, false)), .load none (.s 92)⟩,
      ⟨(some 94), (some (91, false)), .faddr 3 (.s 7)⟩,
      ⟨(some 95), (some (91, false)), .load none (.s 94)⟩,
      ⟨(some 96), (some (91, false)), .call fn_palanquinref9_SameInts [(.s 93), (.s 95)]⟩,
      ⟨(some 97), (some (91, false)), .un .not (.s 96)⟩,
      ⟨(some 98), none, .pick (.s 91) (.c (V.bool true)) (.s 97)⟩,
      ⟨(some 99), none, .mv (.s 98)⟩,
      ⟨(some 100), (some (99, false)), .faddr 4 (.s 6)⟩,
      ⟨(some 101), (some (99, false)), .load none (.s 100)⟩,
      ⟨(some 102), (some (99, false)), .faddr 4 (.s 7)⟩,
      ⟨(some 103), (some (99, false)), .load none (.s 102)⟩,
      ⟨(some 104), (some (99, false)), .call fn_palanquinref9_SameInts [(.s 101), (.s 103)]⟩,
      ⟨(some 105), (some (99, false)), .un .not (.s 104)⟩,
      ⟨(some 106), none, .pick (.s 99) (.c (V.bool true)) (.s 105)⟩]
    (.cond (.s 106)
    (.ops [⟨(some 4), none, .mv (.c (V.bool false))⟩]
     (.ret))
    (.done)))) [] [61, 62, 63, 64, 65, 66, 67, 68, 69, 70, 6, 7, 71, 72, 73, 74, 75, 76, 77, 78, 79, 80, 81, 82, 83, 84, 85, 86, 87, 88, 89, 90, 91, 92, 93, 94, 95, 96, 97, 98, 99, 100, 101, 102, 103, 104, 105, 106, 4]
   (.ops [⟨(some 59), none, .mv (.s 5)⟩,
     ⟨(some 60), none, .bin .add (.s 59) (.c (V.int .i64 1))⟩,
     ⟨(some 5), none, .mv (.s 60)⟩]
   (.done)))
  (.exit 0))

def loop_palanquinref9_SameStructure_1 : C :=
  .ops [⟨(some 107), none, .mv (.s 8)⟩,
    ⟨(some 108), none, .faddr 5 (.s 2)⟩,
    ⟨(some 109), none, .load none (.s 108)⟩,
    ⟨(some 110), none, .len (.s 109)⟩,
    ⟨(some 111), none, .bin .lss (.s 107) (.s 110)⟩]
  (.cond (.s 111)
  (.blk 3
   (.draw [⟨(some 114), none, .faddr 5 (.s 2)⟩,
      ⟨(some 115), none, .load none (.s 114)⟩,
      ⟨(some 116), none, .mv (.s 8)⟩,
      ⟨(some 117), none, .iaddr none 2 (.s 115) (.s 116)⟩,
      ⟨(some 118), none, .load (some 2) (.s 117)⟩,
      ⟨(some 119), none, .faddr 5 (.s 3)⟩,
      ⟨(some 120), none, .load none (.s 119)⟩,
      ⟨(some 121), none, .mv (.s 8)⟩,
      ⟨(some 122), none, .iaddr none 2 (.s 120) (.s 121)⟩,
      ⟨(some 123), none, .load (some 2) (.s 122)⟩,
      ⟨(some 124), none, .eq (.arr 2) true (.s 118) (.s 123)⟩] []
    (.cond (.s 124)
    (.ops [⟨(some 4), none, .mv (.c (V.bool false))⟩]
     (.ret))
    (.done))) [] [114, 115, 116, 117, 118, 119, 120, 121, 122, 123, 124, 4]
   (.ops [⟨(some 112), none, .mv (.s 8)⟩,
     ⟨(some 113), none, .bin .add (.s 112) (.c (V.int .i64 1))⟩,
     ⟨(some 8), none, .mv (.s 113)⟩]
   (.done)))
  (.exit 2))

def ir_palanquinref9_SameStructure : Fn' := ⟨125, [.tmp 4],
  .ops [⟨(some 2), none, .box ty_palanquinref9_Structure (.s 0)⟩,
    ⟨(some 3), none, .box ty_palanquinref9_Structure (.s 1)⟩,
    ⟨(some 4), none, .mv (.c (V.bool false))⟩]
  (.ops [⟨(some 9), none, .faddr 0 (.s 2)⟩,
    ⟨(some 10), none, .load none (.s 9)⟩,
    ⟨(some 11), none, .faddr 0 (.s 3)⟩,
    ⟨(some 12), none, .load none (.s 11)⟩,
    ⟨(some 13), none, .bin .neq (.s 10) (.s 12)⟩,
    ⟨(some 14), none, .mv (.s 13)⟩,
    ⟨(some 15), (some (14, false)), .faddr 1 (.s 2)⟩,
    ⟨(some 16), (some (14, false)), .load none (.s 15)⟩,
    ⟨(some 17), (some (14, false)), .faddr 1 (.s 3)⟩,
    ⟨(some 18), (some (14, false)), .load none (.s 17)⟩,
    ⟨(some 19), (some (14, false)), .bin .neq (.s 16) (.s 18)⟩,
    ⟨(some 20), none, .pick (.s 14) (.c (V.bool true)) (.s 19)⟩,
    ⟨(some 21), none, .mv (.s 20)⟩,
    ⟨(some 22), (some (21, false)), .faddr 2 (.s 2)⟩,
    ⟨(some 23), (some (21, false)), .load none (.s 22)⟩,
    ⟨(some 24), (some (21, false)), .len (.s 23)⟩,
    ⟨(some 25), (some (21, false)), .faddr 2 (.s 3)⟩,
    ⟨(some 26), (some (21, false)), .load none (.s 25)⟩,
    ⟨(some 27), (some (21, false)), .len (.s 26)⟩,
    ⟨(some 28), (some (21, false)), .bin .neq (.s 24) (.s 27)⟩,
    ⟨(some 29), none, .pick (.s 21) (.c (V.bool true)) (.s 28)⟩,
    ⟨(some 30), none, .mv (.s 29)⟩,
    ⟨(some 31), (some (30, false)), .faddr 3 (.s 2)⟩,
    ⟨(some 32), (some (30, false)), .load none (.s 31)⟩,
    ⟨(some 33), (some (30, false)), .faddr 3 (.s 3)⟩,
    ⟨(some 34), (some (30, false)), .load none (.s 33)⟩,
    ⟨(some 35), (some (30, false)), .bin .neq (.s 32) (.s 34)⟩,
    ⟨(some 36), none, .pick (.s 30) (.c (V.bool true)) (.s 35)⟩,
    ⟨(some 37), none, .mv (.s 36)⟩,
    ⟨(some 38), (some (37, false)), .faddr 4 (.s 2)⟩,
    ⟨(some 39), (some (37, false)), .load none (.s 38)⟩,
    ⟨(some 40), (some (37, false)), .faddr 4 (.s 3)⟩,
    ⟨(some 41), (some (37, false)), .load none (.s 40)⟩,
    ⟨(some 42), (some (37, false)), .call fn_palanquinref9_SameInts [(.s 39), (.s 41)]⟩,
    ⟨(some 43), (some (37, false)), .un .not (.s 42)⟩,
    ⟨(some 44), none, .pick (.s 37) (.c (V.bool true)) (.s 43)⟩,
    ⟨(some 45), none, .mv (.s 44)⟩,
    ⟨(some 46), (some (45, false)), .faddr 5 (.s 2)⟩,
    ⟨(some 47), (some (45, false)), .load none (.s 46)⟩,
    ⟨(some 48), (some (45, false)), .len (.s 47)⟩,
    ⟨(some 49), (some (45, false)), .faddr 5 (.s 3)⟩,
    ⟨(some 50), (some (45, false)), .load none (.s 49)⟩,
    ⟨(some 51), (some (45, false)), .len (.s 50)⟩,
    ⟨(some 52), (some (45, false)), .bin .neq (.s 48) (.s 51)⟩,
    ⟨(some 53), none, .pick (.s 45) (.c (V.bool true)) (.s 52)⟩]
  (.cond (.s 53)
  (.ops [⟨(some 4), none, .mv (.c (V.bool false))⟩]
   (.ret))
  (.ops [⟨(some 5), none, .mv (.c (V.int .i64 0))⟩]
   (.blk 0
   (.loop loop_palanquinref9_SameStructure_0 [5] [54, 55, 56, 57, 58, 61, 62, 63, 64, 65, 66, 67, 68, 69, 70, 6, 7, 71, 72, 73, 74, 75, 76, 77, 78, 79, 80, 81, 82, 83, 84, 85, 86, 87, 88, 89, 90, 91, 92, 93, 94, 95, 96, 97, 98, 99, 100, 101, 102, 103, 104, 105, 106, 4, 59, 60, 5]) [] [54, 55, 56, 57, 58, 61, 62, 63, 64, 65, 66, 67, 68, 69, 70, 6, 7, 71, 72, 73, 74, 75, 76, 77, 78, 79, 80, 81, 82, 83, 84, 85, 86, 87, 88, 89, 90, 91, 92, 93, 94, 95, 96, 97, 98, 99, 100, 101, 102, 103, 104, 105, 106, 4, 59, 60, 5]
   (.ops [⟨(some 8), none, .mv (.c (V.int .i64 0))⟩]
   (.blk 2
   (.loop loop_palanquinref9_SameStructure_1 [8] [107, 108, 109, 110, 111, 114, 115, 116, 117, 118, 119, 120, 121, 122, 123, 124, 4, 112, 113, 8]) [] [107, 108, 109, 110, 111, 114, 115, 116, 117, 118, 119, 120, 121, 122, 123, 124, 4, 112, 113, 8]
   (.ops [⟨(some 4), none, .mv (.c (V.bool true))⟩]
   (.ret))))))))⟩

noncomputable def f_palanquinref9_SameStructure_0 (G : Sem') (t2 t3 : V) (L : List V) : M Res :=
  (M.lift (Ax.faddr 2 t2)).bind fun t55 =>
  (mload none t55).bind fun t56 =>
  (M.lift (vlen t56)).bind fun t57 =>
  (M.lift (Ax.bin .lss (L.getD 0 .undef) t57)).bind fun t58 =>
  M.ite t58
    (M.blk 1 (
      (M.lift (Ax.faddr 2 t2)).bind fun t61 =>
      (mload none t61).bind fun t62 =>
      (M.lift (Ax.iaddr none 5 t62 (L.getD 0 .undef))).bind fun t64 =>
      (mload (some 5) t64).bind fun t65 =>
      (M.lift (Ax.faddr 2 t3)).bind fun t66 =>
      (mload none t66).bind fun t67 =>
      (M.lift (Ax.iaddr none 5 t67 (L.getD 0 .undef))).bind fun t69 =>
      (mload (some 5) t69).bind fun t70 =>
      (mbox ty_palanquinref9_Template (V.agg [(V.int .i64 0), (V.int .i64 0), V.nils, V.nils, V.nils])).bind fun t6 =>
      (mbox ty_palanquinref9_Template (V.agg [(V.int .i64 0), (V.int .i64 0), V.nils, V.nils, V.nils])).bind fun t7 =>
      M.getH.bind fun h0 =>
      (mstore 5 t6 t65).bind fun _ =>
      M.getH.bind fun h0' =>
      (M.unch t69 h0 h0').bind fun _ =>
      (M.unch t66 h0 h0').bind fun _ =>
      (mstore 5 t7 t70).bind fun _ =>
      (M.lift (Ax.faddr 0 t6)).bind fun t71 =>
      (mload none t71).bind fun t72 =>
      (M.lift (Ax.faddr 0 t7)).bind fun t73 =>
      (mload none t73).bind fun t74 =>
      (M.lift (Ax.bin .neq t72 t74)).bind fun t75 =>
      (guarded [(0, t75)] (some (0, false)) (M.lift (Ax.faddr 1 t6))).bind fun t77 =>
      (guarded [(0, t75)] (some (0, false)) (mload none t77)).bind fun t78 =>
      (guarded [(0, t75)] (some (0, false)) (M.lift (Ax.faddr 1 t7))).bind fun t79 =>
      (guarded [(0, t75)] (some (0, false)) (mload none t79)).bind fun t80 =>
      (guarded [(0, t75)] (some (0, false)) (M.lift (Ax.bin .neq t78 t80))).bind fun t81 =>
      (M.lift (Ax.pick t75 (V.bool true) t81)).bind fun t82 =>
      (guarded [(0, t82)] (some (0, false)) (M.lift (Ax.faddr 2 t6))).bind fun t84 =>
      (guarded [(0, t82)] (some (0, false)) (mload none t84)).bind fun t85 =>
      (guarded [(0, t82)] (some (0, false)) (M.lift (Ax.faddr 2 t7))).bind fun t86 =>
      (guarded [(0, t82)] (some (0, false)) (mload none t86)).bind fun t87 =>
      (guarded [(0, t82)] (some (0, false)) (G fn_palanquinref9_SameInts [t85, t87])).bind fun t88 =>
      (guarded [(0, t82)] (some (0, false)) (M.lift (Ax.un .not t88))).bind fun t89 =>
      (M.lift (Ax.pick t82 (V.bool true) t89)).bind fun t90 =>
      (guarded [(0, t90)] (some (0, false)) (M.lift (Ax.faddr 3 t6))).bind fun t92 =>
      (guarded [(0, t90)] (some (0, false)) (mload none t92)).bind fun t93 =>
      (guarded [(0, t90)] (some (0, false)) (M.lift (Ax.faddr 3 t7))).bind fun t94 =>
      (guarded [(0, t90)] (some (0, false)) (mload none t94)).bind fun t95 =>
      (guarded [(0, t90)] (some (0, false)) (G fn_palanquinref9_SameInts [t93, t95])).bind fun t96 =>
      (guarded [(0, t90)] (some (0, false)) (M.lift (Ax.un .not t96))).bind fun t97 =>
      (M.lift (Ax.pick t90 (V.bool true) t97)).bind fun t98 =>
      (guarded [(0, t98)] (some (0, false)) (M.lift (Ax.faddr 4 t6))).bind fun t100 =>
      (guarded [(0, t98)] (some (0, false)) (mload none t100)).bind fun t101 =>
      (guarded [(0, t98)] (some (0, false)) (M.lift (Ax.faddr 4 t7))).bind fun t102 =>
      (guarded [(0, t98)] (some (0, false)) (mload none t102)).bind fun t103 =>
      (guarded [(0, t98)] (some (0, false)) (G fn_palanquinref9_SameInts [t101, t103])).bind fun t104 =>
      (guarded [(0, t98)] (some (0, false)) (M.lift (Ax.un .not t104))).bind fun t105 =>
      (M.lift (Ax.pick t98 (V.bool true) t105)).bind fun t106 =>
      M.ite t106
        (M.pure (.ret [(V.bool false)]))
        (M.pure (.nrm []))) fun _ =>
    (M.lift (Ax.bin .add (L.getD 0 .undef) (V.int .i64 1))).bind fun t60 =>
    M.pure (.nrm [t60]))
    (M.pure (.ex 0 []))

noncomputable def f_palanquinref9_SameStructure_1 (G : Sem') (t2 t3 : V) (L : List V) : M Res :=
  (M.lift (Ax.faddr 5 t2)).bind fun t108 =>
  (mload none t108).bind fun t109 =>
  (M.lift (vlen t109)).bind fun t110 =>
  (M.lift (Ax.bin .lss (L.getD 0 .undef) t110)).bind fun t111 =>
  M.ite t111
    (M.blk 3 (
      (M.lift (Ax.faddr 5 t2)).bind fun t114 =>
      (mload none t114).bind fun t115 =>
      (M.lift (Ax.iaddr none 2 t115 (L.getD 0 .undef))).bind fun t117 =>
      (mload (some 2) t117).bind fun t118 =>
      (M.lift (Ax.faddr 5 t3)).bind fun t119 =>
      (mload none t119).bind fun t120 =>
      (M.lift (Ax.iaddr none 2 t120 (L.getD 0 .undef))).bind fun t122 =>
      (mload (some 2) t122).bind fun t123 =>
      (M.lift (eqr (.arr 2) true t118 t123)).bind fun t124 =>
      M.ite t124
        (M.pure (.ret [(V.bool false)]))
        (M.pure (.nrm []))) fun _ =>
    (M.lift (Ax.bin .add (L.getD 0 .undef) (V.int .i64 1))).bind fun t113 =>
    M.pure (.nrm [t113]))
    (M.pure (.ex 2 []))

noncomputable def f_palanquinref9_SameStructure (G : Sem') (t0 t1 : V) : M Res :=
  (mbox ty_palanquinref9_Structure t0).bind fun t2 =>
  (mbox ty_palanquinref9_Structure t1).bind fun t3 =>
  (M.lift (Ax.faddr 0 t2)).bind fun t9 =>
  (mload none t9).bind fun t10 =>
  (M.lift (Ax.faddr 0 t3)).bind fun t11 =>
  (mload none t11).bind fun t12 =>
  (M.lift (Ax.bin .neq t10 t12)).bind fun t13 =>
  (guarded [(0, t13)] (some (0, false)) (M.lift (Ax.faddr 1 t2))).bind fun t15 =>
  (guarded [(0, t13)] (some (0, false)) (mload none t15)).bind fun t16 =>
  (guarded [(0, t13)] (some (0, false)) (M.lift (Ax.faddr 1 t3))).bind fun t17 =>
  (guarded [(0, t13)] (some (0, false)) (mload none t17)).bind fun t18 =>
  (guarded [(0, t13)] (some (0, false)) (M.lift (Ax.bin .neq t16 t18))).bind fun t19 =>
  (M.lift (Ax.pick t13 (V.bool true) t19)).bind fun t20 =>
  (guarded [(0, t20)] (some (0, false)) (M.lift (Ax.faddr 2 t2))).bind fun t22 =>
  (guarded [(0, t20)] (some (0, false)) (mload none t22)).bind fun t23 =>
  (guarded [(0, t20)] (some (0, false)) (M.lift (vlen t23))).bind fun t24 =>
  (guarded [(0, t20)] (some (0, false)) (M.lift (Ax.faddr 2 t3))).bind fun t25 =>
  (guarded [(0, t20)] (some (0, false)) (mload none t25)).bind fun t26 =>
  (guarded [(0, t20)] (some (0, false)) (M.lift (vlen t26))).bind fun t27 =>
  (guarded [(0, t20)] (some (0, false)) (M.lift (Ax.bin .neq t24 t27))).bind fun t28 =>
  (M.lift (Ax.pick t20 (V.bool true) t28)).bind fun t29 =>
  (guarded [(0, t29)] (some (0, false)) (M.lift (Ax.faddr 3 t2))).bind fun t31 =>
  (guarded [(0, t29)] (some (0, false)) (mload none t31)).bind fun t32 =>
  (guarded [(0, t29)] (some (0, false)) (M.lift (Ax.faddr 3 t3))).bind fun t33 =>
  (guarded [(0, t29)] (some (0, false)) (mload none t33)).bind fun t34 =>
  (guarded [(0, t29)] (some (0, false)) (M.lift (Ax.bin .neq t32 t34))).bind fun t35 =>
  (M.lift (Ax.pick t29 (V.bool true) t35)).bind fun t36 =>
  (guarded [(0, t36)] (some (0, false)) (M.lift (Ax.faddr 4 t2))).bind fun t38 =>
  (guarded [(0, t36)] (some (0, false)) (mload none t38)).bind fun t39 =>
  (guarded [(0, t36)] (some (0, false)) (M.lift (Ax.faddr 4 t3))).bind fun t40 =>
  (guarded [(0, t36)] (some (0, false)) (mload none t40)).bind fun t41 =>
  (guarded [(0, t36)] (some (0, false)) (G fn_palanquinref9_SameInts [t39, t41])).bind fun t42 =>
  (guarded [(0, t36)] (some (0, false)) (M.lift (Ax.un .not t42))).bind fun t43 =>
  (M.lift (Ax.pick t36 (V.bool true) t43)).bind fun t44 =>
  (guarded [(0, t44)] (some (0, false)) (M.lift (Ax.faddr 5 t2))).bind fun t46 =>
  (guarded [(0, t44)] (some (0, false)) (mload none t46)).bind fun t47 =>
  (guarded [(0, t44)] (some (0, false)) (M.lift (vlen t47))).bind fun t48 =>
  (guarded [(0, t44)] (some (0, false)) (M.lift (Ax.faddr 5 t3))).bind fun t49 =>
  (guarded [(0, t44)] (some (0, false)) (mload none t49)).bind fun t50 =>
  (guarded [(0, t44)] (some (0, false)) (M.lift (vlen t50))).bind fun t51 =>
  (guarded [(0, t44)] (some (0, false)) (M.lift (Ax.bin .neq t48 t51))).bind fun t52 =>
  (M.lift (Ax.pick t44 (V.bool true) t52)).bind fun t53 =>
  M.ite t53
    (M.pure (.ret [(V.bool false)]))
    (M.blk 0 (
      M.iter (f_palanquinref9_SameStructure_0 G t2 t3) [(V.int .i64 0)]) fun _ =>
    M.blk 2 (
      M.iter (f_palanquinref9_SameStructure_1 G t2 t3) [(V.int .i64 0)]) fun _ =>
    M.pure (.ret [(V.bool true)]))

theorem eq_palanquinref9_SameStructure (G : Sem') (t0 t1 : V) : execK G ir_palanquinref9_SameStructure.rv ir_palanquinref9_SameStructure.body [] [] (params 0 [t0, t1]) = f_palanquinref9_SameStructure G t0 t1 := by kernel_rfl

theorem tb_palanquinref9_SameStructure : T fn_palanquinref9_SameStructure = some ir_palanquinref9_SameStructure := by kernel_rfl

theorem ok_palanquinref9_SameStructure {t0 t1 : V} {H : Heap} {Q : V → Heap → Prop} (h : Ok (f_palanquinref9_SameStructure (sem T) t0 t1) H fun r H' => ∃ L, r = .ret L ∧ Q (tupled L) H') : Ok (sem T fn_palanquinref9_SameStructure [t0, t1]) H Q :=
  ok_sem tb_palanquinref9_SameStructure (Nat.le_of_ble_eq_true rfl) (eq_palanquinref9_SameStructure (sem T) t0 t1) h

/-- palanquin/palanquinlaw9.DependBack. -/
def ir_palanquinlaw9_DependBack : Fn' := ⟨92, [.tmp 6],
  .ops [⟨(some 3), none, .box ty_depend_Frame (.s 0)⟩,
    ⟨(some 4), none, .box ty_depend_Structure (.s 1)⟩,
    ⟨(some 6), none, .mv (.c (V.bool false))⟩]
  (.ops [⟨(some 17), none, .call fn_palanquinlaw9_awake []⟩,
    ⟨(some 18), none, .un .not (.s 17)⟩]
  (.cond (.s 18)
  (.ops [⟨(some 6), none, .mv (.c (V.bool false))⟩]
   (.ret))
  (.ops [⟨(some 19), none, .load (some 19) (.s 3)⟩,
     ⟨(some 20), none, .call fn_palanquinlaw9_long [(.s 19)]⟩,
     ⟨(some 21), none, .mv (.s 20)⟩,
     ⟨(some 22), (some (21, false)), .load (some 6) (.s 4)⟩,
     ⟨(some 23), (some (21, false)), .call fn_palanquinlaw9_heavy [(.s 22)]⟩,
     ⟨(some 24), none, .pick (.s 21) (.c (V.bool true)) (.s 23)⟩,
     ⟨(some 25), none, .mv (.s 24)⟩,
     ⟨(some 26), (some (25, false)), .mv (.s 2)⟩,
     ⟨(some 27), (some (25, false)), .len (.s 26)⟩,
     ⟨(some 28), (some (25, false)), .bin .gtr (.s 27) (.c (V.int .i64 2000))⟩,
     ⟨(some 29), none, .pick (.s 25) (.c (V.bool true)) (.s 28)⟩]
   (.cond (.s 29)
   (.ops [⟨(some 6), none, .mv (.c (V.bool true))⟩]
    (.ret))
   (.ops [⟨(some 31), none, .load (some 19) (.s 3)⟩,
      ⟨(some 32), none, .load (some 6) (.s 4)⟩,
      ⟨(some 33), none, .call fn_depend_Bytes [(.s 31), (.s 32)]⟩,
      ⟨(some 30), none, .mv (.s 33)⟩,
      ⟨(some 34), none, .ext 0 (.s 30)⟩,
      ⟨(some 35), none, .ext 1 (.s 30)⟩,
      ⟨(some 7), none, .mv (.s 34)⟩,
      ⟨(some 8), none, .mv (.s 35)⟩]
    (.ops [⟨(some 36), none, .mv (.s 8)⟩,
      ⟨(some 37), none, .bin .eql (.s 36) (.c (V.int .i64 0))⟩]
    (.condJ (.s 37)
    (.ops [⟨(some 39), none, .mv (.s 7)⟩,
       ⟨(some 40), none, .load (some 6) (.s 4)⟩,
       ⟨(some 41), none, .call fn_depend_Parse [(.s 39), (.s 40)]⟩,
       ⟨(some 38), none, .mv (.s 41)⟩,
       ⟨(some 42), none, .ext 0 (.s 38)⟩,
       ⟨(some 43), none, .ext 1 (.s 38)⟩,
       ⟨(some 9), none, .box ty_depend_Frame (.c (V.agg [(V.bool false), (V.bool false), (V.int .i64 0), (V.int .u16 0), (V.bool false), (V.int .i64 0), (V.int .i64 0), V.nils, (V.int .i64 0), V.nils, V.nils, (V.bool false), (V.int .u32 0), (V.bool false), (V.bool false), (V.bool false), V.nils, V.nils, V.nils]))⟩,
       ⟨none, none, .store 19 (.s 9) (.s 42)⟩,
       ⟨(some 10), none, .mv (.s 43)⟩]
     (.draw [⟨(some 44), none, .mv (.s 10)⟩,
       ⟨(some 45), none, .bin .neq (.s 44) (.c (V.int .i64 0))⟩,
       ⟨(some 46), none, .mv (.s 45)⟩,
       ⟨(some 47), (some (46, false)), .load (some 19) (.s 3)⟩,
       ⟨(some 49), (some (46, false)), .load (some 19) (.s 9)⟩,
       ⟨(some 48), (some (46, false)), .call fn_palanquinhelp_Frame [(.s 47)]⟩,
       ⟨(some 50), (some (46, false)), .call fn_palanquinhelp_Frame [(.s 49)]⟩,
       ⟨(some 51), (some (46, false)), .call fn_palanquinref9_SameFrame [(.s 48), (.s 50)]⟩,
       ⟨(some 52), (some (46, false)), .un .not (.s 51)⟩,
       ⟨(some 53), none, .pick (.s 46) (.c (V.bool true)) (.s 52)⟩] [(4, 5)]
     (.cond (.s 53)
     (.ops [⟨(some 6), none, .mv (.c (V.bool false))⟩]
      (.ret))
     (.done))))
    (.done) [] [39, 40, 41, 38, 42, 43, 9, 10, 44, 45, 46, 47, 48, 49, 50, 51, 52, 53, 6]
    (.ops [⟨(some 55), none, .mv (.s 2)⟩,
      ⟨(some 56), none, .load (some 6) (.s 4)⟩,
      ⟨(some 57), none, .call fn_depend_Parse [(.s 55), (.s 56)]⟩,
      ⟨(some 54), none, .mv (.s 57)⟩,
      ⟨(some 58), none, .ext 0 (.s 54)⟩,
      ⟨(some 59), none, .ext 1 (.s 54)⟩,
      ⟨(some 11), none, .box ty_depend_Frame (.c (V.agg [(V.bool false), (V.bool false), (V.int .i64 0), (V.int .u16 0), (V.bool false), (V.int .i64 0), (V.int .i64 0), V.nils, (V.int .i64 0), V.nils, V.nils, (V.bool false), (V.int .u32 0), (V.bool false), (V.bool false), (V.bool false), V.nils, V.nils, V.nils]))⟩,
      ⟨none, none, .store 19 (.s 11) (.s 58)⟩,
      ⟨(some 12), none, .mv (.s 59)⟩]
    (.ops [⟨(some 60), none, .mv (.s 12)⟩,
      ⟨(some 61), none, .bin .neq (.s 60) (.c (V.int .i64 0))⟩]
    (.cond (.s 61)
    (.ops [⟨(some 6), none, .mv (.c (V.bool true))⟩]
     (.ret))
    (.ops [⟨(some 63), none, .load (some 19) (.s 11)⟩,
       ⟨(some 64), none, .load (some 6) (.s 4)⟩,
       ⟨(some 65), none, .call fn_depend_Bytes [(.s 63), (.s 64)]⟩,
       ⟨(some 62), none, .mv (.s 65)⟩,
       ⟨(some 66), none, .ext 0 (.s 62)⟩,
       ⟨(some 67), none, .ext 1 (.s 62)⟩,
       ⟨(some 13), none, .mv (.s 66)⟩,
       ⟨(some 14), none, .mv (.s 67)⟩]
     (.ops [⟨(some 69), none, .mv (.s 13)⟩,
       ⟨(some 70), none, .load (some 6) (.s 4)⟩,
       ⟨(some 71), none, .call fn_depend_Parse [(.s 69), (.s 70)]⟩,
       ⟨(some 68), none, .mv (.s 71)⟩,
       ⟨(some 72), none, .ext 0 (.s 68)⟩,
       ⟨(some 73), none, .ext 1 (.s 68)⟩,
       ⟨(some 15), none, .box ty_depend_Frame (.c (V.agg [(V.bool false), (V.bool false), (V.int .i64 0), (V.int .u16 0), (V.bool false), (V.int .i64 0), (V.int .i64 0), V.nils, (V.int .i64 0), V.nils, V.nils, (V.bool false), (V.int .u32 0), (V.bool false), (V.bool false), (V.bool false), V.nils, V.nils, V.nils]))⟩,
       ⟨none, none, .store 19 (.s 15) (.s 72)⟩,
       ⟨(some 16), none, .mv (.s 73)⟩]
     (.draw [⟨(some 74), none, .load (some 19) (.s 11)⟩,
       ⟨(some 75), none, .load (some 6) (.s 4)⟩,
       ⟨(some 76), none, .call fn_depend_Good [(.s 74), (.s 75)]⟩,
       ⟨(some 77), none, .mv (.s 76)⟩,
       ⟨(some 78), (some (77, true)), .mv (.s 14)⟩,
       ⟨(some 79), (some (77, true)), .bin .eql (.s 78) (.c (V.int .i64 0))⟩,
       ⟨(some 80), none, .pick (.s 77) (.s 79) (.c (V.bool false))⟩,
       ⟨(some 81), none, .mv (.s 80)⟩,
       ⟨(some 82), (some (81, true)), .mv (.s 16)⟩,
       ⟨(some 83), (some (81, true)), .bin .eql (.s 82) (.c (V.int .i64 0))⟩,
       ⟨(some 84), none, .pick (.s 81) (.s 83) (.c (V.bool false))⟩,
       ⟨(some 85), none, .mv (.s 84)⟩,
       ⟨(some 86), (some (85, true)), .load (some 19) (.s 11)⟩,
       ⟨(some 87), (some (85, true)), .call fn_palanquinhelp_Frame [(.s 86)]⟩,
       ⟨(some 88), (some (85, true)), .load (some 19) (.s 15)⟩,
       ⟨(some 89), (some (85, true)), .call fn_palanquinhelp_Frame [(.s 88)]⟩,
       ⟨(some 90), (some (85, true)), .call fn_palanquinref9_SameFrame [(.s 87), (.s 89)]⟩,
       ⟨(some 91), none, .pick (.s 85) (.s 90) (.c (V.bool false))⟩,
       ⟨(some 6), none, .mv (.s 91)⟩] [(14, 13)]
     (.ret))))))))))))))⟩

noncomputable def f_palanquinlaw9_DependBack (G : Sem') (t0 t1 t2 : V) : M Res :=
  (mbox ty_depend_Frame t0).bind fun t3 =>
  (mbox ty_depend_Structure t1).bind fun t4 =>
  (G fn_palanquinlaw9_awake []).bind fun t17 =>
  (M.lift (Ax.un .not t17)).bind fun t18 =>
  M.ite t18
    (M.pure (.ret [(V.bool false)]))
    ((mload (some 19) t3).bind fun t19 =>
    (G fn_palanquinlaw9_long [t19]).bind fun t20 =>
    (guarded [(0, t20)] (some (0, false)) (mload (some 6) t4)).bind fun t22 =>
    (guarded [(0, t20)] (some (0, false)) (G fn_palanquinlaw9_heavy [t22])).bind fun t23 =>
    (M.lift (Ax.pick t20 (V.bool true) t23)).bind fun t24 =>
    (guarded [(0, t24)] (some (0, false)) (M.pure t2)).bind fun t26 =>
    (guarded [(0, t24)] (some (0, false)) (M.lift (vlen t26))).bind fun t27 =>
    (guarded [(0, t24)] (some (0, false)) (M.lift (Ax.bin .gtr t27 (V.int .i64 2000)))).bind fun t28 =>
    (M.lift (Ax.pick t24 (V.bool true) t28)).bind fun t29 =>
    M.ite t29
      (M.pure (.ret [(V.bool true)]))
      ((mload (some 19) t3).bind fun t31 =>
      (mload (some 6) t4).bind fun t32 =>
      (G fn_depend_Bytes [t31, t32]).bind fun t33 =>
      (M.lift (Ax.ext 0 t33)).bind fun t34 =>
      (M.lift (Ax.ext 1 t33)).bind fun t35 =>
      (M.lift (Ax.bin .eql t35 (V.int .i64 0))).bind fun t37 =>
      M.join (M.ite t37
        ((mload (some 6) t4).bind fun t40 =>
        (G fn_depend_Parse [t34, t40]).bind fun t41 =>
        (M.lift (Ax.ext 0 t41)).bind fun t42 =>
        (M.lift (Ax.ext 1 t41)).bind fun t43 =>
        (mbox ty_depend_Frame (V.agg [(V.bool false), (V.bool false), (V.int .i64 0), (V.int .u16 0), (V.bool false), (V.int .i64 0), (V.int .i64 0), V.nils, (V.int .i64 0), V.nils, V.nils, (V.bool false), (V.int .u32 0), (V.bool false), (V.bool false), (V.bool false), V.nils, V.nils, V.nils])).bind fun t9 =>
        (mstore 19 t9 t42).bind fun _ =>
        (M.lift (Ax.bin .neq t43 (V.int .i64 0))).bind fun t45 =>
        (guarded [(0, t45)] (some (0, false)) (mload (some 19) t3)).bind fun t47 =>
        (guarded [(0, t45)] (some (0, false)) (mload (some 19) t9)).bind fun t49 =>
        M.getH.bind fun h0 =>
        (guarded [(0, t45)] (some (0, false)) (G fn_palanquinhelp_Frame [t47])).bind fun t48 =>
        M.getH.bind fun h0' =>
        (M.unch t9 h0 h0').bind fun _ =>
        (guarded [(0, t45)] (some (0, false)) (G fn_palanquinhelp_Frame [t49])).bind fun t50 =>
        (guarded [(0, t45)] (some (0, false)) (G fn_palanquinref9_SameFrame [t48, t50])).bind fun t51 =>
        (guarded [(0, t45)] (some (0, false)) (M.lift (Ax.un .not t51))).bind fun t52 =>
        (M.lift (Ax.pick t45 (V.bool true) t52)).bind fun t53 =>
        M.ite t53
          (M.pure (.ret [(V.bool false)]))
          (M.pure (.nrm [])))
        (M.pure (.nrm []))) fun _ =>
      (mload (some 6) t4).bind fun t56 =>
      (G fn_depend_Parse [t2, t56]).bind fun t57 =>
      (M.lift (Ax.ext 0 t57)).bind fun t58 =>
      (M.lift (Ax.ext 1 t57)).bind fun t59 =>
      (mbox ty_depend_Frame (V.agg [(V.bool false), (V.bool false), (V.int .i64 0), (V.int .u16 0), (V.bool false), (V.int .i64 0), (V.int .i64 0), V.nils, (V.int .i64 0), V.nils, V.nils, (V.bool false), (V.int .u32 0), (V.bool false), (V.bool false), (V.bool false), V.nils, V.nils, V.nils])).bind fun t11 =>
      (mstore 19 t11 t58).bind fun _ =>
      (M.lift (Ax.bin .neq t59 (V.int .i64 0))).bind fun t61 =>
      M.ite t61
        (M.pure (.ret [(V.bool true)]))
        ((mload (some 19) t11).bind fun t63 =>
        (mload (some 6) t4).bind fun t64 =>
        (G fn_depend_Bytes [t63, t64]).bind fun t65 =>
        (M.lift (Ax.ext 0 t65)).bind fun t66 =>
        (M.lift (Ax.ext 1 t65)).bind fun t67 =>
        (mload (some 6) t4).bind fun t70 =>
        (G fn_depend_Parse [t66, t70]).bind fun t71 =>
        (M.lift (Ax.ext 0 t71)).bind fun t72 =>
        (M.lift (Ax.ext 1 t71)).bind fun t73 =>
        (mbox ty_depend_Frame (V.agg [(V.bool false), (V.bool false), (V.int .i64 0), (V.int .u16 0), (V.bool false), (V.int .i64 0), (V.int .i64 0), V.nils, (V.int .i64 0), V.nils, V.nils, (V.bool false), (V.int .u32 0), (V.bool false), (V.bool false), (V.bool false), V.nils, V.nils, V.nils])).bind fun t15 =>
        (mstore 19 t15 t72).bind fun _ =>
        (mload (some 19) t11).bind fun t74 =>
        (mload (some 6) t4).bind fun t75 =>
        (G fn_depend_Good [t74, t75]).bind fun t76 =>
        (guarded [(0, t76)] (some (0, true)) (M.pure t67)).bind fun t78 =>
        (guarded [(0, t76)] (some (0, true)) (M.lift (Ax.bin .eql t78 (V.int .i64 0)))).bind fun t79 =>
        (M.lift (Ax.pick t76 t79 (V.bool false))).bind fun t80 =>
        (guarded [(0, t80)] (some (0, true)) (M.pure t73)).bind fun t82 =>
        (guarded [(0, t80)] (some (0, true)) (M.lift (Ax.bin .eql t82 (V.int .i64 0)))).bind fun t83 =>
        (M.lift (Ax.pick t80 t83 (V.bool false))).bind fun t84 =>
        (guarded [(0, t84)] (some (0, true)) (mload (some 19) t11)).bind fun t86 =>
        M.getH.bind fun h1 =>
        (guarded [(0, t84)] (some (0, true)) (G fn_palanquinhelp_Frame [t86])).bind fun t87 =>
        M.getH.bind fun h1' =>
        (guarded [(0, t84)] (some (0, true)) (mload (some 19) t15)).bind fun t88 =>
        (M.unch t15 h1 h1').bind fun _ =>
        (guarded [(0, t84)] (some (0, true)) (G fn_palanquinhelp_Frame [t88])).bind fun t89 =>
        (guarded [(0, t84)] (some (0, true)) (G fn_palanquinref9_SameFrame [t87, t89])).bind fun t90 =>
        (M.lift (Ax.pick t84 t90 (V.bool false))).bind fun t91 =>
        M.pure (.ret [t91]))))

theorem eq_palanquinlaw9_DependBack (G : Sem') (t0 t1 t2 : V) : execK G ir_palanquinlaw9_DependBack.rv ir_palanquinlaw9_DependBack.body [] [] (params 0 [t0, t1, t2]) = f_palanquinlaw9_DependBack G t0 t1 t2 := by kernel_rfl

theorem tb_palanquinlaw9_DependBack : T fn_palanquinlaw9_DependBack = some ir_palanquinlaw9_DependBack := by kernel_rfl

theorem ok_palanquinlaw9_DependBack {t0 t1 t2 : V} {H : Heap} {Q : V → Heap → Prop} (h : Ok (f_palanquinlaw9_DependBack (sem T) t0 t1 t2) H fun r H' => ∃ L, r = .ret L ∧ Q (tupled L) H') : Ok (sem T fn_palanquinlaw9_DependBack [t0, t1, t2]) H Q :=
  ok_sem tb_palanquinlaw9_DependBack (Nat.le_of_ble_eq_true rfl) (eq_palanquinlaw9_DependBack (sem T) t0 t1 t2) h

/-- palanquin/palanquinlaw9.DependNumber. -/
def ir_palanquinlaw9_DependNumber : Fn' := ⟨65, [.tmp 6],
  .ops [⟨(some 4), none, .box ty_depend_Structure (.s 1)⟩,
    ⟨(some 6), none, .mv (.c (V.bool false))⟩]
  (.ops [⟨(some 13), none, .call fn_palanquinlaw9_awake []⟩,
    ⟨(some 14), none, .un .not (.s 13)⟩]
  (.cond (.s 14)
  (.ops [⟨(some 6), none, .mv (.c (V.bool false))⟩]
   (.ret))
  (.ops [⟨(some 15), none, .load (some 6) (.s 4)⟩,
     ⟨(some 16), none, .call fn_palanquinlaw9_heavy [(.s 15)]⟩,
     ⟨(some 17), none, .mv (.s 16)⟩,
     ⟨(some 18), (some (17, false)), .mv (.s 0)⟩,
     ⟨(some 19), (some (17, false)), .len (.s 18)⟩,
     ⟨(some 20), (some (17, false)), .bin .gtr (.s 19) (.c (V.int .i64 2000))⟩,
     ⟨(some 21), none, .pick (.s 17) (.c (V.bool true)) (.s 20)⟩]
   (.cond (.s 21)
   (.ops [⟨(some 6), none, .mv (.c (V.bool true))⟩]
    (.ret))
   (.ops [⟨(some 22), none, .slit ty_uint8 0 [(V.int .u8 0)] []⟩,
      ⟨(some 23), none, .mv (.s 0)⟩,
      ⟨(some 24), none, .append ty_uint8 1 1 (.s 22) (.s 23)⟩,
      ⟨(some 7), none, .mv (.s 24)⟩]
    (.ops [⟨(some 25), none, .mv (.s 0)⟩,
      ⟨(some 26), none, .mv (.s 2)⟩,
      ⟨(some 27), none, .call fn_depend_Number [(.s 25), (.s 26)]⟩,
      ⟨(some 8), none, .mv (.s 27)⟩]
    (.ops [⟨(some 29), none, .mv (.s 0)⟩,
      ⟨(some 30), none, .load (some 6) (.s 4)⟩,
      ⟨(some 31), none, .call fn_depend_Parse [(.s 29), (.s 30)]⟩,
      ⟨(some 28), none, .mv (.s 31)⟩,
      ⟨(some 32), none, .ext 0 (.s 28)⟩,
      ⟨(some 33), none, .ext 1 (.s 28)⟩,
      ⟨(some 9), none, .box ty_depend_Frame (.c (V.agg [(V.bool false), (V.bool false), (V.int .i64 0), (V.int .u16 0), (V.bool false), (V.int .i64 0), (V.int .i64 0), V.nils, (V.int .i64 0), V.nils, V.nils, (V.bool false), (V.int .u32 0), (V.bool false), (V.bool false), (V.bool false), V.nils, V.nils, V.nils]))⟩,
      ⟨none, none, .store 19 (.s 9) (.s 32)⟩,
      ⟨(some 10), none, .mv (.s 33)⟩]
    (.ops [⟨(some 35), none, .mv (.s 8)⟩,
      ⟨(some 36), none, .load (some 6) (.s 4)⟩,
      ⟨(some 37), none, .call fn_depend_Parse [(.s 35), (.s 36)]⟩,
      ⟨(some 34), none, .mv (.s 37)⟩,
      ⟨(some 38), none, .ext 0 (.s 34)⟩,
      ⟨(some 39), none, .ext 1 (.s 34)⟩,
      ⟨(some 11), none, .box ty_depend_Frame (.c (V.agg [(V.bool false), (V.bool false), (V.int .i64 0), (V.int .u16 0), (V.bool false), (V.int .i64 0), (V.int .i64 0), V.nils, (V.int .i64 0), V.nils, V.nils, (V.bool false), (V.int .u32 0), (V.bool false), (V.bool false), (V.bool false), V.nils, V.nils, V.nils]))⟩,
      ⟨none, none, .store 19 (.s 11) (.s 38)⟩,
      ⟨(some 12), none, .mv (.s 39)⟩]
    (.ops [⟨(some 40), none, .mv (.s 10)⟩,
      ⟨(some 41), none, .mv (.s 12)⟩,
      ⟨(some 42), none, .bin .neq (.s 40) (.s 41)⟩,
      ⟨(some 43), none, .mv (.s 42)⟩,
      ⟨(some 44), (some (43, false)), .mv (.s 8)⟩,
      ⟨(some 45), (some (43, false)), .len (.s 44)⟩,
      ⟨(some 46), (some (43, false)), .mv (.s 0)⟩,
      ⟨(some 47), (some (43, false)), .len (.s 46)⟩,
      ⟨(some 48), (some (43, false)), .bin .neq (.s 45) (.s 47)⟩,
      ⟨(some 49), none, .pick (.s 43) (.c (V.bool true)) (.s 48)⟩,
      ⟨(some 50), none, .mv (.s 49)⟩,
      ⟨(some 51), (some (50, false)), .mv (.s 0)⟩,
      ⟨(some 52), (some (50, false)), .mv (.s 7)⟩,
      ⟨(some 53), (some (50, false)), .call fn_palanquinref1_Same [(.s 51), (.s 52)]⟩,
      ⟨(some 54), (some (50, false)), .un .not (.s 53)⟩,
      ⟨(some 55), none, .pick (.s 50) (.c (V.bool true)) (.s 54)⟩]
    (.cond (.s 55)
    (.ops [⟨(some 6), none, .mv (.c (V.bool false))⟩]
     (.ret))
    (.ops [⟨(some 56), none, .mv (.s 10)⟩,
       ⟨(some 57), none, .bin .neq (.s 56) (.c (V.int .i64 0))⟩]
     (.cond (.s 57)
     (.ops [⟨(some 6), none, .mv (.c (V.bool true))⟩]
      (.ret))
     (.ops [⟨(some 58), none, .mv (.s 2)⟩,
        ⟨(some 59), none, .faddr 3 (.s 9)⟩,
        ⟨none, none, .store 1 (.s 59) (.s 58)⟩]
      (.draw [⟨(some 60), none, .load (some 19) (.s 9)⟩,
        ⟨(some 62), none, .load (some 19) (.s 11)⟩,
        ⟨(some 61), none, .call fn_palanquinhelp_Frame [(.s 60)]⟩,
        ⟨(some 63), none, .call fn_palanquinhelp_Frame [(.s 62)]⟩,
        ⟨(some 64), none, .call fn_palanquinref9_SameFrame [(.s 61), (.s 63)]⟩,
        ⟨(some 6), none, .mv (.s 64)⟩] [(1, 2)]
      (.ret)))))))))))))))⟩

noncomputable def f_palanquinlaw9_DependNumber (G : Sem') (t0 t1 t2 : V) : M Res :=
  (mbox ty_depend_Structure t1).bind fun t4 =>
  (G fn_palanquinlaw9_awake []).bind fun t13 =>
  (M.lift (Ax.un .not t13)).bind fun t14 =>
  M.ite t14
    (M.pure (.ret [(V.bool false)]))
    ((mload (some 6) t4).bind fun t15 =>
    (G fn_palanquinlaw9_heavy [t15]).bind fun t16 =>
    (guarded [(0, t16)] (some (0, false)) (M.pure t0)).bind fun t18 =>
    (guarded [(0, t16)] (some (0, false)) (M.lift (vlen t18))).bind fun t19 =>
    (guarded [(0, t16)] (some (0, false)) (M.lift (Ax.bin .gtr t19 (V.int .i64 2000)))).bind fun t20 =>
    (M.lift (Ax.pick t16 (V.bool true) t20)).bind fun t21 =>
    M.ite t21
      (M.pure (.ret [(V.bool true)]))
      ((mslit ty_uint8 0 [(V.int .u8 0)] []).bind fun t22 =>
      (mappend ty_uint8 1 1 t22 t0).bind fun t24 =>
      (G fn_depend_Number [t0, t2]).bind fun t27 =>
      (mload (some 6) t4).bind fun t30 =>
      (G fn_depend_Parse [t0, t30]).bind fun t31 =>
      (M.lift (Ax.ext 0 t31)).bind fun t32 =>
      (M.lift (Ax.ext 1 t31)).bind fun t33 =>
      (mbox ty_depend_Frame (V.agg [(V.bool false), (V.bool false), (V.int .i64 0), (V.int .u16 0), (V.bool false), (V.int .i64 0), (V.int .i64 0), V.nils, (V.int .i64 0), V.nils, V.nils, (V.bool false), (V.int .u32 0), (V.bool false), (V.bool false), (V.bool false), V.nils, V.nils, V.nils])).bind fun t9 =>
      (mstore 19 t9 t32).bind fun _ =>
      (mload (some 6) t4).bind fun t36 =>
      (G fn_depend_Parse [t27, t36]).bind fun t37 =>
      (M.lift (Ax.ext 0 t37)).bind fun t38 =>
      (M.lift (Ax.ext 1 t37)).bind fun t39 =>
      (mbox ty_depend_Frame (V.agg [(V.bool false), (V.bool false), (V.int .i64 0), (V.int .u16 0), (V.bool false), (V.int .i64 0), (V.int .i64 0), V.nils, (V.int .i64 0), V.nils, V.nils, (V.bool false), (V.int .u32 0), (V.bool false), (V.bool false), (V.bool false), V.nils, V.nils, V.nils])).bind fun t11 =>
      (mstore 19 t11 t38).bind fun _ =>
      (M.lift (Ax.bin .neq t33 t39)).bind fun t42 =>
      (guarded [(0, t42)] (some (0, false)) (M.pure t27)).bind fun t44 =>
      (guarded [(0, t42)] (some (0, false)) (M.lift (vlen t44))).bind fun t45 =>
      (guarded [(0, t42)] (some (0, false)) (M.pure t0)).bind fun t46 =>
      (guarded [(0, t42)] (some (0, false)) (M.lift (vlen t46))).bind fun t47 =>
      (guarded [(0, t42)] (some (0, false)) (M.lift (Ax.bin .neq t45 t47))).bind fun t48 =>
      (M.lift (Ax.pick t42 (V.bool true) t48)).bind fun t49 =>
      (guarded [(0, t49)] (some (0, false)) (M.pure t0)).bind fun t51 =>
      (guarded [(0, t49)] (some (0, false)) (M.pure t24)).bind fun t52 =>
      (guarded [(0, t49)] (some (0, false)) (G fn_palanquinref1_Same [t51, t52])).bind fun t53 =>
      (guarded [(0, t49)] (some (0, false)) (M.lift (Ax.un .not t53))).bind fun t54 =>
      (M.lift (Ax.pick t49 (V.bool true) t54)).bind fun t55 =>
      M.ite t55
        (M.pure (.ret [(V.bool false)]))
        ((M.lift (Ax.bin .neq t33 (V.int .i64 0))).bind fun t57 =>
        M.ite t57
          (M.pure (.ret [(V.bool true)]))
          ((M.lift (Ax.faddr 3 t9)).bind fun t59 =>
          (mstore 1 t59 t2).bind fun _ =>
          (mload (some 19) t9).bind fun t60 =>
          (mload (some 19) t11).bind fun t62 =>
          M.getH.bind fun h0 =>
          (G fn_palanquinhelp_Frame [t60]).bind fun t61 =>
          M.getH.bind fun h0' =>
          (M.unch t11 h0 h0').bind fun _ =>
          (G fn_palanquinhelp_Frame [t62]).bind fun t63 =>
          (G fn_palanquinref9_SameFrame [t61, t63]).bind fun t64 =>
          M.pure (.ret [t64])))))

theorem eq_palanquinlaw9_DependNumber (G : Sem') (t0 t1 t2 : V) : execK G ir_palanquinlaw9_DependNumber.rv ir_palanquinlaw9_DependNumber.body [] [] (params 0 [t0, t1, t2]) = f_palanquinlaw9_DependNumber G t0 t1 t2 := by kernel_rfl

theorem tb_palanquinlaw9_DependNumber : T fn_palanquinlaw9_DependNumber = some ir_palanquinlaw9_DependNumber := by kernel_rfl

theorem ok_palanquinlaw9_DependNumber {t0 t1 t2 : V} {H : Heap} {Q : V → Heap → Prop} (h : Ok (f_palanquinlaw9_DependNumber (sem T) t0 t1 t2) H fun r H' => ∃ L, r = .ret L ∧ Q (tupled L) H') : Ok (sem T fn_palanquinlaw9_DependNumber [t0, t1, t2]) H Q :=
  ok_sem tb_palanquinlaw9_DependNumber (Nat.le_of_ble_eq_true rfl) (eq_palanquinlaw9_DependNumber (sem T) t0 t1 t2) h

/-- palanquin/depend.Number. -/
def ir_depend_Number : Fn' := ⟨21, [.tmp 4],
  .ops [⟨(some 4), none, .mv (.c V.nils)⟩]
  (.ops [⟨(some 6), none, .mv (.s 0)⟩,
    ⟨(some 7), none, .call fn_bytes_Clone [(.s 6)]⟩,
    ⟨(some 5), none, .mv (.s 7)⟩]
  (.ops [⟨(some 8), none, .mv (.s 5)⟩,
    ⟨(some 9), none, .len (.s 8)⟩,
    ⟨(some 10), none, .bin .geq (.s 9) (.c (V.int .i64 3))⟩]
  (.condJ (.s 10)
  (.ops [⟨(some 11), none, .mv (.s 5)⟩,
     ⟨(some 12), none, .mv (.s 5)⟩,
     ⟨(some 13), none, .mv (.s 1)⟩,
     ⟨(some 14), none, .bin .shr (.s 13) (.c (V.int .u64 8))⟩,
     ⟨(some 15), none, .cint .u8 (.s 14)⟩,
     ⟨(some 16), none, .mv (.s 1)⟩,
     ⟨(some 17), none, .cint .u8 (.s 16)⟩,
     ⟨(some 18), none, .iaddr none 1 (.s 11) (.c (V.int .i64 1))⟩,
     ⟨none, none, .store 1 (.s 18) (.s 15)⟩,
     ⟨(some 19), none, .iaddr none 1 (.s 12) (.c (V.int .i64 2))⟩,
     ⟨none, none, .store 1 (.s 19) (.s 17)⟩]
   (.done))
  (.done) [] [11, 12, 13, 14, 15, 16, 17, 18, 19]
  (.ops [⟨(some 20), none, .mv (.s 5)⟩,
    ⟨(some 4), none, .mv (.s 20)⟩]
  (.ret)))))⟩

noncomputable def f_depend_Number (G : Sem') (t0 t1 : V) : M Res :=
  (G fn_bytes_Clone [t0]).bind fun t7 =>
  (M.lift (vlen t7)).bind fun t9 =>
  (M.lift (Ax.bin .geq t9 (V.int .i64 3))).bind fun t10 =>
  M.join (M.ite t10
    ((M.lift (Ax.bin .shr t1 (V.int .u64 8))).bind fun t14 =>
    (M.lift (Ax.cint .u8 t14)).bind fun t15 =>
    (M.lift (Ax.cint .u8 t1)).bind fun t17 =>
    (M.lift (Ax.iaddr none 1 t7 (V.int .i64 1))).bind fun t18 =>
    (mstore 1 t18 t15).bind fun _ =>
    (M.lift (Ax.iaddr none 1 t7 (V.int .i64 2))).bind fun t19 =>
    (mstore 1 t19 t17).bind fun _ =>
    M.pure (.nrm []))
    (M.pure (.nrm []))) fun _ =>
  M.pure (.ret [t7])

theorem eq_depend_Number (G : Sem') (t0 t1 : V) : execK G ir_depend_Number.rv ir_depend_Number.body [] [] (params 0 [t0, t1]) = f_depend_Number G t0 t1 := by kernel_rfl

theorem tb_depend_Number : T fn_depend_Number = some ir_depend_Number := by kernel_rfl

theorem ok_depend_Number {t0 t1 : V} {H : Heap} {Q : V → Heap → Prop} (h : Ok (f_depend_Number (sem T) t0 t1) H fun r H' => ∃ L, r = .ret L ∧ Q (tupled L) H') : Ok (sem T fn_depend_Number [t0, t1]) H Q :=
  ok_sem tb_depend_Number (Nat.le_of_ble_eq_true rfl) (eq_depend_Number (sem T) t0 t1) h

/-- bytes.Clone. -/
def ir_bytes_Clone : Fn' := ⟨8, [.tmp 2],
  .ops [⟨(some 2), none, .mv (.c V.nils)⟩]
  (.ops [⟨(some 3), none, .mv (.s 0)⟩,
    ⟨(some 4), none, .eq .sl false (.s 3) (.c V.nils)⟩]
  (.cond (.s 4)
  (.ops [⟨(some 2), none, .mv (.c V.nils)⟩]
   (.ret))
  (.ops [⟨(some 5), none, .slit ty_uint8 0 [(V.int .u8 0)] []⟩,
     ⟨(some 6), none, .mv (.s 0)⟩,
     ⟨(some 7), none, .append ty_uint8 1 1 (.s 5) (.s 6)⟩,
     ⟨(some 2), none, .mv (.s 7)⟩]
   (.ret))))⟩

noncomputable def f_bytes_Clone (G : Sem') (t0 : V) : M Res :=
  (M.lift (eqr .sl false t0 V.nils)).bind fun t4 =>
  M.ite t4
    (M.pure (.ret [V.nils]))
    ((mslit ty_uint8 0 [(V.int .u8 0)] []).bind fun t5 =>
    (mappend ty_uint8 1 1 t5 t0).bind fun t7 =>
    M.pure (.ret [t7]))

theorem eq_bytes_Clone (G : Sem') (t0 : V) : execK G ir_bytes_Clone.rv ir_bytes_Clone.body [] [] (params 0 [t0]) = f_bytes_Clone G t0 := by kernel_rfl

theorem tb_bytes_Clone : T fn_bytes_Clone = some ir_bytes_Clone := by kernel_rfl

theorem ok_bytes_Clone {t0 : V} {H : Heap} {Q : V → Heap → Prop} (h : Ok (f_bytes_Clone (sem T) t0) H fun r H' => ∃ L, r = .ret L ∧ Q (tupled L) H') : Ok (sem T fn_bytes_Clone [t0]) H Q :=
  ok_sem tb_bytes_Clone (Nat.le_of_ble_eq_true rfl) (eq_bytes_Clone (sem T) t0) h

/-- palanquin/palanquinlaw9.DependKnown. -/
def ir_palanquinlaw9_DependKnown : Fn' := ⟨229, [.tmp 0],
  .ops [⟨(some 0), none, .mv (.c (V.bool false))⟩]
  (.ops [⟨(some 28), none, .call fn_palanquinlaw9_awake []⟩,
    ⟨(some 29), none, .un .not (.s 28)⟩]
  (.cond (.s 29)
  (.ops [⟨(some 0), none, .mv (.c (V.bool false))⟩]
   (.ret))
  (.ops [⟨(some 31), none, .slit ty_uint8 2 [(V.int .u8 0)] [(0, 1, (.c (V.int .u8 0))), (1, 1, (.c (V.int .u8 0)))]⟩,
     ⟨(some 32), none, .call fn_palanquinlaw9_plain []⟩,
     ⟨(some 33), none, .call fn_depend_Parse [(.s 31), (.s 32)]⟩,
     ⟨(some 30), none, .mv (.s 33)⟩,
     ⟨(some 34), none, .ext 0 (.s 30)⟩,
     ⟨(some 35), none, .ext 1 (.s 30)⟩,
     ⟨(some 1), none, .box ty_depend_Frame (.c (V.agg [(V.bool false), (V.bool false), (V.int .i64 0), (V.int .u16 0), (V.bool false), (V.int .i64 0), (V.int .i64 0), V.nils, (V.int .i64 0), V.nils, V.nils, (V.bool false), (V.int .u32 0), (V.bool false), (V.bool false), (V.bool false), V.nils, V.nils, V.nils]))⟩,
     ⟨none, none, .store 19 (.s 1) (.s 34)⟩,
     ⟨(some 2), none, .mv (.s 35)⟩]
   (.ops [⟨(some 37), none, .slit ty_uint8 3 [(V.int .u8 0)] [(0, 1, (.c (V.int .u8 0))), (1, 1, (.c (V.int .u8 0))), (2, 1, (.c (V.int .u8 0)))]⟩,
     ⟨(some 38), none, .build [(V.int .i64 0), (V.int .i64 0), V.nils, (V.int .i64 0), V.nils, V.nils] []⟩,
     ⟨(some 39), none, .call fn_depend_Parse [(.s 37), (.s 38)]⟩,
     ⟨(some 36), none, .mv (.s 39)⟩,
     ⟨(some 40), none, .ext 0 (.s 36)⟩,
     ⟨(some 41), none, .ext 1 (.s 36)⟩,
     ⟨(some 3), none, .box ty_depend_Frame (.c (V.agg [(V.bool false), (V.bool false), (V.int .i64 0), (V.int .u16 0), (V.bool false), (V.int .i64 0), (V.int .i64 0), V.nils, (V.int .i64 0), V.nils, V.nils, (V.bool false), (V.int .u32 0), (V.bool false), (V.bool false), (V.bool false), V.nils, V.nils, V.nils]))⟩,
     ⟨none, none, .store 19 (.s 3) (.s 40)⟩,
     ⟨(some 4), none, .mv (.s 41)⟩]
   (.ops [⟨(some 43), none, .slit ty_uint8 3 [(V.int .u8 0)] [(0, 1, (.c (V.int .u8 192))), (1, 1, (.c (V.int .u8 1))), (2, 1, (.c (V.int .u8 2)))]⟩,
     ⟨(some 44), none, .call fn_palanquinlaw9_plain []⟩,
     ⟨(some 45), none, .call fn_depend_Parse [(.s 43), (.s 44)]⟩,
     ⟨(some 42), none, .mv (.s 45)⟩,
     ⟨(some 46), none, .ext 0 (.s 42)⟩,
     ⟨(some 47), none, .ext 1 (.s 42)⟩,
     ⟨(some 5), none, .box ty_depend_Frame (.c (V.agg [(V.bool false), (V.bool false), (V.int .i64 0), (V.int .u16 0), (V.bool false), (V.int .i64 0), (V.int .i64 0), V.nils, (V.int .i64 0), V.nils, V.nils, (V.bool false), (V.int .u32 0), (V.bool false), (V.bool false), (V.bool false), V.nils, V.nils, V.nils]))⟩,
     ⟨none, none, .store 19 (.s 5) (.s 46)⟩,
     ⟨(some 6), none, .mv (.s 47)⟩]
   (.ops [⟨(some 49), none, .slit ty_uint8 3 [(V.int .u8 0)] [(0, 1, (.c (V.int .u8 1))), (1, 1, (.c (V.int .u8 0))), (2, 1, (.c (V.int .u8 0)))]⟩,
     ⟨(some 50), none, .call fn_palanquinlaw9_plain []⟩,
     ⟨(some 51), none, .call fn_depend_Parse [(.s 49), (.s 50)]⟩,
     ⟨(some 48), none, .mv (.s 51)⟩,
     ⟨(some 52), none, .ext 0 (.s 48)⟩,
     ⟨(some 53), none, .ext 1 (.s 48)⟩,
     ⟨(some 7), none, .box ty_depend_Frame (.c (V.agg [(V.bool false), (V.bool false), (V.int .i64 0), (V.int .u16 0), (V.bool false), (V.int .i64 0), (V.int .i64 0), V.nils, (V.int .i64 0), V.nils, V.nils, (V.bool false), (V.int .u32 0), (V.bool false), (V.bool false), (V.bool false), V.nils, V.nils, V.nils]))⟩,
     ⟨none, none, .store 19 (.s 7) (.s 52)⟩,
     ⟨(some 8), none, .mv (.s 53)⟩]
   (.ops [⟨(some 55), none, .slit ty_uint8 4 [(V.int .u8 0)] [(0, 1, (.c (V.int .u8 0))), (1, 1, (.c (V.int .u8 0))), (2, 1, (.c (V.int .u8 0))), (3, 1, (.c (V.int .u8 1)))]⟩,
     ⟨(some 56), none, .call fn_palanquinlaw9_plain []⟩,
     ⟨(some 57), none, .call fn_depend_Parse [(.s 55), (.s 56)]⟩,
     ⟨(some 54), none, .mv (.s 57)⟩,
     ⟨(some 58), none, .ext 0 (.s 54)⟩,
     ⟨(some 59), none, .ext 1 (.s 54)⟩,
     ⟨(some 9), none, .box ty_depend_Frame (.c (V.agg [(V.bool false), (V.bool false), (V.int .i64 0), (V.int .u16 0), (V.bool false), (V.int .i64 0), (V.int .i64 0), V.nils, (V.int .i64 0), V.nils, V.nils, (V.bool false), (V.int .u32 0), (V.bool false), (V.bool false), (V.bool false), V.nils, V.nils, V.nils]))⟩,
     ⟨none, none, .store 19 (.s 9) (.s 58)⟩,
     ⟨(some 10), none, .mv (.s 59)⟩]
   (.ops [⟨(some 61), none, .slit ty_uint8 4 [(V.int .u8 0)] [(0, 1, (.c (V.int .u8 0))), (1, 1, (.c (V.int .u8 0))), (2, 1, (.c (V.int .u8 0))), (3, 1, (.c (V.int .u8 128)))]⟩,
     ⟨(some 62), none, .call fn_palanquinlaw9_plain []⟩,
     ⟨(some 63), none, .call fn_depend_Parse [(.s 61), (.s 62)]⟩,
     ⟨(some 60), none, .mv (.s 63)⟩,
     ⟨(some 64), none, .ext 0 (.s 60)⟩,
     ⟨(some 65), none, .ext 1 (.s 60)⟩,
     ⟨(some 11), none, .box ty_depend_Frame (.c (V.agg [(V.bool false), (V.bool false), (V.int .i64 0), (V.int .u16 0), (V.bool false), (V.int .i64 0), (V.int .i64 0), V.nils, (V.int .i64 0), V.nils, V.nils, (V.bool false), (V.int .u32 0), (V.bool false), (V.bool false), (V.bool false), V.nils, V.nils, V.nils]))⟩,
     ⟨none, none, .store 19 (.s 11) (.s 64)⟩,
     ⟨(some 12), none, .mv (.s 65)⟩]
   (.ops [⟨(some 67), none, .slit ty_uint8 5 [(V.int .u8 0)] [(0, 1, (.c (V.int .u8 0))), (1, 1, (.c (V.int .u8 0))), (2, 1, (.c (V.int .u8 0))), (3, 1, (.c (V.int .u8 68))), (4, 1, (.c (V.int .u8 0)))]⟩,
     ⟨(some 68), none, .call fn_palanquinlaw9_plain []⟩,
     ⟨(some 69), none, .call fn_depend_Parse [(.s 67), (.s 68)]⟩,
     ⟨(some 66), none, .mv (.s 69)⟩,
     ⟨(some 70), none, .ext 0 (.s 66)⟩,
     ⟨(some 71), none, .ext 1 (.s 66)⟩,
     ⟨(some 13), none, .box ty_depend_Frame (.c (V.agg [(V.bool false), (V.bool false), (V.int .i64 0), (V.int .u16 0), (V.bool false), (V.int .i64 0), (V.int .i64 0), V.nils, (V.int .i64 0), V.nils, V.nils, (V.bool false), (V.int .u32 0), (V.bool false), (V.bool false), (V.bool false), V.nils, V.nils, V.nils]))⟩,
     ⟨none, none, .store 19 (.s 13) (.s 70)⟩,
     ⟨(some 14), none, .mv (.s 71)⟩]
   (.ops [⟨(some 73), none, .slit ty_uint8 5 [(V.int .u8 0)] [(0, 1, (.c (V.int .u8 0))), (1, 1, (.c (V.int .u8 0))), (2, 1, (.c (V.int .u8 0))), (3, 1, (.c (V.int .u8 18))), (4, 1, (.c (V.int .u8 96)))]⟩,
     ⟨(some 74), none, .call fn_palanquinlaw9_plain []⟩,
     ⟨(some 75), none, .call fn_depend_Parse [(.s 73), (.s 74)]⟩,
     ⟨(some 72), none, .mv (.s 75)⟩,
     ⟨(some 76), none, .ext 0 (.s 72)⟩,
     ⟨(some 77), none, .ext 1 (.s 72)⟩,
     ⟨(some 15), none, .box ty_depend_Frame (.c (V.agg [(V.bool false), (V.bool false), (V.int .i64 0), (V.int .u16 0), (V.bool false), (V.int .i64 0), (V.int .i64 0), V.nils, (V.int .i64 0), V.nils, V.nils, (V.bool false), (V.int .u32 0), (V.bool false), (V.bool false), (V.bool false), V.nils, V.nils, V.nils]))⟩,
     ⟨none, none, .store 19 (.s 15) (.s 76)⟩,
     ⟨(some 16), none, .mv (.s 77)⟩]
   (.ops [⟨(some 78), none, .call fn_palanquinlaw9_plain []⟩,
     ⟨(some 17), none, .box ty_depend_Structure (.c (V.agg [(V.int .i64 0), (V.int .i64 0), V.nils, (V.int .i64 0), V.nils, V.nils]))⟩,
     ⟨none, none, .store 6 (.s 17) (.s 78)⟩]
   (.ops [⟨(some 79), none, .faddr 1 (.s 17)⟩,
     ⟨none, none, .store 1 (.s 79) (.c (V.int .i64 33))⟩]
   (.ops [⟨(some 80), none, .call fn_palanquinlaw9_plain []⟩,
     ⟨(some 18), none, .box ty_depend_Structure (.c (V.agg [(V.int .i64 0), (V.int .i64 0), V.nils, (V.int .i64 0), V.nils, V.nils]))⟩,
     ⟨none, none, .store 6 (.s 18) (.s 80)⟩]
   (.ops [⟨(some 81), none, .faddr 2 (.s 18)⟩,
     ⟨(some 82), none, .load none (.s 81)⟩,
     ⟨(some 83), none, .slit ty_int 1 [(V.int .i64 0)] [(0, 1, (.c (V.int .i64 0)))]⟩,
     ⟨(some 84), none, .build [(V.int .i64 0), (V.int .i64 0), V.nils, V.nils, V.nils] [(0, 1, (.c (V.int .i64 1))), (1, 1, (.c (V.int .i64 1))), (2, 1, (.s 83))]⟩,
     ⟨(some 85), none, .slit ty_depend_Template 1 [(V.int .i64 0), (V.int .i64 0), V.nils, V.nils, V.nils] [(0, 5, (.s 84))]⟩,
     ⟨(some 86), none, .append ty_depend_Template 5 88 (.s 82) (.s 85)⟩,
     ⟨(some 87), none, .faddr 2 (.s 18)⟩,
     ⟨none, none, .store 1 (.s 87) (.s 86)⟩]
   (.ops [⟨(some 89), none, .slit ty_int 1 [(V.int .i64 0)] [(0, 1, (.c (V.int .i64 1)))]⟩,
     ⟨(some 90), none, .build [(V.bool false), (V.bool false), (V.int .i64 0), (V.int .u16 0), (V.bool false), (V.int .i64 0), (V.int .i64 0), V.nils, (V.int .i64 0), V.nils, V.nils, (V.bool false), (V.int .u32 0), (V.bool false), (V.bool false), (V.bool false), V.nils, V.nils, V.nils] [(16, 1, (.s 89))]⟩,
     ⟨(some 91), none, .call fn_palanquinlaw9_plain []⟩,
     ⟨(some 92), none, .call fn_depend_Bytes [(.s 90), (.s 91)]⟩,
     ⟨(some 88), none, .mv (.s 92)⟩,
     ⟨(some 93), none, .ext 0 (.s 88)⟩,
     ⟨(some 94), none, .ext 1 (.s 88)⟩,
     ⟨(some 19), none, .mv (.s 93)⟩,
     ⟨(some 20), none, .mv (.s 94)⟩]
   (.ops [⟨(some 96), none, .call fn_palanquinlaw9_plain []⟩,
     ⟨(some 97), none, .call fn_depend_Layers [(.s 96), (.c (V.int .i64 0))]⟩,
     ⟨(some 95), none, .mv (.s 97)⟩,
     ⟨(some 98), none, .ext 0 (.s 95)⟩,
     ⟨(some 99), none, .ext 1 (.s 95)⟩,
     ⟨(some 100), none, .ext 2 (.s 95)⟩,
     ⟨(some 21), none, .mv (.s 98)⟩,
     ⟨(some 22), none, .mv (.s 99)⟩,
     ⟨(some 23), none, .mv (.s 100)⟩]
   (.ops [⟨(some 102), none, .call fn_palanquinlaw9_plain []⟩,
     ⟨(some 103), none, .call fn_depend_Layers [(.s 102), (.c (V.int .i64 1))]⟩,
     ⟨(some 101), none, .mv (.s 103)⟩,
     ⟨(some 104), none, .ext 0 (.s 101)⟩,
     ⟨(some 105), none, .ext 1 (.s 101)⟩,
     ⟨(some 106), none, .ext 2 (.s 101)⟩,
     ⟨(some 24), none, .mv (.s 104)⟩,
     ⟨(some 25), none, .mv (.s 105)⟩,
     ⟨(some 26), none, .mv (.s 106)⟩]
   (.ops [⟨(some 107), none, .slit ty_uint8 4 [(V.int .u8 0)] [(0, 1, (.c (V.int .u8 1))), (1, 1, (.c (V.int .u8 2))), (2, 1, (.c (V.int .u8 3))), (3, 1, (.c (V.int .u8 4)))]⟩,
     ⟨(some 108), none, .call fn_depend_Number [(.s 107), (.c (V.int .u16 1286))]⟩,
     ⟨(some 27), none, .mv (.s 108)⟩]
   (.ops [⟨(some 109), none, .mv (.s 2)⟩,
     ⟨(some 110), none, .bin .eql (.s 109) (.c (V.int .i64 3))⟩,
     ⟨(some 111), none, .mv (.s 110)⟩,
     ⟨(some 112), (some (111, true)), .mv (.s 4)⟩,
     ⟨(some 113), (some (111, true)), .bin .eql (.s 112) (.c (V.int .i64 2))⟩,
     ⟨(some 114), none, .pick (.s 111) (.s 113) (.c (V.bool false))⟩,
     ⟨(some 115), none, .mv (.s 114)⟩,
     ⟨(some 116), (some (115, true)), .mv (.s 6)⟩,
     ⟨(some 117), (some (115, true)), .bin .eql (.s 116) (.c (V.int .i64 0))⟩,
     ⟨(some 118), none, .pick (.s 115) (.s 117) (.c (V.bool false))⟩,
     ⟨(some 119), none, .mv (.s 118)⟩,
     ⟨(some 120), (some (119, true)), .faddr 0 (.s 5)⟩,
     ⟨(some 121), (some (119, true)), .load none (.s 120)⟩,
     ⟨(some 122), none, .pick (.s 119) (.s 121) (.c (V.bool false))⟩,
     ⟨(some 123), none, .mv (.s 122)⟩,
     ⟨(some 124), (some (123, true)), .faddr 1 (.s 5)⟩,
     ⟨(some 125), (some (123, true)), .load none (.s 124)⟩,
     ⟨(some 126), none, .pick (.s 123) (.s 125) (.c (V.bool false))⟩,
     ⟨(some 127), none, .mv (.s 126)⟩,
     ⟨(some 128), (some (127, true)), .faddr 3 (.s 5)⟩,
     ⟨(some 129), (some (127, true)), .load none (.s 128)⟩,
     ⟨(some 130), (some (127, true)), .bin .eql (.s 129) (.c (V.int .u16 258))⟩,
     ⟨(some 131), none, .pick (.s 127) (.s 130) (.c (V.bool false))⟩,
     ⟨(some 132), none, .mv (.s 131)⟩,
     ⟨(some 133), (some (132, true)), .faddr 16 (.s 5)⟩,
     ⟨(some 134), (some (132, true)), .load none (.s 133)⟩,
     ⟨(some 135), (some (132, true)), .len (.s 134)⟩,
     ⟨(some 136), (some (132, true)), .bin .eql (.s 135) (.c (V.int .i64 1))⟩,
     ⟨(some 137), none, .pick (.s 132) (.s 136) (.c (V.bool false))⟩,
     ⟨(some 138), none, .mv (.s 137)⟩,
     ⟨(some 139), (some (138, true)), .mv (.s 8)⟩,
     ⟨(some 140), (some (138, true)), .bin .eql (.s 139) (.c (V.int .i64 2))⟩,
     ⟨(some 141), none, .pick (.s 138) (.s 140) (.c (V.bool false))⟩,
     ⟨(some 142), none, .mv (.s 141)⟩,
     ⟨(some 143), (some (142, true)), .mv (.s 10)⟩,
     ⟨(some 144), (some (142, true)), .bin .eql (.s 143) (.c (V.int .i64 2))⟩,
     ⟨(some 145), none, .pick (.s 142) (.s 144) (.c (V.bool false))⟩,
     ⟨(some 146), none, .mv (.s 145)⟩,
     ⟨(some 147), (some (146, true)), .mv (.s 12)⟩,
     ⟨(some 148), (some (146, true)), .bin .eql (.s 147) (.c (V.int .i64 3))⟩,
     ⟨(some 149), none, .pick (.s 146) (.s 148) (.c (V.bool false))⟩,
     ⟨(some 150), none, .mv (.s 149)⟩,
     ⟨(some 151), (some (150, true)), .mv (.s 14)⟩,
     ⟨(some 152), (some (150, true)), .bin .eql (.s 151) (.c (V.int .i64 0))⟩,
     ⟨(some 153), none, .pick (.s 150) (.s 152) (.c (V.bool false))⟩,
     ⟨(some 154), none, .mv (.s 153)⟩,
     ⟨(some 155), (some (154, true)), .faddr 11 (.s 13)⟩,
     ⟨(some 156), (some (154, true)), .load none (.s 155)⟩,
     ⟨(some 157), none, .pick (.s 154) (.s 156) (.c (V.bool false))⟩,
     ⟨(some 158), none, .mv (.s 157)⟩,
     ⟨(some 159), (some (158, true)), .faddr 12 (.s 13)⟩,
     ⟨(some 160), (some (158, true)), .load none (.s 159)⟩,
     ⟨(some 161), (some (158, true)), .bin .eql (.s 160) (.c (V.int .u32 1))⟩,
     ⟨(some 162), none, .pick (.s 158) (.s 161) (.c (V.bool false))⟩,
     ⟨(some 163), none, .mv (.s 162)⟩,
     ⟨(some 164), (some (163, true)), .mv (.s 16)⟩,
     ⟨(some 165), (some (163, true)), .bin .eql (.s 164) (.c (V.int .i64 0))⟩,
     ⟨(some 166), none, .pick (.s 163) (.s 165) (.c (V.bool false))⟩,
     ⟨(some 167), none, .mv (.s 166)⟩,
     ⟨(some 168), (some (167, true)), .faddr 14 (.s 15)⟩,
     ⟨(some 169), (some (167, true)), .load none (.s 168)⟩,
     ⟨(some 170), none, .pick (.s 167) (.s 169) (.c (V.bool false))⟩,
     ⟨(some 171), none, .mv (.s 170)⟩,
     ⟨(some 172), (some (171, true)), .faddr 17 (.s 15)⟩,
     ⟨(some 173), (some (171, true)), .load none (.s 172)⟩,
     ⟨(some 174), (some (171, true)), .len (.s 173)⟩,
     ⟨(some 175), (some (171, true)), .bin .eql (.s 174) (.c (V.int .i64 1))⟩,
     ⟨(some 176), none, .pick (.s 171) (.s 175) (.c (V.bool false))⟩,
     ⟨(some 177), none, .mv (.s 176)⟩,
     ⟨(some 178), (some (177, true)), .faddr 17 (.s 15)⟩,
     ⟨(some 179), (some (177, true)), .load none (.s 178)⟩,
     ⟨(some 180), (some (177, true)), .iaddr none 1 (.s 179) (.c (V.int .i64 0))⟩,
     ⟨(some 181), (some (177, true)), .load none (.s 180)⟩,
     ⟨(some 182), (some (177, true)), .bin .eql (.s 181) (.c (V.int .i64 4))⟩,
     ⟨(some 183), none, .pick (.s 177) (.s 182) (.c (V.bool false))⟩,
     ⟨(some 184), none, .mv (.s 183)⟩,
     ⟨(some 185), (some (184, true)), .load (some 6) (.s 17)⟩,
     ⟨(some 186), (some (184, true)), .call fn_depend_Fine [(.s 185)]⟩,
     ⟨(some 187), (some (184, true)), .un .not (.s 186)⟩,
     ⟨(some 188), none, .pick (.s 184) (.s 187) (.c (V.bool false))⟩,
     ⟨(some 189), none, .mv (.s 188)⟩,
     ⟨(some 190), (some (189, true)), .load (some 6) (.s 18)⟩,
     ⟨(some 191), (some (189, true)), .call fn_depend_Fine [(.s 190)]⟩,
     ⟨(some 192), (some (189, true)), .un .not (.s 191)⟩,
     ⟨(some 193), none, .pick (.s 189) (.s 192) (.c (V.bool false))⟩,
     ⟨(some 194), none, .mv (.s 193)⟩,
     ⟨(some 195), (some (194, true)), .mv (.s 19)⟩,
     ⟨(some 196), (some (194, true)), .len (.s 195)⟩,
     ⟨(some 197), (some (194, true)), .bin .eql (.s 196) (.c (V.int .i64 0))⟩,
     ⟨(some 198), none, .pick (.s 194) (.s 197) (.c (V.bool false))⟩,
     ⟨(some 199), none, .mv (.s 198)⟩,
     ⟨(some 200), (some (199, true)), .mv (.s 20)⟩,
     ⟨(some 201), (some (199, true)), .bin .eql (.s 200) (.c (V.int .i64 1))⟩,
     ⟨(some 202), none, .pick (.s 199) (.s 201) (.c (V.bool false))⟩,
     ⟨(some 203), none, .mv (.s 202)⟩,
     ⟨(some 204), (some (203, true)), .mv (.s 23)⟩,
     ⟨(some 205), none, .pick (.s 203) (.s 204) (.c (V.bool false))⟩,
     ⟨(some 206), none, .mv (.s 205)⟩,
     ⟨(some 207), (some (206, true)), .mv (.s 21)⟩,
     ⟨(some 208), (some (206, true)), .bin .eql (.s 207) (.c (V.int .i64 0))⟩,
     ⟨(some 209), none, .pick (.s 206) (.s 208) (.c (V.bool false))⟩,
     ⟨(some 210), none, .mv (.s 209)⟩,
     ⟨(some 211), (some (210, true)), .mv (.s 22)⟩,
     ⟨(some 212), (some (210, true)), .bin .eql (.s 211) (.c (V.int .i64 0))⟩,
     ⟨(some 213), none, .pick (.s 210) (.s 212) (.c (V.bool false))⟩,
     ⟨(some 214), none, .mv (.s 213)⟩,
     ⟨(some 215), (some (214, true)), .mv (.s 26)⟩,
     ⟨(some 216), (some (214, true)), .un .not (.s 215)⟩,
     ⟨(some 217), none, .pick (.s 214) (.s 216) (.c (V.bool false))⟩,
     ⟨(some 218), none, .mv (.s 217)⟩,
     ⟨(some 219), (some (218, true)), .mv (.s 27)⟩,
     ⟨(some 220), (some (218, true)), .tostr (.s 219)⟩,
     ⟨(some 221), (some (218, true)), .bin .eql (.s 220) (.c (V.str ⟨#[1, 5, 6, 4]⟩))⟩,
     ⟨(some 222), none, .pick (.s 218) (.s 221) (.c (V.bool false))⟩,
     ⟨(some 223), none, .mv (.s 222)⟩,
     ⟨(some 224), (some (223, true)), .slit ty_uint8 1 [(V.int .u8 0)] [(0, 1, (.c (V.int .u8 1)))]⟩,
     ⟨(some 225), (some (223, true)), .call fn_depend_Number [(.s 224), (.c (V.int .u16 7))]⟩,
     ⟨(some 226), (some (223, true)), .len (.s 225)⟩,
     ⟨(some 227), (some (223, true)), .bin .eql (.s 226) (.c (V.int .i64 1))⟩,
     ⟨(some 228), none, .pick (.s 223) (.s 227) (.c (V.bool false))⟩,
     ⟨(some 0), none, .mv (.s 228)⟩]
   (.ret))))))))))))))))))))⟩

noncomputable def f_palanquinlaw9_DependKnown (G : Sem') : M Res :=
  (G fn_palanquinlaw9_awake []).bind fun t28 =>
  (M.lift (Ax.un .not t28)).bind fun t29 =>
  M.ite t29
    (M.pure (.ret [(V.bool false)]))
    ((mslit ty_uint8 2 [(V.int .u8 0)] [(0, 1, (V.int .u8 0)), (1, 1, (V.int .u8 0))]).bind fun t31 =>
    (G fn_palanquinlaw9_plain []).bind fun t32 =>
    (G fn_depend_Parse [t31, t32]).bind fun t33 =>
    (M.lift (Ax.ext 0 t33)).bind fun t34 =>
    (M.lift (Ax.ext 1 t33)).bind fun t35 =>
    (mbox ty_depend_Frame (V.agg [(V.bool false), (V.bool false), (V.int .i64 0), (V.int .u16 0), (V.bool false), (V.int .i64 0), (V.int .i64 0), V.nils, (V.int .i64 0), V.nils, V.nils, (V.bool false), (V.int .u32 0), (V.bool false), (V.bool false), (V.bool false), V.nils, V.nils, V.nils])).bind fun t1 =>
    (mstore 19 t1 t34).bind fun _ =>
    (mslit ty_uint8 3 [(V.int .u8 0)] [(0, 1, (V.int .u8 0)), (1, 1, (V.int .u8 0)), (2, 1, (V.int .u8 0))]).bind fun t37 =>
    (M.lift (Ax.build [(V.int .i64 0), (V.int .i64 0), V.nils, (V.int .i64 0), V.nils, V.nils] [])).bind fun t38 =>
    (G fn_depend_Parse [t37, t38]).bind fun t39 =>
    (M.lift (Ax.ext 0 t39)).bind fun t40 =>
    (M.lift (Ax.ext 1 t39)).bind fun t41 =>
    (mbox ty_depend_Frame (V.agg [(V.bool false), (V.bool false), (V.int .i64 0), (V.int .u16 0), (V.bool false), (V.int .i64 0), (V.int .i64 0), V.nils, (V.int .i64 0), V.nils, V.nils, (V.bool false), (V.int .u32 0), (V.bool false), (V.bool false), (V.bool false), V.nils, V.nils, V.nils])).bind fun t3 =>
    (mstore 19 t3 t40).bind fun _ =>
    (mslit ty_uint8 3 [(V.int .u8 0)] [(0, 1, (V.int .u8 192)), (1, 1, (V.int .u8 1)), (2, 1, (V.int .u8 2))]).bind fun t43 =>
    (G fn_palanquinlaw9_plain []).bind fun t44 =>
    (G fn_depend_Parse [t43, t44]).bind fun t45 =>
    (M.lift (Ax.ext 0 t45)).bind fun t46 =>
    (M.lift (Ax.ext 1 t45)).bind fun t47 =>
    (mbox ty_depend_Frame (V.agg [(V.bool false), (V.bool false), (V.int .i64 0), (V.int .u16 0), (V.bool false), (V.int .i64 0), (V.int .i64 0), V.nils, (V.int .i64 0), V.nils, V.nils, (V.bool false), (V.int .u32 0), (V.bool false), (V.bool false), (V.bool false), V.nils, V.nils, V.nils])).bind fun t5 =>
    (mstore 19 t5 t46).bind fun _ =>
    (mslit ty_uint8 3 [(V.int .u8 0)] [(0, 1, (V.int .u8 1)), (1, 1, (V.int .u8 0)), (2, 1, (V.int .u8 0))]).bind fun t49 =>
    (G fn_palanquinlaw9_plain []).bind fun t50 =>
    (G fn_depend_Parse [t49, t50]).bind fun t51 =>
    (M.lift (Ax.ext 0 t51)).bind fun t52 =>
    (M.lift (Ax.ext 1 t51)).bind fun t53 =>
    (mbox ty_depend_Frame (V.agg [(V.bool false), (V.bool false), (V.int .i64 0), (V.int .u16 0), (V.bool false), (V.int .i64 0), (V.int .i64 0), V.nils, (V.int .i64 0), V.nils, V.nils, (V.bool false), (V.int .u32 0), (V.bool false), (V.bool false), (V.bool false), V.nils, V.nils, V.nils])).bind fun t7 =>
    (mstore 19 t7 t52).bind fun _ =>
    (mslit ty_uint8 4 [(V.int .u8 0)] [(0, 1, (V.int .u8 0)), (1, 1, (V.int .u8 0)), (2, 1, (V.int .u8 0)), (3, 1, (V.int .u8 1))]).bind fun t55 =>
    (G fn_palanquinlaw9_plain []).bind fun t56 =>
    (G fn_depend_Parse [t55, t56]).bind fun t57 =>
    (M.lift (Ax.ext 0 t57)).bind fun t58 =>
    (M.lift (Ax.ext 1 t57)).bind fun t59 =>
    (mbox ty_depend_Frame (V.agg [(V.bool false), (V.bool false), (V.int .i64 0), (V.int .u16 0), (V.bool false), (V.int .i64 0), (V.int .i64 0), V.nils, (V.int .i64 0), V.nils, V.nils, (V.bool false), (V.int .u32 0), (V.bool false), (V.bool false), (V.bool false), V.nils, V.nils, V.nils])).bind fun t9 =>
    (mstore 19 t9 t58).bind fun _ =>
    (mslit ty_uint8 4 [(V.int .u8 0)] [(0, 1, (V.int .u8 0)), (1, 1, (V.int .u8 0)), (2, 1, (V.int .u8 0)), (3, 1, (V.int .u8 128))]).bind fun t61 =>
    (G fn_palanquinlaw9_plain []).bind fun t62 =>
    (G fn_depend_Parse [t61, t62]).bind fun t63 =>
    (M.lift (Ax.ext 0 t63)).bind fun t64 =>
    (M.lift (Ax.ext 1 t63)).bind fun t65 =>
    (mbox ty_depend_Frame (V.agg [(V.bool false), (V.bool false), (V.int .i64 0), (V.int .u16 0), (V.bool false), (V.int .i64 0), (V.int .i64 0), V.nils, (V.int .i64 0), V.nils, V.nils, (V.bool false), (V.int .u32 0), (V.bool false), (V.bool false), (V.bool false), V.nils, V.nils, V.nils])).bind fun t11 =>
    (mstore 19 t11 t64).bind fun _ =>
    (mslit ty_uint8 5 [(V.int .u8 0)] [(0, 1, (V.int .u8 0)), (1, 1, (V.int .u8 0)), (2, 1, (V.int .u8 0)), (3, 1, (V.int .u8 68)), (4, 1, (V.int .u8 0))]).bind fun t67 =>
    (G fn_palanquinlaw9_plain []).bind fun t68 =>
    (G fn_depend_Parse [t67, t68]).bind fun t69 =>
    (M.lift (Ax.ext 0 t69)).bind fun t70 =>
    (M.lift (Ax.ext 1 t69)).bind fun t71 =>
    (mbox ty_depend_Frame (V.agg [(V.bool false), (V.bool false), (V.int .i64 0), (V.int .u16 0), (V.bool false), (V.int .i64 0), (V.int .i64 0), V.nils, (V.int .i64 0), V.nils, V.nils, (V.bool false), (V.int .u32 0), (V.bool false), (V.bool false), (V.bool false), V.nils, V.nils, V.nils])).bind fun t13 =>
    (mstore 19 t13 t70).bind fun _ =>
    (mslit ty_uint8 5 [(V.int .u8 0)] [(0, 1, (V.int .u8 0)), (1, 1, (V.int .u8 0)), (2, 1, (V.int .u8 0)), (3, 1, (V.int .u8 18)), (4, 1, (V.int .u8 96))]).bind fun t73 =>
    (G fn_palanquinlaw9_plain []).bind fun t74 =>
    (G fn_depend_Parse [t73, t74]).bind fun t75 =>
    (M.lift (Ax.ext 0 t75)).bind fun t76 =>
    (M.lift (Ax.ext 1 t75)).bind fun t77 =>
    (mbox ty_depend_Frame (V.agg [(V.bool false), (V.bool false), (V.int .i64 0), (V.int .u16 0), (V.bool false), (V.int .i64 0), (V.int .i64 0), V.nils, (V.int .i64 0), V.nils, V.nils, (V.bool false), (V.int .u32 0), (V.bool false), (V.bool false), (V.bool false), V.nils, V.nils, V.nils])).bind fun t15 =>
    (mstore 19 t15 t76).bind fun _ =>
    (G fn_palanquinlaw9_plain []).bind fun t78 =>
    (mbox ty_depend_Structure (V.agg [(V.int .i64 0), (V.int .i64 0), V.nils, (V.int .i64 0), V.nils, V.nils])).bind fun t17 =>
    (mstore 6 t17 t78).bind fun _ =>
    (M.lift (Ax.faddr 1 t17)).bind fun t79 =>
    (mstore 1 t79 (V.int .i64 33)).bind fun _ =>
    (G fn_palanquinlaw9_plain []).bind fun t80 =>
    (mbox ty_depend_Structure (V.agg [(V.int .i64 0), (V.int .i64 0), V.nils, (V.int .i64 0), V.nils, V.nils])).bind fun t18 =>
    (mstore 6 t18 t80).bind fun _ =>
    (M.lift (Ax.faddr 2 t18)).bind fun t81 =>
    (mload none t81).bind fun t82 =>
    (mslit ty_int 1 [(V.int .i64 0)] [(0, 1, (V.int .i64 0))]).bind fun t83 =>
    (M.lift (Ax.build [(V.int .i64 0), (V.int .i64 0), V.nils, V.nils, V.nils] [(0, 1, (V.int .i64 1)), (1, 1, (V.int .i64 1)), (2, 1, t83)])).bind fun t84 =>
    (mslit ty_depend_Template 1 [(V.int .i64 0), (V.int .i64 0), V.nils, V.nils, V.nils] [(0, 5, t84)]).bind fun t85 =>
    (mappend ty_depend_Template 5 88 t82 t85).bind fun t86 =>
    (M.lift (Ax.faddr 2 t18)).bind fun t87 =>
    (mstore 1 t87 t86).bind fun _ =>
    (mslit ty_int 1 [(V.int .i64 0)] [(0, 1, (V.int .i64 1))]).bind fun t89 =>
    (M.lift (Ax.build [(V.bool false), (V.bool false), (V.int .i64 0), (V.int .u16 0), (V.bool false), (V.int .i64 0), (V.int .i64 0), V.nils, (V.int .i64 0), V.nils, V.nils, (V.bool false), (V.int .u32 0), (V.bool false), (V.bool false), (V.bool false), V.nils, V.nils, V.nils] [(16, 1, t89)])).bind fun t90 =>
    (G fn_palanquinlaw9_plain []).bind fun t91 =>
    (G fn_depend_Bytes [t90, t91]).bind fun t92 =>
    (M.lift (Ax.ext 0 t92)).bind fun t93 =>
    (M.lift (Ax.ext 1 t92)).bind fun t94 =>
    (G fn_palanquinlaw9_plain []).bind fun t96 =>
    (G fn_depend_Layers [t96, (V.int .i64 0)]).bind fun t97 =>
    (M.lift (Ax.ext 0 t97)).bind fun t98 =>
    (M.lift (Ax.ext 1 t97)).bind fun t99 =>
    (M.lift (Ax.ext 2 t97)).bind fun t100 =>
    (G fn_palanquinlaw9_plain []).bind fun t102 =>
    (G fn_depend_Layers [t102, (V.int .i64 1)]).bind fun t103 =>
    (M.lift (Ax.ext 0 t103)).bind fun t104 =>
    (M.lift (Ax.ext 1 t103)).bind fun t105 =>
    (M.lift (Ax.ext 2 t103)).bind fun t106 =>
    (mslit ty_uint8 4 [(V.int .u8 0)] [(0, 1, (V.int .u8 1)), (1, 1, (V.int .u8 2)), (2, 1, (V.int .u8 3)), (3, 1, (V.int .u8 4))]).bind fun t107 =>
    (G fn_depend_Number [t107, (V.int .u16 1286)]).bind fun t108 =>
    (M.lift (Ax.bin .eql t35 (V.int .i64 3))).bind fun t110 =>
    (guarded [(0, t110)] (some (0, true)) (M.pure t41)).bind fun t112 =>
    (guarded [(0, t110)] (some (0, true)) (M.lift (Ax.bin .eql t112 (V.int .i64 2)))).bind fun t113 =>
    (M.lift (Ax.pick t110 t113 (V.bool false))).bind fun t114 =>
    (guarded [(0, t114)] (some (0, true)) (M.pure t47)).bind fun t116 =>
    (guarded [(0, t114)] (some (0, true)) (M.lift (Ax.bin .eql t116 (V.int .i64 0)))).bind fun t117 =>
    (M.lift (Ax.pick t114 t117 (V.bool false))).bind fun t118 =>
    (guarded [(0, t118)] (some (0, true)) (M.lift (Ax.faddr 0 t5))).bind fun t120 =>
    (guarded [(0, t118)] (some (0, true)) (mload none t120)).bind fun t121 =>
    (M.lift (Ax.pick t118 t121 (V.bool false))).bind fun t122 =>
    (guarded [(0, t122)] (some (0, true)) (M.lift (Ax.faddr 1 t5))).bind fun t124 =>
    (guarded [(0, t122)] (some (0, true)) (mload none t124)).bind fun t125 =>
    (M.lift (Ax.pick t122 t125 (V.bool false))).bind fun t126 =>
    (guarded [(0, t126)] (some (0, true)) (M.lift (Ax.faddr 3 t5))).bind fun t128 =>
    (guarded [(0, t126)] (some (0, true)) (mload none t128)).bind fun t129 =>
    (guarded [(0, t126)] (some (0, true)) (M.lift (Ax.bin .eql t129 (V.int .u16 258)))).bind fun t130 =>
    (M.lift (Ax.pick t126 t130 (V.bool false))).bind fun t131 =>
    (guarded [(0, t131)] (some (0, true)) (M.lift (Ax.faddr 16 t5))).bind fun t133 =>
    (guarded [(0, t131)] (some (0, true)) (mload none t133)).bind fun t134 =>
    (guarded [(0, t131)] (some (0, true)) (M.lift (vlen t134))).bind fun t135 =>
    (guarded [(0, t131)] (some (0, true)) (M.lift (Ax.bin .eql t135 (V.int .i64 1)))).bind fun t136 =>
    (M.lift (Ax.pick t131 t136 (V.bool false))).bind fun t137 =>
    (guarded [(0, t137)] (some (0, true)) (M.pure t53)).bind fun t139 =>
    (guarded [(0, t137)] (some (0, true)) (M.lift (Ax.bin .eql t139 (V.int .i64 2)))).bind fun t140 =>
    (M.lift (Ax.pick t137 t140 (V.bool false))).bind fun t141 =>
    (guarded [(0, t141)] (some (0, true)) (M.pure t59)).bind fun t143 =>
    (guarded [(0, t141)] (some (0, true)) (M.lift (Ax.bin .eql t143 (V.int .i64 2)))).bind fun t144 =>
    (M.lift (Ax.pick t141 t144 (V.bool false))).bind fun t145 =>
    (guarded [(0, t145)] (some (0, true)) (M.pure t65)).bind fun t147 =>
    (guarded [(0, t145)] (some (0, true)) (M.lift (Ax.bin .eql t147 (V.int .i64 3)))).bind fun t148 =>
    (M.lift (Ax.pick t145 t148 (V.bool false))).bind fun t149 =>
    (guarded [(0, t149)] (some (0, true)) (M.pure t71)).bind fun t151 =>
    (guarded [(0, t149)] (some (0, true)) (M.lift (Ax.bin .eql t151 (V.int .i64 0)))).bind fun t152 =>
    (M.lift (Ax.pick t149 t152 (V.bool false))).bind fun t153 =>
    (guarded [(0, t153)] (some (0, true)) (M.lift (Ax.faddr 11 t13))).bind fun t155 =>
    (guarded [(0, t153)] (some (0, true)) (mload none t155)).bind fun t156 =>
    (M.lift (Ax.pick t153 t156 (V.bool false))).bind fun t157 =>
    (guarded [(0, t157)] (some (0, true)) (M.lift (Ax.faddr 12 t13))).bind fun t159 =>
    (guarded [(0, t157)] (some (0, true)) (mload none t159)).bind fun t160 =>
    (guarded [(0, t157)] (some (0, true)) (M.lift (Ax.bin .eql t160 (V.int .u32 1)))).bind fun t161 =>
    (M.lift (Ax.pick t157 t161 (V.bool false))).bind fun t162 =>
    (guarded [(0, t162)] (some (0, true)) (M.pure t77)).bind fun t164 =>
    (guarded [(0, t162)] (some (0, true)) (M.lift (Ax.bin .eql t164 (V.int .i64 0)))).bind fun t165 =>
    (M.lift (Ax.pick t162 t165 (V.bool false))).bind fun t166 =>
    (guarded [(0, t166)] (some (0, true)) (M.lift (Ax.faddr 14 t15))).bind fun t168 =>
    (guarded [(0, t166)] (some (0, true)) (mload none t168)).bind fun t169 =>
    (M.lift (Ax.pick t166 t169 (V.bool false))).bind fun t170 =>
    (guarded [(0, t170)] (some (0, true)) (M.lift (Ax.faddr 17 t15))).bind fun t172 =>
    (guarded [(0, t170)] (some (0, true)) (mload none t172)).bind fun t173 =>
    (guarded [(0, t170)] (some (0, true)) (M.lift (vlen t173))).bind fun t174 =>
    (guarded [(0, t170)] (some (0, true)) (M.lift (Ax.bin .eql t174 (V.int .i64 1)))).bind fun t175 =>
    (M.lift (Ax.pick t170 t175 (V.bool false))).bind fun t176 =>
    (guarded [(0, t176)] (some (0, true)) (M.lift (Ax.faddr 17 t15))).bind fun t178 =>
    (guarded [(0, t176)] (some (0, true)) (mload none t178)).bind fun t179 =>
    (guarded [(0, t176)] (some (0, true)) (M.lift (Ax.iaddr none 1 t179 (V.int .i64 0)))).bind fun t180 =>
    (guarded [(0, t176)] (some (0, true)) (mload none t180)).bind fun t181 =>
    (guarded [(0, t176)] (some (0, true)) (M.lift (Ax.bin .eql t181 (V.int .i64 4)))).bind fun t182 =>
    (M.lift (Ax.pick t176 t182 (V.bool false))).bind fun t183 =>
    (guarded [(0, t183)] (some (0, true)) (mload (some 6) t17)).bind fun t185 =>
    (guarded [(0, t183)] (some (0, true)) (G fn_depend_Fine [t185])).bind fun t186 =>
    (guarded [(0, t183)] (some (0, true)) (M.lift (Ax.un .not t186))).bind fun t187 =>
    (M.lift (Ax.pick t183 t187 (V.bool false))).bind fun t188 =>
    (guarded [(0, t188)] (some (0, true)) (mload (some 6) t18)).bind fun t190 =>
    (guarded [(0, t188)] (some (0, true)) (G fn_depend_Fine [t190])).bind fun t191 =>
    (guarded [(0, t188)] (some (0, true)) (M.lift (Ax.un .not t191))).bind fun t192 =>
    (M.lift (Ax.pick t188 t192 (V.bool false))).bind fun t193 =>
    (guarded [(0, t193)] (some (0, true)) (M.pure t93)).bind fun t195 =>
    (guarded [(0, t193)] (some (0, true)) (M.lift (vlen t195))).bind fun t196 =>
    (guarded [(0, t193)] (some (0, true)) (M.lift (Ax.bin .eql t196 (V.int .i64 0)))).bind fun t197 =>
    (M.lift (Ax.pick t193 t197 (V.bool false))).bind fun t198 =>
    (guarded [(0, t198)] (some (0, true)) (M.pure t94)).bind fun t200 =>
    (guarded [(0, t198)] (some (0, true)) (M.lift (Ax.bin .eql t200 (V.int .i64 1)))).bind fun t201 =>
    (M.lift (Ax.pick t198 t201 (V.bool false))).bind fun t202 =>
    (guarded [(0, t202)] (some (0, true)) (M.pure t100)).bind fun t204 =>
    (M.lift (Ax.pick t202 t204 (V.bool false))).bind fun t205 =>
    (guarded [(0, t205)] (some (0, true)) (M.pure t98)).bind fun t207 =>
    (guarded [(0, t205)] (some (0, true)) (M.lift (Ax.bin .eql t207 (V.int .i64 0)))).bind fun t208 =>
    (M.lift (Ax.pick t205 t208 (V.bool false))).bind fun t209 =>
    (guarded [(0, t209)] (some (0, true)) (M.pure t99)).bind fun t211 =>
    (guarded [(0, t209)] (some (0, true)) (M.lift (Ax.bin .eql t211 (V.int .i64 0)))).bind fun t212 =>
    (M.lift (Ax.pick t209 t212 (V.bool false))).bind fun t213 =>
    (guarded [(0, t213)] (some (0, true)) (M.pure t106)).bind fun t215 =>
    (guarded [(0, t213)] (some (0, true)) (M.lift (Ax.un .not t215))).bind fun t216 =>
    (M.lift (Ax.pick t213 t216 (V.bool false))).bind fun t217 =>
    (guarded [(0, t217)] (some (0, true)) (M.pure t108)).bind fun t219 =>
    (guarded [(0, t217)] (some (0, true)) (mtostr t219)).bind fun t220 =>
    (guarded [(0, t217)] (some (0, true)) (M.lift (Ax.bin .eql t220 (V.str ⟨#[1, 5, 6, 4]⟩)))).bind fun t221 =>
    (M.lift (Ax.pick t217 t221 (V.bool false))).bind fun t222 =>
    (guarded [(0, t222)] (some (0, true)) (mslit ty_uint8 1 [(V.int .u8 0)] [(0, 1, (V.int .u8 1))])).bind fun t224 =>
    (guarded [(0, t222)] (some (0, true)) (G fn_depend_Number [t224, (V.int .u16 7)])).bind fun t225 =>
    (guarded [(0, t222)] (some (0, true)) (M.lift (vlen t225))).bind fun t226 =>
    (guarded [(0, t222)] (some (0, true)) (M.lift (Ax.bin .eql t226 (V.int .i64 1)))).bind fun t227 =>
    (M.lift (Ax.pick t222 t227 (V.bool false))).bind fun t228 =>
    M.pure (.ret [t228]))

theorem eq_palanquinlaw9_DependKnown (G : Sem') : execK G ir_palanquinlaw9_DependKnown.rv ir_palanquinlaw9_DependKnown.body [] [] (params 0 []) = f_palanquinlaw9_DependKnown G := by kernel_rfl

theorem tb_palanquinlaw9_DependKnown : T fn_palanquinlaw9_DependKnown = some ir_palanquinlaw9_DependKnown := by kernel_rfl

theorem ok_palanquinlaw9_DependKnown {H : Heap} {Q : V → Heap → Prop} (h : Ok (f_palanquinlaw9_DependKnown (sem T)) H fun r H' => ∃ L, r = .ret L ∧ Q (tupled L) H') : Ok (sem T fn_palanquinlaw9_DependKnown []) H Q :=
  ok_sem tb_palanquinlaw9_DependKnown (Nat.le_of_ble_eq_true rfl) (eq_palanquinlaw9_DependKnown (sem T)) h

end Go.Ax
