/-
  The functions of this seat as plain texts: printed by program (wip/gen/Emit.lean): part 3.
-/
import Derived.Test.YtblfcdaedibdnaaFnD0
set_option maxRecDepth 100000
set_option linter.unusedVariables false
namespace Go.Ax
open Go.Proofs

/-- (palanquin/depend.writer).nums. -/
def loop_depend_writer_nums_0 : C :=
  .ops [⟨(some 11), none, .bin .lss (.s 10) (.s 9)⟩]
  (.cond (.s 11)
  (.blk 1
   (.ops [⟨(some 12), none, .iaddr none 1 (.s 8) (.s 10)⟩,
      ⟨(some 13), none, .load none (.s 12)⟩,
      ⟨(some 7), none, .mv (.s 13)⟩]
    (.ops [⟨(some 14), none, .load (some 1) (.s 3)⟩,
      ⟨(some 15), none, .mv (.s 7)⟩,
      ⟨(some 16), none, .mv (.s 2)⟩,
      ⟨(some 17), none, .call fn_depend_writer_num [(.s 14), (.s 15), (.s 16)]⟩]
    (.done))) [] [12, 13, 7, 14, 15, 16, 17]
   (.ops [⟨(some 18), none, .bin .add (.s 10) (.c (V.int .i64 1))⟩,
     ⟨(some 10), none, .mv (.s 18)⟩]
   (.done)))
  (.exit 0))

def ir_depend_writer_nums : Fn' := ⟨19, [],
  .ops [⟨(some 3), none, .box ty_depend_writer (.s 0)⟩]
  (.ops [⟨(some 8), none, .mv (.s 1)⟩,
    ⟨(some 9), none, .len (.s 8)⟩,
    ⟨(some 10), none, .mv (.c (V.int .i64 0))⟩]
  (.blk 0
  (.loop loop_depend_writer_nums_0 [10] [11, 12, 13, 7, 14, 15, 16, 17, 18, 10]) [] [11, 12, 13, 7, 14, 15, 16, 17, 18, 10]
  (.ret)))⟩

noncomputable def f_depend_writer_nums_0 (G : Sem') (t9 t8 t3 t2 : V) (L : List V) : M Res :=
  (M.lift (Ax.bin .lss (L.getD 0 .undef) t9)).bind fun t11 =>
  M.ite t11
    (M.blk 1 (
      (M.lift (Ax.iaddr none 1 t8 (L.getD 0 .undef))).bind fun t12 =>
      (mload none t12).bind fun t13 =>
      (mload (some 1) t3).bind fun t14 =>
      (G fn_depend_writer_num [t14, t13, t2]).bind fun t17 =>
      M.pure (.nrm [])) fun _ =>
    (M.lift (Ax.bin .add (L.getD 0 .undef) (V.int .i64 1))).bind fun t18 =>
    M.pure (.nrm [t18]))
    (M.pure (.ex 0 []))

noncomputable def f_depend_writer_nums (G : Sem') (t0 t1 t2 : V) : M Res :=
  (mbox ty_depend_writer t0).bind fun t3 =>
  (M.lift (vlen t1)).bind fun t9 =>
  M.blk 0 (
    M.iter (f_depend_writer_nums_0 G t9 t1 t3 t2) [(V.int .i64 0)]) fun _ =>
  M.pure (.ret [])

theorem eq_depend_writer_nums (G : Sem') (t0 t1 t2 : V) : execK G ir_depend_writer_nums.rv ir_depend_writer_nums.body [] [] (params 0 [t0, t1, t2]) = f_depend_writer_nums G t0 t1 t2 := by kernel_rfl

theorem tb_depend_writer_nums : T fn_depend_writer_nums = some ir_depend_writer_nums := by kernel_rfl

theorem ok_depend_writer_nums {t0 t1 t2 : V} {H : Heap} {Q : V → Heap → Prop} (h : Ok (f_depend_writer_nums (sem T) t0 t1 t2) H fun r H' => ∃ L, r = .ret L ∧ Q (tupled L) H') : Ok (sem T fn_depend_writer_nums [t0, t1, t2]) H Q :=
  ok_sem tb_depend_writer_nums (Nat.le_of_ble_eq_true rfl) (eq_depend_writer_nums (sem T) t0 t1 t2) h

/-- (*palanquin/bits.Writer).AddNS. -/
def ir_bits_Writer_AddNS : Fn' := ⟨39, [.tmp 6],
  .ops [⟨(some 6), none, .mv (.c (V.int .i64 0))⟩]
  (.ops [⟨(some 9), none, .mv (.s 2)⟩,
    ⟨(some 10), none, .bin .lss (.s 9) (.c (V.int .u64 1))⟩,
    ⟨(some 11), none, .mv (.s 10)⟩,
    ⟨(some 12), (some (11, false)), .mv (.s 2)⟩,
    ⟨(some 13), (some (11, false)), .bin .gtr (.s 12) (.c (V.int .u64 4294967296))⟩,
    ⟨(some 14), none, .pick (.s 11) (.c (V.bool true)) (.s 13)⟩,
    ⟨(some 15), none, .mv (.s 14)⟩,
    ⟨(some 16), (some (15, false)), .mv (.s 1)⟩,
    ⟨(some 17), (some (15, false)), .mv (.s 2)⟩,
    ⟨(some 18), (some (15, false)), .bin .geq (.s 16) (.s 17)⟩,
    ⟨(some 19), none, .pick (.s 15) (.c (V.bool true)) (.s 18)⟩]
  (.cond (.s 19)
  (.ops [⟨(some 6), none, .mv (.c (V.int .i64 1))⟩]
   (.ret))
  (.ops [⟨(some 21), none, .mv (.s 2)⟩,
     ⟨(some 22), none, .call fn_bits_short [(.s 21)]⟩,
     ⟨(some 20), none, .mv (.s 22)⟩,
     ⟨(some 23), none, .ext 0 (.s 20)⟩,
     ⟨(some 24), none, .ext 1 (.s 20)⟩,
     ⟨(some 7), none, .mv (.s 23)⟩,
     ⟨(some 8), none, .mv (.s 24)⟩]
   (.ops [⟨(some 25), none, .mv (.s 1)⟩,
     ⟨(some 26), none, .mv (.s 8)⟩,
     ⟨(some 27), none, .bin .lss (.s 25) (.s 26)⟩]
   (.cond (.s 27)
   (.ops [⟨(some 28), none, .mv (.s 0)⟩,
      ⟨(some 29), none, .mv (.s 1)⟩,
      ⟨(some 30), none, .mv (.s 7)⟩,
      ⟨(some 31), none, .bin .sub (.s 30) (.c (V.int .i64 1))⟩,
      ⟨(some 32), none, .call fn_bits_Writer_Add [(.s 28), (.s 29), (.s 31)]⟩,
      ⟨(some 6), none, .mv (.s 32)⟩]
    (.ret))
   (.ops [⟨(some 33), none, .mv (.s 0)⟩,
      ⟨(some 34), none, .mv (.s 1)⟩,
      ⟨(some 35), none, .mv (.s 8)⟩,
      ⟨(some 36), none, .bin .add (.s 34) (.s 35)⟩,
      ⟨(some 37), none, .mv (.s 7)⟩,
      ⟨(some 38), none, .call fn_bits_Writer_Add [(.s 33), (.s 36), (.s 37)]⟩,
      ⟨(some 6), none, .mv (.s 38)⟩]
    (.ret)))))))⟩

noncomputable def f_bits_Writer_AddNS (G : Sem') (t0 t1 t2 : V) : M Res :=
  (M.lift (Ax.bin .lss t2 (V.int .u64 1))).bind fun t10 =>
  (guarded [(0, t10)] (some (0, false)) (M.pure t2)).bind fun t12 =>
  (guarded [(0, t10)] (some (0, false)) (M.lift (Ax.bin .gtr t12 (V.int .u64 4294967296)))).bind fun t13 =>
  (M.lift (Ax.pick t10 (V.bool true) t13)).bind fun t14 =>
  (guarded [(0, t14)] (some (0, false)) (M.pure t1)).bind fun t16 =>
  (guarded [(0, t14)] (some (0, false)) (M.pure t2)).bind fun t17 =>
  (guarded [(0, t14)] (some (0, false)) (M.lift (Ax.bin .geq t16 t17))).bind fun t18 =>
  (M.lift (Ax.pick t14 (V.bool true) t18)).bind fun t19 =>
  M.ite t19
    (M.pure (.ret [(V.int .i64 1)]))
    ((G fn_bits_short [t2]).bind fun t22 =>
    (M.lift (Ax.ext 0 t22)).bind fun t23 =>
    (M.lift (Ax.ext 1 t22)).bind fun t24 =>
    (M.lift (Ax.bin .lss t1 t24)).bind fun t27 =>
    M.ite t27
      ((M.lift (Ax.bin .sub t23 (V.int .i64 1))).bind fun t31 =>
      (G fn_bits_Writer_Add [t0, t1, t31]).bind fun t32 =>
      M.pure (.ret [t32]))
      ((M.lift (Ax.bin .add t1 t24)).bind fun t36 =>
      (G fn_bits_Writer_Add [t0, t36, t23]).bind fun t38 =>
      M.pure (.ret [t38])))

theorem eq_bits_Writer_AddNS (G : Sem') (t0 t1 t2 : V) : execK G ir_bits_Writer_AddNS.rv ir_bits_Writer_AddNS.body [] [] (params 0 [t0, t1, t2]) = f_bits_Writer_AddNS G t0 t1 t2 := by kernel_rfl

theorem tb_bits_Writer_AddNS : T fn_bits_Writer_AddNS = some ir_bits_Writer_AddNS := by kernel_rfl

theorem ok_bits_Writer_AddNS {t0 t1 t2 : V} {H : Heap} {Q : V → Heap → Prop} (h : Ok (f_bits_Writer_AddNS (sem T) t0 t1 t2) H fun r H' => ∃ L, r = .ret L ∧ Q (tupled L) H') : Ok (sem T fn_bits_Writer_AddNS [t0, t1, t2]) H Q :=
  ok_sem tb_bits_Writer_AddNS (Nat.le_of_ble_eq_true rfl) (eq_bits_Writer_AddNS (sem T) t0 t1 t2) h

/-- palanquin/bits.short. -/
def ir_bits_short : Fn' := ⟨12, [.tmp 2, .tmp 3],
  .ops [⟨(some 2), none, .mv (.c (V.int .i64 0))⟩,
    ⟨(some 3), none, .mv (.c (V.int .u64 0))⟩]
  (.ops [⟨(some 5), none, .mv (.s 0)⟩,
    ⟨(some 6), none, .call fn_math_bits_Len64 [(.s 5)]⟩,
    ⟨(some 4), none, .mv (.s 6)⟩]
  (.draw [⟨(some 7), none, .mv (.s 4)⟩,
    ⟨(some 8), none, .mv (.s 4)⟩,
    ⟨(some 9), none, .bin .shl (.c (V.int .u64 1)) (.s 8)⟩,
    ⟨(some 10), none, .mv (.s 0)⟩,
    ⟨(some 11), none, .bin .sub (.s 9) (.s 10)⟩,
    ⟨(some 2), none, .mv (.s 7)⟩,
    ⟨(some 3), none, .mv (.s 11)⟩] []
  (.ret)))⟩

noncomputable def f_bits_short (G : Sem') (t0 : V) : M Res :=
  (G fn_math_bits_Len64 [t0]).bind fun t6 =>
  (M.lift (Ax.bin .shl (V.int .u64 1) t6)).bind fun t9 =>
  (M.lift (Ax.bin .sub t9 t0)).bind fun t11 =>
  M.pure (.ret [t6, t11])

theorem eq_bits_short (G : Sem') (t0 : V) : execK G ir_bits_short.rv ir_bits_short.body [] [] (params 0 [t0]) = f_bits_short G t0 := by kernel_rfl

theorem tb_bits_short : T fn_bits_short = some ir_bits_short := by kernel_rfl

theorem ok_bits_short {t0 : V} {H : Heap} {Q : V → Heap → Prop} (h : Ok (f_bits_short (sem T) t0) H fun r H' => ∃ L, r = .ret L ∧ Q (tupled L) H') : Ok (sem T fn_bits_short [t0]) H Q :=
  ok_sem tb_bits_short (Nat.le_of_ble_eq_true rfl) (eq_bits_short (sem T) t0) h

/-- (palanquin/depend.writer).own. -/
def loop_depend_writer_own_0 : C :=
  .ops [⟨(some 13), none, .mv (.s 5)⟩,
    ⟨(some 14), none, .bin .sub (.s 13) (.c (V.int .i64 1))⟩,
    ⟨(some 15), none, .mv (.s 6)⟩,
    ⟨(some 16), none, .bin .mul (.c (V.int .i64 4)) (.s 15)⟩,
    ⟨(some 17), none, .bin .shr (.s 14) (.s 16)⟩,
    ⟨(some 18), none, .bin .neq (.s 17) (.c (V.int .i64 0))⟩]
  (.cond (.s 18)
  (.blk 3
   (.ops [⟨(some 19), none, .mv (.s 6)⟩,
      ⟨(some 20), none, .bin .add (.s 19) (.c (V.int .i64 1))⟩,
      ⟨(some 6), none, .mv (.s 20)⟩]
    (.done)) [6] [19, 20, 6]
   (.done))
  (.exit 2))

def loop_depend_writer_own_1 : C :=
  .ops [⟨(some 10), none, .bin .lss (.s 9) (.s 8)⟩]
  (.cond (.s 10)
  (.blk 1
   (.ops [⟨(some 11), none, .iaddr none 1 (.s 7) (.s 9)⟩,
      ⟨(some 12), none, .load none (.s 11)⟩,
      ⟨(some 5), none, .mv (.s 12)⟩]
    (.ops [⟨(some 6), none, .mv (.c (V.int .i64 1))⟩]
    (.blk 2
    (.loop loop_depend_writer_own_0 [6] [13, 14, 15, 16, 17, 18, 19, 20, 6]) [6] [13, 14, 15, 16, 17, 18, 19, 20, 6]
    (.ops [⟨(some 21), none, .load (some 1) (.s 2)⟩,
      ⟨(some 22), none, .mv (.s 6)⟩,
      ⟨(some 23), none, .call fn_depend_writer_num [(.s 21), (.s 22), (.c (V.int .i64 2))]⟩]
    (.ops [⟨(some 24), none, .load (some 1) (.s 2)⟩,
      ⟨(some 25), none, .mv (.s 5)⟩,
      ⟨(some 26), none, .bin .sub (.s 25) (.c (V.int .i64 1))⟩,
      ⟨(some 27), none, .mv (.s 6)⟩,
      ⟨(some 28), none, .bin .mul (.c (V.int .i64 4)) (.s 27)⟩,
      ⟨(some 29), none, .call fn_depend_writer_num [(.s 24), (.s 26), (.s 28)]⟩]
    (.done)))))) [] [11, 12, 5, 6, 13, 14, 15, 16, 17, 18, 19, 20, 6, 21, 22, 23, 24, 25, 26, 27, 28, 29]
   (.ops [⟨(some 30), none, .bin .add (.s 9) (.c (V.int .i64 1))⟩,
     ⟨(some 9), none, .mv (.s 30)⟩]
   (.done)))
  (.exit 0))

def ir_depend_writer_own : Fn' := ⟨33, [],
  .ops [⟨(some 2), none, .box ty_depend_writer (.s 0)⟩]
  (.ops [⟨(some 7), none, .mv (.s 1)⟩,
    ⟨(some 8), none, .len (.s 7)⟩,
    ⟨(some 9), none, .mv (.c (V.int .i64 0))⟩]
  (.blk 0
  (.loop loop_depend_writer_own_1 [9] [10, 11, 12, 5, 6, 13, 14, 15, 16, 17, 18, 19, 20, 6, 21, 22, 23, 24, 25, 26, 27, 28, 29, 30, 9]) [] [10, 11, 12, 5, 6, 13, 14, 15, 16, 17, 18, 19, 20, 6, 21, 22, 23, 24, 25, 26, 27, 28, 29, 30, 9]
  (.ops [⟨(some 31), none, .load (some 1) (.s 2)⟩,
    ⟨(some 32), none, .call fn_depend_writer_num [(.s 31), (.c (V.int .i64 0)), (.c (V.int .i64 2))]⟩]
  (.ret))))⟩

noncomputable def f_depend_writer_own_0 (G : Sem') (t5 : V) (L : List V) : M Res :=
  (M.lift (Ax.bin .sub t5 (V.int .i64 1))).bind fun t14 =>
  (M.lift (Ax.bin .mul (V.int .i64 4) (L.getD 0 .undef))).bind fun t16 =>
  (M.lift (Ax.bin .shr t14 t16)).bind fun t17 =>
  (M.lift (Ax.bin .neq t17 (V.int .i64 0))).bind fun t18 =>
  M.ite t18
    (M.blk 3 (
      (M.lift (Ax.bin .add (L.getD 0 .undef) (V.int .i64 1))).bind fun t20 =>
      M.pure (.nrm [t20])) fun L0 =>
    M.pure (.nrm [(L0.getD 0 .undef)]))
    (M.pure (.ex 2 [(L.getD 0 .undef)]))

noncomputable def f_depend_writer_own_1 (G : Sem') (t8 t7 t2 : V) (L : List V) : M Res :=
  (M.lift (Ax.bin .lss (L.getD 0 .undef) t8)).bind fun t10 =>
  M.ite t10
    (M.blk 1 (
      (M.lift (Ax.iaddr none 1 t7 (L.getD 0 .undef))).bind fun t11 =>
      (mload none t11).bind fun t12 =>
      M.blk 2 (
        M.iter (f_depend_writer_own_0 G t12) [(V.int .i64 1)]) fun L1 =>
      (mload (some 1) t2).bind fun t21 =>
      (G fn_depend_writer_num [t21, (L1.getD 0 .undef), (V.int .i64 2)]).bind fun t23 =>
      (mload (some 1) t2).bind fun t24 =>
      (M.lift (Ax.bin .sub t12 (V.int .i64 1))).bind fun t26 =>
      (M.lift (Ax.bin .mul (V.int .i64 4) (L1.getD 0 .undef))).bind fun t28 =>
      (G fn_depend_writer_num [t24, t26, t28]).bind fun t29 =>
      M.pure (.nrm [])) fun _ =>
    (M.lift (Ax.bin .add (L.getD 0 .undef) (V.int .i64 1))).bind fun t30 =>
    M.pure (.nrm [t30]))
    (M.pure (.ex 0 []))

noncomputable def f_depend_writer_own (G : Sem') (t0 t1 : V) : M Res :=
  (mbox ty_depend_writer t0).bind fun t2 =>
  (M.lift (vlen t1)).bind fun t8 =>
  M.blk 0 (
    M.iter (f_depend_writer_own_1 G t8 t1 t2) [(V.int .i64 0)]) fun _ =>
  (mload (some 1) t2).bind fun t31 =>
  (G fn_depend_writer_num [t31, (V.int .i64 0), (V.int .i64 2)]).bind fun t32 =>
  M.pure (.ret [])

theorem eq_depend_writer_own (G : Sem') (t0 t1 : V) : execK G ir_depend_writer_own.rv ir_depend_writer_own.body [] [] (params 0 [t0, t1]) = f_depend_writer_own G t0 t1 := by kernel_rfl

theorem tb_depend_writer_own : T fn_depend_writer_own = some ir_depend_writer_own := by kernel_rfl

theorem ok_depend_writer_own {t0 t1 : V} {H : Heap} {Q : V → Heap → Prop} (h : Ok (f_depend_writer_own (sem T) t0 t1) H fun r H' => ∃ L, r = .ret L ∧ Q (tupled L) H') : Ok (sem T fn_depend_writer_own [t0, t1]) H Q :=
  ok_sem tb_depend_writer_own (Nat.le_of_ble_eq_true rfl) (eq_depend_writer_own (sem T) t0 t1) h

/-- palanquin/palanquinlaw9.long. -/
def ir_palanquinlaw9_long : Fn' := ⟨24, [.tmp 2],
  .ops [⟨(some 1), none, .box ty_depend_Frame (.s 0)⟩,
    ⟨(some 2), none, .mv (.c (V.bool false))⟩]
  (.ops [⟨(some 3), none, .faddr 5 (.s 1)⟩,
    ⟨(some 4), none, .load (some 6) (.s 3)⟩,
    ⟨(some 5), none, .call fn_palanquinlaw9_heavy [(.s 4)]⟩,
    ⟨(some 6), none, .mv (.s 5)⟩,
    ⟨(some 7), (some (6, false)), .faddr 16 (.s 1)⟩,
    ⟨(some 8), (some (6, false)), .load none (.s 7)⟩,
    ⟨(some 9), (some (6, false)), .len (.s 8)⟩,
    ⟨(some 10), (some (6, false)), .bin .gtr (.s 9) (.c (V.int .i64 100))⟩,
    ⟨(some 11), none, .pick (.s 6) (.c (V.bool true)) (.s 10)⟩,
    ⟨(some 12), none, .mv (.s 11)⟩,
    ⟨(some 13), (some (12, false)), .faddr 17 (.s 1)⟩,
    ⟨(some 14), (some (12, false)), .load none (.s 13)⟩,
    ⟨(some 15), (some (12, false)), .len (.s 14)⟩,
    ⟨(some 16), (some (12, false)), .bin .gtr (.s 15) (.c (V.int .i64 100))⟩,
    ⟨(some 17), none, .pick (.s 12) (.c (V.bool true)) (.s 16)⟩,
    ⟨(some 18), none, .mv (.s 17)⟩,
    ⟨(some 19), (some (18, false)), .faddr 18 (.s 1)⟩,
    ⟨(some 20), (some (18, false)), .load none (.s 19)⟩,
    ⟨(some 21), (some (18, false)), .len (.s 20)⟩,
    ⟨(some 22), (some (18, false)), .bin .gtr (.s 21) (.c (V.int .i64 100))⟩,
    ⟨(some 23), none, .pick (.s 18) (.c (V.bool true)) (.s 22)⟩,
    ⟨(some 2), none, .mv (.s 23)⟩]
  (.ret))⟩

noncomputable def f_palanquinlaw9_long (G : Sem') (t0 : V) : M Res :=
  (mbox ty_depend_Frame t0).bind fun t1 =>
  (M.lift (Ax.faddr 5 t1)).bind fun t3 =>
  (mload (some 6) t3).bind fun t4 =>
  (G fn_palanquinlaw9_heavy [t4]).bind fun t5 =>
  (guarded [(0, t5)] (some (0, false)) (M.lift (Ax.faddr 16 t1))).bind fun t7 =>
  (guarded [(0, t5)] (some (0, false)) (mload none t7)).bind fun t8 =>
  (guarded [(0, t5)] (some (0, false)) (M.lift (vlen t8))).bind fun t9 =>
  (guarded [(0, t5)] (some (0, false)) (M.lift (Ax.bin .gtr t9 (V.int .i64 100)))).bind fun t10 =>
  (M.lift (Ax.pick t5 (V.bool true) t10)).bind fun t11 =>
  (guarded [(0, t11)] (some (0, false)) (M.lift (Ax.faddr 17 t1))).bind fun t13 =>
  (guarded [(0, t11)] (some (0, false)) (mload none t13)).bind fun t14 =>
  (guarded [(0, t11)] (some (0, false)) (M.lift (vlen t14))).bind fun t15 =>
  (guarded [(0, t11)] (some (0, false)) (M.lift (Ax.bin .gtr t15 (V.int .i64 100)))).bind fun t16 =>
  (M.lift (Ax.pick t11 (V.bool true) t16)).bind fun t17 =>
  (guarded [(0, t17)] (some (0, false)) (M.lift (Ax.faddr 18 t1))).bind fun t19 =>
  (guarded [(0, t17)] (some (0, false)) (mload none t19)).bind fun t20 =>
  (guarded [(0, t17)] (some (0, false)) (M.lift (vlen t20))).bind fun t21 =>
  (guarded [(0, t17)] (some (0, false)) (M.lift (Ax.bin .gtr t21 (V.int .i64 100)))).bind fun t22 =>
  (M.lift (Ax.pick t17 (V.bool true) t22)).bind fun t23 =>
  M.pure (.ret [t23])

theorem eq_palanquinlaw9_long (G : Sem') (t0 : V) : execK G ir_palanquinlaw9_long.rv ir_palanquinlaw9_long.body [] [] (params 0 [t0]) = f_palanquinlaw9_long G t0 := by kernel_rfl

theorem tb_palanquinlaw9_long : T fn_palanquinlaw9_long = some ir_palanquinlaw9_long := by kernel_rfl

theorem ok_palanquinlaw9_long {t0 : V} {H : Heap} {Q : V → Heap → Prop} (h : Ok (f_palanquinlaw9_long (sem T) t0) H fun r H' => ∃ L, r = .ret L ∧ Q (tupled L) H') : Ok (sem T fn_palanquinlaw9_long [t0]) H Q :=
  ok_sem tb_palanquinlaw9_long (Nat.le_of_ble_eq_true rfl) (eq_palanquinlaw9_long (sem T) t0) h

/-- palanquin/palanquinlaw9.heavy. -/
def loop_palanquinlaw9_heavy_0 : C :=
  .ops [⟨(some 17), none, .mv (.s 4)⟩,
    ⟨(some 18), none, .faddr 2 (.s 1)⟩,
    ⟨(some 19), none, .load none (.s 18)⟩,
    ⟨(some 20), none, .len (.s 19)⟩,
    ⟨(some 21), none, .bin .lss (.s 17) (.s 20)⟩,
    ⟨(some 22), none, .mv (.s 21)⟩,
    ⟨(some 23), (some (22, true)), .mv (.s 4)⟩,
    ⟨(some 24), (some (22, true)), .bin .lss (.s 23) (.c (V.int .i64 100))⟩,
    ⟨(some 25), none, .pick (.s 22) (.s 24) (.c (V.bool false))⟩]
  (.cond (.s 25)
  (.blk 1
   (.ops [⟨(some 28), none, .faddr 2 (.s 1)⟩,
      ⟨(some 29), none, .load none (.s 28)⟩,
      ⟨(some 30), none, .mv (.s 4)⟩,
      ⟨(some 31), none, .iaddr none 5 (.s 29) (.s 30)⟩,
      ⟨(some 32), none, .load (some 5) (.s 31)⟩,
      ⟨(some 5), none, .box ty_depend_Template (.c (V.agg [(V.int .i64 0), (V.int .i64 0), V.nils, V.nils, V.nils]))⟩,
      ⟨none, none, .store 5 (.s 5) (.s 32)⟩]
    (.ops [⟨(some 33), none, .mv (.s 3)⟩,
      ⟨(some 34), none, .faddr 2 (.s 5)⟩,
      ⟨(some 35), none, .load none (.s 34)⟩,
      ⟨(some 36), none, .len (.s 35)⟩,
      ⟨(some 37), none, .bin .add (.s 33) (.s 36)⟩,
      ⟨(some 38), none, .faddr 3 (.s 5)⟩,
      ⟨(some 39), none, .load none (.s 38)⟩,
      ⟨(some 40), none, .len (.s 39)⟩,
      ⟨(some 41), none, .bin .add (.s 37) (.s 40)⟩,
      ⟨(some 42), none, .faddr 4 (.s 5)⟩,
      ⟨(some 43), none, .load none (.s 42)⟩,
      ⟨(some 44), none, .len (.s 43)⟩,
      ⟨(some 45), none, .bin .add (.s 41) (.s 44)⟩,
      ⟨(some 3), none, .mv (.s 45)⟩]
    (.done))) [3] [28, 29, 30, 31, 32, 5, 33, 34, 35, 36, 37, 38, 39, 40, 41, 42, 43, 44, 45, 3]
   (.ops [⟨(some 26), none, .mv (.s 4)⟩,
     ⟨(some 27), none, .bin .add (.s 26) (.c (V.int .i64 1))⟩,
     ⟨(some 4), none, .mv (.s 27)⟩]
   (.done)))
  (.exit 0))

def ir_palanquinlaw9_heavy : Fn' := ⟨54, [.tmp 2],
  .ops [⟨(some 1), none, .box ty_depend_Structure (.s 0)⟩,
    ⟨(some 2), none, .mv (.c (V.bool false))⟩]
  (.ops [⟨(some 6), none, .faddr 2 (.s 1)⟩,
    ⟨(some 7), none, .load none (.s 6)⟩,
    ⟨(some 8), none, .len (.s 7)⟩,
    ⟨(some 9), none, .faddr 4 (.s 1)⟩,
    ⟨(some 10), none, .load none (.s 9)⟩,
    ⟨(some 11), none, .len (.s 10)⟩,
    ⟨(some 12), none, .bin .add (.s 8) (.s 11)⟩,
    ⟨(some 13), none, .faddr 5 (.s 1)⟩,
    ⟨(some 14), none, .load none (.s 13)⟩,
    ⟨(some 15), none, .len (.s 14)⟩,
    ⟨(some 16), none, .bin .add (.s 12) (.s 15)⟩,
    ⟨(some 3), none, .mv (.s 16)⟩]
  (.ops [⟨(some 4), none, .mv (.c (V.int .i64 0))⟩]
  (.blk 0
  (.loop loop_palanquinlaw9_heavy_0 [3, 4] [17, 18, 19, 20, 21, 22, 23, 24, 25, 28, 29, 30, 31, 32, 5, 33, 34, 35, 36, 37, 38, 39, 40, 41, 42, 43, 44, 45, 3, 26, 27, 4]) [3] [17, 18, 19, 20, 21, 22, 23, 24, 25, 28, 29, 30, 31, 32, 5, 33, 34, 35, 36, 37, 38, 39, 40, 41, 42, 43, 44, 45, 3, 26, 27, 4]
  (.ops [⟨(some 46), none, .mv (.s 3)⟩,
    ⟨(some 47), none, .bin .gtr (.s 46) (.c (V.int .i64 6000))⟩,
    ⟨(some 48), none, .mv (.s 47)⟩,
    ⟨(some 49), (some (48, false)), .faddr 2 (.s 1)⟩,
    ⟨(some 50), (some (48, false)), .load none (.s 49)⟩,
    ⟨(some 51), (some (48, false)), .len (.s 50)⟩,
    ⟨(some 52), (some (48, false)), .bin .gtr (.s 51) (.c (V.int .i64 80))⟩,
    ⟨(some 53), none, .pick (.s 48) (.c (V.bool true)) (.s 52)⟩,
    ⟨(some 2), none, .mv (.s 53)⟩]
  (.ret)))))⟩

noncomputable def f_palanquinlaw9_heavy_0 (G : Sem') (t1 t2 : V) (L : List V) : M Res :=
  (M.lift (Ax.faddr 2 t1)).bind fun t18 =>
  (mload none t18).bind fun t19 =>
  (M.lift (vlen t19)).bind fun t20 =>
  (M.lift (Ax.bin .lss (L.getD 1 .undef) t20)).bind fun t21 =>
  (guarded [(0, t21)] (some (0, true)) (M.pure (L.getD 1 .undef))).bind fun t23 =>
  (guarded [(0, t21)] (some (0, true)) (M.lift (Ax.bin .lss t23 (V.int .i64 100)))).bind fun t24 =>
  (M.lift (Ax.pick t21 t24 (V.bool false))).bind fun t25 =>
  M.ite t25
    (M.blk 1 (
      (M.lift (Ax.faddr 2 t1)).bind fun t28 =>
      (mload none t28).bind fun t29 =>
      (M.lift (Ax.iaddr none 5 t29 (L.getD 1 .undef))).bind fun t31 =>
      (mload (some 5) t31).bind fun t32 =>
      (mbox ty_depend_Template (V.agg [(V.int .i64 0), (V.int .i64 0), V.nils, V.nils, V.nils])).bind fun t5 =>
      (mstore 5 t5 t32).bind fun _ =>
      (M.lift (Ax.faddr 2 t5)).bind fun t34 =>
      (mload none t34).bind fun t35 =>
      (M.lift (vlen t35)).bind fun t36 =>
      (M.lift (Ax.bin .add (L.getD 0 .undef) t36)).bind fun t37 =>
      (M.lift (Ax.faddr 3 t5)).bind fun t38 =>
      (mload none t38).bind fun t39 =>
      (M.lift (vlen t39)).bind fun t40 =>
      (M.lift (Ax.bin .add t37 t40)).bind fun t41 =>
      (M.lift (Ax.faddr 4 t5)).bind fun t42 =>
      (mload none t42).bind fun t43 =>
      (M.lift (vlen t43)).bind fun t44 =>
      (M.lift (Ax.bin .add t41 t44)).bind fun t45 =>
      M.pure (.nrm [t45])) fun L0 =>
    (M.lift (Ax.bin .add (L.getD 1 .undef) (V.int .i64 1))).bind fun t27 =>
    M.pure (.nrm [(L0.getD 0 .undef), t27]))
    (M.pure (.ex 0 [(L.getD 0 .undef)]))

noncomputable def f_palanquinlaw9_heavy (G : Sem') (t0 : V) : M Res :=
  (mbox ty_depend_Structure t0).bind fun t1 =>
  (M.lift (Ax.faddr 2 t1)).bind fun t6 =>
  (mload none t6).bind fun t7 =>
  (M.lift (vlen t7)).bind fun t8 =>
  (M.lift (Ax.faddr 4 t1)).bind fun t9 =>
  (mload none t9).bind fun t10 =>
  (M.lift (vlen t10)).bind fun t11 =>
  (M.lift (Ax.bin .add t8 t11)).bind fun t12 =>
  (M.lift (Ax.faddr 5 t1)).bind fun t13 =>
  (mload none t13).bind fun t14 =>
  (M.lift (vlen t14)).bind fun t15 =>
  (M.lift (Ax.bin .add t12 t15)).bind fun t16 =>
  M.blk 0 (
    M.iter (f_palanquinlaw9_heavy_0 G t1 (V.bool false)) [t16, (V.int .i64 0)]) fun L1 =>
  (M.lift (Ax.bin .gtr (L1.getD 0 .undef) (V.int .i64 6000))).bind fun t47 =>
  (guarded [(0, t47)] (some (0, false)) (M.lift (Ax.faddr 2 t1))).bind fun t49 =>
  (guarded [(0, t47)] (some (0, false)) (mload none t49)).bind fun t50 =>
  (guarded [(0, t47)] (some (0, false)) (M.lift (vlen t50))).bind fun t51 =>
  (guarded [(0, t47)] (some (0, false)) (M.lift (Ax.bin .gtr t51 (V.int .i64 80)))).bind fun t52 =>
  (M.lift (Ax.pick t47 (V.bool true) t52)).bind fun t53 =>
  M.pure (.ret [t53])

theorem eq_palanquinlaw9_heavy (G : Sem') (t0 : V) : execK G ir_palanquinlaw9_heavy.rv ir_palanquinlaw9_heavy.body [] [] (params 0 [t0]) = f_palanquinlaw9_heavy G t0 := by kernel_rfl

theorem tb_palanquinlaw9_heavy : T fn_palanquinlaw9_heavy = some ir_palanquinlaw9_heavy := by kernel_rfl

theorem ok_palanquinlaw9_heavy {t0 : V} {H : Heap} {Q : V → Heap → Prop} (h : Ok (f_palanquinlaw9_heavy (sem T) t0) H fun r H' => ∃ L, r = .ret L ∧ Q (tupled L) H') : Ok (sem T fn_palanquinlaw9_heavy [t0]) H Q :=
  ok_sem tb_palanquinlaw9_heavy (Nat.le_of_ble_eq_true rfl) (eq_palanquinlaw9_heavy (sem T) t0) h

/-- palanquin/palanquinhelp.Frame. -/
def ir_palanquinhelp_Frame : Fn' := ⟨33, [.cell 2 (some 19)],
  .ops [⟨(some 1), none, .box ty_depend_Frame (.s 0)⟩,
    ⟨(some 2), none, .box ty_palanquinref9_Frame (.c (V.agg [(V.bool false), (V.bool false), (V.int .i64 0), (V.int .u16 0), (V.bool false), (V.int .i64 0), (V.int .i64 0), V.nils, (V.int .i64 0), V.nils, V.nils, (V.bool false), (V.int .u32 0), (V.bool false), (V.bool false), (V.bool false), V.nils, V.nils, V.nils]))⟩]
  (.draw [⟨(some 3), none, .faddr 0 (.s 1)⟩,
    ⟨(some 4), none, .load none (.s 3)⟩,
    ⟨(some 5), none, .faddr 1 (.s 1)⟩,
    ⟨(some 6), none, .load none (.s 5)⟩,
    ⟨(some 7), none, .faddr 2 (.s 1)⟩,
    ⟨(some 8), none, .load none (.s 7)⟩,
    ⟨(some 9), none, .faddr 3 (.s 1)⟩,
    ⟨(some 10), none, .load none (.s 9)⟩,
    ⟨(some 11), none, .faddr 4 (.s 1)⟩,
    ⟨(some 12), none, .load none (.s 11)⟩,
    ⟨(some 13), none, .faddr 5 (.s 1)⟩,
    ⟨(some 14), none, .load (some 6) (.s 13)⟩,
    ⟨(some 16), none, .faddr 11 (.s 1)⟩,
    ⟨(some 17), none, .load none (.s 16)⟩,
    ⟨(some 18), none, .faddr 12 (.s 1)⟩,
    ⟨(some 19), none, .load none (.s 18)⟩,
    ⟨(some 20), none, .faddr 13 (.s 1)⟩,
    ⟨(some 21), none, .load none (.s 20)⟩,
    ⟨(some 22), none, .faddr 14 (.s 1)⟩,
    ⟨(some 23), none, .load none (.s 22)⟩,
    ⟨(some 24), none, .faddr 15 (.s 1)⟩,
    ⟨(some 25), none, .load none (.s 24)⟩,
    ⟨(some 26), none, .faddr 16 (.s 1)⟩,
    ⟨(some 27), none, .load none (.s 26)⟩,
    ⟨(some 28), none, .faddr 17 (.s 1)⟩,
    ⟨(some 29), none, .load none (.s 28)⟩,
    ⟨(some 30), none, .faddr 18 (.s 1)⟩,
    ⟨(some 31), none, .load none (.s 30)⟩,
    ⟨(some 15), none, .call fn_palanquinhelp_Structure [(.s 14)]⟩,
    ⟨(some 32), none, .build [(V.bool false), (V.bool false), (V.int .i64 0), (V.int .u16 0), (V.bool false), (V.int .i64 0), (V.int .i64 0), V.nils, (V.int .i64 0), V.nils, V.nils, (V.bool false), (V.int .u32 0), (V.bool false), (V.bool false), (V.bool false), V.nils, V.nils, V.nils] [(0, 1, (.s 4)), (1, 1, (.s 6)), (2, 1, (.s 8)), (3, 1, (.s 10)), (4, 1, (.s 12)), (5, 6, (.s 15)), (11, 1, (.s 17)), (12, 1, (.s 19)), (13, 1, (.s 21)), (14, 1, (.s 23)), (15, 1, (.s 25)), (16, 1, (.s 27)), (17, 1, (.s 29)), (18, 1, (.s 31))]⟩,
    ⟨none, none, .store 19 (.s 2) (.s 32)⟩] [(1, 28), (3, 28), (5, 28), (7, 28), (9, 28), (13, 28), (15, 28), (17, 28), (19, 28), (21, 28), (23, 28), (25, 28), (27, 28)]
  (.ret))⟩

noncomputable def f_palanquinhelp_Frame (G : Sem') (t0 : V) : M Res :=
  (mbox ty_depend_Frame t0).bind fun t1 =>
  (mbox ty_palanquinref9_Frame (V.agg [(V.bool false), (V.bool false), (V.int .i64 0), (V.int .u16 0), (V.bool false), (V.int .i64 0), (V.int .i64 0), V.nils, (V.int .i64 0), V.nils, V.nils, (V.bool false), (V.int .u32 0), (V.bool false), (V.bool false), (V.bool false), V.nils, V.nils, V.nils])).bind fun t2 =>
  (M.lift (Ax.faddr 0 t1)).bind fun t3 =>
  (mload none t3).bind fun t4 =>
  (M.lift (Ax.faddr 1 t1)).bind fun t5 =>
  (mload none t5).bind fun t6 =>
  (M.lift (Ax.faddr 2 t1)).bind fun t7 =>
  (mload none t7).bind fun t8 =>
  (M.lift (Ax.faddr 3 t1)).bind fun t9 =>
  (mload none t9).bind fun t10 =>
  (M.lift (Ax.faddr 4 t1)).bind fun t11 =>
  (mload none t11).bind fun t12 =>
  (M.lift (Ax.faddr 5 t1)).bind fun t13 =>
  (mload (some 6) t13).bind fun t14 =>
  (M.lift (Ax.faddr 11 t1)).bind fun t16 =>
  (mload none t16).bind fun t17 =>
  (M.lift (Ax.faddr 12 t1)).bind fun t18 =>
  (mload none t18).bind fun t19 =>
  (M.lift (Ax.faddr 13 t1)).bind fun t20 =>
  (mload none t20).bind fun t21 =>
  (M.lift (Ax.faddr 14 t1)).bind fun t22 =>
  (mload none t22).bind fun t23 =>
  (M.lift (Ax.faddr 15 t1)).bind fun t24 =>
  (mload none t24).bind fun t25 =>
  (M.lift (Ax.faddr 16 t1)).bind fun t26 =>
  (mload none t26).bind fun t27 =>
  (M.lift (Ax.faddr 17 t1)).bind fun t28 =>
  (mload none t28).bind fun t29 =>
  (M.lift (Ax.faddr 18 t1)).bind fun t30 =>
  (mload none t30).bind fun t31 =>
  M.getH.bind fun h0 =>
  (G fn_palanquinhelp_Structure [t14]).bind fun t15 =>
  M.getH.bind fun h0' =>
  (M.unch t30 h0 h0').bind fun _ =>
  (M.unch t28 h0 h0').bind fun _ =>
  (M.unch t26 h0 h0').bind fun _ =>
  (M.unch t24 h0 h0').bind fun _ =>
  (M.unch t22 h0 h0').bind fun _ =>
  (M.unch t20 h0 h0').bind fun _ =>
  (M.unch t18 h0 h0').bind fun _ =>
  (M.unch t16 h0 h0').bind fun _ =>
  (M.unch t11 h0 h0').bind fun _ =>
  (M.unch t9 h0 h0').bind fun _ =>
  (M.unch t7 h0 h0').bind fun _ =>
  (M.unch t5 h0 h0').bind fun _ =>
  (M.unch t3 h0 h0').bind fun _ =>
  (M.lift (Ax.build [(V.bool false), (V.bool false), (V.int .i64 0), (V.int .u16 0), (V.bool false), (V.int .i64 0), (V.int .i64 0), V.nils, (V.int .i64 0), V.nils, V.nils, (V.bool false), (V.int .u32 0), (V.bool false), (V.bool false), (V.bool false), V.nils, V.nils, V.nils] [(0, 1, t4), (1, 1, t6), (2, 1, t8), (3, 1, t10), (4, 1, t12), (5, 6, t15), (11, 1, t17), (12, 1, t19), (13, 1, t21), (14, 1, t23), (15, 1, t25), (16, 1, t27), (17, 1, t29), (18, 1, t31)])).bind fun t32 =>
  (mstore 19 t2 t32).bind fun _ =>
  (mload (some 19) t2).bind fun r0 =>
  M.pure (.ret [r0])

theorem eq_palanquinhelp_Frame (G : Sem') (t0 : V) : execK G ir_palanquinhelp_Frame.rv ir_palanquinhelp_Frame.body [] [] (params 0 [t0]) = f_palanquinhelp_Frame G t0 := by kernel_rfl

theorem tb_palanquinhelp_Frame : T fn_palanquinhelp_Frame = some ir_palanquinhelp_Frame := by kernel_rfl

theorem ok_palanquinhelp_Frame {t0 : V} {H : Heap} {Q : V → Heap → Prop} (h : Ok (f_palanquinhelp_Frame (sem T) t0) H fun r H' => ∃ L, r = .ret L ∧ Q (tupled L) H') : Ok (sem T fn_palanquinhelp_Frame [t0]) H Q :=
  ok_sem tb_palanquinhelp_Frame (Nat.le_of_ble_eq_true rfl) (eq_palanquinhelp_Frame (sem T) t0) h

/-- palanquin/palanquinref9.Of. -/
def ir_palanquinref9_Of : Fn' := ⟨43, [.cell 4 (some 5), .tmp 5],
  .ops [⟨(some 2), none, .box ty_palanquinref9_Frame (.s 0)⟩,
    ⟨(some 3), none, .box ty_palanquinref9_Structure (.s 1)⟩,
    ⟨(some 4), none, .box ty_palanquinref9_Template (.c (V.agg [(V.int .i64 0), (V.int .i64 0), V.nils, V.nils, V.nils]))⟩,
    ⟨(some 5), none, .mv (.c (V.bool false))⟩]
  (.ops [⟨(some 8), none, .load (some 19) (.s 2)⟩,
    ⟨(some 9), none, .load (some 6) (.s 3)⟩,
    ⟨(some 10), none, .call fn_palanquinref9_holds [(.s 8), (.s 9)]⟩,
    ⟨(some 6), none, .box ty_palanquinref9_Structure (.c (V.agg [(V.int .i64 0), (V.int .i64 0), V.nils, (V.int .i64 0), V.nils, V.nils]))⟩,
    ⟨none, none, .store 6 (.s 6) (.s 10)⟩]
  (.ops [⟨(some 11), none, .faddr 2 (.s 2)⟩,
    ⟨(some 12), none, .load none (.s 11)⟩,
    ⟨(some 13), none, .bin .lss (.s 12) (.c (V.int .i64 0))⟩,
    ⟨(some 14), none, .mv (.s 13)⟩,
    ⟨(some 15), (some (14, false)), .faddr 2 (.s 2)⟩,
    ⟨(some 16), (some (14, false)), .load none (.s 15)⟩,
    ⟨(some 17), (some (14, false)), .bin .gtr (.s 16) (.c (V.int .i64 63))⟩,
    ⟨(some 18), none, .pick (.s 14) (.c (V.bool true)) (.s 17)⟩,
    ⟨(some 19), none, .mv (.s 18)⟩,
    ⟨(some 20), (some (19, false)), .load (some 6) (.s 6)⟩,
    ⟨(some 21), (some (19, false)), .call fn_palanquinref9_Fine [(.s 20)]⟩,
    ⟨(some 22), (some (19, false)), .un .not (.s 21)⟩,
    ⟨(some 23), none, .pick (.s 19) (.c (V.bool true)) (.s 22)⟩]
  (.cond (.s 23)
  (.ops [⟨(some 24), none, .build [(V.int .i64 0), (V.int .i64 0), V.nils, V.nils, V.nils] []⟩,
     ⟨none, none, .store 5 (.s 4) (.s 24)⟩,
     ⟨(some 5), none, .mv (.c (V.bool false))⟩]
   (.ret))
  (.ops [⟨(some 25), none, .faddr 2 (.s 2)⟩,
     ⟨(some 26), none, .load none (.s 25)⟩,
     ⟨(some 27), none, .bin .add (.s 26) (.c (V.int .i64 64))⟩,
     ⟨(some 28), none, .faddr 0 (.s 6)⟩,
     ⟨(some 29), none, .load none (.s 28)⟩,
     ⟨(some 30), none, .bin .sub (.s 27) (.s 29)⟩,
     ⟨(some 31), none, .bin .rem (.s 30) (.c (V.int .i64 64))⟩,
     ⟨(some 7), none, .mv (.s 31)⟩]
   (.ops [⟨(some 32), none, .mv (.s 7)⟩,
     ⟨(some 33), none, .faddr 2 (.s 6)⟩,
     ⟨(some 34), none, .load none (.s 33)⟩,
     ⟨(some 35), none, .len (.s 34)⟩,
     ⟨(some 36), none, .bin .geq (.s 32) (.s 35)⟩]
   (.cond (.s 36)
   (.ops [⟨(some 37), none, .build [(V.int .i64 0), (V.int .i64 0), V.nils, V.nils, V.nils] []⟩,
      ⟨none, none, .store 5 (.s 4) (.s 37)⟩,
      ⟨(some 5), none, .mv (.c (V.bool false))⟩]
    (.ret))
   (.ops [⟨(some 38), none, .faddr 2 (.s 6)⟩,
      ⟨(some 39), none, .load none (.s 38)⟩,
      ⟨(some 40), none, .mv (.s 7)⟩,
      ⟨(some 41), none, .iaddr none 5 (.s 39) (.s 40)⟩,
      ⟨(some 42), none, .load (some 5) (.s 41)⟩,
      ⟨none, none, .store 5 (.s 4) (.s 42)⟩,
      ⟨(some 5), none, .mv (.c (V.bool true))⟩]
    (.ret))))))))⟩

noncomputable def f_palanquinref9_Of (G : Sem') (t0 t1 : V) : M Res :=
  (mbox ty_palanquinref9_Frame t0).bind fun t2 =>
  (mbox ty_palanquinref9_Structure t1).bind fun t3 =>
  (mbox ty_palanquinref9_Template (V.agg [(V.int .i64 0), (V.int .i64 0), V.nils, V.nils, V.nils])).bind fun t4 =>
  (mload (some 19) t2).bind fun t8 =>
  (mload (some 6) t3).bind fun t9 =>
  (G fn_palanquinref9_holds [t8, t9]).bind fun t10 =>
  (mbox ty_palanquinref9_Structure (V.agg [(V.int .i64 0), (V.int .i64 0), V.nils, (V.int .i64 0), V.nils, V.nils])).bind fun t6 =>
  (mstore 6 t6 t10).bind fun _ =>
  (M.lift (Ax.faddr 2 t2)).bind fun t11 =>
  (mload none t11).bind fun t12 =>
  (M.lift (Ax.bin .lss t12 (V.int .i64 0))).bind fun t13 =>
  (guarded [(0, t13)] (some (0, false)) (M.lift (Ax.faddr 2 t2))).bind fun t15 =>
  (guarded [(0, t13)] (some (0, false)) (mload none t15)).bind fun t16 =>
  (guarded [(0, t13)] (some (0, false)) (M.lift (Ax.bin .gtr t16 (V.int .i64 63)))).bind fun t17 =>
  (M.lift (Ax.pick t13 (V.bool true) t17)).bind fun t18 =>
  (guarded [(0, t18)] (some (0, false)) (mload (some 6) t6)).bind fun t20 =>
  (guarded [(0, t18)] (some (0, false)) (G fn_palanquinref9_Fine [t20])).bind fun t21 =>
  (guarded [(0, t18)] (some (0, false)) (M.lift (Ax.un .not t21))).bind fun t22 =>
  (M.lift (Ax.pick t18 (V.bool true) t22)).bind fun t23 =>
  M.ite t23
    ((M.lift (Ax.build [(V.int .i64 0), (V.int .i64 0), V.nils, V.nils, V.nils] [])).bind fun t24 =>
    (mstore 5 t4 t24).bind fun _ =>
    (mload (some 5) t4).bind fun r0 =>
    M.pure (.ret [r0, (V.bool false)]))
    ((M.lift (Ax.faddr 2 t2)).bind fun t25 =>
    (mload none t25).bind fun t26 =>
    (M.lift (Ax.bin .add t26 (V.int .i64 64))).bind fun t27 =>
    (M.lift (Ax.faddr 0 t6)).bind fun t28 =>
    (mload none t28).bind fun t29 =>
    (M.lift (Ax.bin .sub t27 t29)).bind fun t30 =>
    (M.lift (Ax.bin .rem t30 (V.int .i64 64))).bind fun t31 =>
    (M.lift (Ax.faddr 2 t6)).bind fun t33 =>
    (mload none t33).bind fun t34 =>
    (M.lift (vlen t34)).bind fun t35 =>
    (M.lift (Ax.bin .geq t31 t35)).bind fun t36 =>
    M.ite t36
      ((M.lift (Ax.build [(V.int .i64 0), (V.int .i64 0), V.nils, V.nils, V.nils] [])).bind fun t37 =>
      (mstore 5 t4 t37).bind fun _ =>
      (mload (some 5) t4).bind fun r0 =>
      M.pure (.ret [r0, (V.bool false)]))
      ((M.lift (Ax.faddr 2 t6)).bind fun t38 =>
      (mload none t38).bind fun t39 =>
      (M.lift (Ax.iaddr none 5 t39 t31)).bind fun t41 =>
      (mload (some 5) t41).bind fun t42 =>
      (mstore 5 t4 t42).bind fun _ =>
      (mload (some 5) t4).bind fun r0 =>
      M.pure (.ret [r0, (V.bool true)])))

theorem eq_palanquinref9_Of (G : Sem') (t0 t1 : V) : execK G ir_palanquinref9_Of.rv ir_palanquinref9_Of.body [] [] (params 0 [t0, t1]) = f_palanquinref9_Of G t0 t1 := by kernel_rfl

theorem tb_palanquinref9_Of : T fn_palanquinref9_Of = some ir_palanquinref9_Of := by kernel_rfl

theorem ok_palanquinref9_Of {t0 t1 : V} {H : Heap} {Q : V → Heap → Prop} (h : Ok (f_palanquinref9_Of (sem T) t0 t1) H fun r H' => ∃ L, r = .ret L ∧ Q (tupled L) H') : Ok (sem T fn_palanquinref9_Of [t0, t1]) H Q :=
  ok_sem tb_palanquinref9_Of (Nat.le_of_ble_eq_true rfl) (eq_palanquinref9_Of (sem T) t0 t1) h

/-- palanquin/palanquinref9.holds. -/
def ir_palanquinref9_holds : Fn' := ⟨10, [.cell 4 (some 6)],
  .ops [⟨(some 2), none, .box ty_palanquinref9_Frame (.s 0)⟩,
    ⟨(some 3), none, .box ty_palanquinref9_Structure (.s 1)⟩,
    ⟨(some 4), none, .box ty_palanquinref9_Structure (.c (V.agg [(V.int .i64 0), (V.int .i64 0), V.nils, (V.int .i64 0), V.nils, V.nils]))⟩]
  (.ops [⟨(some 5), none, .faddr 4 (.s 2)⟩,
    ⟨(some 6), none, .load none (.s 5)⟩]
  (.cond (.s 6)
  (.ops [⟨(some 7), none, .faddr 5 (.s 2)⟩,
     ⟨(some 8), none, .load (some 6) (.s 7)⟩,
     ⟨none, none, .store 6 (.s 4) (.s 8)⟩]
   (.ret))
  (.ops [⟨(some 9), none, .load (some 6) (.s 3)⟩,
     ⟨none, none, .store 6 (.s 4) (.s 9)⟩]
   (.ret))))⟩

noncomputable def f_palanquinref9_holds (G : Sem') (t0 t1 : V) : M Res :=
  (mbox ty_palanquinref9_Frame t0).bind fun t2 =>
  (mbox ty_palanquinref9_Structure t1).bind fun t3 =>
  (mbox ty_palanquinref9_Structure (V.agg [(V.int .i64 0), (V.int .i64 0), V.nils, (V.int .i64 0), V.nils, V.nils])).bind fun t4 =>
  (M.lift (Ax.faddr 4 t2)).bind fun t5 =>
  (mload none t5).bind fun t6 =>
  M.ite t6
    ((M.lift (Ax.faddr 5 t2)).bind fun t7 =>
    (mload (some 6) t7).bind fun t8 =>
    (mstore 6 t4 t8).bind fun _ =>
    (mload (some 6) t4).bind fun r0 =>
    M.pure (.ret [r0]))
    ((mload (some 6) t3).bind fun t9 =>
    (mstore 6 t4 t9).bind fun _ =>
    (mload (some 6) t4).bind fun r0 =>
    M.pure (.ret [r0]))

theorem eq_palanquinref9_holds (G : Sem') (t0 t1 : V) : execK G ir_palanquinref9_holds.rv ir_palanquinref9_holds.body [] [] (params 0 [t0, t1]) = f_palanquinref9_holds G t0 t1 := by kernel_rfl

theorem tb_palanquinref9_holds : T fn_palanquinref9_holds = some ir_palanquinref9_holds := by kernel_rfl

theorem ok_palanquinref9_holds {t0 t1 : V} {H : Heap} {Q : V → Heap → Prop} (h : Ok (f_palanquinref9_holds (sem T) t0 t1) H fun r H' => ∃ L, r = .ret L ∧ Q (tupled L) H') : Ok (sem T fn_palanquinref9_holds [t0, t1]) H Q :=
  ok_sem tb_palanquinref9_holds (Nat.le_of_ble_eq_true rfl) (eq_palanquinref9_holds (sem T) t0 t1) h

/-- palanquin/palanquinref9.Bytes. -/
def loop_palanquinref9_Bytes_0 : C :=
  .ops [⟨(some 104), none, .faddr 13 (.s 2)⟩,
    ⟨(some 105), none, .load none (.s 104)⟩,
    ⟨(some 106), none, .mv (.s 105)⟩,
    ⟨(some 107), (some (106, true)), .mv (.s 7)⟩,
    ⟨(some 108), (some (106, true)), .faddr 16 (.s 2)⟩,
    ⟨(some 109), (some (106, true)), .load none (.s 108)⟩,
    ⟨(some 110), (some (106, true)), .len (.s 109)⟩,
    ⟨(some 111), (some (106, true)), .bin .lss (.s 107) (.s 110)⟩,
    ⟨(some 112), none, .pick (.s 106) (.s 111) (.c (V.bool false))⟩]
  (.cond (.s 112)
  (.blk 1
   (.ops [⟨(some 115), none, .mv (.s 6)⟩,
      ⟨(some 116), none, .faddr 16 (.s 2)⟩,
      ⟨(some 117), none, .load none (.s 116)⟩,
      ⟨(some 118), none, .mv (.s 7)⟩,
      ⟨(some 119), none, .iaddr none 1 (.s 117) (.s 118)⟩,
      ⟨(some 120), none, .load none (.s 119)⟩,
      ⟨(some 121), none, .cint .u64 (.s 120)⟩,
      ⟨(some 122), none, .call fn_palanquinref6_Writer_Add [(.s 115), (.s 121), (.c (V.int .i64 2))]⟩]
    (.done)) [] [115, 116, 117, 118, 119, 120, 121, 122]
   (.ops [⟨(some 113), none, .mv (.s 7)⟩,
     ⟨(some 114), none, .bin .add (.s 113) (.c (V.int .i64 1))⟩,
     ⟨(some 7), none, .mv (.s 114)⟩]
   (.done)))
  (.exit 0))

def loop_palanquinref9_Bytes_1 : C :=
  .ops [⟨(some 132), none, .faddr 17 (.s 2)⟩,
    ⟨(some 133), none, .load none (.s 132)⟩,
    ⟨(some 134), none, .mv (.s 8)⟩,
    ⟨(some 135), none, .iaddr none 1 (.s 133) (.s 134)⟩,
    ⟨(some 136), none, .load none (.s 135)⟩,
    ⟨(some 137), none, .mv (.s 9)⟩,
    ⟨(some 138), none, .bin .mul (.c (V.int .i64 4)) (.s 137)⟩,
    ⟨(some 139), none, .cint .u64 (.s 138)⟩,
    ⟨(some 140), none, .bin .shl (.c (V.int .i64 1)) (.s 139)⟩,
    ⟨(some 141), none, .bin .gtr (.s 136) (.s 140)⟩]
  (.cond (.s 141)
  (.blk 5
   (.ops [⟨(some 142), none, .mv (.s 9)⟩,
      ⟨(some 143), none, .bin .add (.s 142) (.c (V.int .i64 1))⟩,
      ⟨(some 9), none, .mv (.s 143)⟩]
    (.done)) [9] [142, 143, 9]
   (.done))
  (.exit 4))

def loop_palanquinref9_Bytes_2 : C :=
  .ops [⟨(some 125), none, .mv (.s 8)⟩,
    ⟨(some 126), none, .faddr 17 (.s 2)⟩,
    ⟨(some 127), none, .load none (.s 126)⟩,
    ⟨(some 128), none, .len (.s 127)⟩,
    ⟨(some 129), none, .bin .lss (.s 125) (.s 128)⟩]
  (.cond (.s 129)
  (.blk 3
   (.ops [⟨(some 9), none, .mv (.c (V.int .i64 1))⟩]
    (.blk 4
    (.loop loop_palanquinref9_Bytes_1 [9] [132, 133, 134, 135, 136, 137, 138, 139, 140, 141, 142, 143, 9]) [9] [132, 133, 134, 135, 136, 137, 138, 139, 140, 141, 142, 143, 9]
    (.ops [⟨(some 144), none, .mv (.s 6)⟩,
      ⟨(some 145), none, .mv (.s 9)⟩,
      ⟨(some 146), none, .cint .u64 (.s 145)⟩,
      ⟨(some 147), none, .call fn_palanquinref6_Writer_Add [(.s 144), (.s 146), (.c (V.int .i64 2))]⟩]
    (.ops [⟨(some 148), none, .mv (.s 6)⟩,
      ⟨(some 149), none, .faddr 17 (.s 2)⟩,
      ⟨(some 150), none, .load none (.s 149)⟩,
      ⟨(some 151), none, .mv (.s 8)⟩,
      ⟨(some 152), none, .iaddr none 1 (.s 150) (.s 151)⟩,
      ⟨(some 153), none, .load none (.s 152)⟩,
      ⟨(some 154), none, .bin .sub (.s 153) (.c (V.int .i64 1))⟩,
      ⟨(some 155), none, .cint .u64 (.s 154)⟩,
      ⟨(some 156), none, .mv (.s 9)⟩,
      ⟨(some 157), none, .bin .mul (.c (V.int .i64 4)) (.s 156)⟩,
      ⟨(some 158), none, .call fn_palanquinref6_Writer_Add [(.s 148), (.s 155), (.s 157)]⟩]
    (.done))))) [] [9, 132, 133, 134, 135, 136, 137, 138, 139, 140, 141, 142, 143, 9, 144, 145, 146, 147, 148, 149, 150, 151, 152, 153, 154, 155, 156, 157, 158]
   (.ops [⟨(some 130), none, .mv (.s 8)⟩,
     ⟨(some 131), none, .bin .add (.s 130) (.c (V.int .i64 1))⟩,
     ⟨(some 8), none, .mv (.s 131)⟩]
   (.done)))
  (.exit 2))

def loop_palanquinref9_Bytes_3 : C :=
  .ops [⟨(some 161), none, .faddr 15 (.s 2)⟩,
    ⟨(some 162), none, .load none (.s 161)⟩,
    ⟨(some 163), none, .mv (.s 162)⟩,
    ⟨(some 164), (some (163, true)), .mv (.s 10)⟩,
    ⟨(some 165), (some (163, true)), .faddr 18 (.s 2)⟩,
    ⟨(some 166), (some (163, true)), .load none (.s 165)⟩,
    ⟨(some 167), (some (163, true)), .len (.s 166)⟩,
    ⟨(some 168), (some (163, true)), .bin .lss (.s 164) (.s 167)⟩,
    ⟨(some 169), none, .pick (.s 163) (.s 168) (.c (V.bool false))⟩]
  (.cond (.s 169)
  (.blk 7
   (.ops [⟨(some 172), none, .mv (.s 6)⟩,
      ⟨(some 173), none, .faddr 18 (.s 2)⟩,
      ⟨(some 174), none, .load none (.s 173)⟩,
      ⟨(some 175), none, .mv (.s 10)⟩,
      ⟨(some 176), none, .iaddr none 1 (.s 174) (.s 175)⟩,
      ⟨(some 177), none, .load none (.s 176)⟩,
      ⟨(some 178), none, .cint .u64 (.s 177)⟩,
      ⟨(some 179), none, .call fn_palanquinref6_Writer_Add [(.s 172), (.s 178), (.c (V.int .i64 8))]⟩]
    (.done)) [] [172, 173, 174, 175, 176, 177, 178, 179]
   (.ops [⟨(some 170), none, .mv (.s 10)⟩,
     ⟨(some 171), none, .bin .add (.s 170) (.c (V.int .i64 1))⟩,
     ⟨(some 10), none, .mv (.s 171)⟩]
   (.done)))
  (.exit 6))

def ir_palanquinref9_Bytes : Fn' := ⟨182, [.tmp 4, .tmp 5],
  .ops [⟨(some 2), none, .box ty_palanquinref9_Frame (.s 0)⟩,
    ⟨(some 3), none, .box ty_palanquinref9_Structure (.s 1)⟩,
    ⟨(some 4), none, .mv (.c V.nils)⟩,
    ⟨(some 5), none, .mv (.c (V.int .i64 0))⟩]
  (.ops [⟨(some 11), none, .load (some 19) (.s 2)⟩,
    ⟨(some 12), none, .load (some 6) (.s 3)⟩,
    ⟨(some 13), none, .call fn_palanquinref9_Good [(.s 11), (.s 12)]⟩,
    ⟨(some 14), none, .un .not (.s 13)⟩]
  (.cond (.s 14)
  (.ops [⟨(some 4), none, .mv (.c V.nils)⟩,
     ⟨(some 5), none, .mv (.c (V.int .i64 1))⟩]
   (.ret))
  (.ops [⟨(some 15), none, .build [V.nils] []⟩,
     ⟨(some 16), none, .box ty_palanquinref6_Writer (.s 15)⟩,
     ⟨(some 6), none, .mv (.s 16)⟩]
   (.ops [⟨(some 17), none, .mv (.s 6)⟩,
     ⟨(some 18), none, .faddr 0 (.s 2)⟩,
     ⟨(some 19), none, .load none (.s 18)⟩,
     ⟨(some 20), none, .call fn_palanquinref9_one [(.s 19)]⟩,
     ⟨(some 21), none, .call fn_palanquinref6_Writer_Add [(.s 17), (.s 20), (.c (V.int .i64 1))]⟩]
   (.ops [⟨(some 22), none, .mv (.s 6)⟩,
     ⟨(some 23), none, .faddr 1 (.s 2)⟩,
     ⟨(some 24), none, .load none (.s 23)⟩,
     ⟨(some 25), none, .call fn_palanquinref9_one [(.s 24)]⟩,
     ⟨(some 26), none, .call fn_palanquinref6_Writer_Add [(.s 22), (.s 25), (.c (V.int .i64 1))]⟩]
   (.ops [⟨(some 27), none, .mv (.s 6)⟩,
     ⟨(some 28), none, .faddr 2 (.s 2)⟩,
     ⟨(some 29), none, .load none (.s 28)⟩,
     ⟨(some 30), none, .cint .u64 (.s 29)⟩,
     ⟨(some 31), none, .call fn_palanquinref6_Writer_Add [(.s 27), (.s 30), (.c (V.int .i64 6))]⟩]
   (.ops [⟨(some 32), none, .mv (.s 6)⟩,
     ⟨(some 33), none, .faddr 3 (.s 2)⟩,
     ⟨(some 34), none, .load none (.s 33)⟩,
     ⟨(some 35), none, .cint .u64 (.s 34)⟩,
     ⟨(some 36), none, .call fn_palanquinref6_Writer_Add [(.s 32), (.s 35), (.c (V.int .i64 16))]⟩]
   (.ops [⟨(some 37), none, .faddr 4 (.s 2)⟩,
     ⟨(some 38), none, .load none (.s 37)⟩,
     ⟨(some 39), none, .un .not (.s 38)⟩,
     ⟨(some 40), none, .mv (.s 39)⟩,
     ⟨(some 41), (some (40, true)), .faddr 11 (.s 2)⟩,
     ⟨(some 42), (some (40, true)), .load none (.s 41)⟩,
     ⟨(some 43), (some (40, true)), .un .not (.s 42)⟩,
     ⟨(some 44), none, .pick (.s 40) (.s 43) (.c (V.bool false))⟩,
     ⟨(some 45), none, .mv (.s 44)⟩,
     ⟨(some 46), (some (45, true)), .faddr 13 (.s 2)⟩,
     ⟨(some 47), (some (45, true)), .load none (.s 46)⟩,
     ⟨(some 48), (some (45, true)), .un .not (.s 47)⟩,
     ⟨(some 49), none, .pick (.s 45) (.s 48) (.c (V.bool false))⟩,
     ⟨(some 50), none, .mv (.s 49)⟩,
     ⟨(some 51), (some (50, true)), .faddr 14 (.s 2)⟩,
     ⟨(some 52), (some (50, true)), .load none (.s 51)⟩,
     ⟨(some 53), (some (50, true)), .un .not (.s 52)⟩,
     ⟨(some 54), none, .pick (.s 50) (.s 53) (.c (V.bool false))⟩,
     ⟨(some 55), none, .mv (.s 54)⟩,
     ⟨(some 56), (some (55, true)), .faddr 15 (.s 2)⟩,
     ⟨(some 57), (some (55, true)), .load none (.s 56)⟩,
     ⟨(some 58), (some (55, true)), .un .not (.s 57)⟩,
     ⟨(some 59), none, .pick (.s 55) (.s 58) (.c (V.bool false))⟩]
   (.cond (.s 59)
   (.ops [⟨(some 60), none, .mv (.s 6)⟩,
      ⟨(some 61), none, .call fn_palanquinref6_Writer_Bytes [(.s 60)]⟩,
      ⟨(some 4), none, .mv (.s 61)⟩,
      ⟨(some 5), none, .mv (.c (V.int .i64 0))⟩]
    (.ret))
   (.ops [⟨(some 62), none, .mv (.s 6)⟩,
      ⟨(some 63), none, .faddr 4 (.s 2)⟩,
      ⟨(some 64), none, .load none (.s 63)⟩,
      ⟨(some 65), none, .call fn_palanquinref9_one [(.s 64)]⟩,
      ⟨(some 66), none, .call fn_palanquinref6_Writer_Add [(.s 62), (.s 65), (.c (V.int .i64 1))]⟩]
    (.ops [⟨(some 67), none, .mv (.s 6)⟩,
      ⟨(some 68), none, .faddr 11 (.s 2)⟩,
      ⟨(some 69), none, .load none (.s 68)⟩,
      ⟨(some 70), none, .call fn_palanquinref9_one [(.s 69)]⟩,
      ⟨(some 71), none, .call fn_palanquinref6_Writer_Add [(.s 67), (.s 70), (.c (V.int .i64 1))]⟩]
    (.ops [⟨(some 72), none, .mv (.s 6)⟩,
      ⟨(some 73), none, .faddr 13 (.s 2)⟩,
      ⟨(some 74), none, .load none (.s 73)⟩,
      ⟨(some 75), none, .call fn_palanquinref9_one [(.s 74)]⟩,
      ⟨(some 76), none, .call fn_palanquinref6_Writer_Add [(.s 72), (.s 75), (.c (V.int .i64 1))]⟩]
    (.ops [⟨(some 77), none, .mv (.s 6)⟩,
      ⟨(some 78), none, .faddr 14 (.s 2)⟩,
      ⟨(some 79), none, .load none (.s 78)⟩,
      ⟨(some 80), none, .call fn_palanquinref9_one [(.s 79)]⟩,
      ⟨(some 81), none, .call fn_palanquinref6_Writer_Add [(.s 77), (.s 80), (.c (V.int .i64 1))]⟩]
    (.ops [⟨(some 82), none, .mv (.s 6)⟩,
      ⟨(some 83), none, .faddr 15 (.s 2)⟩,
      ⟨(some 84), none, .load none (.s 83)⟩,
      ⟨(some 85), none, .call fn_palanquinref9_one [(.s 84)]⟩,
      ⟨(some 86), none, .call fn_palanquinref6_Writer_Add [(.s 82), (.s 85), (.c (V.int .i64 1))]⟩]
    (.ops [⟨(some 87), none, .faddr 4 (.s 2)⟩,
      ⟨(some 88), none, .load none (.s 87)⟩]
    (.condJ (.s 88)
    (.ops [⟨(some 89), none, .mv (.s 6)⟩,
       ⟨(some 90), none, .faddr 5 (.s 2)⟩,
       ⟨(some 91), none, .load (some 6) (.s 90)⟩,
       ⟨(some 92), none, .call fn_palanquinref9_writes [(.s 89), (.s 91)]⟩]
     (.done))
    (.done) [] [89, 90, 91, 92]
    (.ops [⟨(some 93), none, .faddr 11 (.s 2)⟩,
      ⟨(some 94), none, .load none (.s 93)⟩]
    (.condJ (.s 94)
    (.draw [⟨(some 95), none, .mv (.s 6)⟩,
       ⟨(some 96), none, .faddr 12 (.s 2)⟩,
       ⟨(some 97), none, .load none (.s 96)⟩,
       ⟨(some 98), none, .cint .u64 (.s 97)⟩,
       ⟨(some 99), none, .load (some 19) (.s 2)⟩,
       ⟨(some 100), none, .load (some 6) (.s 3)⟩,
       ⟨(some 101), none, .call fn_palanquinref9_holds [(.s 99), (.s 100)]⟩,
       ⟨(some 102), none, .field 1 none (.s 101)⟩,
       ⟨(some 103), none, .call fn_palanquinref6_Writer_Add [(.s 95), (.s 98), (.s 102)]⟩] [(2, 6)]
     (.done))
    (.done) [] [95, 96, 97, 98, 99, 100, 101, 102, 103]
    (.ops [⟨(some 7), none, .mv (.c (V.int .i64 0))⟩]
    (.blk 0
    (.loop loop_palanquinref9_Bytes_0 [7] [104, 105, 106, 107, 108, 109, 110, 111, 112, 115, 116, 117, 118, 119, 120, 121, 122, 113, 114, 7]) [] [104, 105, 106, 107, 108, 109, 110, 111, 112, 115, 116, 117, 118, 119, 120, 121, 122, 113, 114, 7]
    (.ops [⟨(some 123), none, .faddr 14 (.s 2)⟩,
      ⟨(some 124), none, .load none (.s 123)⟩]
    (.condJ (.s 124)
    (.ops [⟨(some 8), none, .mv (.c (V.int .i64 0))⟩]
     (.blk 2
     (.loop loop_palanquinref9_Bytes_2 [8] [125, 126, 127, 128, 129, 9, 132, 133, 134, 135, 136, 137, 138, 139, 140, 141, 142, 143, 9, 144, 145, 146, 147, 148, 149, 150, 151, 152, 153, 154, 155, 156, 157, 158, 130, 131, 8]) [] [125, 126, 127, 128, 129, 9, 132, 133, 134, 135, 136, 137, 138, 139, 140, 141, 142, 143, 9, 144, 145, 146, 147, 148, 149, 150, 151, 152, 153, 154, 155, 156, 157, 158, 130, 131, 8]
     (.ops [⟨(some 159), none, .mv (.s 6)⟩,
       ⟨(some 160), none, .call fn_palanquinref6_Writer_Add [(.s 159), (.c (V.int .u64 0)), (.c (V.int .i64 2))]⟩]
     (.done))))
    (.done) [] [8, 125, 126, 127, 128, 129, 9, 132, 133, 134, 135, 136, 137, 138, 139, 140, 141, 142, 143, 9, 144, 145, 146, 147, 148, 149, 150, 151, 152, 153, 154, 155, 156, 157, 158, 130, 131, 8, 159, 160]
    (.ops [⟨(some 10), none, .mv (.c (V.int .i64 0))⟩]
    (.blk 6
    (.loop loop_palanquinref9_Bytes_3 [10] [161, 162, 163, 164, 165, 166, 167, 168, 169, 172, 173, 174, 175, 176, 177, 178, 179, 170, 171, 10]) [] [161, 162, 163, 164, 165, 166, 167, 168, 169, 172, 173, 174, 175, 176, 177, 178, 179, 170, 171, 10]
    (.ops [⟨(some 180), none, .mv (.s 6)⟩,
      ⟨(some 181), none, .call fn_palanquinref6_Writer_Bytes [(.s 180)]⟩,
      ⟨(some 4), none, .mv (.s 181)⟩,
      ⟨(some 5), none, .mv (.c (V.int .i64 0))⟩]
    (.ret))))))))))))))))))))))))))⟩

noncomputable def f_palanquinref9_Bytes_0 (G : Sem') (t6 t2 t4 t5 : V) (L : List V) : M Res :=
  (M.lift (Ax.faddr 13 t2)).bind fun t104 =>
  (mload none t104).bind fun t105 =>
  (guarded [(0, t105)] (some (0, true)) (M.pure (L.getD 0 .undef))).bind fun t107 =>
  (guarded [(0, t105)] (some (0, true)) (M.lift (Ax.faddr 16 t2))).bind fun t108 =>
  (guarded [(0, t105)] (some (0, true)) (mload none t108)).bind fun t109 =>
  (guarded [(0, t105)] (some (0, true)) (M.lift (vlen t109))).bind fun t110 =>
  (guarded [(0, t105)] (some (0, true)) (M.lift (Ax.bin .lss t107 t110))).bind fun t111 =>
  (M.lift (Ax.pick t105 t111 (V.bool false))).bind fun t112 =>
  M.ite t112
    (M.blk 1 (
      (M.lift (Ax.faddr 16 t2)).bind fun t116 =>
      (mload none t116).bind fun t117 =>
      (M.lift (Ax.iaddr none 1 t117 (L.getD 0 .undef))).bind fun t119 =>
      (mload none t119).bind fun t120 =>
      (M.lift (Ax.cint .u64 t120)).bind fun t121 =>
      (G fn_palanquinref6_Writer_Add [t6, t121, (V.int .i64 2)]).bind fun t122 =>
      M.pure (.nrm [])) fun _ =>
    (M.lift (Ax.bin .add (L.getD 0 .undef) (V.int .i64 1))).bind fun t114 =>
    M.pure (.nrm [t114]))
    (M.pure (.ex 0 []))

noncomputable def f_palanquinref9_Bytes_1 (G : Sem') (t2 t8 t4 t5 : V) (L : List V) : M Res :=
  (M.lift (Ax.faddr 17 t2)).bind fun t132 =>
  (mload none t132).bind fun t133 =>
  (M.lift (Ax.iaddr none 1 t133 t8)).bind fun t135 =>
  (mload none t135).bind fun t136 =>
  (M.lift (Ax.bin .mul (V.int .i64 4) (L.getD 0 .undef))).bind fun t138 =>
  (M.lift (Ax.cint .u64 t138)).bind fun t139 =>
  (M.lift (Ax.bin .shl (V.int .i64 1) t139)).bind fun t140 =>
  (M.lift (Ax.bin .gtr t136 t140)).bind fun t141 =>
  M.ite t141
    (M.blk 5 (
      (M.lift (Ax.bin .add (L.getD 0 .undef) (V.int .i64 1))).bind fun t143 =>
      M.pure (.nrm [t143])) fun L4 =>
    M.pure (.nrm [(L4.getD 0 .undef)]))
    (M.pure (.ex 4 [(L.getD 0 .undef)]))

noncomputable def f_palanquinref9_Bytes_2 (G : Sem') (t6 t2 t4 t5 : V) (L : List V) : M Res :=
  (M.lift (Ax.faddr 17 t2)).bind fun t126 =>
  (mload none t126).bind fun t127 =>
  (M.lift (vlen t127)).bind fun t128 =>
  (M.lift (Ax.bin .lss (L.getD 0 .undef) t128)).bind fun t129 =>
  M.ite t129
    (M.blk 3 (
      M.blk 4 (
        M.iter (f_palanquinref9_Bytes_1 G t2 (L.getD 0 .undef) t4 t5) [(V.int .i64 1)]) fun L5 =>
      (M.lift (Ax.cint .u64 (L5.getD 0 .undef))).bind fun t146 =>
      (G fn_palanquinref6_Writer_Add [t6, t146, (V.int .i64 2)]).bind fun t147 =>
      (M.lift (Ax.faddr 17 t2)).bind fun t149 =>
      (mload none t149).bind fun t150 =>
      (M.lift (Ax.iaddr none 1 t150 (L.getD 0 .undef))).bind fun t152 =>
      (mload none t152).bind fun t153 =>
      (M.lift (Ax.bin .sub t153 (V.int .i64 1))).bind fun t154 =>
      (M.lift (Ax.cint .u64 t154)).bind fun t155 =>
      (M.lift (Ax.bin .mul (V.int .i64 4) (L5.getD 0 .undef))).bind fun t157 =>
      (G fn_palanquinref6_Writer_Add [t6, t155, t157]).bind fun t158 =>
      M.pure (.nrm [])) fun _ =>
    (M.lift (Ax.bin .add (L.getD 0 .undef) (V.int .i64 1))).bind fun t131 =>
    M.pure (.nrm [t131]))
    (M.pure (.ex 2 []))

noncomputable def f_palanquinref9_Bytes_3 (G : Sem') (t6 t2 t4 t5 : V) (L : List V) : M Res :=
  (M.lift (Ax.faddr 15 t2)).bind fun t161 =>
  (mload none t161).bind fun t162 =>
  (guarded [(0, t162)] (some (0, true)) (M.pure (L.getD 0 .undef))).bind fun t164 =>
  (guarded [(0, t162)] (some (0, true)) (M.lift (Ax.faddr 18 t2))).bind fun t165 =>
  (guarded [(0, t162)] (some (0, true)) (mload none t165)).bind fun t166 =>
  (guarded [(0, t162)] (some (0, true)) (M.lift (vlen t166))).bind fun t167 =>
  (guarded [(0, t162)] (some (0, true)) (M.lift (Ax.bin .lss t164 t167))).bind fun t168 =>
  (M.lift (Ax.pick t162 t168 (V.bool false))).bind fun t169 =>
  M.ite t169
    (M.blk 7 (
      (M.lift (Ax.faddr 18 t2)).bind fun t173 =>
      (mload none t173).bind fun t174 =>
      (M.lift (Ax.iaddr none 1 t174 (L.getD 0 .undef))).bind fun t176 =>
      (mload none t176).bind fun t177 =>
      (M.lift (Ax.cint .u64 t177)).bind fun t178 =>
      (G fn_palanquinref6_Writer_Add [t6, t178, (V.int .i64 8)]).bind fun t179 =>
      M.pure (.nrm [])) fun _ =>
    (M.lift (Ax.bin .add (L.getD 0 .undef) (V.int .i64 1))).bind fun t171 =>
    M.pure (.nrm [t171]))
    (M.pure (.ex 6 []))

noncomputable def f_palanquinref9_Bytes (G : Sem') (t0 t1 : V) : M Res :=
  (mbox ty_palanquinref9_Frame t0).bind fun t2 =>
  (mbox ty_palanquinref9_Structure t1).bind fun t3 =>
  (mload (some 19) t2).bind fun t11 =>
  (mload (some 6) t3).bind fun t12 =>
  (G fn_palanquinref9_Good [t11, t12]).bind fun t13 =>
  (M.lift (Ax.un .not t13)).bind fun t14 =>
  M.ite t14
    (M.pure (.ret [V.nils, (V.int .i64 1)]))
    ((M.lift (Ax.build [V.nils] [])).bind fun t15 =>
    (mbox ty_palanquinref6_Writer t15).bind fun t16 =>
    (M.lift (Ax.faddr 0 t2)).bind fun t18 =>
    (mload none t18).bind fun t19 =>
    (G fn_palanquinref9_one [t19]).bind fun t20 =>
    (G fn_palanquinref6_Writer_Add [t16, t20, (V.int .i64 1)]).bind fun t21 =>
    (M.lift (Ax.faddr 1 t2)).bind fun t23 =>
    (mload none t23).bind fun t24 =>
    (G fn_palanquinref9_one [t24]).bind fun t25 =>
    (G fn_palanquinref6_Writer_Add [t16, t25, (V.int .i64 1)]).bind fun t26 =>
    (M.lift (Ax.faddr 2 t2)).bind fun t28 =>
    (mload none t28).bind fun t29 =>
    (M.lift (Ax.cint .u64 t29)).bind fun t30 =>
    (G fn_palanquinref6_Writer_Add [t16, t30, (V.int .i64 6)]).bind fun t31 =>
    (M.lift (Ax.faddr 3 t2)).bind fun t33 =>
    (mload none t33).bind fun t34 =>
    (M.lift (Ax.cint .u64 t34)).bind fun t35 =>
    (G fn_palanquinref6_Writer_Add [t16, t35, (V.int .i64 16)]).bind fun t36 =>
    (M.lift (Ax.faddr 4 t2)).bind fun t37 =>
    (mload none t37).bind fun t38 =>
    (M.lift (Ax.un .not t38)).bind fun t39 =>
    (guarded [(0, t39)] (some (0, true)) (M.lift (Ax.faddr 11 t2))).bind fun t41 =>
    (guarded [(0, t39)] (some (0, true)) (mload none t41)).bind fun t42 =>
    (guarded [(0, t39)] (some (0, true)) (M.lift (Ax.un .not t42))).bind fun t43 =>
    (M.lift (Ax.pick t39 t43 (V.bool false))).bind fun t44 =>
    (guarded [(0, t44)] (some (0, true)) (M.lift (Ax.faddr 13 t2))).bind fun t46 =>
    (guarded [(0, t44)] (some (0, true)) (mload none t46)).bind fun t47 =>
    (guarded [(0, t44)] (some (0, true)) (M.lift (Ax.un .not t47))).bind fun t48 =>
    (M.lift (Ax.pick t44 t48 (V.bool false))).bind fun t49 =>
    (guarded [(0, t49)] (some (0, true)) (M.lift (Ax.faddr 14 t2))).bind fun t51 =>
    (guarded [(0, t49)] (some (0, true)) (mload none t51)).bind fun t52 =>
    (guarded [(0, t49)] (some (0, true)) (M.lift (Ax.un .not t52))).bind fun t53 =>
    (M.lift (Ax.pick t49 t53 (V.bool false))).bind fun t54 =>
    (guarded [(0, t54)] (some (0, true)) (M.lift (Ax.faddr 15 t2))).bind fun t56 =>
    (guarded [(0, t54)] (some (0, true)) (mload none t56)).bind fun t57 =>
    (guarded [(0, t54)] (some (0, true)) (M.lift (Ax.un .not t57))).bind fun t58 =>
    (M.lift (Ax.pick t54 t58 (V.bool false))).bind fun t59 =>
    M.ite t59
      ((G fn_palanquinref6_Writer_Bytes [t16]).bind fun t61 =>
      M.pure (.ret [t61, (V.int .i64 0)]))
      ((M.lift (Ax.faddr 4 t2)).bind fun t63 =>
      (mload none t63).bind fun t64 =>
      (G fn_palanquinref9_one [t64]).bind fun t65 =>
      (G fn_palanquinref6_Writer_Add [t16, t65, (V.int .i64 1)]).bind fun t66 =>
      (M.lift (Ax.faddr 11 t2)).bind fun t68 =>
      (mload none t68).bind fun t69 =>
      (G fn_palanquinref9_one [t69]).bind fun t70 =>
      (G fn_palanquinref6_Writer_Add [t16, t70, (V.int .i64 1)]).bind fun t71 =>
      (M.lift (Ax.faddr 13 t2)).bind fun t73 =>
      (mload none t73).bind fun t74 =>
      (G fn_palanquinref9_one [t74]).bind fun t75 =>
      (G fn_palanquinref6_Writer_Add [t16, t75, (V.int .i64 1)]).bind fun t76 =>
      (M.lift (Ax.faddr 14 t2)).bind fun t78 =>
      (mload none t78).bind fun t79 =>
      (G fn_palanquinref9_one [t79]).bind fun t80 =>
      (G fn_palanquinref6_Writer_Add [t16, t80, (V.int .i64 1)]).bind fun t81 =>
      (M.lift (Ax.faddr 15 t2)).bind fun t83 =>
      (mload none t83).bind fun t84 =>
      (G fn_palanquinref9_one [t84]).bind fun t85 =>
      (G fn_palanquinref6_Writer_Add [t16, t85, (V.int .i64 1)]).bind fun t86 =>
      (M.lift (Ax.faddr 4 t2)).bind fun t87 =>
      (mload none t87).bind fun t88 =>
      M.join (M.ite t88
        ((M.lift (Ax.faddr 5 t2)).bind fun t90 =>
        (mload (some 6) t90).bind fun t91 =>
        (G fn_palanquinref9_writes [t16, t91]).bind fun t92 =>
        M.pure (.nrm []))
        (M.pure (.nrm []))) fun _ =>
      (M.lift (Ax.faddr 11 t2)).bind fun t93 =>
      (mload none t93).bind fun t94 =>
      M.join (M.ite t94
        ((M.lift (Ax.faddr 12 t2)).bind fun t96 =>
        (mload none t96).bind fun t97 =>
        (M.lift (Ax.cint .u64 t97)).bind fun t98 =>
        (mload (some 19) t2).bind fun t99 =>
        (mload (some 6) t3).bind fun t100 =>
        M.getH.bind fun h0 =>
        (G fn_palanquinref9_holds [t99, t100]).bind fun t101 =>
        M.getH.bind fun h0' =>
        (M.unch t96 h0 h0').bind fun _ =>
        (M.lift (Ax.field 1 none t101)).bind fun t102 =>
        (G fn_palanquinref6_Writer_Add [t16, t98, t102]).bind fun t103 =>
        M.pure (.nrm []))
        (M.pure (.nrm []))) fun _ =>
      M.blk 0 (
        M.iter (f_palanquinref9_Bytes_0 G t16 t2 V.nils (V.int .i64 0)) [(V.int .i64 0)]) fun _ =>
      (M.lift (Ax.faddr 14 t2)).bind fun t123 =>
      (mload none t123).bind fun t124 =>
      M.join (M.ite t124
        (M.blk 2 (
          M.iter (f_palanquinref9_Bytes_2 G t16 t2 V.nils (V.int .i64 0)) [(V.int .i64 0)]) fun _ =>
        (G fn_palanquinref6_Writer_Add [t16, (V.int .u64 0), (V.int .i64 2)]).bind fun t160 =>
        M.pure (.nrm []))
        (M.pure (.nrm []))) fun _ =>
      M.blk 6 (
        M.iter (f_palanquinref9_Bytes_3 G t16 t2 V.nils (V.int .i64 0)) [(V.int .i64 0)]) fun _ =>
      (G fn_palanquinref6_Writer_Bytes [t16]).bind fun t181 =>
      M.pure (.ret [t181, (V.int .i64 0)])))

theorem eq_palanquinref9_Bytes (G : Sem') (t0 t1 : V) : execK G ir_palanquinref9_Bytes.rv ir_palanquinref9_Bytes.body [] [] (params 0 [t0, t1]) = f_palanquinref9_Bytes G t0 t1 := by kernel_rfl

theorem tb_palanquinref9_Bytes : T fn_palanquinref9_Bytes = some ir_palanquinref9_Bytes := by kernel_rfl

theorem ok_palanquinref9_Bytes {t0 t1 : V} {H : Heap} {Q : V → Heap → Prop} (h : Ok (f_palanquinref9_Bytes (sem T) t0 t1) H fun r H' => ∃ L, r = .ret L ∧ Q (tupled L) H') : Ok (sem T fn_palanquinref9_Bytes [t0, t1]) H Q :=
  ok_sem tb_palanquinref9_Bytes (Nat.le_of_ble_eq_true rfl) (eq_palanquinref9_Bytes (sem T) t0 t1) h

/-- palanquin/palanquinref9.Good. -/
def ir_palanquinref9_Good : Fn' := ⟨119, [.tmp 4],
  .ops [⟨(some 2), none, .box ty_palanquinref9_Frame (.s 0)⟩,
    ⟨(some 3), none, .box ty_palanquinref9_Structure (.s 1)⟩,
    ⟨(some 4), none, .mv (.c (V.bool false))⟩]
  (.ops [⟨(some 9), none, .load (some 19) (.s 2)⟩,
    ⟨(some 10), none, .load (some 6) (.s 3)⟩,
    ⟨(some 11), none, .call fn_palanquinref9_Of [(.s 9), (.s 10)]⟩,
    ⟨(some 8), none, .mv (.s 11)⟩,
    ⟨(some 12), none, .ext 0 (.s 8)⟩,
    ⟨(some 13), none, .ext 1 (.s 8)⟩,
    ⟨(some 5), none, .box ty_palanquinref9_Template (.c (V.agg [(V.int .i64 0), (V.int .i64 0), V.nils, V.nils, V.nils]))⟩,
    ⟨none, none, .store 5 (.s 5) (.s 12)⟩,
    ⟨(some 6), none, .mv (.s 13)⟩]
  (.ops [⟨(some 14), none, .mv (.s 6)⟩,
    ⟨(some 15), none, .un .not (.s 14)⟩,
    ⟨(some 16), none, .mv (.s 15)⟩,
    ⟨(some 17), (some (16, false)), .faddr 4 (.s 2)⟩,
    ⟨(some 18), (some (16, false)), .load none (.s 17)⟩,
    ⟨(some 19), (some (16, false)), .un .not (.s 18)⟩,
    ⟨(some 20), (some (16, false)), .mv (.s 19)⟩,
    ⟨(some 21), (some (20, true)), .faddr 5 (.s 2)⟩,
    ⟨(some 22), (some (20, true)), .load (some 6) (.s 21)⟩,
    ⟨(some 23), (some (20, true)), .call fn_palanquinref9_zero [(.s 22)]⟩,
    ⟨(some 24), (some (20, true)), .un .not (.s 23)⟩,
    ⟨(some 25), (some (16, false)), .pick (.s 20) (.s 24) (.c (V.bool false))⟩,
    ⟨(some 26), none, .pick (.s 16) (.c (V.bool true)) (.s 25)⟩]
  (.cond (.s 26)
  (.ops [⟨(some 4), none, .mv (.c (V.bool false))⟩]
   (.ret))
  (.ops [⟨(some 27), none, .load (some 19) (.s 2)⟩,
     ⟨(some 28), none, .load (some 6) (.s 3)⟩,
     ⟨(some 29), none, .call fn_palanquinref9_holds [(.s 27), (.s 28)]⟩,
     ⟨(some 7), none, .box ty_palanquinref9_Structure (.c (V.agg [(V.int .i64 0), (V.int .i64 0), V.nils, (V.int .i64 0), V.nils, V.nils]))⟩,
     ⟨none, none, .store 6 (.s 7) (.s 29)⟩]
   (.ops [⟨(some 30), none, .faddr 11 (.s 2)⟩,
     ⟨(some 31), none, .load none (.s 30)⟩,
     ⟨(some 32), none, .un .not (.s 31)⟩,
     ⟨(some 33), none, .mv (.s 32)⟩,
     ⟨(some 34), (some (33, true)), .faddr 12 (.s 2)⟩,
     ⟨(some 35), (some (33, true)), .load none (.s 34)⟩,
     ⟨(some 36), (some (33, true)), .bin .neq (.s 35) (.c (V.int .u32 0))⟩,
     ⟨(some 37), none, .pick (.s 33) (.s 36) (.c (V.bool false))⟩,
     ⟨(some 38), none, .mv (.s 37)⟩,
     ⟨(some 39), (some (38, false)), .faddr 12 (.s 2)⟩,
     ⟨(some 40), (some (38, false)), .load none (.s 39)⟩,
     ⟨(some 41), (some (38, false)), .cint .u64 (.s 40)⟩,
     ⟨(some 42), (some (38, false)), .faddr 1 (.s 7)⟩,
     ⟨(some 43), (some (38, false)), .load none (.s 42)⟩,
     ⟨(some 44), (some (38, false)), .cint .u64 (.s 43)⟩,
     ⟨(some 45), (some (38, false)), .bin .shr (.s 41) (.s 44)⟩,
     ⟨(some 46), (some (38, false)), .bin .neq (.s 45) (.c (V.int .u64 0))⟩,
     ⟨(some 47), none, .pick (.s 38) (.c (V.bool true)) (.s 46)⟩]
   (.cond (.s 47)
   (.ops [⟨(some 4), none, .mv (.c (V.bool false))⟩]
    (.ret))
   (.ops [⟨(some 48), none, .faddr 13 (.s 2)⟩,
      ⟨(some 49), none, .load none (.s 48)⟩,
      ⟨(some 50), none, .un .not (.s 49)⟩,
      ⟨(some 51), none, .mv (.s 50)⟩,
      ⟨(some 52), (some (51, true)), .faddr 16 (.s 2)⟩,
      ⟨(some 53), (some (51, true)), .load none (.s 52)⟩,
      ⟨(some 54), (some (51, true)), .faddr 2 (.s 5)⟩,
      ⟨(some 55), (some (51, true)), .load none (.s 54)⟩,
      ⟨(some 56), (some (51, true)), .call fn_palanquinref9_SameInts [(.s 53), (.s 55)]⟩,
      ⟨(some 57), (some (51, true)), .un .not (.s 56)⟩,
      ⟨(some 58), none, .pick (.s 51) (.s 57) (.c (V.bool false))⟩,
      ⟨(some 59), none, .mv (.s 58)⟩,
      ⟨(some 60), (some (59, false)), .faddr 13 (.s 2)⟩,
      ⟨(some 61), (some (59, false)), .load none (.s 60)⟩,
      ⟨(some 62), (some (59, false)), .mv (.s 61)⟩,
      ⟨(some 63), (some (62, true)), .faddr 16 (.s 2)⟩,
      ⟨(some 64), (some (62, true)), .load none (.s 63)⟩,
      ⟨(some 65), (some (62, true)), .faddr 1 (.s 7)⟩,
      ⟨(some 66), (some (62, true)), .load none (.s 65)⟩,
      ⟨(some 67), (some (62, true)), .call fn_palanquinref9_within [(.s 64), (.s 66), (.c (V.int .i64 0)), (.c (V.int .i64 3))]⟩,
      ⟨(some 68), (some (62, true)), .un .not (.s 67)⟩,
      ⟨(some 69), (some (59, false)), .pick (.s 62) (.s 68) (.c (V.bool false))⟩,
      ⟨(some 70), none, .pick (.s 59) (.c (V.bool true)) (.s 69)⟩]
    (.cond (.s 70)
    (.ops [⟨(some 4), none, .mv (.c (V.bool false))⟩]
     (.ret))
    (.ops [⟨(some 71), none, .faddr 14 (.s 2)⟩,
       ⟨(some 72), none, .load none (.s 71)⟩,
       ⟨(some 73), none, .un .not (.s 72)⟩,
       ⟨(some 74), none, .mv (.s 73)⟩,
       ⟨(some 75), (some (74, true)), .faddr 17 (.s 2)⟩,
       ⟨(some 76), (some (74, true)), .load none (.s 75)⟩,
       ⟨(some 77), (some (74, true)), .faddr 3 (.s 5)⟩,
       ⟨(some 78), (some (74, true)), .load none (.s 77)⟩,
       ⟨(some 79), (some (74, true)), .call fn_palanquinref9_SameInts [(.s 76), (.s 78)]⟩,
       ⟨(some 80), (some (74, true)), .un .not (.s 79)⟩,
       ⟨(some 81), none, .pick (.s 74) (.s 80) (.c (V.bool false))⟩,
       ⟨(some 82), none, .mv (.s 81)⟩,
       ⟨(some 83), (some (82, false)), .faddr 14 (.s 2)⟩,
       ⟨(some 84), (some (82, false)), .load none (.s 83)⟩,
       ⟨(some 85), (some (82, false)), .mv (.s 84)⟩,
       ⟨(some 86), (some (85, true)), .faddr 17 (.s 2)⟩,
       ⟨(some 87), (some (85, true)), .load none (.s 86)⟩,
       ⟨(some 88), (some (85, true)), .len (.s 87)⟩,
       ⟨(some 89), (some (85, true)), .bin .gtr (.s 88) (.c (V.int .i64 16))⟩,
       ⟨(some 90), (some (85, true)), .mv (.s 89)⟩,
       ⟨(some 91), (some (90, false)), .faddr 17 (.s 2)⟩,
       ⟨(some 92), (some (90, false)), .load none (.s 91)⟩,
       ⟨(some 93), (some (90, false)), .call fn_palanquinref9_within [(.s 92), (.c (V.int .i64 (-1))), (.c (V.int .i64 1)), (.c (V.int .i64 4096))]⟩,
       ⟨(some 94), (some (90, false)), .un .not (.s 93)⟩,
       ⟨(some 95), (some (85, true)), .pick (.s 90) (.c (V.bool true)) (.s 94)⟩,
       ⟨(some 96), (some (82, false)), .pick (.s 85) (.s 95) (.c (V.bool false))⟩,
       ⟨(some 97), none, .pick (.s 82) (.c (V.bool true)) (.s 96)⟩]
     (.cond (.s 97)
     (.ops [⟨(some 4), none, .mv (.c (V.bool false))⟩]
      (.ret))
     (.ops [⟨(some 98), none, .faddr 15 (.s 2)⟩,
        ⟨(some 99), none, .load none (.s 98)⟩,
        ⟨(some 100), none, .un .not (.s 99)⟩,
        ⟨(some 101), none, .mv (.s 100)⟩,
        ⟨(some 102), (some (101, true)), .faddr 18 (.s 2)⟩,
        ⟨(some 103), (some (101, true)), .load none (.s 102)⟩,
        ⟨(some 104), (some (101, true)), .faddr 4 (.s 5)⟩,
        ⟨(some 105), (some (101, true)), .load none (.s 104)⟩,
        ⟨(some 106), (some (101, true)), .call fn_palanquinref9_SameInts [(.s 103), (.s 105)]⟩,
        ⟨(some 107), none, .pick (.s 101) (.s 106) (.c (V.bool false))⟩,
        ⟨(some 108), none, .mv (.s 107)⟩,
        ⟨(some 109), (some (108, false)), .faddr 15 (.s 2)⟩,
        ⟨(some 110), (some (108, false)), .load none (.s 109)⟩,
        ⟨(some 111), (some (108, false)), .mv (.s 110)⟩,
        ⟨(some 112), (some (111, true)), .faddr 18 (.s 2)⟩,
        ⟨(some 113), (some (111, true)), .load none (.s 112)⟩,
        ⟨(some 114), (some (111, true)), .faddr 3 (.s 7)⟩,
        ⟨(some 115), (some (111, true)), .load none (.s 114)⟩,
        ⟨(some 116), (some (111, true)), .call fn_palanquinref9_within [(.s 113), (.s 115), (.c (V.int .i64 0)), (.c (V.int .i64 255))]⟩,
        ⟨(some 117), (some (108, false)), .pick (.s 111) (.s 116) (.c (V.bool false))⟩,
        ⟨(some 118), none, .pick (.s 108) (.c (V.bool true)) (.s 117)⟩,
        ⟨(some 4), none, .mv (.s 118)⟩]
      (.ret))))))))))))⟩

noncomputable def f_palanquinref9_Good (G : Sem') (t0 t1 : V) : M Res :=
  (mbox ty_palanquinref9_Frame t0).bind fun t2 =>
  (mbox ty_palanquinref9_Structure t1).bind fun t3 =>
  (mload (some 19) t2).bind fun t9 =>
  (mload (some 6) t3).bind fun t10 =>
  (G fn_palanquinref9_Of [t9, t10]).bind fun t11 =>
  (M.lift (Ax.ext 0 t11)).bind fun t12 =>
  (M.lift (Ax.ext 1 t11)).bind fun t13 =>
  (mbox ty_palanquinref9_Template (V.agg [(V.int .i64 0), (V.int .i64 0), V.nils, V.nils, V.nils])).bind fun t5 =>
  (mstore 5 t5 t12).bind fun _ =>
  (M.lift (Ax.un .not t13)).bind fun t15 =>
  (guarded [(0, t15)] (some (0, false)) (M.lift (Ax.faddr 4 t2))).bind fun t17 =>
  (guarded [(0, t15)] (some (0, false)) (mload none t17)).bind fun t18 =>
  (guarded [(0, t15)] (some (0, false)) (M.lift (Ax.un .not t18))).bind fun t19 =>
  (guarded [(0, t15)] (some (0, false)) (M.pure t19)).bind fun t20 =>
  (guarded [(0, t20)] (some (0, true)) (M.lift (Ax.faddr 5 t2))).bind fun t21 =>
  (guarded [(0, t20)] (some (0, true)) (mload (some 6) t21)).bind fun t22 =>
  (guarded [(0, t20)] (some (0, true)) (G fn_palanquinref9_zero [t22])).bind fun t23 =>
  (guarded [(0, t20)] (some (0, true)) (M.lift (Ax.un .not t23))).bind fun t24 =>
  (guarded [(0, t15)] (some (0, false)) (M.lift (Ax.pick t20 t24 (V.bool false)))).bind fun t25 =>
  (M.lift (Ax.pick t15 (V.bool true) t25)).bind fun t26 =>
  M.ite t26
    (M.pure (.ret [(V.bool false)]))
    ((mload (some 19) t2).bind fun t27 =>
    (mload (some 6) t3).bind fun t28 =>
    (G fn_palanquinref9_holds [t27, t28]).bind fun t29 =>
    (mbox ty_palanquinref9_Structure (V.agg [(V.int .i64 0), (V.int .i64 0), V.nils, (V.int .i64 0), V.nils, V.nils])).bind fun t7 =>
    (mstore 6 t7 t29).bind fun _ =>
    (M.lift (Ax.faddr 11 t2)).bind fun t30 =>
    (mload none t30).bind fun t31 =>
    (M.lift (Ax.un .not t31)).bind fun t32 =>
    (guarded [(0, t32)] (some (0, true)) (M.lift (Ax.faddr 12 t2))).bind fun t34 =>
    (guarded [(0, t32)] (some (0, true)) (mload none t34)).bind fun t35 =>
    (guarded [(0, t32)] (some (0, true)) (M.lift (Ax.bin .neq t35 (V.int .u32 0)))).bind fun t36 =>
    (M.lift (Ax.pick t32 t36 (V.bool false))).bind fun t37 =>
    (guarded [(0, t37)] (some (0, false)) (M.lift (Ax.faddr 12 t2))).bind fun t39 =>
    (guarded [(0, t37)] (some (0, false)) (mload none t39)).bind fun t40 =>
    (guarded [(0, t37)] (some (0, false)) (M.lift (Ax.cint .u64 t40))).bind fun t41 =>
    (guarded [(0, t37)] (some (0, false)) (M.lift (Ax.faddr 1 t7))).bind fun t42 =>
    (guarded [(0, t37)] (some (0, false)) (mload none t42)).bind fun t43 =>
    (guarded [(0, t37)] (some (0, false)) (M.lift (Ax.cint .u64 t43))).bind fun t44 =>
    (guarded [(0, t37)] (some (0, false)) (M.lift (Ax.bin .shr t41 t44))).bind fun t45 =>
    (guarded [(0, t37)] (some (0, false)) (M.lift (Ax.bin .neq t45 (V.int .u64 0)))).bind fun t46 =>
    (M.lift (Ax.pick t37 (V.bool true) t46)).bind fun t47 =>
    M.ite t47
      (M.pure (.ret [(V.bool false)]))
      ((M.lift (Ax.faddr 13 t2)).bind fun t48 =>
      (mload none t48).bind fun t49 =>
      (M.lift (Ax.un .not t49)).bind fun t50 =>
      (guarded [(0, t50)] (some (0, true)) (M.lift (Ax.faddr 16 t2))).bind fun t52 =>
      (guarded [(0, t50)] (some (0, true)) (mload none t52)).bind fun t53 =>
      (guarded [(0, t50)] (some (0, true)) (M.lift (Ax.faddr 2 t5))).bind fun t54 =>
      (guarded [(0, t50)] (some (0, true)) (mload none t54)).bind fun t55 =>
      (guarded [(0, t50)] (some (0, true)) (G fn_palanquinref9_SameInts [t53, t55])).bind fun t56 =>
      (guarded [(0, t50)] (some (0, true)) (M.lift (Ax.un .not t56))).bind fun t57 =>
      (M.lift (Ax.pick t50 t57 (V.bool false))).bind fun t58 =>
      (guarded [(0, t58)] (some (0, false)) (M.lift (Ax.faddr 13 t2))).bind fun t60 =>
      (guarded [(0, t58)] (some (0, false)) (mload none t60)).bind fun t61 =>
      (guarded [(0, t58)] (some (0, false)) (M.pure t61)).bind fun t62 =>
      (guarded [(0, t62)] (some (0, true)) (M.lift (Ax.faddr 16 t2))).bind fun t63 =>
      (guarded [(0, t62)] (some (0, true)) (mload none t63)).bind fun t64 =>
      (guarded [(0, t62)] (some (0, true)) (M.lift (Ax.faddr 1 t7))).bind fun t65 =>
      (guarded [(0, t62)] (some (0, true)) (mload none t65)).bind fun t66 =>
      (guarded [(0, t62)] (some (0, true)) (G fn_palanquinref9_within [t64, t66, (V.int .i64 0), (V.int .i64 3)])).bind fun t67 =>
      (guarded [(0, t62)] (some (0, true)) (M.lift (Ax.un .not t67))).bind fun t68 =>
      (guarded [(0, t58)] (some (0, false)) (M.lift (Ax.pick t62 t68 (V.bool false)))).bind fun t69 =>
      (M.lift (Ax.pick t58 (V.bool true) t69)).bind fun t70 =>
      M.ite t70
        (M.pure (.ret [(V.bool false)]))
        ((M.lift (Ax.faddr 14 t2)).bind fun t71 =>
        (mload none t71).bind fun t72 =>
        (M.lift (Ax.un .not t72)).bind fun t73 =>
        (guarded [(0, t73)] (some (0, true)) (M.lift (Ax.faddr 17 t2))).bind fun t75 =>
        (guarded [(0, t73)] (some (0, true)) (mload none t75)).bind fun t76 =>
        (guarded [(0, t73)] (some (0, true)) (M.lift (Ax.faddr 3 t5))).bind fun t77 =>
        (guarded [(0, t73)] (some (0, true)) (mload none t77)).bind fun t78 =>
        (guarded [(0, t73)] (some (0, true)) (G fn_palanquinref9_SameInts [t76, t78])).bind fun t79 =>
        (guarded [(0, t73)] (some (0, true)) (M.lift (Ax.un .not t79))).bind fun t80 =>
        (M.lift (Ax.pick t73 t80 (V.bool false))).bind fun t81 =>
        (guarded [(0, t81)] (some (0, false)) (M.lift (Ax.faddr 14 t2))).bind fun t83 =>
        (guarded [(0, t81)] (some (0, false)) (mload none t83)).bind fun t84 =>
        (guarded [(0, t81)] (some (0, false)) (M.pure t84)).bind fun t85 =>
        (guarded [(0, t85)] (some (0, true)) (M.lift (Ax.faddr 17 t2))).bind fun t86 =>
        (guarded [(0, t85)] (some (0, true)) (mload none t86)).bind fun t87 =>
        (guarded [(0, t85)] (some (0, true)) (M.lift (vlen t87))).bind fun t88 =>
        (guarded [(0, t85)] (some (0, true)) (M.lift (Ax.bin .gtr t88 (V.int .i64 16)))).bind fun t89 =>
        (guarded [(0, t85)] (some (0, true)) (M.pure t89)).bind fun t90 =>
        (guarded [(0, t90)] (some (0, false)) (M.lift (Ax.faddr 17 t2))).bind fun t91 =>
        (guarded [(0, t90)] (some (0, false)) (mload none t91)).bind fun t92 =>
        (guarded [(0, t90)] (some (0, false)) (G fn_palanquinref9_within [t92, (V.int .i64 (-1)), (V.int .i64 1), (V.int .i64 4096)])).bind fun t93 =>
        (guarded [(0, t90)] (some (0, false)) (M.lift (Ax.un .not t93))).bind fun t94 =>
        (guarded [(0, t85)] (some (0, true)) (M.lift (Ax.pick t90 (V.bool true) t94))).bind fun t95 =>
        (guarded [(0, t81)] (some (0, false)) (M.lift (Ax.pick t85 t95 (V.bool false)))).bind fun t96 =>
        (M.lift (Ax.pick t81 (V.bool true) t96)).bind fun t97 =>
        M.ite t97
          (M.pure (.ret [(V.bool false)]))
          ((M.lift (Ax.faddr 15 t2)).bind fun t98 =>
          (mload none t98).bind fun t99 =>
          (M.lift (Ax.un .not t99)).bind fun t100 =>
          (guarded [(0, t100)] (some (0, true)) (M.lift (Ax.faddr 18 t2))).bind fun t102 =>
          (guarded [(0, t100)] (some (0, true)) (mload none t102)).bind fun t103 =>
          (guarded [(0, t100)] (some (0, true)) (M.lift (Ax.faddr 4 t5))).bind fun t104 =>
          (guarded [(0, t100)] (some (0, true)) (mload none t104)).bind fun t105 =>
          (guarded [(0, t100)] (some (0, true)) (G fn_palanquinref9_SameInts [t103, t105])).bind fun t106 =>
          (M.lift (Ax.pick t100 t106 (V.bool false))).bind fun t107 =>
          (guarded [(0, t107)] (some (0, false)) (M.lift (Ax.faddr 15 t2))).bind fun t109 =>
          (guarded [(0, t107)] (some (0, false)) (mload none t109)).bind fun t110 =>
          (guarded [(0, t107)] (some (0, false)) (M.pure t110)).bind fun t111 =>
          (guarded [(0, t111)] (some (0, true)) (M.lift (Ax.faddr 18 t2))).bind fun t112 =>
          (guarded [(0, t111)] (some (0, true)) (mload none t112)).bind fun t113 =>
          (guarded [(0, t111)] (some (0, true)) (M.lift (Ax.faddr 3 t7))).bind fun t114 =>
          (guarded [(0, t111)] (some (0, true)) (mload none t114)).bind fun t115 =>
          (guarded [(0, t111)] (some (0, true)) (G fn_palanquinref9_within [t113, t115, (V.int .i64 0), (V.int .i64 255)])).bind fun t116 =>
          (guarded [(0, t107)] (some (0, false)) (M.lift (Ax.pick t111 t116 (V.bool false)))).bind fun t117 =>
          (M.lift (Ax.pick t107 (V.bool true) t117)).bind fun t118 =>
          M.pure (.ret [t118])))))

theorem eq_palanquinref9_Good (G : Sem') (t0 t1 : V) : execK G ir_palanquinref9_Good.rv ir_palanquinref9_Good.body [] [] (params 0 [t0, t1]) = f_palanquinref9_Good G t0 t1 := by kernel_rfl

theorem tb_palanquinref9_Good : T fn_palanquinref9_Good = some ir_palanquinref9_Good := by kernel_rfl

theorem ok_palanquinref9_Good {t0 t1 : V} {H : Heap} {Q : V → Heap → Prop} (h : Ok (f_palanquinref9_Good (sem T) t0 t1) H fun r H' => ∃ L, r = .ret L ∧ Q (tupled L) H') : Ok (sem T fn_palanquinref9_Good [t0, t1]) H Q :=
  ok_sem tb_palanquinref9_Good (Nat.le_of_ble_eq_true rfl) (eq_palanquinref9_Good (sem T) t0 t1) h

/-- palanquin/palanquinref9.zero. -/
def ir_palanquinref9_zero : Fn' := ⟨34, [.tmp 2],
  .ops [⟨(some 1), none, .box ty_palanquinref9_Structure (.s 0)⟩,
    ⟨(some 2), none, .mv (.c (V.bool false))⟩]
  (.ops [⟨(some 3), none, .faddr 0 (.s 1)⟩,
    ⟨(some 4), none, .load none (.s 3)⟩,
    ⟨(some 5), none, .bin .eql (.s 4) (.c (V.int .i64 0))⟩,
    ⟨(some 6), none, .mv (.s 5)⟩,
    ⟨(some 7), (some (6, true)), .faddr 1 (.s 1)⟩,
    ⟨(some 8), (some (6, true)), .load none (.s 7)⟩,
    ⟨(some 9), (some (6, true)), .bin .eql (.s 8) (.c (V.int .i64 0))⟩,
    ⟨(some 10), none, .pick (.s 6) (.s 9) (.c (V.bool false))⟩,
    ⟨(some 11), none, .mv (.s 10)⟩,
    ⟨(some 12), (some (11, true)), .faddr 2 (.s 1)⟩,
    ⟨(some 13), (some (11, true)), .load none (.s 12)⟩,
    ⟨(some 14), (some (11, true)), .len (.s 13)⟩,
    ⟨(some 15), (some (11, true)), .bin .eql (.s 14) (.c (V.int .i64 0))⟩,
    ⟨(some 16), none, .pick (.s 11) (.s 15) (.c (V.bool false))⟩,
    ⟨(some 17), none, .mv (.s 16)⟩,
    ⟨(some 18), (some (17, true)), .faddr 3 (.s 1)⟩,
    ⟨(some 19), (some (17, true)), .load none (.s 18)⟩,
    ⟨(some 20), (some (17, true)), .bin .eql (.s 19) (.c (V.int .i64 0))⟩,
    ⟨(some 21), none, .pick (.s 17) (.s 20) (.c (V.bool false))⟩,
    ⟨(some 22), none, .mv (.s 21)⟩,
    ⟨(some 23), (some (22, true)), .faddr 4 (.s 1)⟩,
    ⟨(some 24), (some (22, true)), .load none (.s 23)⟩,
    ⟨(some 25), (some (22, true)), .len (.s 24)⟩,
    ⟨(some 26), (some (22, true)), .bin .eql (.s 25) (.c (V.int .i64 0))⟩,
    ⟨(some 27), none, .pick (.s 22) (.s 26) (.c (V.bool false))⟩,
    ⟨(some 28), none, .mv (.s 27)⟩,
    ⟨(some 29), (some (28, true)), .faddr 5 (.s 1)⟩,
    ⟨(some 30), (some (28, true)), .load none (.s 29)⟩,
    ⟨(some 31), (some (28, true)), .len (.s 30)⟩,
    ⟨(some 32), (some (28, true)), .bin .eql (.s 31) (.c (V.int .i64 0))⟩,
    ⟨(some 33), none, .pick (.s 28) (.s 32) (.c (V.bool false))⟩,
    ⟨(some 2), none, .mv (.s 33)⟩]
  (.ret))⟩

noncomputable def f_palanquinref9_zero (G : Sem') (t0 : V) : M Res :=
  (mbox ty_palanquinref9_Structure t0).bind fun t1 =>
  (M.lift (Ax.faddr 0 t1)).bind fun t3 =>
  (mload none t3).bind fun t4 =>
  (M.lift (Ax.bin .eql t4 (V.int .i64 0))).bind fun t5 =>
  (guarded [(0, t5)] (some (0, true)) (M.lift (Ax.faddr 1 t1))).bind fun t7 =>
  (guarded [(0, t5)] (some (0, true)) (mload none t7)).bind fun t8 =>
  (guarded [(0, t5)] (some (0, true)) (M.lift (Ax.bin .eql t8 (V.int .i64 0)))).bind fun t9 =>
  (M.lift (Ax.pick t5 t9 (V.bool false))).bind fun t10 =>
  (guarded [(0, t10)] (some (0, true)) (M.lift (Ax.faddr 2 t1))).bind fun t12 =>
  (guarded [(0, t10)] (some (0, true)) (mload none t12)).bind fun t13 =>
  (guarded [(0, t10)] (some (0, true)) (M.lift (vlen t13))).bind fun t14 =>
  (guarded [(0, t10)] (some (0, true)) (M.lift (Ax.bin .eql t14 (V.int .i64 0)))).bind fun t15 =>
  (M.lift (Ax.pick t10 t15 (V.bool false))).bind fun t16 =>
  (guarded [(0, t16)] (some (0, true)) (M.lift (Ax.faddr 3 t1))).bind fun t18 =>
  (guarded [(0, t16)] (some (0, true)) (mload none t18)).bind fun t19 =>
  (guarded [(0, t16)] (some (0, true)) (M.lift (Ax.bin .eql t19 (V.int .i64 0)))).bind fun t20 =>
  (M.lift (Ax.pick t16 t20 (V.bool false))).bind fun t21 =>
  (guarded [(0, t21)] (some (0, true)) (M.lift (Ax.faddr 4 t1))).bind fun t23 =>
  (guarded [(0, t21)] (some (0, true)) (mload none t23)).bind fun t24 =>
  (guarded [(0, t21)] (some (0, true)) (M.lift (vlen t24))).bind fun t25 =>
  (guarded [(0, t21)] (some (0, true)) (M.lift (Ax.bin .eql t25 (V.int .i64 0)))).bind fun t26 =>
  (M.lift (Ax.pick t21 t26 (V.bool false))).bind fun t27 =>
  (guarded [(0, t27)] (some (0, true)) (M.lift (Ax.faddr 5 t1))).bind fun t29 =>
  (guarded [(0, t27)] (some (0, true)) (mload none t29)).bind fun t30 =>
  (guarded [(0, t27)] (some (0, true)) (M.lift (vlen t30))).bind fun t31 =>
  (guarded [(0, t27)] (some (0, true)) (M.lift (Ax.bin .eql t31 (V.int .i64 0)))).bind fun t32 =>
  (M.lift (Ax.pick t27 t32 (V.bool false))).bind fun t33 =>
  M.pure (.ret [t33])

theorem eq_palanquinref9_zero (G : Sem') (t0 : V) : execK G ir_palanquinref9_zero.rv ir_palanquinref9_zero.body [] [] (params 0 [t0]) = f_palanquinref9_zero G t0 := by kernel_rfl

theorem tb_palanquinref9_zero : T fn_palanquinref9_zero = some ir_palanquinref9_zero := by kernel_rfl

theorem ok_palanquinref9_zero {t0 : V} {H : Heap} {Q : V → Heap → Prop} (h : Ok (f_palanquinref9_zero (sem T) t0) H fun r H' => ∃ L, r = .ret L ∧ Q (tupled L) H') : Ok (sem T fn_palanquinref9_zero [t0]) H Q :=
  ok_sem tb_palanquinref9_zero (Nat.le_of_ble_eq_true rfl) (eq_palanquinref9_zero (sem T) t0) h

/-- palanquin/palanquinref9.SameInts. -/
def loop_palanquinref9_SameInts_0 : C :=
  .ops [⟨(some 11), none, .mv (.s 5)⟩,
    ⟨(some 12), none, .mv (.s 0)⟩,
    ⟨(some 13), none, .len (.s 12)⟩,
    ⟨(some 14), none, .bin .lss (.s 11) (.s 13)⟩]
  (.cond (.s 14)
  (.blk 1
   (.draw [⟨(some 17), none, .mv (.s 0)⟩,
      ⟨(some 18), none, .mv (.s 5)⟩,
      ⟨(some 19), none, .iaddr none 1 (.s 17) (.s 18)⟩,
      ⟨(some 20), none, .load none (.s 19)⟩,
      ⟨(some 21), none, .mv (.s 1)⟩,
      ⟨(some 22), none, .mv (.s 5)⟩,
      ⟨(some 23), none, .iaddr none 1 (.s 21) (.s 22)⟩,
      ⟨(some 24), none, .load none (.s 23)⟩,
      ⟨(some 25), none, .bin .neq (.s 20) (.s 24)⟩] []
    (.cond (.s 25)
    (.ops [⟨(some 4), none, .mv (.c (V.bool false))⟩]
     (.ret))
    (.done))) [] [17, 18, 19, 20, 21, 22, 23, 24, 25, 4]
   (.ops [⟨(some 15), none, .mv (.s 5)⟩,
     ⟨(some 16), none, .bin .add (.s 15) (.c (V.int .i64 1))⟩,
     ⟨(some 5), none, .mv (.s 16)⟩]
   (.done)))
  (.exit 0))

def ir_palanquinref9_SameInts : Fn' := ⟨26, [.tmp 4],
  .ops [⟨(some 4), none, .mv (.c (V.bool false))⟩]
  (.ops [⟨(some 6), none, .mv (.s 0)⟩,
    ⟨(some 7), none, .len (.s 6)⟩,
    ⟨(some 8), none, .mv (.s 1)⟩,
    ⟨(some 9), none, .len (.s 8)⟩,
    ⟨(some 10), none, .bin .neq (.s 7) (.s 9)⟩]
  (.cond (.s 10)
  (.ops [⟨(some 4), none, .mv (.c (V.bool false))⟩]
   (.ret))
  (.ops [⟨(some 5), none, .mv (.c (V.int .i64 0))⟩]
   (.blk 0
   (.loop loop_palanquinref9_SameInts_0 [5] [11, 12, 13, 14, 17, 18, 19, 20, 21, 22, 23, 24, 25, 4, 15, 16, 5]) [] [11, 12, 13, 14, 17, 18, 19, 20, 21, 22, 23, 24, 25, 4, 15, 16, 5]
   (.ops [⟨(some 4), none, .mv (.c (V.bool true))⟩]
   (.ret))))))⟩

noncomputable def f_palanquinref9_SameInts_0 (G : Sem') (t0 t1 : V) (L : List V) : M Res :=
  (M.lift (vlen t0)).bind fun t13 =>
  (M.lift (Ax.bin .lss (L.getD 0 .undef) t13)).bind fun t14 =>
  M.ite t14
    (M.blk 1 (
      (M.lift (Ax.iaddr none 1 t0 (L.getD 0 .undef))).bind fun t19 =>
      (mload none t19).bind fun t20 =>
      (M.lift (Ax.iaddr none 1 t1 (L.getD 0 .undef))).bind fun t23 =>
      (mload none t23).bind fun t24 =>
      (M.lift (Ax.bin .neq t20 t24)).bind fun t25 =>
      M.ite t25
        (M.pure (.ret [(V.bool false)]))
        (M.pure (.nrm []))) fun _ =>
    (M.lift (Ax.bin .add (L.getD 0 .undef) (V.int .i64 1))).bind fun t16 =>
    M.pure (.nrm [t16]))
    (M.pure (.ex 0 []))

noncomputable def f_palanquinref9_SameInts (G : Sem') (t0 t1 : V) : M Res :=
  (M.lift (vlen t0)).bind fun t7 =>
  (M.lift (vlen t1)).bind fun t9 =>
  (M.lift (Ax.bin .neq t7 t9)).bind fun t10 =>
  M.ite t10
    (M.pure (.ret [(V.bool false)]))
    (M.blk 0 (
      M.iter (f_palanquinref9_SameInts_0 G t0 t1) [(V.int .i64 0)]) fun _ =>
    M.pure (.ret [(V.bool true)]))

theorem eq_palanquinref9_SameInts (G : Sem') (t0 t1 : V) : execK G ir_palanquinref9_SameInts.rv ir_palanquinref9_SameInts.body [] [] (params 0 [t0, t1]) = f_palanquinref9_SameInts G t0 t1 := by kernel_rfl

theorem tb_palanquinref9_SameInts : T fn_palanquinref9_SameInts = some ir_palanquinref9_SameInts := by kernel_rfl

theorem ok_palanquinref9_SameInts {t0 t1 : V} {H : Heap} {Q : V → Heap → Prop} (h : Ok (f_palanquinref9_SameInts (sem T) t0 t1) H fun r H' => ∃ L, r = .ret L ∧ Q (tupled L) H') : Ok (sem T fn_palanquinref9_SameInts [t0, t1]) H Q :=
  ok_sem tb_palanquinref9_SameInts (Nat.le_of_ble_eq_true rfl) (eq_palanquinref9_SameInts (sem T) t0 t1) h

/-- palanquin/palanquinref9.one. -/
def ir_palanquinref9_one : Fn' := ⟨4, [.tmp 2],
  .ops [⟨(some 2), none, .mv (.c (V.int .u64 0))⟩]
  (.ops [⟨(some 3), none, .mv (.s 0)⟩]
  (.cond (.s 3)
  (.ops [⟨(some 2), none, .mv (.c (V.int .u64 1))⟩]
   (.ret))
  (.ops [⟨(some 2), none, .mv (.c (V.int .u64 0))⟩]
   (.ret))))⟩

noncomputable def f_palanquinref9_one (G : Sem') (t0 : V) : M Res :=
  M.ite t0
    (M.pure (.ret [(V.int .u64 1)]))
    (M.pure (.ret [(V.int .u64 0)]))

theorem eq_palanquinref9_one (G : Sem') (t0 : V) : execK G ir_palanquinref9_one.rv ir_palanquinref9_one.body [] [] (params 0 [t0]) = f_palanquinref9_one G t0 := by kernel_rfl

theorem tb_palanquinref9_one : T fn_palanquinref9_one = some ir_palanquinref9_one := by kernel_rfl

theorem ok_palanquinref9_one {t0 : V} {H : Heap} {Q : V → Heap → Prop} (h : Ok (f_palanquinref9_one (sem T) t0) H fun r H' => ∃ L, r = .ret L ∧ Q (tupled L) H') : Ok (sem T fn_palanquinref9_one [t0]) H Q :=
  ok_sem tb_palanquinref9_one (Nat.le_of_ble_eq_true rfl) (eq_palanquinref9_one (sem T) t0) h

/-- (*palanquin/palanquinref6.Writer).Add. -/
def loop_palanquinref6_Writer_Add_0 : C :=
  .ops [⟨(some 27), none, .mv (.s 7)⟩,
    ⟨(some 28), none, .bin .geq (.s 27) (.c (V.int .i64 0))⟩]
  (.cond (.s 28)
  (.blk 1
   (.ops [⟨(some 31), none, .mv (.s 0)⟩,
      ⟨(some 32), none, .mv (.s 0)⟩,
      ⟨(some 33), none, .nilck (.s 32)⟩,
      ⟨(some 34), none, .faddr 0 (.s 33)⟩,
      ⟨(some 35), none, .load none (.s 34)⟩,
      ⟨(some 36), none, .mv (.s 1)⟩,
      ⟨(some 37), none, .mv (.s 7)⟩,
      ⟨(some 38), none, .cint .u64 (.s 37)⟩,
      ⟨(some 39), none, .bin .shr (.s 36) (.s 38)⟩,
      ⟨(some 40), none, .bin .and (.s 39) (.c (V.int .u64 1))⟩,
      ⟨(some 41), none, .bin .eql (.s 40) (.c (V.int .u64 1))⟩,
      ⟨(some 42), none, .slit ty_bool 1 [(V.bool false)] [(0, 1, (.s 41))]⟩,
      ⟨(some 43), none, .append ty_bool 1 1 (.s 35) (.s 42)⟩,
      ⟨(some 44), none, .nilck (.s 31)⟩,
      ⟨(some 45), none, .faddr 0 (.s 44)⟩,
      ⟨none, none, .store 1 (.s 45) (.s 43)⟩]
    (.done)) [] [31, 32, 33, 34, 35, 36, 37, 38, 39, 40, 41, 42, 43, 44, 45]
   (.ops [⟨(some 29), none, .mv (.s 7)⟩,
     ⟨(some 30), none, .bin .sub (.s 29) (.c (V.int .i64 1))⟩,
     ⟨(some 7), none, .mv (.s 30)⟩]
   (.done)))
  (.exit 0))

def ir_palanquinref6_Writer_Add : Fn' := ⟨46, [.tmp 6],
  .ops [⟨(some 6), none, .mv (.c (V.int .i64 0))⟩]
  (.ops [⟨(some 8), none, .mv (.s 2)⟩,
    ⟨(some 9), none, .bin .lss (.s 8) (.c (V.int .i64 0))⟩,
    ⟨(some 10), none, .mv (.s 9)⟩,
    ⟨(some 11), (some (10, false)), .mv (.s 2)⟩,
    ⟨(some 12), (some (10, false)), .bin .gtr (.s 11) (.c (V.int .i64 64))⟩,
    ⟨(some 13), none, .pick (.s 10) (.c (V.bool true)) (.s 12)⟩,
    ⟨(some 14), none, .mv (.s 13)⟩,
    ⟨(some 15), (some (14, false)), .mv (.s 2)⟩,
    ⟨(some 16), (some (14, false)), .bin .lss (.s 15) (.c (V.int .i64 64))⟩,
    ⟨(some 17), (some (14, false)), .mv (.s 16)⟩,
    ⟨(some 18), (some (17, true)), .mv (.s 1)⟩,
    ⟨(some 19), (some (17, true)), .mv (.s 2)⟩,
    ⟨(some 20), (some (17, true)), .cint .u64 (.s 19)⟩,
    ⟨(some 21), (some (17, true)), .bin .shr (.s 18) (.s 20)⟩,
    ⟨(some 22), (some (17, true)), .bin .neq (.s 21) (.c (V.int .u64 0))⟩,
    ⟨(some 23), (some (14, false)), .pick (.s 17) (.s 22) (.c (V.bool false))⟩,
    ⟨(some 24), none, .pick (.s 14) (.c (V.bool true)) (.s 23)⟩]
  (.cond (.s 24)
  (.ops [⟨(some 6), none, .mv (.c (V.int .i64 1))⟩]
   (.ret))
  (.ops [⟨(some 25), none, .mv (.s 2)⟩,
     ⟨(some 26), none, .bin .sub (.s 25) (.c (V.int .i64 1))⟩,
     ⟨(some 7), none, .mv (.s 26)⟩]
   (.blk 0
   (.loop loop_palanquinref6_Writer_Add_0 [7] [27, 28, 31, 32, 33, 34, 35, 36, 37, 38, 39, 40, 41, 42, 43, 44, 45, 29, 30, 7]) [] [27, 28, 31, 32, 33, 34, 35, 36, 37, 38, 39, 40, 41, 42, 43, 44, 45, 29, 30, 7]
   (.ops [⟨(some 6), none, .mv (.c (V.int .i64 0))⟩]
   (.ret))))))⟩

noncomputable def f_palanquinref6_Writer_Add_0 (G : Sem') (t0 t1 t6 : V) (L : List V) : M Res :=
  (M.lift (Ax.bin .geq (L.getD 0 .undef) (V.int .i64 0))).bind fun t28 =>
  M.ite t28
    (M.blk 1 (
      (M.lift (Ax.nilck t0)).bind fun t33 =>
      (M.lift (Ax.faddr 0 t33)).bind fun t34 =>
      (mload none t34).bind fun t35 =>
      (M.lift (Ax.cint .u64 (L.getD 0 .undef))).bind fun t38 =>
      (M.lift (Ax.bin .shr t1 t38)).bind fun t39 =>
      (M.lift (Ax.bin .and t39 (V.int .u64 1))).bind fun t40 =>
      (M.lift (Ax.bin .eql t40 (V.int .u64 1))).bind fun t41 =>
      (mslit ty_bool 1 [(V.bool false)] [(0, 1, t41)]).bind fun t42 =>
      (mappend ty_bool 1 1 t35 t42).bind fun t43 =>
      (M.lift (Ax.nilck t0)).bind fun t44 =>
      (M.lift (Ax.faddr 0 t44)).bind fun t45 =>
      (mstore 1 t45 t43).bind fun _ =>
      M.pure (.nrm [])) fun _ =>
    (M.lift (Ax.bin .sub (L.getD 0 .undef) (V.int .i64 1))).bind fun t30 =>
    M.pure (.nrm [t30]))
    (M.pure (.ex 0 []))

noncomputable def f_palanquinref6_Writer_Add (G : Sem') (t0 t1 t2 : V) : M Res :=
  (M.lift (Ax.bin .lss t2 (V.int .i64 0))).bind fun t9 =>
  (guarded [(0, t9)] (some (0, false)) (M.pure t2)).bind fun t11 =>
  (guarded [(0, t9)] (some (0, false)) (M.lift (Ax.bin .gtr t11 (V.int .i64 64)))).bind fun t12 =>
  (M.lift (Ax.pick t9 (V.bool true) t12)).bind fun t13 =>
  (guarded [(0, t13)] (some (0, false)) (M.pure t2)).bind fun t15 =>
  (guarded [(0, t13)] (some (0, false)) (M.lift (Ax.bin .lss t15 (V.int .i64 64)))).bind fun t16 =>
  (guarded [(0, t13)] (some (0, false)) (M.pure t16)).bind fun t17 =>
  (guarded [(0, t17)] (some (0, true)) (M.pure t1)).bind fun t18 =>
  (guarded [(0, t17)] (some (0, true)) (M.pure t2)).bind fun t19 =>
  (guarded [(0, t17)] (some (0, true)) (M.lift (Ax.cint .u64 t19))).bind fun t20 =>
  (guarded [(0, t17)] (some (0, true)) (M.lift (Ax.bin .shr t18 t20))).bind fun t21 =>
  (guarded [(0, t17)] (some (0, true)) (M.lift (Ax.bin .neq t21 (V.int .u64 0)))).bind fun t22 =>
  (guarded [(0, t13)] (some (0, false)) (M.lift (Ax.pick t17 t22 (V.bool false)))).bind fun t23 =>
  (M.lift (Ax.pick t13 (V.bool true) t23)).bind fun t24 =>
  M.ite t24
    (M.pure (.ret [(V.int .i64 1)]))
    ((M.lift (Ax.bin .sub t2 (V.int .i64 1))).bind fun t26 =>
    M.blk 0 (
      M.iter (f_palanquinref6_Writer_Add_0 G t0 t1 (V.int .i64 0)) [t26]) fun _ =>
    M.pure (.ret [(V.int .i64 0)]))

theorem eq_palanquinref6_Writer_Add (G : Sem') (t0 t1 t2 : V) : execK G ir_palanquinref6_Writer_Add.rv ir_palanquinref6_Writer_Add.body [] [] (params 0 [t0, t1, t2]) = f_palanquinref6_Writer_Add G t0 t1 t2 := by kernel_rfl

theorem tb_palanquinref6_Writer_Add : T fn_palanquinref6_Writer_Add = some ir_palanquinref6_Writer_Add := by kernel_rfl

theorem ok_palanquinref6_Writer_Add {t0 t1 t2 : V} {H : Heap} {Q : V → Heap → Prop} (h : Ok (f_palanquinref6_Writer_Add (sem T) t0 t1 t2) H fun r H' => ∃ L, r = .ret L ∧ Q (tupled L) H') : Ok (sem T fn_palanquinref6_Writer_Add [t0, t1, t2]) H Q :=
  ok_sem tb_palanquinref6_Writer_Add (Nat.le_of_ble_eq_true rfl) (eq_palanquinref6_Writer_Add (sem T) t0 t1 t2) h

/-- (*palanquin/palanquinref6.Writer).Bytes. -/
def loop_palanquinref6_Writer_Bytes_0 : C :=
  .ops [⟨(some 13), none, .mv (.s 4)⟩,
    ⟨(some 14), none, .mv (.s 0)⟩,
    ⟨(some 15), none, .nilck (.s 14)⟩,
    ⟨(some 16), none, .faddr 0 (.s 15)⟩,
    ⟨(some 17), none, .load none (.s 16)⟩,
    ⟨(some 18), none, .len (.s 17)⟩,
    ⟨(some 19), none, .bin .lss (.s 13) (.s 18)⟩]
  (.cond (.s 19)
  (.blk 1
   (.ops [⟨(some 22), none, .mv (.s 0)⟩,
      ⟨(some 23), none, .nilck (.s 22)⟩,
      ⟨(some 24), none, .faddr 0 (.s 23)⟩,
      ⟨(some 25), none, .load none (.s 24)⟩,
      ⟨(some 26), none, .mv (.s 4)⟩,
      ⟨(some 27), none, .iaddr none 1 (.s 25) (.s 26)⟩,
      ⟨(some 28), none, .load none (.s 27)⟩]
    (.condJ (.s 28)
    (.ops [⟨(some 29), none, .mv (.s 3)⟩,
       ⟨(some 30), none, .mv (.s 4)⟩,
       ⟨(some 31), none, .bin .quo (.s 30) (.c (V.int .i64 8))⟩,
       ⟨(some 32), none, .mv (.s 3)⟩,
       ⟨(some 33), none, .mv (.s 4)⟩,
       ⟨(some 34), none, .bin .quo (.s 33) (.c (V.int .i64 8))⟩,
       ⟨(some 35), none, .iaddr none 1 (.s 32) (.s 34)⟩,
       ⟨(some 36), none, .load none (.s 35)⟩,
       ⟨(some 37), none, .mv (.s 4)⟩,
       ⟨(some 38), none, .bin .rem (.s 37) (.c (V.int .i64 8))⟩,
       ⟨(some 39), none, .cint .u64 (.s 38)⟩,
       ⟨(some 40), none, .bin .shr (.c (V.int .u8 128)) (.s 39)⟩,
       ⟨(some 41), none, .bin .or (.s 36) (.s 40)⟩,
       ⟨(some 42), none, .iaddr none 1 (.s 29) (.s 31)⟩,
       ⟨none, none, .store 1 (.s 42) (.s 41)⟩]
     (.done))
    (.done) [] [29, 30, 31, 32, 33, 34, 35, 36, 37, 38, 39, 40, 41, 42]
    (.done))) [] [22, 23, 24, 25, 26, 27, 28, 29, 30, 31, 32, 33, 34, 35, 36, 37, 38, 39, 40, 41, 42]
   (.ops [⟨(some 20), none, .mv (.s 4)⟩,
     ⟨(some 21), none, .bin .add (.s 20) (.c (V.int .i64 1))⟩,
     ⟨(some 4), none, .mv (.s 21)⟩]
   (.done)))
  (.exit 0))

def ir_palanquinref6_Writer_Bytes : Fn' := ⟨44, [.tmp 2],
  .ops [⟨(some 2), none, .mv (.c V.nils)⟩]
  (.ops [⟨(some 5), none, .mv (.s 0)⟩,
    ⟨(some 6), none, .nilck (.s 5)⟩,
    ⟨(some 7), none, .faddr 0 (.s 6)⟩,
    ⟨(some 8), none, .load none (.s 7)⟩,
    ⟨(some 9), none, .len (.s 8)⟩,
    ⟨(some 10), none, .bin .add (.s 9) (.c (V.int .i64 7))⟩,
    ⟨(some 11), none, .bin .quo (.s 10) (.c (V.int .i64 8))⟩,
    ⟨(some 12), none, .mkslice ty_uint8 1 [(V.int .u8 0)] (.s 11) (.s 11)⟩,
    ⟨(some 3), none, .mv (.s 12)⟩]
  (.ops [⟨(some 4), none, .mv (.c (V.int .i64 0))⟩]
  (.blk 0
  (.loop loop_palanquinref6_Writer_Bytes_0 [4] [13, 14, 15, 16, 17, 18, 19, 22, 23, 24, 25, 26, 27, 28, 29, 30, 31, 32, 33, 34, 35, 36, 37, 38, 39, 40, 41, 42, 20, 21, 4]) [] [13, 14, 15, 16, 17, 18, 19, 22, 23, 24, 25, 26, 27, 28, 29, 30, 31, 32, 33, 34, 35, 36, 37, 38, 39, 40, 41, 42, 20, 21, 4]
  (.ops [⟨(some 43), none, .mv (.s 3)⟩,
    ⟨(some 2), none, .mv (.s 43)⟩]
  (.ret)))))⟩

noncomputable def f_palanquinref6_Writer_Bytes_0 (G : Sem') (t0 t3 t2 : V) (L : List V) : M Res :=
  (M.lift (Ax.nilck t0)).bind fun t15 =>
  (M.lift (Ax.faddr 0 t15)).bind fun t16 =>
  (mload none t16).bind fun t17 =>
  (M.lift (vlen t17)).bind fun t18 =>
  (M.lift (Ax.bin .lss (L.getD 0 .undef) t18)).bind fun t19 =>
  M.ite t19
    (M.blk 1 (
      (M.lift (Ax.nilck t0)).bind fun t23 =>
      (M.lift (Ax.faddr 0 t23)).bind fun t24 =>
      (mload none t24).bind fun t25 =>
      (M.lift (Ax.iaddr none 1 t25 (L.getD 0 .undef))).bind fun t27 =>
      (mload none t27).bind fun t28 =>
      M.join (M.ite t28
        ((M.lift (Ax.bin .quo (L.getD 0 .undef) (V.int .i64 8))).bind fun t31 =>
        (M.lift (Ax.bin .quo (L.getD 0 .undef) (V.int .i64 8))).bind fun t34 =>
        (M.lift (Ax.iaddr none 1 t3 t34)).bind fun t35 =>
        (mload none t35).bind fun t36 =>
        (M.lift (Ax.bin .rem (L.getD 0 .undef) (V.int .i64 8))).bind fun t38 =>
        (M.lift (Ax.cint .u64 t38)).bind fun t39 =>
        (M.lift (Ax.bin .shr (V.int .u8 128) t39)).bind fun t40 =>
        (M.lift (Ax.bin .or t36 t40)).bind fun t41 =>
        (M.lift (Ax.iaddr none 1 t3 t31)).bind fun t42 =>
        (mstore 1 t42 t41).bind fun _ =>
        M.pure (.nrm []))
        (M.pure (.nrm []))) fun _ =>
      M.pure (.nrm [])) fun _ =>
    (M.lift (Ax.bin .add (L.getD 0 .undef) (V.int .i64 1))).bind fun t21 =>
    M.pure (.nrm [t21]))
    (M.pure (.ex 0 []))

noncomputable def f_palanquinref6_Writer_Bytes (G : Sem') (t0 : V) : M Res :=
  (M.lift (Ax.nilck t0)).bind fun t6 =>
  (M.lift (Ax.faddr 0 t6)).bind fun t7 =>
  (mload none t7).bind fun t8 =>
  (M.lift (vlen t8)).bind fun t9 =>
  (M.lift (Ax.bin .add t9 (V.int .i64 7))).bind fun t10 =>
  (M.lift (Ax.bin .quo t10 (V.int .i64 8))).bind fun t11 =>
  (mmkslice ty_uint8 1 [(V.int .u8 0)] t11 t11).bind fun t12 =>
  M.blk 0 (
    M.iter (f_palanquinref6_Writer_Bytes_0 G t0 t12 V.nils) [(V.int .i64 0)]) fun _ =>
  M.pure (.ret [t12])

theorem eq_palanquinref6_Writer_Bytes (G : Sem') (t0 : V) : execK G ir_palanquinref6_Writer_Bytes.rv ir_palanquinref6_Writer_Bytes.body [] [] (params 0 [t0]) = f_palanquinref6_Writer_Bytes G t0 := by kernel_rfl

theorem tb_palanquinref6_Writer_Bytes : T fn_palanquinref6_Writer_Bytes = some ir_palanquinref6_Writer_Bytes := by kernel_rfl

theorem ok_palanquinref6_Writer_Bytes {t0 : V} {H : Heap} {Q : V → Heap → Prop} (h : Ok (f_palanquinref6_Writer_Bytes (sem T) t0) H fun r H' => ∃ L, r = .ret L ∧ Q (tupled L) H') : Ok (sem T fn_palanquinref6_Writer_Bytes [t0]) H Q :=
  ok_sem tb_palanquinref6_Writer_Bytes (Nat.le_of_ble_eq_true rfl) (eq_palanquinref6_Writer_Bytes (sem T) t0) h

/-- palanquin/palanquinref9.writes. -/
def loop_palanquinref9_writes_0 : C :=
  .ops [⟨(some 29), none, .mv (.s 5)⟩,
    ⟨(some 30), none, .mv (.s 4)⟩,
    ⟨(some 31), none, .bin .lss (.s 29) (.s 30)⟩]
  (.cond (.s 31)
  (.blk 1
   (.ops [⟨(some 6), none, .mv (.c (V.int .i64 3))⟩]
    (.ops [⟨(some 34), none, .mv (.s 5)⟩,
      ⟨(some 35), none, .bin .add (.s 34) (.c (V.int .i64 1))⟩,
      ⟨(some 36), none, .mv (.s 4)⟩,
      ⟨(some 37), none, .bin .lss (.s 35) (.s 36)⟩]
    (.condJ (.s 37)
    (.draw [⟨(some 38), none, .faddr 2 (.s 3)⟩,
       ⟨(some 39), none, .load none (.s 38)⟩,
       ⟨(some 40), none, .mv (.s 5)⟩,
       ⟨(some 41), none, .iaddr none 5 (.s 39) (.s 40)⟩,
       ⟨(some 42), none, .load (some 5) (.s 41)⟩,
       ⟨(some 43), none, .faddr 2 (.s 3)⟩,
       ⟨(some 44), none, .load none (.s 43)⟩,
       ⟨(some 45), none, .mv (.s 5)⟩,
       ⟨(some 46), none, .bin .add (.s 45) (.c (V.int .i64 1))⟩,
       ⟨(some 47), none, .iaddr none 5 (.s 44) (.s 46)⟩,
       ⟨(some 48), none, .load (some 5) (.s 47)⟩,
       ⟨(some 49), none, .call fn_palanquinref9_step [(.s 42), (.s 48)]⟩,
       ⟨(some 6), none, .mv (.s 49)⟩] []
     (.done))
    (.done) [6] [38, 39, 40, 41, 42, 43, 44, 45, 46, 47, 48, 49, 6]
    (.ops [⟨(some 50), none, .mv (.s 0)⟩,
      ⟨(some 51), none, .mv (.s 6)⟩,
      ⟨(some 52), none, .cint .u64 (.s 51)⟩,
      ⟨(some 53), none, .call fn_palanquinref6_Writer_Add [(.s 50), (.s 52), (.c (V.int .i64 2))]⟩]
    (.done))))) [] [6, 34, 35, 36, 37, 38, 39, 40, 41, 42, 43, 44, 45, 46, 47, 48, 49, 6, 50, 51, 52, 53]
   (.ops [⟨(some 32), none, .mv (.s 5)⟩,
     ⟨(some 33), none, .bin .add (.s 32) (.c (V.int .i64 1))⟩,
     ⟨(some 5), none, .mv (.s 33)⟩]
   (.done)))
  (.exit 0))

def loop_palanquinref9_writes_1 : C :=
  .ops [⟨(some 59), none, .mv (.s 8)⟩,
    ⟨(some 60), none, .faddr 1 (.s 3)⟩,
    ⟨(some 61), none, .load none (.s 60)⟩,
    ⟨(some 62), none, .bin .lss (.s 59) (.s 61)⟩]
  (.cond (.s 62)
  (.blk 5
   (.ops [⟨(some 65), none, .mv (.s 0)⟩,
      ⟨(some 66), none, .faddr 2 (.s 3)⟩,
      ⟨(some 67), none, .load none (.s 66)⟩,
      ⟨(some 68), none, .mv (.s 7)⟩,
      ⟨(some 69), none, .iaddr none 5 (.s 67) (.s 68)⟩,
      ⟨(some 70), none, .faddr 2 (.s 69)⟩,
      ⟨(some 71), none, .load none (.s 70)⟩,
      ⟨(some 72), none, .mv (.s 8)⟩,
      ⟨(some 73), none, .iaddr none 1 (.s 71) (.s 72)⟩,
      ⟨(some 74), none, .load none (.s 73)⟩,
      ⟨(some 75), none, .cint .u64 (.s 74)⟩,
      ⟨(some 76), none, .call fn_palanquinref6_Writer_Add [(.s 65), (.s 75), (.c (V.int .i64 2))]⟩]
    (.done)) [] [65, 66, 67, 68, 69, 70, 71, 72, 73, 74, 75, 76]
   (.ops [⟨(some 63), none, .mv (.s 8)⟩,
     ⟨(some 64), none, .bin .add (.s 63) (.c (V.int .i64 1))⟩,
     ⟨(some 8), none, .mv (.s 64)⟩]
   (.done)))
  (.exit 4))

def loop_palanquinref9_writes_2 : C :=
  .ops [⟨(some 54), none, .mv (.s 7)⟩,
    ⟨(some 55), none, .mv (.s 4)⟩,
    ⟨(some 56), none, .bin .lss (.s 54) (.s 55)⟩]
  (.cond (.s 56)
  (.blk 3
   (.ops [⟨(some 8), none, .mv (.c (V.int .i64 0))⟩]
    (.blk 4
    (.loop loop_palanquinref9_writes_1 [8] [59, 60, 61, 62, 65, 66, 67, 68, 69, 70, 71, 72, 73, 74, 75, 76, 63, 64, 8]) [] [59, 60, 61, 62, 65, 66, 67, 68, 69, 70, 71, 72, 73, 74, 75, 76, 63, 64, 8]
    (.done))) [] [8, 59, 60, 61, 62, 65, 66, 67, 68, 69, 70, 71, 72, 73, 74, 75, 76, 63, 64, 8]
   (.ops [⟨(some 57), none, .mv (.s 7)⟩,
     ⟨(some 58), none, .bin .add (.s 57) (.c (V.int .i64 1))⟩,
     ⟨(some 7), none, .mv (.s 58)⟩]
   (.done)))
  (.exit 2))

def loop_palanquinref9_writes_3 : C :=
  .ops [⟨(some 82), none, .mv (.s 10)⟩,
    ⟨(some 83), none, .faddr 2 (.s 3)⟩,
    ⟨(some 84), none, .load none (.s 83)⟩,
    ⟨(some 85), none, .mv (.s 9)⟩,
    ⟨(some 86), none, .iaddr none 5 (.s 84) (.s 85)⟩,
    ⟨(some 87), none, .faddr 3 (.s 86)⟩,
    ⟨(some 88), none, .load none (.s 87)⟩,
    ⟨(some 89), none, .len (.s 88)⟩,
    ⟨(some 90), none, .bin .lss (.s 82) (.s 89)⟩]
  (.cond (.s 90)
  (.blk 9
   (.ops [⟨(some 93), none, .mv (.s 0)⟩,
      ⟨(some 94), none, .call fn_palanquinref6_Writer_Add [(.s 93), (.c (V.int .u64 1)), (.c (V.int .i64 1))]⟩]
    (.ops [⟨(some 95), none, .mv (.s 0)⟩,
      ⟨(some 96), none, .faddr 2 (.s 3)⟩,
      ⟨(some 97), none, .load none (.s 96)⟩,
      ⟨(some 98), none, .mv (.s 9)⟩,
      ⟨(some 99), none, .iaddr none 5 (.s 97) (.s 98)⟩,
      ⟨(some 100), none, .faddr 3 (.s 99)⟩,
      ⟨(some 101), none, .load none (.s 100)⟩,
      ⟨(some 102), none, .mv (.s 10)⟩,
      ⟨(some 103), none, .iaddr none 1 (.s 101) (.s 102)⟩,
      ⟨(some 104), none, .load none (.s 103)⟩,
      ⟨(some 105), none, .bin .sub (.s 104) (.c (V.int .i64 1))⟩,
      ⟨(some 106), none, .cint .u64 (.s 105)⟩,
      ⟨(some 107), none, .call fn_palanquinref6_Writer_Add [(.s 95), (.s 106), (.c (V.int .i64 4))]⟩]
    (.done))) [] [93, 94, 95, 96, 97, 98, 99, 100, 101, 102, 103, 104, 105, 106, 107]
   (.ops [⟨(some 91), none, .mv (.s 10)⟩,
     ⟨(some 92), none, .bin .add (.s 91) (.c (V.int .i64 1))⟩,
     ⟨(some 10), none, .mv (.s 92)⟩]
   (.done)))
  (.exit 8))

def loop_palanquinref9_writes_4 : C :=
  .ops [⟨(some 77), none, .mv (.s 9)⟩,
    ⟨(some 78), none, .mv (.s 4)⟩,
    ⟨(some 79), none, .bin .lss (.s 77) (.s 78)⟩]
  (.cond (.s 79)
  (.blk 7
   (.ops [⟨(some 10), none, .mv (.c (V.int .i64 0))⟩]
    (.blk 8
    (.loop loop_palanquinref9_writes_3 [10] [82, 83, 84, 85, 86, 87, 88, 89, 90, 93, 94, 95, 96, 97, 98, 99, 100, 101, 102, 103, 104, 105, 106, 107, 91, 92, 10]) [] [82, 83, 84, 85, 86, 87, 88, 89, 90, 93, 94, 95, 96, 97, 98, 99, 100, 101, 102, 103, 104, 105, 106, 107, 91, 92, 10]
    (.ops [⟨(some 108), none, .mv (.s 0)⟩,
      ⟨(some 109), none, .call fn_palanquinref6_Writer_Add [(.s 108), (.c (V.int .u64 0)), (.c (V.int .i64 1))]⟩]
    (.done)))) [] [10, 82, 83, 84, 85, 86, 87, 88, 89, 90, 93, 94, 95, 96, 97, 98, 99, 100, 101, 102, 103, 104, 105, 106, 107, 91, 92, 10, 108, 109]
   (.ops [⟨(some 80), none, .mv (.s 9)⟩,
     ⟨(some 81), none, .bin .add (.s 80) (.c (V.int .i64 1))⟩,
     ⟨(some 9), none, .mv (.s 81)⟩]
   (.done)))
  (.exit 6))

def loop_palanquinref9_writes_5 : C :=
  .ops [⟨(some 122), none, .mv (.s 11)⟩,
    ⟨(some 123), none, .faddr 1 (.s 3)⟩,
    ⟨(some 124), none, .load none (.s 123)⟩,
    ⟨(some 125), none, .bin .lss (.s 122) (.s 124)⟩]
  (.cond (.s 125)
  (.blk 11
   (.draw [⟨(some 128), none, .mv (.s 0)⟩,
      ⟨(some 129), none, .faddr 4 (.s 3)⟩,
      ⟨(some 130), none, .load none (.s 129)⟩,
      ⟨(some 131), none, .mv (.s 11)⟩,
      ⟨(some 132), none, .iaddr none 1 (.s 130) (.s 131)⟩,
      ⟨(some 133), none, .load none (.s 132)⟩,
      ⟨(some 134), none, .cint .u64 (.s 133)⟩,
      ⟨(some 135), none, .faddr 3 (.s 3)⟩,
      ⟨(some 136), none, .load none (.s 135)⟩,
      ⟨(some 137), none, .cint .u64 (.s 136)⟩,
      ⟨(some 138), none, .call fn_palanquinref6_Writer_AddNS [(.s 128), (.s 134), (.s 137)]⟩] []
    (.done)) [] [128, 129, 130, 131, 132, 133, 134, 135, 136, 137, 138]
   (.ops [⟨(some 126), none, .mv (.s 11)⟩,
     ⟨(some 127), none, .bin .add (.s 126) (.c (V.int .i64 1))⟩,
     ⟨(some 11), none, .mv (.s 127)⟩]
   (.done)))
  (.exit 10))

def loop_palanquinref9_writes_6 : C :=
  .ops [⟨(some 144), none, .mv (.s 13)⟩,
    ⟨(some 145), none, .faddr 3 (.s 3)⟩,
    ⟨(some 146), none, .load none (.s 145)⟩,
    ⟨(some 147), none, .bin .lss (.s 144) (.s 146)⟩]
  (.cond (.s 147)
  (.blk 15
   (.ops [⟨(some 150), none, .mv (.s 0)⟩,
      ⟨(some 151), none, .faddr 2 (.s 3)⟩,
      ⟨(some 152), none, .load none (.s 151)⟩,
      ⟨(some 153), none, .mv (.s 12)⟩,
      ⟨(some 154), none, .iaddr none 5 (.s 152) (.s 153)⟩,
      ⟨(some 155), none, .faddr 4 (.s 154)⟩,
      ⟨(some 156), none, .load none (.s 155)⟩,
      ⟨(some 157), none, .mv (.s 13)⟩,
      ⟨(some 158), none, .iaddr none 1 (.s 156) (.s 157)⟩,
      ⟨(some 159), none, .load none (.s 158)⟩,
      ⟨(some 160), none, .cint .u64 (.s 159)⟩,
      ⟨(some 161), none, .call fn_palanquinref6_Writer_Add [(.s 150), (.s 160), (.c (V.int .i64 4))]⟩]
    (.done)) [] [150, 151, 152, 153, 154, 155, 156, 157, 158, 159, 160, 161]
   (.ops [⟨(some 148), none, .mv (.s 13)⟩,
     ⟨(some 149), none, .bin .add (.s 148) (.c (V.int .i64 1))⟩,
     ⟨(some 13), none, .mv (.s 149)⟩]
   (.done)))
  (.exit 14))

def loop_palanquinref9_writes_7 : C :=
  .ops [⟨(some 139), none, .mv (.s 12)⟩,
    ⟨(some 140), none, .mv (.s 4)⟩,
    ⟨(some 141), none, .bin .lss (.s 139) (.s 140)⟩]
  (.cond (.s 141)
  (.blk 13
   (.ops [⟨(some 13), none, .mv (.c (V.int .i64 0))⟩]
    (.blk 14
    (.loop loop_palanquinref9_writes_6 [13] [144, 145, 146, 147, 150, 151, 152, 153, 154, 155, 156, 157, 158, 159, 160, 161, 148, 149, 13]) [] [144, 145, 146, 147, 150, 151, 152, 153, 154, 155, 156, 157, 158, 159, 160, 161, 148, 149, 13]
    (.done))) [] [13, 144, 145, 146, 147, 150, 151, 152, 153, 154, 155, 156, 157, 158, 159, 160, 161, 148, 149, 13]
   (.ops [⟨(some 142), none, .mv (.s 12)⟩,
     ⟨(some 143), none, .bin .add (.s 142) (.c (V.int .i64 1))⟩,
     ⟨(some 12), none, .mv (.s 143)⟩]
   (.done)))
  (.exit 12))

def loop_palanquinref9_writes_8 : C :=
  .ops [⟨(some 169), none, .mv (.s 14)⟩,
    ⟨(some 170), none, .faddr 5 (.s 3)⟩,
    ⟨(some 171), none, .load none (.s 170)⟩,
    ⟨(some 172), none, .len (.s 171)⟩,
    ⟨(some 173), none, .bin .lss (.s 169) (.s 172)⟩]
  (.cond (.s 173)
  (.blk 17
   (.ops [⟨(some 176), none, .mv (.s 0)⟩,
      ⟨(some 177), none, .faddr 5 (.s 3)⟩,
      ⟨(some 178), none, .load none (.s 177)⟩,
      ⟨(some 179), none, .mv (.s 14)⟩,
      ⟨(some 180), none, .iaddr none 2 (.s 178) (.s 179)⟩,
      ⟨(some 181), none, .iaddr (some 2) 1 (.s 180) (.c (V.int .i64 0))⟩,
      ⟨(some 182), none, .load none (.s 181)⟩,
      ⟨(some 183), none, .bin .sub (.s 182) (.c (V.int .i64 1))⟩,
      ⟨(some 184), none, .cint .u64 (.s 183)⟩,
      ⟨(some 185), none, .call fn_palanquinref6_Writer_Add [(.s 176), (.s 184), (.c (V.int .i64 16))]⟩]
    (.ops [⟨(some 186), none, .mv (.s 0)⟩,
      ⟨(some 187), none, .faddr 5 (.s 3)⟩,
      ⟨(some 188), none, .load none (.s 187)⟩,
      ⟨(some 189), none, .mv (.s 14)⟩,
      ⟨(some 190), none, .iaddr none 2 (.s 188) (.s 189)⟩,
      ⟨(some 191), none, .iaddr (some 2) 1 (.s 190) (.c (V.int .i64 1))⟩,
      ⟨(some 192), none, .load none (.s 191)⟩,
      ⟨(some 193), none, .bin .sub (.s 192) (.c (V.int .i64 1))⟩,
      ⟨(some 194), none, .cint .u64 (.s 193)⟩,
      ⟨(some 195), none, .call fn_palanquinref6_Writer_Add [(.s 186), (.s 194), (.c (V.int .i64 16))]⟩]
    (.done))) [] [176, 177, 178, 179, 180, 181, 182, 183, 184, 185, 186, 187, 188, 189, 190, 191, 192, 193, 194, 195]
   (.ops [⟨(some 174), none, .mv (.s 14)⟩,
     ⟨(some 175), none, .bin .add (.s 174) (.c (V.int .i64 1))⟩,
     ⟨(some 14), none, .mv (.s 175)⟩]
   (.done)))
  (.exit 16))

def ir_palanquinref9_writes : Fn' := ⟨196, [],
  .ops [⟨(some 3), none, .box ty_palanquinref9_Structure (.s 1)⟩]
  (.ops [⟨(some 15), none, .faddr 2 (.s 3)⟩,
    ⟨(some 16), none, .load none (.s 15)⟩,
    ⟨(some 17), none, .len (.s 16)⟩,
    ⟨(some 4), none, .mv (.s 17)⟩]
  (.ops [⟨(some 18), none, .mv (.s 0)⟩,
    ⟨(some 19), none, .faddr 0 (.s 3)⟩,
    ⟨(some 20), none, .load none (.s 19)⟩,
    ⟨(some 21), none, .cint .u64 (.s 20)⟩,
    ⟨(some 22), none, .call fn_palanquinref6_Writer_Add [(.s 18), (.s 21), (.c (V.int .i64 6))]⟩]
  (.ops [⟨(some 23), none, .mv (.s 0)⟩,
    ⟨(some 24), none, .faddr 1 (.s 3)⟩,
    ⟨(some 25), none, .load none (.s 24)⟩,
    ⟨(some 26), none, .bin .sub (.s 25) (.c (V.int .i64 1))⟩,
    ⟨(some 27), none, .cint .u64 (.s 26)⟩,
    ⟨(some 28), none, .call fn_palanquinref6_Writer_Add [(.s 23), (.s 27), (.c (V.int .i64 5))]⟩]
  (.ops [⟨(some 5), none, .mv (.c (V.int .i64 0))⟩]
  (.blk 0
  (.loop loop_palanquinref9_writes_0 [5] [29, 30, 31, 6, 34, 35, 36, 37, 38, 39, 40, 41, 42, 43, 44, 45, 46, 47, 48, 49, 6, 50, 51, 52, 53, 32, 33, 5]) [] [29, 30, 31, 6, 34, 35, 36, 37, 38, 39, 40, 41, 42, 43, 44, 45, 46, 47, 48, 49, 6, 50, 51, 52, 53, 32, 33, 5]
  (.ops [⟨(some 7), none, .mv (.c (V.int .i64 0))⟩]
  (.blk 2
  (.loop loop_palanquinref9_writes_2 [7] [54, 55, 56, 8, 59, 60, 61, 62, 65, 66, 67, 68, 69, 70, 71, 72, 73, 74, 75, 76, 63, 64, 8, 57, 58, 7]) [] [54, 55, 56, 8, 59, 60, 61, 62, 65, 66, 67, 68, 69, 70, 71, 72, 73, 74, 75, 76, 63, 64, 8, 57, 58, 7]
  (.ops [⟨(some 9), none, .mv (.c (V.int .i64 0))⟩]
  (.blk 6
  (.loop loop_palanquinref9_writes_4 [9] [77, 78, 79, 10, 82, 83, 84, 85, 86, 87, 88, 89, 90, 93, 94, 95, 96, 97, 98, 99, 100, 101, 102, 103, 104, 105, 106, 107, 91, 92, 10, 108, 109, 80, 81, 9]) [] [77, 78, 79, 10, 82, 83, 84, 85, 86, 87, 88, 89, 90, 93, 94, 95, 96, 97, 98, 99, 100, 101, 102, 103, 104, 105, 106, 107, 91, 92, 10, 108, 109, 80, 81, 9]
  (.ops [⟨(some 110), none, .mv (.s 0)⟩,
    ⟨(some 111), none, .faddr 3 (.s 3)⟩,
    ⟨(some 112), none, .load none (.s 111)⟩,
    ⟨(some 113), none, .cint .u64 (.s 112)⟩,
    ⟨(some 114), none, .faddr 1 (.s 3)⟩,
    ⟨(some 115), none, .load none (.s 114)⟩,
    ⟨(some 116), none, .bin .add (.s 115) (.c (V.int .i64 1))⟩,
    ⟨(some 117), none, .cint .u64 (.s 116)⟩,
    ⟨(some 118), none, .call fn_palanquinref6_Writer_AddNS [(.s 110), (.s 113), (.s 117)]⟩]
  (.ops [⟨(some 119), none, .faddr 3 (.s 3)⟩,
    ⟨(some 120), none, .load none (.s 119)⟩,
    ⟨(some 121), none, .bin .gtr (.s 120) (.c (V.int .i64 0))⟩]
  (.condJ (.s 121)
  (.ops [⟨(some 11), none, .mv (.c (V.int .i64 0))⟩]
   (.blk 10
   (.loop loop_palanquinref9_writes_5 [11] [122, 123, 124, 125, 128, 129, 130, 131, 132, 133, 134, 135, 136, 137, 138, 126, 127, 11]) [] [122, 123, 124, 125, 128, 129, 130, 131, 132, 133, 134, 135, 136, 137, 138, 126, 127, 11]
   (.ops [⟨(some 12), none, .mv (.c (V.int .i64 0))⟩]
   (.blk 12
   (.loop loop_palanquinref9_writes_7 [12] [139, 140, 141, 13, 144, 145, 146, 147, 150, 151, 152, 153, 154, 155, 156, 157, 158, 159, 160, 161, 148, 149, 13, 142, 143, 12]) [] [139, 140, 141, 13, 144, 145, 146, 147, 150, 151, 152, 153, 154, 155, 156, 157, 158, 159, 160, 161, 148, 149, 13, 142, 143, 12]
   (.done)))))
  (.done) [] [11, 122, 123, 124, 125, 128, 129, 130, 131, 132, 133, 134, 135, 136, 137, 138, 126, 127, 11, 12, 139, 140, 141, 13, 144, 145, 146, 147, 150, 151, 152, 153, 154, 155, 156, 157, 158, 159, 160, 161, 148, 149, 13, 142, 143, 12]
  (.ops [⟨(some 162), none, .mv (.s 0)⟩,
    ⟨(some 163), none, .faddr 5 (.s 3)⟩,
    ⟨(some 164), none, .load none (.s 163)⟩,
    ⟨(some 165), none, .len (.s 164)⟩,
    ⟨(some 166), none, .bin .gtr (.s 165) (.c (V.int .i64 0))⟩,
    ⟨(some 167), none, .call fn_palanquinref9_one [(.s 166)]⟩,
    ⟨(some 168), none, .call fn_palanquinref6_Writer_Add [(.s 162), (.s 167), (.c (V.int .i64 1))]⟩]
  (.ops [⟨(some 14), none, .mv (.c (V.int .i64 0))⟩]
  (.blk 16
  (.loop loop_palanquinref9_writes_8 [14] [169, 170, 171, 172, 173, 176, 177, 178, 179, 180, 181, 182, 183, 184, 185, 186, 187, 188, 189, 190, 191, 192, 193, 194, 195, 174, 175, 14]) [] [169, 170, 171, 172, 173, 176, 177, 178, 179, 180, 181, 182, 183, 184, 185, 186, 187, 188, 189, 190, 191, 192, 193, 194, 195, 174, 175, 14]
  (.ret))))))))))))))))⟩

noncomputable def f_palanquinref9_writes_0 (G : Sem') (t4 t3 t0 : V) (L : List V) : M Res :=
  (M.lift (Ax.bin .lss (L.getD 0 .undef) t4)).bind fun t31 =>
  M.ite t31
    (M.blk 1 (
      (M.lift (Ax.bin .add (L.getD 0 .undef) (V.int .i64 1))).bind fun t35 =>
      (M.lift (Ax.bin .lss t35 t4)).bind fun t37 =>
      M.join (M.ite t37
        ((M.lift (Ax.faddr 2 t3)).bind fun t38 =>
        (mload none t38).bind fun t39 =>
        (M.lift (Ax.iaddr none 5 t39 (L.getD 0 .undef))).bind fun t41 =>
        (mload (some 5) t41).bind fun t42 =>
        (M.lift (Ax.faddr 2 t3)).bind fun t43 =>
        (mload none t43).bind fun t44 =>
        (M.lift (Ax.bin .add (L.getD 0 .undef) (V.int .i64 1))).bind fun t46 =>
        (M.lift (Ax.iaddr none 5 t44 t46)).bind fun t47 =>
        (mload (some 5) t47).bind fun t48 =>
        (G fn_palanquinref9_step [t42, t48]).bind fun t49 =>
        M.pure (.nrm [t49]))
        (M.pure (.nrm [(V.int .i64 3)]))) fun L0 =>
      (M.lift (Ax.cint .u64 (L0.getD 0 .undef))).bind fun t52 =>
      (G fn_palanquinref6_Writer_Add [t0, t52, (V.int .i64 2)]).bind fun t53 =>
      M.pure (.nrm [])) fun _ =>
    (M.lift (Ax.bin .add (L.getD 0 .undef) (V.int .i64 1))).bind fun t33 =>
    M.pure (.nrm [t33]))
    (M.pure (.ex 0 []))

noncomputable def f_palanquinref9_writes_1 (G : Sem') (t0 t3 t7 : V) (L : List V) : M Res :=
  (M.lift (Ax.faddr 1 t3)).bind fun t60 =>
  (mload none t60).bind fun t61 =>
  (M.lift (Ax.bin .lss (L.getD 0 .undef) t61)).bind fun t62 =>
  M.ite t62
    (M.blk 5 (
      (M.lift (Ax.faddr 2 t3)).bind fun t66 =>
      (mload none t66).bind fun t67 =>
      (M.lift (Ax.iaddr none 5 t67 t7)).bind fun t69 =>
      (M.lift (Ax.faddr 2 t69)).bind fun t70 =>
      (mload none t70).bind fun t71 =>
      (M.lift (Ax.iaddr none 1 t71 (L.getD 0 .undef))).bind fun t73 =>
      (mload none t73).bind fun t74 =>
      (M.lift (Ax.cint .u64 t74)).bind fun t75 =>
      (G fn_palanquinref6_Writer_Add [t0, t75, (V.int .i64 2)]).bind fun t76 =>
      M.pure (.nrm [])) fun _ =>
    (M.lift (Ax.bin .add (L.getD 0 .undef) (V.int .i64 1))).bind fun t64 =>
    M.pure (.nrm [t64]))
    (M.pure (.ex 4 []))

noncomputable def f_palanquinref9_writes_2 (G : Sem') (t4 t0 t3 : V) (L : List V) : M Res :=
  (M.lift (Ax.bin .lss (L.getD 0 .undef) t4)).bind fun t56 =>
  M.ite t56
    (M.blk 3 (
      M.blk 4 (
        M.iter (f_palanquinref9_writes_1 G t0 t3 (L.getD 0 .undef)) [(V.int .i64 0)]) fun _ =>
      M.pure (.nrm [])) fun _ =>
    (M.lift (Ax.bin .add (L.getD 0 .undef) (V.int .i64 1))).bind fun t58 =>
    M.pure (.nrm [t58]))
    (M.pure (.ex 2 []))

noncomputable def f_palanquinref9_writes_3 (G : Sem') (t0 t3 t9 : V) (L : List V) : M Res :=
  (M.lift (Ax.faddr 2 t3)).bind fun t83 =>
  (mload none t83).bind fun t84 =>
  (M.lift (Ax.iaddr none 5 t84 t9)).bind fun t86 =>
  (M.lift (Ax.faddr 3 t86)).bind fun t87 =>
  (mload none t87).bind fun t88 =>
  (M.lift (vlen t88)).bind fun t89 =>
  (M.lift (Ax.bin .lss (L.getD 0 .undef) t89)).bind fun t90 =>
  M.ite t90
    (M.blk 9 (
      (G fn_palanquinref6_Writer_Add [t0, (V.int .u64 1), (V.int .i64 1)]).bind fun t94 =>
      (M.lift (Ax.faddr 2 t3)).bind fun t96 =>
      (mload none t96).bind fun t97 =>
      (M.lift (Ax.iaddr none 5 t97 t9)).bind fun t99 =>
      (M.lift (Ax.faddr 3 t99)).bind fun t100 =>
      (mload none t100).bind fun t101 =>
      (M.lift (Ax.iaddr none 1 t101 (L.getD 0 .undef))).bind fun t103 =>
      (mload none t103).bind fun t104 =>
      (M.lift (Ax.bin .sub t104 (V.int .i64 1))).bind fun t105 =>
      (M.lift (Ax.cint .u64 t105)).bind fun t106 =>
      (G fn_palanquinref6_Writer_Add [t0, t106, (V.int .i64 4)]).bind fun t107 =>
      M.pure (.nrm [])) fun _ =>
    (M.lift (Ax.bin .add (L.getD 0 .undef) (V.int .i64 1))).bind fun t92 =>
    M.pure (.nrm [t92]))
    (M.pure (.ex 8 []))

noncomputable def f_palanquinref9_writes_4 (G : Sem') (t4 t3 t0 : V) (L : List V) : M Res :=
  (M.lift (Ax.bin .lss (L.getD 0 .undef) t4)).bind fun t79 =>
  M.ite t79
    (M.blk 7 (
      M.blk 8 (
        M.iter (f_palanquinref9_writes_3 G t0 t3 (L.getD 0 .undef)) [(V.int .i64 0)]) fun _ =>
      (G fn_palanquinref6_Writer_Add [t0, (V.int .u64 0), (V.int .i64 1)]).bind fun t109 =>
      M.pure (.nrm [])) fun _ =>
    (M.lift (Ax.bin .add (L.getD 0 .undef) (V.int .i64 1))).bind fun t81 =>
    M.pure (.nrm [t81]))
    (M.pure (.ex 6 []))

noncomputable def f_palanquinref9_writes_5 (G : Sem') (t0 t3 : V) (L : List V) : M Res :=
  (M.lift (Ax.faddr 1 t3)).bind fun t123 =>
  (mload none t123).bind fun t124 =>
  (M.lift (Ax.bin .lss (L.getD 0 .undef) t124)).bind fun t125 =>
  M.ite t125
    (M.blk 11 (
      (M.lift (Ax.faddr 4 t3)).bind fun t129 =>
      (mload none t129).bind fun t130 =>
      (M.lift (Ax.iaddr none 1 t130 (L.getD 0 .undef))).bind fun t132 =>
      (mload none t132).bind fun t133 =>
      (M.lift (Ax.cint .u64 t133)).bind fun t134 =>
      (M.lift (Ax.faddr 3 t3)).bind fun t135 =>
      (mload none t135).bind fun t136 =>
      (M.lift (Ax.cint .u64 t136)).bind fun t137 =>
      (G fn_palanquinref6_Writer_AddNS [t0, t134, t137]).bind fun t138 =>
      M.pure (.nrm [])) fun _ =>
    (M.lift (Ax.bin .add (L.getD 0 .undef) (V.int .i64 1))).bind fun t127 =>
    M.pure (.nrm [t127]))
    (M.pure (.ex 10 []))

noncomputable def f_palanquinref9_writes_6 (G : Sem') (t0 t3 t12 : V) (L : List V) : M Res :=
  (M.lift (Ax.faddr 3 t3)).bind fun t145 =>
  (mload none t145).bind fun t146 =>
  (M.lift (Ax.bin .lss (L.getD 0 .undef) t146)).bind fun t147 =>
  M.ite t147
    (M.blk 15 (
      (M.lift (Ax.faddr 2 t3)).bind fun t151 =>
      (mload none t151).bind fun t152 =>
      (M.lift (Ax.iaddr none 5 t152 t12)).bind fun t154 =>
      (M.lift (Ax.faddr 4 t154)).bind fun t155 =>
      (mload none t155).bind fun t156 =>
      (M.lift (Ax.iaddr none 1 t156 (L.getD 0 .undef))).bind fun t158 =>
      (mload none t158).bind fun t159 =>
      (M.lift (Ax.cint .u64 t159)).bind fun t160 =>
      (G fn_palanquinref6_Writer_Add [t0, t160, (V.int .i64 4)]).bind fun t161 =>
      M.pure (.nrm [])) fun _ =>
    (M.lift (Ax.bin .add (L.getD 0 .undef) (V.int .i64 1))).bind fun t149 =>
    M.pure (.nrm [t149]))
    (M.pure (.ex 14 []))

noncomputable def f_palanquinref9_writes_7 (G : Sem') (t4 t0 t3 : V) (L : List V) : M Res :=
  (M.lift (Ax.bin .lss (L.getD 0 .undef) t4)).bind fun t141 =>
  M.ite t141
    (M.blk 13 (
      M.blk 14 (
        M.iter (f_palanquinref9_writes_6 G t0 t3 (L.getD 0 .undef)) [(V.int .i64 0)]) fun _ =>
      M.pure (.nrm [])) fun _ =>
    (M.lift (Ax.bin .add (L.getD 0 .undef) (V.int .i64 1))).bind fun t143 =>
    M.pure (.nrm [t143]))
    (M.pure (.ex 12 []))

noncomputable def f_palanquinref9_writes_8 (G : Sem') (t0 t3 : V) (L : List V) : M Res :=
  (M.lift (Ax.faddr 5 t3)).bind fun t170 =>
  (mload none t170).bind fun t171 =>
  (M.lift (vlen t171)).bind fun t172 =>
  (M.lift (Ax.bin .lss (L.getD 0 .undef) t172)).bind fun t173 =>
  M.ite t173
    (M.blk 17 (
      (M.lift (Ax.faddr 5 t3)).bind fun t177 =>
      (mload none t177).bind fun t178 =>
      (M.lift (Ax.iaddr none 2 t178 (L.getD 0 .undef))).bind fun t180 =>
      (M.lift (Ax.iaddr (some 2) 1 t180 (V.int .i64 0))).bind fun t181 =>
      (mload none t181).bind fun t182 =>
      (M.lift (Ax.bin .sub t182 (V.int .i64 1))).bind fun t183 =>
      (M.lift (Ax.cint .u64 t183)).bind fun t184 =>
      (G fn_palanquinref6_Writer_Add [t0, t184, (V.int .i64 16)]).bind fun t185 =>
      (M.lift (Ax.faddr 5 t3)).bind fun t187 =>
      (mload none t187).bind fun t188 =>
      (M.lift (Ax.iaddr none 2 t188 (L.getD 0 .undef))).bind fun t190 =>
      (M.lift (Ax.iaddr (some 2) 1 t190 (V.int .i64 1))).bind fun t191 =>
      (mload none t191).bind fun t192 =>
      (M.lift (Ax.bin .sub t192 (V.int .i64 1))).bind fun t193 =>
      (M.lift (Ax.cint .u64 t193)).bind fun t194 =>
      (G fn_palanquinref6_Writer_Add [t0, t194, (V.int .i64 16)]).bind fun t195 =>
      M.pure (.nrm [])) fun _ =>
    (M.lift (Ax.bin .add (L.getD 0 .undef) (V.int .i64 1))).bind fun t175 =>
    M.pure (.nrm [t175]))
    (M.pure (.ex 16 []))

noncomputable def f_palanquinref9_writes (G : Sem') (t0 t1 : V) : M Res :=
  (mbox ty_palanquinref9_Structure t1).bind fun t3 =>
  (M.lift (Ax.faddr 2 t3)).bind fun t15 =>
  (mload none t15).bind fun t16 =>
  (M.lift (vlen t16)).bind fun t17 =>
  (M.lift (Ax.faddr 0 t3)).bind fun t19 =>
  (mload none t19).bind fun t20 =>
  (M.lift (Ax.cint .u64 t20)).bind fun t21 =>
  (G fn_palanquinref6_Writer_Add [t0, t21, (V.int .i64 6)]).bind fun t22 =>
  (M.lift (Ax.faddr 1 t3)).bind fun t24 =>
  (mload none t24).bind fun t25 =>
  (M.lift (Ax.bin .sub t25 (V.int .i64 1))).bind fun t26 =>
  (M.lift (Ax.cint .u64 t26)).bind fun t27 =>
  (G fn_palanquinref6_Writer_Add [t0, t27, (V.int .i64 5)]).bind fun t28 =>
  M.blk 0 (
    M.iter (f_palanquinref9_writes_0 G t17 t3 t0) [(V.int .i64 0)]) fun _ =>
  M.blk 2 (
    M.iter (f_palanquinref9_writes_2 G t17 t0 t3) [(V.int .i64 0)]) fun _ =>
  M.blk 6 (
    M.iter (f_palanquinref9_writes_4 G t17 t3 t0) [(V.int .i64 0)]) fun _ =>
  (M.lift (Ax.faddr 3 t3)).bind fun t111 =>
  (mload none t111).bind fun t112 =>
  (M.lift (Ax.cint .u64 t112)).bind fun t113 =>
  (M.lift (Ax.faddr 1 t3)).bind fun t114 =>
  (mload none t114).bind fun t115 =>
  (M.lift (Ax.bin .add t115 (V.int .i64 1))).bind fun t116 =>
  (M.lift (Ax.cint .u64 t116)).bind fun t117 =>
  (G fn_palanquinref6_Writer_AddNS [t0, t113, t117]).bind fun t118 =>
  (M.lift (Ax.faddr 3 t3)).bind fun t119 =>
  (mload none t119).bind fun t120 =>
  (M.lift (Ax.bin .gtr t120 (V.int .i64 0))).bind fun t121 =>
  M.join (M.ite t121
    (M.blk 10 (
      M.iter (f_palanquinref9_writes_5 G t0 t3) [(V.int .i64 0)]) fun _ =>
    M.blk 12 (
      M.iter (f_palanquinref9_writes_7 G t17 t0 t3) [(V.int .i64 0)]) fun _ =>
    M.pure (.nrm []))
    (M.pure (.nrm []))) fun _ =>
  (M.lift (Ax.faddr 5 t3)).bind fun t163 =>
  (mload none t163).bind fun t164 =>
  (M.lift (vlen t164)).bind fun t165 =>
  (M.lift (Ax.bin .gtr t165 (V.int .i64 0))).bind fun t166 =>
  (G fn_palanquinref9_one [t166]).bind fun t167 =>
  (G fn_palanquinref6_Writer_Add [t0, t167, (V.int .i64 1)]).bind fun t168 =>
  M.blk 16 (
    M.iter (f_palanquinref9_writes_8 G t0 t3) [(V.int .i64 0)]) fun _ =>
  M.pure (.ret [])

theorem eq_palanquinref9_writes (G : Sem') (t0 t1 : V) : execK G ir_palanquinref9_writes.rv ir_palanquinref9_writes.body [] [] (params 0 [t0, t1]) = f_palanquinref9_writes G t0 t1 := by kernel_rfl

theorem tb_palanquinref9_writes : T fn_palanquinref9_writes = some ir_palanquinref9_writes := by kernel_rfl

theorem ok_palanquinref9_writes {t0 t1 : V} {H : Heap} {Q : V → Heap → Prop} (h : Ok (f_palanquinref9_writes (sem T) t0 t1) H fun r H' => ∃ L, r = .ret L ∧ Q (tupled L) H') : Ok (sem T fn_palanquinref9_writes [t0, t1]) H Q :=
  ok_sem tb_palanquinref9_writes (Nat.le_of_ble_eq_true rfl) (eq_palanquinref9_writes (sem T) t0 t1) h

/-- (*palanquin/palanquinref6.Writer).AddNS. -/
def ir_palanquinref6_Writer_AddNS : Fn' := ⟨39, [.tmp 6],
  .ops [⟨(some 6), none, .mv (.c (V.int .i64 0))⟩]
  (.ops [⟨(some 9), none, .mv (.s 2)⟩,
    ⟨(some 10), none, .bin .lss (.s 9) (.c (V.int .u64 1))⟩,
    ⟨(some 11), none, .mv (.s 10)⟩,
    ⟨(some 12), (some (11, false)), .mv (.s 2)⟩,
    ⟨(some 13), (some (11, false)), .bin .gtr (.s 12) (.c (V.int .u64 4294967296))⟩,
    ⟨(some 14), none, .pick (.s 11) (.c (V.bool true)) (.s 13)⟩,
    ⟨(some 15), none, .mv (.s 14)⟩,
    ⟨(some 16), (some (15, false)), .mv (.s 1)⟩,
    ⟨(some 17), (some (15, false)), .mv (.s 2)⟩,
    ⟨(some 18), (some (15, false)), .bin .geq (.s 16) (.s 17)⟩,
    ⟨(some 19), none, .pick (.s 15) (.c (V.bool true)) (.s 18)⟩]
  (.cond (.s 19)
  (.ops [⟨(some 6), none, .mv (.c (V.int .i64 1))⟩]
   (.ret))
  (.ops [⟨(some 21), none, .mv (.s 2)⟩,
     ⟨(some 22), none, .call fn_palanquinref6_width [(.s 21)]⟩,
     ⟨(some 20), none, .mv (.s 22)⟩,
     ⟨(some 23), none, .ext 0 (.s 20)⟩,
     ⟨(some 24), none, .ext 1 (.s 20)⟩,
     ⟨(some 7), none, .mv (.s 23)⟩,
     ⟨(some 8), none, .mv (.s 24)⟩]
   (.ops [⟨(some 25), none, .mv (.s 1)⟩,
     ⟨(some 26), none, .mv (.s 8)⟩,
     ⟨(some 27), none, .bin .lss (.s 25) (.s 26)⟩]
   (.cond (.s 27)
   (.ops [⟨(some 28), none, .mv (.s 0)⟩,
      ⟨(some 29), none, .mv (.s 1)⟩,
      ⟨(some 30), none, .mv (.s 7)⟩,
      ⟨(some 31), none, .bin .sub (.s 30) (.c (V.int .i64 1))⟩,
      ⟨(some 32), none, .call fn_palanquinref6_Writer_Add [(.s 28), (.s 29), (.s 31)]⟩,
      ⟨(some 6), none, .mv (.s 32)⟩]
    (.ret))
   (.ops [⟨(some 33), none, .mv (.s 0)⟩,
      ⟨(some 34), none, .mv (.s 1)⟩,
      ⟨(some 35), none, .mv (.s 8)⟩,
      ⟨(some 36), none, .bin .add (.s 34) (.s 35)⟩,
      ⟨(some 37), none, .mv (.s 7)⟩,
      ⟨(some 38), none, .call fn_palanquinref6_Writer_Add [(.s 33), (.s 36), (.s 37)]⟩,
      ⟨(some 6), none, .mv (.s 38)⟩]
    (.ret)))))))⟩

noncomputable def f_palanquinref6_Writer_AddNS (G : Sem') (t0 t1 t2 : V) : M Res :=
  (M.lift (Ax.bin .lss t2 (V.int .u64 1))).bind fun t10 =>
  (guarded [(0, t10)] (some (0, false)) (M.pure t2)).bind fun t12 =>
  (guarded [(0, t10)] (some (0, false)) (M.lift (Ax.bin .gtr t12 (V.int .u64 4294967296)))).bind fun t13 =>
  (M.lift (Ax.pick t10 (V.bool true) t13)).bind fun t14 =>
  (guarded [(0, t14)] (some (0, false)) (M.pure t1)).bind fun t16 =>
  (guarded [(0, t14)] (some (0, false)) (M.pure t2)).bind fun t17 =>
  (guarded [(0, t14)] (some (0, false)) (M.lift (Ax.bin .geq t16 t17))).bind fun t18 =>
  (M.lift (Ax.pick t14 (V.bool true) t18)).bind fun t19 =>
  M.ite t19
    (M.pure (.ret [(V.int .i64 1)]))
    ((G fn_palanquinref6_width [t2]).bind fun t22 =>
    (M.lift (Ax.ext 0 t22)).bind fun t23 =>
    (M.lift (Ax.ext 1 t22)).bind fun t24 =>
    (M.lift (Ax.bin .lss t1 t24)).bind fun t27 =>
    M.ite t27
      ((M.lift (Ax.bin .sub t23 (V.int .i64 1))).bind fun t31 =>
      (G fn_palanquinref6_Writer_Add [t0, t1, t31]).bind fun t32 =>
      M.pure (.ret [t32]))
      ((M.lift (Ax.bin .add t1 t24)).bind fun t36 =>
      (G fn_palanquinref6_Writer_Add [t0, t36, t23]).bind fun t38 =>
      M.pure (.ret [t38])))

theorem eq_palanquinref6_Writer_AddNS (G : Sem') (t0 t1 t2 : V) : execK G ir_palanquinref6_Writer_AddNS.rv ir_palanquinref6_Writer_AddNS.body [] [] (params 0 [t0, t1, t2]) = f_palanquinref6_Writer_AddNS G t0 t1 t2 := by kernel_rfl

theorem tb_palanquinref6_Writer_AddNS : T fn_palanquinref6_Writer_AddNS = some ir_palanquinref6_Writer_AddNS := by kernel_rfl

theorem ok_palanquinref6_Writer_AddNS {t0 t1 t2 : V} {H : Heap} {Q : V → Heap → Prop} (h : Ok (f_palanquinref6_Writer_AddNS (sem T) t0 t1 t2) H fun r H' => ∃ L, r = .ret L ∧ Q (tupled L) H') : Ok (sem T fn_palanquinref6_Writer_AddNS [t0, t1, t2]) H Q :=
  ok_sem tb_palanquinref6_Writer_AddNS (Nat.le_of_ble_eq_true rfl) (eq_palanquinref6_Writer_AddNS (sem T) t0 t1 t2) h

/-- palanquin/palanquinref6.width. -/
def loop_palanquinref6_width_0 : C :=
  .ops [⟨(some 7), none, .mv (.s 5)⟩,
    ⟨(some 8), none, .bin .gtr (.s 7) (.c (V.int .u64 0))⟩]
  (.cond (.s 8)
  (.blk 1
   (.ops [⟨(some 11), none, .mv (.s 4)⟩,
      ⟨(some 12), none, .bin .add (.s 11) (.c (V.int .i64 1))⟩,
      ⟨(some 4), none, .mv (.s 12)⟩]
    (.done)) [4] [11, 12, 4]
   (.ops [⟨(some 9), none, .mv (.s 5)⟩,
     ⟨(some 10), none, .bin .shr (.s 9) (.c (V.int .u64 1))⟩,
     ⟨(some 5), none, .mv (.s 10)⟩]
   (.done)))
  (.exit 0))

def ir_palanquinref6_width : Fn' := ⟨19, [.tmp 2, .tmp 3],
  .ops [⟨(some 2), none, .mv (.c (V.int .i64 0))⟩,
    ⟨(some 3), none, .mv (.c (V.int .u64 0))⟩]
  (.ops [⟨(some 4), none, .mv (.c (V.int .i64 0))⟩]
  (.ops [⟨(some 6), none, .mv (.s 0)⟩,
    ⟨(some 5), none, .mv (.s 6)⟩]
  (.blk 0
  (.loop loop_palanquinref6_width_0 [4, 5] [7, 8, 11, 12, 4, 9, 10, 5]) [4] [7, 8, 11, 12, 4, 9, 10, 5]
  (.ops [⟨(some 13), none, .mv (.s 4)⟩,
    ⟨(some 14), none, .mv (.s 4)⟩,
    ⟨(some 15), none, .cint .u64 (.s 14)⟩,
    ⟨(some 16), none, .bin .shl (.c (V.int .u64 1)) (.s 15)⟩,
    ⟨(some 17), none, .mv (.s 0)⟩,
    ⟨(some 18), none, .bin .sub (.s 16) (.s 17)⟩,
    ⟨(some 2), none, .mv (.s 13)⟩,
    ⟨(some 3), none, .mv (.s 18)⟩]
  (.ret)))))⟩

noncomputable def f_palanquinref6_width_0 (G : Sem') (t2 t3 : V) (L : List V) : M Res :=
  (M.lift (Ax.bin .gtr (L.getD 1 .undef) (V.int .u64 0))).bind fun t8 =>
  M.ite t8
    (M.blk 1 (
      (M.lift (Ax.bin .add (L.getD 0 .undef) (V.int .i64 1))).bind fun t12 =>
      M.pure (.nrm [t12])) fun L0 =>
    (M.lift (Ax.bin .shr (L.getD 1 .undef) (V.int .u64 1))).bind fun t10 =>
    M.pure (.nrm [(L0.getD 0 .undef), t10]))
    (M.pure (.ex 0 [(L.getD 0 .undef)]))

noncomputable def f_palanquinref6_width (G : Sem') (t0 : V) : M Res :=
  M.blk 0 (
    M.iter (f_palanquinref6_width_0 G (V.int .i64 0) (V.int .u64 0)) [(V.int .i64 0), t0]) fun L1 =>
  (M.lift (Ax.cint .u64 (L1.getD 0 .undef))).bind fun t15 =>
  (M.lift (Ax.bin .shl (V.int .u64 1) t15)).bind fun t16 =>
  (M.lift (Ax.bin .sub t16 t0)).bind fun t18 =>
  M.pure (.ret [(L1.getD 0 .undef), t18])

theorem eq_palanquinref6_width (G : Sem') (t0 : V) : execK G ir_palanquinref6_width.rv ir_palanquinref6_width.body [] [] (params 0 [t0]) = f_palanquinref6_width G t0 := by kernel_rfl

theorem tb_palanquinref6_width : T fn_palanquinref6_width = some ir_palanquinref6_width := by kernel_rfl

theorem ok_palanquinref6_width {t0 : V} {H : Heap} {Q : V → Heap → Prop} (h : Ok (f_palanquinref6_width (sem T) t0) H fun r H' => ∃ L, r = .ret L ∧ Q (tupled L) H') : Ok (sem T fn_palanquinref6_width [t0]) H Q :=
  ok_sem tb_palanquinref6_width (Nat.le_of_ble_eq_true rfl) (eq_palanquinref6_width (sem T) t0) h

/-- palanquin/palanquinref1.Same. -/
def ir_palanquinref1_Same : Fn' := ⟨10, [.tmp 4],
  .ops [⟨(some 4), none, .mv (.c (V.bool false))⟩]
  (.ops [⟨(some 5), none, .mv (.s 0)⟩,
    ⟨(some 6), none, .tostr (.s 5)⟩,
    ⟨(some 7), none, .mv (.s 1)⟩,
    ⟨(some 8), none, .tostr (.s 7)⟩,
    ⟨(some 9), none, .bin .eql (.s 6) (.s 8)⟩,
    ⟨(some 4), none, .mv (.s 9)⟩]
  (.ret))⟩

noncomputable def f_palanquinref1_Same (G : Sem') (t0 t1 : V) : M Res :=
  (mtostr t0).bind fun t6 =>
  (mtostr t1).bind fun t8 =>
  (M.lift (Ax.bin .eql t6 t8)).bind fun t9 =>
  M.pure (.ret [t9])

theorem eq_palanquinref1_Same (G : Sem') (t0 t1 : V) : execK G ir_palanquinref1_Same.rv ir_palanquinref1_Same.body [] [] (params 0 [t0, t1]) = f_palanquinref1_Same G t0 t1 := by kernel_rfl

theorem tb_palanquinref1_Same : T fn_palanquinref1_Same = some ir_palanquinref1_Same := by kernel_rfl

theorem ok_palanquinref1_Same {t0 t1 : V} {H : Heap} {Q : V → Heap → Prop} (h : Ok (f_palanquinref1_Same (sem T) t0 t1) H fun r H' => ∃ L, r = .ret L ∧ Q (tupled L) H') : Ok (sem T fn_palanquinref1_Same [t0, t1]) H Q :=
  ok_sem tb_palanquinref1_Same (Nat.le_of_ble_eq_true rfl) (eq_palanquinref1_Same (sem T) t0 t1) h

/-- palanquin/palanquinlaw9.DependLayers. -/
def loop_palanquinlaw9_DependLayers_0 : C :=
  .ops [⟨(some 55), none, .mv (.s 13)⟩,
    ⟨(some 56), none, .faddr 2 (.s 2)⟩,
    ⟨(some 57), none, .load none (.s 56)⟩,
    ⟨(some 58), none, .len (.s 57)⟩,
    ⟨(some 59), none, .bin .lss (.s 55) (.s 58)⟩]
  (.cond (.s 59)
  (.blk 1
   (.ops [⟨(some 62), none, .faddr 2 (.s 2)⟩,
      ⟨(some 63), none, .load none (.s 62)⟩,
      ⟨(some 64), none, .mv (.s 13)⟩,
      ⟨(some 65), none, .iaddr none 5 (.s 63) (.s 64)⟩,
      ⟨(some 66), none, .load (some 5) (.s 65)⟩,
      ⟨(some 14), none, .box ty_depend_Template (.c (V.agg [(V.int .i64 0), (V.int .i64 0), V.nils, V.nils, V.nils]))⟩,
      ⟨none, none, .store 5 (.s 14) (.s 66)⟩]
    (.ops [⟨(some 67), none, .faddr 2 (.s 14)⟩,
      ⟨(some 68), none, .load none (.s 67)⟩,
      ⟨(some 69), none, .mv (.s 1)⟩,
      ⟨(some 70), none, .iaddr none 1 (.s 68) (.s 69)⟩,
      ⟨(some 71), none, .load none (.s 70)⟩,
      ⟨(some 72), none, .bin .eql (.s 71) (.c (V.int .i64 0))⟩]
    (.cond (.s 72)
    (.exit 1)
    (.ops [⟨(some 73), none, .faddr 0 (.s 14)⟩,
       ⟨(some 74), none, .load none (.s 73)⟩,
       ⟨(some 75), none, .mv (.s 5)⟩,
       ⟨(some 76), none, .bin .gtr (.s 74) (.s 75)⟩,
       ⟨(some 77), none, .mv (.s 76)⟩,
       ⟨(some 78), (some (77, false)), .faddr 1 (.s 14)⟩,
       ⟨(some 79), (some (77, false)), .load none (.s 78)⟩,
       ⟨(some 80), (some (77, false)), .mv (.s 6)⟩,
       ⟨(some 81), (some (77, false)), .bin .gtr (.s 79) (.s 80)⟩,
       ⟨(some 82), none, .pick (.s 77) (.c (V.bool true)) (.s 81)⟩]
     (.cond (.s 82)
     (.ops [⟨(some 4), none, .mv (.c (V.bool false))⟩]
      (.ret))
     (.draw [⟨(some 83), none, .mv (.s 11)⟩,
        ⟨(some 84), none, .mv (.s 83)⟩,
        ⟨(some 85), (some (84, false)), .faddr 0 (.s 14)⟩,
        ⟨(some 86), (some (84, false)), .load none (.s 85)⟩,
        ⟨(some 87), (some (84, false)), .mv (.s 5)⟩,
        ⟨(some 88), (some (84, false)), .bin .eql (.s 86) (.s 87)⟩,
        ⟨(some 89), none, .pick (.s 84) (.c (V.bool true)) (.s 88)⟩,
        ⟨(some 90), none, .mv (.s 12)⟩,
        ⟨(some 91), none, .mv (.s 90)⟩,
        ⟨(some 92), (some (91, false)), .faddr 1 (.s 14)⟩,
        ⟨(some 93), (some (91, false)), .load none (.s 92)⟩,
        ⟨(some 94), (some (91, false)), .mv (.s 6)⟩,
        ⟨(some 95), (some (91, false)), .bin .eql (.s 93) (.s 94)⟩,
        ⟨(some 96), none, .pick (.s 91) (.c (V.bool true)) (.s 95)⟩,
        ⟨(some 11), none, .mv (.s 89)⟩,
        ⟨(some 12), none, .mv (.s 96)⟩] []
      (.done))))))) [11, 12] [62, 63, 64, 65, 66, 14, 67, 68, 69, 70, 71, 72, 73, 74, 75, 76, 77, 78, 79, 80, 81, 82, 4, 83, 84, 85, 86, 87, 88, 89, 90, 91, 92, 93, 94, 95, 96, 11, 12]
   (.ops [⟨(some 60), none, .mv (.s 13)⟩,
     ⟨(some 61), none, .bin .add (.s 60) (.c (V.int .i64 1))⟩,
     ⟨(some 13), none, .mv (.s 61)⟩]
   (.done)))
  (.exit 0))

def ir_palanquinlaw9_DependLayers : Fn' := ⟨101, [.tmp 4],
  .ops [⟨(some 2), none, .box ty_depend_Structure (.s 0)⟩,
    ⟨(some 4), none, .mv (.c (V.bool false))⟩]
  (.ops [⟨(some 15), none, .call fn_palanquinlaw9_awake []⟩,
    ⟨(some 16), none, .un .not (.s 15)⟩]
  (.cond (.s 16)
  (.ops [⟨(some 4), none, .mv (.c (V.bool false))⟩]
   (.ret))
  (.ops [⟨(some 17), none, .load (some 6) (.s 2)⟩,
     ⟨(some 18), none, .call fn_palanquinlaw9_heavy [(.s 17)]⟩]
   (.cond (.s 18)
   (.ops [⟨(some 4), none, .mv (.c (V.bool true))⟩]
    (.ret))
   (.ops [⟨(some 20), none, .load (some 6) (.s 2)⟩,
      ⟨(some 21), none, .mv (.s 1)⟩,
      ⟨(some 22), none, .call fn_depend_Layers [(.s 20), (.s 21)]⟩,
      ⟨(some 19), none, .mv (.s 22)⟩,
      ⟨(some 23), none, .ext 0 (.s 19)⟩,
      ⟨(some 24), none, .ext 1 (.s 19)⟩,
      ⟨(some 25), none, .ext 2 (.s 19)⟩,
      ⟨(some 5), none, .mv (.s 23)⟩,
      ⟨(some 6), none, .mv (.s 24)⟩,
      ⟨(some 7), none, .mv (.s 25)⟩]
    (.ops [⟨(some 27), none, .load (some 6) (.s 2)⟩,
      ⟨(some 28), none, .call fn_palanquinhelp_Structure [(.s 27)]⟩,
      ⟨(some 29), none, .mv (.s 1)⟩,
      ⟨(some 30), none, .call fn_palanquinref9_Layers [(.s 28), (.s 29)]⟩,
      ⟨(some 26), none, .mv (.s 30)⟩,
      ⟨(some 31), none, .ext 0 (.s 26)⟩,
      ⟨(some 32), none, .ext 1 (.s 26)⟩,
      ⟨(some 33), none, .ext 2 (.s 26)⟩,
      ⟨(some 8), none, .mv (.s 31)⟩,
      ⟨(some 9), none, .mv (.s 32)⟩,
      ⟨(some 10), none, .mv (.s 33)⟩]
    (.ops [⟨(some 34), none, .mv (.s 5)⟩,
      ⟨(some 35), none, .mv (.s 8)⟩,
      ⟨(some 36), none, .bin .neq (.s 34) (.s 35)⟩,
      ⟨(some 37), none, .mv (.s 36)⟩,
      ⟨(some 38), (some (37, false)), .mv (.s 6)⟩,
      ⟨(some 39), (some (37, false)), .mv (.s 9)⟩,
      ⟨(some 40), (some (37, false)), .bin .neq (.s 38) (.s 39)⟩,
      ⟨(some 41), none, .pick (.s 37) (.c (V.bool true)) (.s 40)⟩,
      ⟨(some 42), none, .mv (.s 41)⟩,
      ⟨(some 43), (some (42, false)), .mv (.s 7)⟩,
      ⟨(some 44), (some (42, false)), .mv (.s 10)⟩,
      ⟨(some 45), (some (42, false)), .eq .bool true (.s 43) (.s 44)⟩,
      ⟨(some 46), none, .pick (.s 42) (.c (V.bool true)) (.s 45)⟩]
    (.cond (.s 46)
    (.ops [⟨(some 4), none, .mv (.c (V.bool false))⟩]
     (.ret))
    (.ops [⟨(some 47), none, .mv (.s 7)⟩,
       ⟨(some 48), none, .un .not (.s 47)⟩]
     (.cond (.s 48)
     (.ops [⟨(some 49), none, .mv (.s 5)⟩,
        ⟨(some 50), none, .bin .eql (.s 49) (.c (V.int .i64 0))⟩,
        ⟨(some 51), none, .mv (.s 50)⟩,
        ⟨(some 52), (some (51, true)), .mv (.s 6)⟩,
        ⟨(some 53), (some (51, true)), .bin .eql (.s 52) (.c (V.int .i64 0))⟩,
        ⟨(some 54), none, .pick (.s 51) (.s 53) (.c (V.bool false))⟩,
        ⟨(some 4), none, .mv (.s 54)⟩]
      (.ret))
     (.ops [⟨(some 11), none, .mv (.c (V.bool false))⟩,
        ⟨(some 12), none, .mv (.c (V.bool false))⟩]
      (.ops [⟨(some 13), none, .mv (.c (V.int .i64 0))⟩]
      (.blk 0
      (.loop loop_palanquinlaw9_DependLayers_0 [11, 12, 13] [55, 56, 57, 58, 59, 62, 63, 64, 65, 66, 14, 67, 68, 69, 70, 71, 72, 73, 74, 75, 76, 77, 78, 79, 80, 81, 82, 4, 83, 84, 85, 86, 87, 88, 89, 90, 91, 92, 93, 94, 95, 96, 11, 12, 60, 61, 13]) [11, 12] [55, 56, 57, 58, 59, 62, 63, 64, 65, 66, 14, 67, 68, 69, 70, 71, 72, 73, 74, 75, 76, 77, 78, 79, 80, 81, 82, 4, 83, 84, 85, 86, 87, 88, 89, 90, 91, 92, 93, 94, 95, 96, 11, 12, 60, 61, 13]
      (.ops [⟨(some 97), none, .mv (.s 11)⟩,
        ⟨(some 98), none, .mv (.s 97)⟩,
        ⟨(some 99), (some (98, true)), .mv (.s 12)⟩,
        ⟨(some 100), none, .pick (.s 98) (.s 99) (.c (V.bool false))⟩,
        ⟨(some 4), none, .mv (.s 100)⟩]
      (.ret)))))))))))))))⟩

noncomputable def f_palanquinlaw9_DependLayers_0 (G : Sem') (t2 t1 t5 t6 : V) (L : List V) : M Res :=
  (M.lift (Ax.faddr 2 t2)).bind fun t56 =>
  (mload none t56).bind fun t57 =>
  (M.lift (vlen t57)).bind fun t58 =>
  (M.lift (Ax.bin .lss (L.getD 2 .undef) t58)).bind fun t59 =>
  M.ite t59
    (M.blk 1 (
      (M.lift (Ax.faddr 2 t2)).bind fun t62 =>
      (mload none t62).bind fun t63 =>
      (M.lift (Ax.iaddr none 5 t63 (L.getD 2 .undef))).bind fun t65 =>
      (mload (some 5) t65).bind fun t66 =>
      (mbox ty_depend_Template (V.agg [(V.int .i64 0), (V.int .i64 0), V.nils, V.nils, V.nils])).bind fun t14 =>
      (mstore 5 t14 t66).bind fun _ =>
      (M.lift (Ax.faddr 2 t14)).bind fun t67 =>
      (mload none t67).bind fun t68 =>
      (M.lift (Ax.iaddr none 1 t68 t1)).bind fun t70 =>
      (mload none t70).bind fun t71 =>
      (M.lift (Ax.bin .eql t71 (V.int .i64 0))).bind fun t72 =>
      M.ite t72
        (M.pure (.ex 1 [(L.getD 0 .undef), (L.getD 1 .undef)]))
        ((M.lift (Ax.faddr 0 t14)).bind fun t73 =>
        (mload none t73).bind fun t74 =>
        (M.lift (Ax.bin .gtr t74 t5)).bind fun t76 =>
        (guarded [(0, t76)] (some (0, false)) (M.lift (Ax.faddr 1 t14))).bind fun t78 =>
        (guarded [(0, t76)] (some (0, false)) (mload none t78)).bind fun t79 =>
        (guarded [(0, t76)] (some (0, false)) (M.pure t6)).bind fun t80 =>
        (guarded [(0, t76)] (some (0, false)) (M.lift (Ax.bin .gtr t79 t80))).bind fun t81 =>
        (M.lift (Ax.pick t76 (V.bool true) t81)).bind fun t82 =>
        M.ite t82
          (M.pure (.ret [(V.bool false)]))
          ((guarded [(0, (L.getD 0 .undef))] (some (0, false)) (M.lift (Ax.faddr 0 t14))).bind fun t85 =>
          (guarded [(0, (L.getD 0 .undef))] (some (0, false)) (mload none t85)).bind fun t86 =>
          (guarded [(0, (L.getD 0 .undef))] (some (0, false)) (M.pure t5)).bind fun t87 =>
          (guarded [(0, (L.getD 0 .undef))] (some (0, false)) (M.lift (Ax.bin .eql t86 t87))).bind fun t88 =>
          (M.lift (Ax.pick (L.getD 0 .undef) (V.bool true) t88)).bind fun t89 =>
          (guarded [(0, (L.getD 1 .undef))] (some (0, false)) (M.lift (Ax.faddr 1 t14))).bind fun t92 =>
          (guarded [(0, (L.getD 1 .undef))] (some (0, false)) (mload none t92)).bind fun t93 =>
          (guarded [(0, (L.getD 1 .undef))] (some (0, false)) (M.pure t6)).bind fun t94 =>
          (guarded [(0, (L.getD 1 .undef))] (some (0, false)) (M.lift (Ax.bin .eql t93 t94))).bind fun t95 =>
          (M.lift (Ax.pick (L.getD 1 .undef) (V.bool true) t95)).bind fun t96 =>
          M.pure (.nrm [t89, t96])))) fun L0 =>
    (M.lift (Ax.bin .add (L.getD 2 .undef) (V.int .i64 1))).bind fun t61 =>
    M.pure (.nrm [(L0.getD 0 .undef), (L0.getD 1 .undef), t61]))
    (M.pure (.ex 0 [(L.getD 0 .undef), (L.getD 1 .undef)]))

noncomputable def f_palanquinlaw9_DependLayers (G : Sem') (t0 t1 : V) : M Res :=
  (mbox ty_depend_Structure t0).bind fun t2 =>
  (G fn_palanquinlaw9_awake []).bind fun t15 =>
  (M.lift (Ax.un .not t15)).bind fun t16 =>
  M.ite t16
    (M.pure (.ret [(V.bool false)]))
    ((mload (some 6) t2).bind fun t17 =>
    (G fn_palanquinlaw9_heavy [t17]).bind fun t18 =>
    M.ite t18
      (M.pure (.ret [(V.bool true)]))
      ((mload (some 6) t2).bind fun t20 =>
      (G fn_depend_Layers [t20, t1]).bind fun t22 =>
      (M.lift (Ax.ext 0 t22)).bind fun t23 =>
      (M.lift (Ax.ext 1 t22)).bind fun t24 =>
      (M.lift (Ax.ext 2 t22)).bind fun t25 =>
      (mload (some 6) t2).bind fun t27 =>
      (G fn_palanquinhelp_Structure [t27]).bind fun t28 =>
      (G fn_palanquinref9_Layers [t28, t1]).bind fun t30 =>
      (M.lift (Ax.ext 0 t30)).bind fun t31 =>
      (M.lift (Ax.ext 1 t30)).bind fun t32 =>
      (M.lift (Ax.ext 2 t30)).bind fun t33 =>
      (M.lift (Ax.bin .neq t23 t31)).bind fun t36 =>
      (guarded [(0, t36)] (some (0, false)) (M.pure t24)).bind fun t38 =>
      (guarded [(0, t36)] (some (0, false)) (M.pure t32)).bind fun t39 =>
      (guarded [(0, t36)] (some (0, false)) (M.lift (Ax.bin .neq t38 t39))).bind fun t40 =>
      (M.lift (Ax.pick t36 (V.bool true) t40)).bind fun t41 =>
      (guarded [(0, t41)] (some (0, false)) (M.pure t25)).bind fun t43 =>
      (guarded [(0, t41)] (some (0, false)) (M.pure t33)).bind fun t44 =>
      (guarded [(0, t41)] (some (0, false)) (M.lift (eqr .bool true t43 t44))).bind fun t45 =>
      (M.lift (Ax.pick t41 (V.bool true) t45)).bind fun t46 =>
      M.ite t46
        (M.pure (.ret [(V.bool false)]))
        ((M.lift (Ax.un .not t25)).bind fun t48 =>
        M.ite t48
          ((M.lift (Ax.bin .eql t23 (V.int .i64 0))).bind fun t50 =>
          (guarded [(0, t50)] (some (0, true)) (M.pure t24)).bind fun t52 =>
          (guarded [(0, t50)] (some (0, true)) (M.lift (Ax.bin .eql t52 (V.int .i64 0)))).bind fun t53 =>
          (M.lift (Ax.pick t50 t53 (V.bool false))).bind fun t54 =>
          M.pure (.ret [t54]))
          (M.blk 0 (
            M.iter (f_palanquinlaw9_DependLayers_0 G t2 t1 t23 t24) [(V.bool false), (V.bool false), (V.int .i64 0)]) fun L1 =>
          (guarded [(0, (L1.getD 0 .undef))] (some (0, true)) (M.pure (L1.getD 1 .undef))).bind fun t99 =>
          (M.lift (Ax.pick (L1.getD 0 .undef) t99 (V.bool false))).bind fun t100 =>
          M.pure (.ret [t100])))))

theorem eq_palanquinlaw9_DependLayers (G : Sem') (t0 t1 : V) : execK G ir_palanquinlaw9_DependLayers.rv ir_palanquinlaw9_DependLayers.body [] [] (params 0 [t0, t1]) = f_palanquinlaw9_DependLayers G t0 t1 := by kernel_rfl

theorem tb_palanquinlaw9_DependLayers : T fn_palanquinlaw9_DependLayers = some ir_palanquinlaw9_DependLayers := by kernel_rfl

theorem ok_palanquinlaw9_DependLayers {t0 t1 : V} {H : Heap} {Q : V → Heap → Prop} (h : Ok (f_palanquinlaw9_DependLayers (sem T) t0 t1) H fun r H' => ∃ L, r = .ret L ∧ Q (tupled L) H') : Ok (sem T fn_palanquinlaw9_DependLayers [t0, t1]) H Q :=
  ok_sem tb_palanquinlaw9_DependLayers (Nat.le_of_ble_eq_true rfl) (eq_palanquinlaw9_DependLayers (sem T) t0 t1) h

end Go.Ax
