/-
  Texts of mine, put together by program (wip/slim.py), for law_dependSays: part 6.
-/
import Derived.Test.YtblfcdaedibdnaaRs5
/- FnD3 -/
set_option maxRecDepth 100000
set_option linter.unusedVariables false
namespace Go.Ax
open Go.Proofs
noncomputable def ir_depend_writer_nums : Fn' := irOf fn_depend_writer_nums
noncomputable def f_depend_writer_nums_0 (G : Sem') (t9 t8 t3 t2 : V) (L : List V) : M Res :=
 (M.lift (Ax.bin .lss (L.getD 0 .undef) t9)).bind fun t11 =>
 M.ite t11
 (M.blk 1 (
 (M.lift (Ax.iaddr none 1 t8 (L.getD 0 .undef))).bind fun t12 =>
 (mload none t12).bind fun t13 =>
 (mload (some 1) t3).bind fun t14 =>
 (G fn_depend_writer_num [t14, t13, t2]).bind fun t17 =>
 M.pure (.nrm [])) fun _ =>
 (M.lift (Ax.bin .add (L.getD 0 .undef) (V.int .i64 1))).bind fun t18 =>
 M.pure (.nrm [t18]))
 (M.pure (.ex 0 []))

noncomputable def f_depend_writer_nums (G : Sem') (t0 t1 t2 : V) : M Res :=
 (mbox ty_depend_writer t0).bind fun t3 =>
 (M.lift (vlen t1)).bind fun t9 =>
 M.blk 0 (
 M.iter (f_depend_writer_nums_0 G t9 t1 t3 t2) [(V.int .i64 0)]) fun _ =>
 M.pure (.ret [])

theorem eq_depend_writer_nums (G : Sem') (t0 t1 t2 : V) : execK G ir_depend_writer_nums.rv ir_depend_writer_nums.body [] [] (params 0 [t0, t1, t2]) = f_depend_writer_nums G t0 t1 t2 := by kernel_rfl

theorem tb_depend_writer_nums : T fn_depend_writer_nums = some ir_depend_writer_nums := by kernel_rfl

theorem ok_depend_writer_nums {t0 t1 t2 : V} {H : Heap} {Q : V → Heap → Prop} (h : Ok (f_depend_writer_nums (sem T) t0 t1 t2) H fun r H' => ∃ L, r = .ret L ∧ Q (tupled L) H') : Ok (sem T fn_depend_writer_nums [t0, t1, t2]) H Q :=
  ok_sem tb_depend_writer_nums (Nat.le_of_ble_eq_true (by kernel_rfl)) (eq_depend_writer_nums (sem T) t0 t1 t2) h

noncomputable def ir_bits_Writer_AddNS : Fn' := irOf fn_bits_Writer_AddNS
noncomputable def f_bits_Writer_AddNS (G : Sem') (t0 t1 t2 : V) : M Res :=
 (M.lift (Ax.bin .lss t2 (V.int .u64 1))).bind fun t10 =>
 (guarded [(0, t10)] (some (0, false)) (M.pure t2)).bind fun t12 =>
 (guarded [(0, t10)] (some (0, false)) (M.lift (Ax.bin .gtr t12 (V.int .u64 4294967296)))).bind fun t13 =>
 (M.lift (Ax.pick t10 (V.bool true) t13)).bind fun t14 =>
 (guarded [(0, t14)] (some (0, false)) (M.pure t1)).bind fun t16 =>
 (guarded [(0, t14)] (some (0, false)) (M.pure t2)).bind fun t17 =>
 (guarded [(0, t14)] (some (0, false)) (M.lift (Ax.bin .geq t16 t17))).bind fun t18 =>
 (M.lift (Ax.pick t14 (V.bool true) t18)).bind fun t19 =>
 M.ite t19
 (M.pure (.ret [(V.int .i64 1)]))
 ((G fn_bits_short [t2]).bind fun t22 =>
 (M.lift (Ax.ext 0 t22)).bind fun t23 =>
 (M.lift (Ax.ext 1 t22)).bind fun t24 =>
 (M.lift (Ax.bin .lss t1 t24)).bind fun t27 =>
 M.ite t27
 ((M.lift (Ax.bin .sub t23 (V.int .i64 1))).bind fun t31 =>
 (G fn_bits_Writer_Add [t0, t1, t31]).bind fun t32 =>
 M.pure (.ret [t32]))
 ((M.lift (Ax.bin .add t1 t24)).bind fun t36 =>
 (G fn_bits_Writer_Add [t0, t36, t23]).bind fun t38 =>
 M.pure (.ret [t38])))

theorem eq_bits_Writer_AddNS (G : Sem') (t0 t1 t2 : V) : execK G ir_bits_Writer_AddNS.rv ir_bits_Writer_AddNS.body [] [] (params 0 [t0, t1, t2]) = f_bits_Writer_AddNS G t0 t1 t2 := by kernel_rfl

theorem tb_bits_Writer_AddNS : T fn_bits_Writer_AddNS = some ir_bits_Writer_AddNS := by kernel_rfl

theorem ok_bits_Writer_AddNS {t0 t1 t2 : V} {H : Heap} {Q : V → Heap → Prop} (h : Ok (f_bits_Writer_AddNS (sem T) t0 t1 t2) H fun r H' => ∃ L, r = .ret L ∧ Q (tupled L) H') : Ok (sem T fn_bits_Writer_AddNS [t0, t1, t2]) H Q :=
  ok_sem tb_bits_Writer_AddNS (Nat.le_of_ble_eq_true (by kernel_rfl)) (eq_bits_Writer_AddNS (sem T) t0 t1 t2) h

noncomputable def ir_bits_short : Fn' := irOf fn_bits_short
noncomputable def f_bits_short (G : Sem') (t0 : V) : M Res :=
 (G fn_math_bits_Len64 [t0]).bind fun t6 =>
 (M.lift (Ax.bin .shl (V.int .u64 1) t6)).bind fun t9 =>
 (M.lift (Ax.bin .sub t9 t0)).bind fun t11 =>
 M.pure (.ret [t6, t11])

theorem eq_bits_short (G : Sem') (t0 : V) : execK G ir_bits_short.rv ir_bits_short.body [] [] (params 0 [t0]) = f_bits_short G t0 := by kernel_rfl

theorem tb_bits_short : T fn_bits_short = some ir_bits_short := by kernel_rfl

theorem ok_bits_short {t0 : V} {H : Heap} {Q : V → Heap → Prop} (h : Ok (f_bits_short (sem T) t0) H fun r H' => ∃ L, r = .ret L ∧ Q (tupled L) H') : Ok (sem T fn_bits_short [t0]) H Q :=
  ok_sem tb_bits_short (Nat.le_of_ble_eq_true (by kernel_rfl)) (eq_bits_short (sem T) t0) h

noncomputable def ir_depend_writer_own : Fn' := irOf fn_depend_writer_own
noncomputable def f_depend_writer_own_0 (G : Sem') (t5 : V) (L : List V) : M Res :=
 (M.lift (Ax.bin .sub t5 (V.int .i64 1))).bind fun t14 =>
 (M.lift (Ax.bin .mul (V.int .i64 4) (L.getD 0 .undef))).bind fun t16 =>
 (M.lift (Ax.bin .shr t14 t16)).bind fun t17 =>
 (M.lift (Ax.bin .neq t17 (V.int .i64 0))).bind fun t18 =>
 M.ite t18
 (M.blk 3 (
 (M.lift (Ax.bin .add (L.getD 0 .undef) (V.int .i64 1))).bind fun t20 =>
 M.pure (.nrm [t20])) fun L0 =>
 M.pure (.nrm [(L0.getD 0 .undef)]))
 (M.pure (.ex 2 [(L.getD 0 .undef)]))

noncomputable def f_depend_writer_own_1 (G : Sem') (t8 t7 t2 : V) (L : List V) : M Res :=
 (M.lift (Ax.bin .lss (L.getD 0 .undef) t8)).bind fun t10 =>
 M.ite t10
 (M.blk 1 (
 (M.lift (Ax.iaddr none 1 t7 (L.getD 0 .undef))).bind fun t11 =>
 (mload none t11).bind fun t12 =>
 M.blk 2 (
 M.iter (f_depend_writer_own_0 G t12) [(V.int .i64 1)]) fun L1 =>
 (mload (some 1) t2).bind fun t21 =>
 (G fn_depend_writer_num [t21, (L1.getD 0 .undef), (V.int .i64 2)]).bind fun t23 =>
 (mload (some 1) t2).bind fun t24 =>
 (M.lift (Ax.bin .sub t12 (V.int .i64 1))).bind fun t26 =>
 (M.lift (Ax.bin .mul (V.int .i64 4) (L1.getD 0 .undef))).bind fun t28 =>
 (G fn_depend_writer_num [t24, t26, t28]).bind fun t29 =>
 M.pure (.nrm [])) fun _ =>
 (M.lift (Ax.bin .add (L.getD 0 .undef) (V.int .i64 1))).bind fun t30 =>
 M.pure (.nrm [t30]))
 (M.pure (.ex 0 []))

noncomputable def f_depend_writer_own (G : Sem') (t0 t1 : V) : M Res :=
 (mbox ty_depend_writer t0).bind fun t2 =>
 (M.lift (vlen t1)).bind fun t8 =>
 M.blk 0 (
 M.iter (f_depend_writer_own_1 G t8 t1 t2) [(V.int .i64 0)]) fun _ =>
 (mload (some 1) t2).bind fun t31 =>
 (G fn_depend_writer_num [t31, (V.int .i64 0), (V.int .i64 2)]).bind fun t32 =>
 M.pure (.ret [])

theorem eq_depend_writer_own (G : Sem') (t0 t1 : V) : execK G ir_depend_writer_own.rv ir_depend_writer_own.body [] [] (params 0 [t0, t1]) = f_depend_writer_own G t0 t1 := by kernel_rfl

theorem tb_depend_writer_own : T fn_depend_writer_own = some ir_depend_writer_own := by kernel_rfl

theorem ok_depend_writer_own {t0 t1 : V} {H : Heap} {Q : V → Heap → Prop} (h : Ok (f_depend_writer_own (sem T) t0 t1) H fun r H' => ∃ L, r = .ret L ∧ Q (tupled L) H') : Ok (sem T fn_depend_writer_own [t0, t1]) H Q :=
  ok_sem tb_depend_writer_own (Nat.le_of_ble_eq_true (by kernel_rfl)) (eq_depend_writer_own (sem T) t0 t1) h

noncomputable def ir_palanquinlaw9_long : Fn' := irOf fn_palanquinlaw9_long
noncomputable def f_palanquinlaw9_long (G : Sem') (t0 : V) : M Res :=
 (mbox ty_depend_Frame t0).bind fun t1 =>
 (M.lift (Ax.faddr 5 t1)).bind fun t3 =>
 (mload (some 6) t3).bind fun t4 =>
 (G fn_palanquinlaw9_heavy [t4]).bind fun t5 =>
 (guarded [(0, t5)] (some (0, false)) (M.lift (Ax.faddr 16 t1))).bind fun t7 =>
 (guarded [(0, t5)] (some (0, false)) (mload none t7)).bind fun t8 =>
 (guarded [(0, t5)] (some (0, false)) (M.lift (vlen t8))).bind fun t9 =>
 (guarded [(0, t5)] (some (0, false)) (M.lift (Ax.bin .gtr t9 (V.int .i64 100)))).bind fun t10 =>
 (M.lift (Ax.pick t5 (V.bool true) t10)).bind fun t11 =>
 (guarded [(0, t11)] (some (0, false)) (M.lift (Ax.faddr 17 t1))).bind fun t13 =>
 (guarded [(0, t11)] (some (0, false)) (mload none t13)).bind fun t14 =>
 (guarded [(0, t11)] (some (0, false)) (M.lift (vlen t14))).bind fun t15 =>
 (guarded [(0, t11)] (some (0, false)) (M.lift (Ax.bin .gtr t15 (V.int .i64 100)))).bind fun t16 =>
 (M.lift (Ax.pick t11 (V.bool true) t16)).bind fun t17 =>
 (guarded [(0, t17)] (some (0, false)) (M.lift (Ax.faddr 18 t1))).bind fun t19 =>
 (guarded [(0, t17)] (some (0, false)) (mload none t19)).bind fun t20 =>
 (guarded [(0, t17)] (some (0, false)) (M.lift (vlen t20))).bind fun t21 =>
 (guarded [(0, t17)] (some (0, false)) (M.lift (Ax.bin .gtr t21 (V.int .i64 100)))).bind fun t22 =>
 (M.lift (Ax.pick t17 (V.bool true) t22)).bind fun t23 =>
 M.pure (.ret [t23])

theorem eq_palanquinlaw9_long (G : Sem') (t0 : V) : execK G ir_palanquinlaw9_long.rv ir_palanquinlaw9_long.body [] [] (params 0 [t0]) = f_palanquinlaw9_long G t0 := by kernel_rfl

theorem tb_palanquinlaw9_long : T fn_palanquinlaw9_long = some ir_palanquinlaw9_long := by kernel_rfl

theorem ok_palanquinlaw9_long {t0 : V} {H : Heap} {Q : V → Heap → Prop} (h : Ok (f_palanquinlaw9_long (sem T) t0) H fun r H' => ∃ L, r = .ret L ∧ Q (tupled L) H') : Ok (sem T fn_palanquinlaw9_long [t0]) H Q :=
  ok_sem tb_palanquinlaw9_long (Nat.le_of_ble_eq_true (by kernel_rfl)) (eq_palanquinlaw9_long (sem T) t0) h

noncomputable def ir_palanquinlaw9_heavy : Fn' := irOf fn_palanquinlaw9_heavy
noncomputable def f_palanquinlaw9_heavy_0 (G : Sem') (t1 t2 : V) (L : List V) : M Res :=
 (M.lift (Ax.faddr 2 t1)).bind fun t18 =>
 (mload none t18).bind fun t19 =>
 (M.lift (vlen t19)).bind fun t20 =>
 (M.lift (Ax.bin .lss (L.getD 1 .undef) t20)).bind fun t21 =>
 (guarded [(0, t21)] (some (0, true)) (M.pure (L.getD 1 .undef))).bind fun t23 =>
 (guarded [(0, t21)] (some (0, true)) (M.lift (Ax.bin .lss t23 (V.int .i64 100)))).bind fun t24 =>
 (M.lift (Ax.pick t21 t24 (V.bool false))).bind fun t25 =>
 M.ite t25
 (M.blk 1 (
 (M.lift (Ax.faddr 2 t1)).bind fun t28 =>
 (mload none t28).bind fun t29 =>
 (M.lift (Ax.iaddr none 5 t29 (L.getD 1 .undef))).bind fun t31 =>
 (mload (some 5) t31).bind fun t32 =>
 (mbox ty_depend_Template (V.agg [(V.int .i64 0), (V.int .i64 0), V.nils, V.nils, V.nils])).bind fun t5 =>
 (mstore 5 t5 t32).bind fun _ =>
 (M.lift (Ax.faddr 2 t5)).bind fun t34 =>
 (mload none t34).bind fun t35 =>
 (M.lift (vlen t35)).bind fun t36 =>
 (M.lift (Ax.bin .add (L.getD 0 .undef) t36)).bind fun t37 =>
 (M.lift (Ax.faddr 3 t5)).bind fun t38 =>
 (mload none t38).bind fun t39 =>
 (M.lift (vlen t39)).bind fun t40 =>
 (M.lift (Ax.bin .add t37 t40)).bind fun t41 =>
 (M.lift (Ax.faddr 4 t5)).bind fun t42 =>
 (mload none t42).bind fun t43 =>
 (M.lift (vlen t43)).bind fun t44 =>
 (M.lift (Ax.bin .add t41 t44)).bind fun t45 =>
 M.pure (.nrm [t45])) fun L0 =>
 (M.lift (Ax.bin .add (L.getD 1 .undef) (V.int .i64 1))).bind fun t27 =>
 M.pure (.nrm [(L0.getD 0 .undef), t27]))
 (M.pure (.ex 0 [(L.getD 0 .undef)]))

noncomputable def f_palanquinlaw9_heavy (G : Sem') (t0 : V) : M Res :=
 (mbox ty_depend_Structure t0).bind fun t1 =>
 (M.lift (Ax.faddr 2 t1)).bind fun t6 =>
 (mload none t6).bind fun t7 =>
 (M.lift (vlen t7)).bind fun t8 =>
 (M.lift (Ax.faddr 4 t1)).bind fun t9 =>
 (mload none t9).bind fun t10 =>
 (M.lift (vlen t10)).bind fun t11 =>
 (M.lift (Ax.bin .add t8 t11)).bind fun t12 =>
 (M.lift (Ax.faddr 5 t1)).bind fun t13 =>
 (mload none t13).bind fun t14 =>
 (M.lift (vlen t14)).bind fun t15 =>
 (M.lift (Ax.bin .add t12 t15)).bind fun t16 =>
 M.blk 0 (
 M.iter (f_palanquinlaw9_heavy_0 G t1 (V.bool false)) [t16, (V.int .i64 0)]) fun L1 =>
 (M.lift (Ax.bin .gtr (L1.getD 0 .undef) (V.int .i64 6000))).bind fun t47 =>
 (guarded [(0, t47)] (some (0, false)) (M.lift (Ax.faddr 2 t1))).bind fun t49 =>
 (guarded [(0, t47)] (some (0, false)) (mload none t49)).bind fun t50 =>
 (guarded [(0, t47)] (some (0, false)) (M.lift (vlen t50))).bind fun t51 =>
 (guarded [(0, t47)] (some (0, false)) (M.lift (Ax.bin .gtr t51 (V.int .i64 80)))).bind fun t52 =>
 (M.lift (Ax.pick t47 (V.bool true) t52)).bind fun t53 =>
 M.pure (.ret [t53])

theorem eq_palanquinlaw9_heavy (G : Sem') (t0 : V) : execK G ir_palanquinlaw9_heavy.rv ir_palanquinlaw9_heavy.body [] [] (params 0 [t0]) = f_palanquinlaw9_heavy G t0 := by kernel_rfl

theorem tb_palanquinlaw9_heavy : T fn_palanquinlaw9_heavy = some ir_palanquinlaw9_heavy := by kernel_rfl

theorem ok_palanquinlaw9_heavy {t0 : V} {H : Heap} {Q : V → Heap → Prop} (h : Ok (f_palanquinlaw9_heavy (sem T) t0) H fun r H' => ∃ L, r = .ret L ∧ Q (tupled L) H') : Ok (sem T fn_palanquinlaw9_heavy [t0]) H Q :=
  ok_sem tb_palanquinlaw9_heavy (Nat.le_of_ble_eq_true (by kernel_rfl)) (eq_palanquinlaw9_heavy (sem T) t0) h

noncomputable def ir_palanquinhelp_Frame : Fn' := irOf fn_palanquinhelp_Frame
noncomputable def f_palanquinhelp_Frame (G : Sem') (t0 : V) : M Res :=
 (mbox ty_depend_Frame t0).bind fun t1 =>
 (mbox ty_palanquinref9_Frame (V.agg [(V.bool false), (V.bool false), (V.int .i64 0), (V.int .u16 0), (V.bool false), (V.int .i64 0), (V.int .i64 0), V.nils, (V.int .i64 0), V.nils, V.nils, (V.bool false), (V.int .u32 0), (V.bool false), (V.bool false), (V.bool false), V.nils, V.nils, V.nils])).bind fun t2 =>
 (M.lift (Ax.faddr 0 t1)).bind fun t3 =>
 (mload none t3).bind fun t4 =>
 (M.lift (Ax.faddr 1 t1)).bind fun t5 =>
 (mload none t5).bind fun t6 =>
 (M.lift (Ax.faddr 2 t1)).bind fun t7 =>
 (mload none t7).bind fun t8 =>
 (M.lift (Ax.faddr 3 t1)).bind fun t9 =>
 (mload none t9).bind fun t10 =>
 (M.lift (Ax.faddr 4 t1)).bind fun t11 =>
 (mload none t11).bind fun t12 =>
 (M.lift (Ax.faddr 5 t1)).bind fun t13 =>
 (mload (some 6) t13).bind fun t14 =>
 (M.lift (Ax.faddr 11 t1)).bind fun t16 =>
 (mload none t16).bind fun t17 =>
 (M.lift (Ax.faddr 12 t1)).bind fun t18 =>
 (mload none t18).bind fun t19 =>
 (M.lift (Ax.faddr 13 t1)).bind fun t20 =>
 (mload none t20).bind fun t21 =>
 (M.lift (Ax.faddr 14 t1)).bind fun t22 =>
 (mload none t22).bind fun t23 =>
 (M.lift (Ax.faddr 15 t1)).bind fun t24 =>
 (mload none t24).bind fun t25 =>
 (M.lift (Ax.faddr 16 t1)).bind fun t26 =>
 (mload none t26).bind fun t27 =>
 (M.lift (Ax.faddr 17 t1)).bind fun t28 =>
 (mload none t28).bind fun t29 =>
 (M.lift (Ax.faddr 18 t1)).bind fun t30 =>
 (mload none t30).bind fun t31 =>
 M.getH.bind fun h0 =>
 (G fn_palanquinhelp_Structure [t14]).bind fun t15 =>
 M.getH.bind fun h0' =>
 (M.unch t30 h0 h0').bind fun _ =>
 (M.unch t28 h0 h0').bind fun _ =>
 (M.unch t26 h0 h0').bind fun _ =>
 (M.unch t24 h0 h0').bind fun _ =>
 (M.unch t22 h0 h0').bind fun _ =>
 (M.unch t20 h0 h0').bind fun _ =>
 (M.unch t18 h0 h0').bind fun _ =>
 (M.unch t16 h0 h0').bind fun _ =>
 (M.unch t11 h0 h0').bind fun _ =>
 (M.unch t9 h0 h0').bind fun _ =>
 (M.unch t7 h0 h0').bind fun _ =>
 (M.unch t5 h0 h0').bind fun _ =>
 (M.unch t3 h0 h0').bind fun _ =>
 (M.lift (Ax.build [(V.bool false), (V.bool false), (V.int .i64 0), (V.int .u16 0), (V.bool false), (V.int .i64 0), (V.int .i64 0), V.nils, (V.int .i64 0), V.nils, V.nils, (V.bool false), (V.int .u32 0), (V.bool false), (V.bool false), (V.bool false), V.nils, V.nils, V.nils] [(0, 1, t4), (1, 1, t6), (2, 1, t8), (3, 1, t10), (4, 1, t12), (5, 6, t15), (11, 1, t17), (12, 1, t19), (13, 1, t21), (14, 1, t23), (15, 1, t25), (16, 1, t27), (17, 1, t29), (18, 1, t31)])).bind fun t32 =>
 (mstore 19 t2 t32).bind fun _ =>
 (mload (some 19) t2).bind fun r0 =>
 M.pure (.ret [r0])

theorem eq_palanquinhelp_Frame (G : Sem') (t0 : V) : execK G ir_palanquinhelp_Frame.rv ir_palanquinhelp_Frame.body [] [] (params 0 [t0]) = f_palanquinhelp_Frame G t0 := by kernel_rfl

theorem tb_palanquinhelp_Frame : T fn_palanquinhelp_Frame = some ir_palanquinhelp_Frame := by kernel_rfl

theorem ok_palanquinhelp_Frame {t0 : V} {H : Heap} {Q : V → Heap → Prop} (h : Ok (f_palanquinhelp_Frame (sem T) t0) H fun r H' => ∃ L, r = .ret L ∧ Q (tupled L) H') : Ok (sem T fn_palanquinhelp_Frame [t0]) H Q :=
  ok_sem tb_palanquinhelp_Frame (Nat.le_of_ble_eq_true (by kernel_rfl)) (eq_palanquinhelp_Frame (sem T) t0) h

noncomputable def ir_palanquinref9_Of : Fn' := irOf fn_palanquinref9_Of
noncomputable def f_palanquinref9_Of (G : Sem') (t0 t1 : V) : M Res :=
 (mbox ty_palanquinref9_Frame t0).bind fun t2 =>
 (mbox ty_palanquinref9_Structure t1).bind fun t3 =>
 (mbox ty_palanquinref9_Template (V.agg [(V.int .i64 0), (V.int .i64 0), V.nils, V.nils, V.nils])).bind fun t4 =>
 (mload (some 19) t2).bind fun t8 =>
 (mload (some 6) t3).bind fun t9 =>
 (G fn_palanquinref9_holds [t8, t9]).bind fun t10 =>
 (mbox ty_palanquinref9_Structure (V.agg [(V.int .i64 0), (V.int .i64 0), V.nils, (V.int .i64 0), V.nils, V.nils])).bind fun t6 =>
 (mstore 6 t6 t10).bind fun _ =>
 (M.lift (Ax.faddr 2 t2)).bind fun t11 =>
 (mload none t11).bind fun t12 =>
 (M.lift (Ax.bin .lss t12 (V.int .i64 0))).bind fun t13 =>
 (guarded [(0, t13)] (some (0, false)) (M.lift (Ax.faddr 2 t2))).bind fun t15 =>
 (guarded [(0, t13)] (some (0, false)) (mload none t15)).bind fun t16 =>
 (guarded [(0, t13)] (some (0, false)) (M.lift (Ax.bin .gtr t16 (V.int .i64 63)))).bind fun t17 =>
 (M.lift (Ax.pick t13 (V.bool true) t17)).bind fun t18 =>
 (guarded [(0, t18)] (some (0, false)) (mload (some 6) t6)).bind fun t20 =>
 (guarded [(0, t18)] (some (0, false)) (G fn_palanquinref9_Fine [t20])).bind fun t21 =>
 (guarded [(0, t18)] (some (0, false)) (M.lift (Ax.un .not t21))).bind fun t22 =>
 (M.lift (Ax.pick t18 (V.bool true) t22)).bind fun t23 =>
 M.ite t23
 ((M.lift (Ax.build [(V.int .i64 0), (V.int .i64 0), V.nils, V.nils, V.nils] [])).bind fun t24 =>
 (mstore 5 t4 t24).bind fun _ =>
 (mload (some 5) t4).bind fun r0 =>
 M.pure (.ret [r0, (V.bool false)]))
 ((M.lift (Ax.faddr 2 t2)).bind fun t25 =>
 (mload none t25).bind fun t26 =>
 (M.lift (Ax.bin .add t26 (V.int .i64 64))).bind fun t27 =>
 (M.lift (Ax.faddr 0 t6)).bind fun t28 =>
 (mload none t28).bind fun t29 =>
 (M.lift (Ax.bin .sub t27 t29)).bind fun t30 =>
 (M.lift (Ax.bin .rem t30 (V.int .i64 64))).bind fun t31 =>
 (M.lift (Ax.faddr 2 t6)).bind fun t33 =>
 (mload none t33).bind fun t34 =>
 (M.lift (vlen t34)).bind fun t35 =>
 (M.lift (Ax.bin .geq t31 t35)).bind fun t36 =>
 M.ite t36
 ((M.lift (Ax.build [(V.int .i64 0), (V.int .i64 0), V.nils, V.nils, V.nils] [])).bind fun t37 =>
 (mstore 5 t4 t37).bind fun _ =>
 (mload (some 5) t4).bind fun r0 =>
 M.pure (.ret [r0, (V.bool false)]))
 ((M.lift (Ax.faddr 2 t6)).bind fun t38 =>
 (mload none t38).bind fun t39 =>
 (M.lift (Ax.iaddr none 5 t39 t31)).bind fun t41 =>
 (mload (some 5) t41).bind fun t42 =>
 (mstore 5 t4 t42).bind fun _ =>
 (mload (some 5) t4).bind fun r0 =>
 M.pure (.ret [r0, (V.bool true)])))

theorem eq_palanquinref9_Of (G : Sem') (t0 t1 : V) : execK G ir_palanquinref9_Of.rv ir_palanquinref9_Of.body [] [] (params 0 [t0, t1]) = f_palanquinref9_Of G t0 t1 := by kernel_rfl

theorem tb_palanquinref9_Of : T fn_palanquinref9_Of = some ir_palanquinref9_Of := by kernel_rfl

theorem ok_palanquinref9_Of {t0 t1 : V} {H : Heap} {Q : V → Heap → Prop} (h : Ok (f_palanquinref9_Of (sem T) t0 t1) H fun r H' => ∃ L, r = .ret L ∧ Q (tupled L) H') : Ok (sem T fn_palanquinref9_Of [t0, t1]) H Q :=
  ok_sem tb_palanquinref9_Of (Nat.le_of_ble_eq_true (by kernel_rfl)) (eq_palanquinref9_Of (sem T) t0 t1) h

noncomputable def ir_palanquinref9_holds : Fn' := irOf fn_palanquinref9_holds
noncomputable def f_palanquinref9_holds (G : Sem') (t0 t1 : V) : M Res :=
 (mbox ty_palanquinref9_Frame t0).bind fun t2 =>
 (mbox ty_palanquinref9_Structure t1).bind fun t3 =>
 (mbox ty_palanquinref9_Structure (V.agg [(V.int .i64 0), (V.int .i64 0), V.nils, (V.int .i64 0), V.nils, V.nils])).bind fun t4 =>
 (M.lift (Ax.faddr 4 t2)).bind fun t5 =>
 (mload none t5).bind fun t6 =>
 M.ite t6
 ((M.lift (Ax.faddr 5 t2)).bind fun t7 =>
 (mload (some 6) t7).bind fun t8 =>
 (mstore 6 t4 t8).bind fun _ =>
 (mload (some 6) t4).bind fun r0 =>
 M.pure (.ret [r0]))
 ((mload (some 6) t3).bind fun t9 =>
 (mstore 6 t4 t9).bind fun _ =>
 (mload (some 6) t4).bind fun r0 =>
 M.pure (.ret [r0]))

theorem eq_palanquinref9_holds (G : Sem') (t0 t1 : V) : execK G ir_palanquinref9_holds.rv ir_palanquinref9_holds.body [] [] (params 0 [t0, t1]) = f_palanquinref9_holds G t0 t1 := by kernel_rfl

theorem tb_palanquinref9_holds : T fn_palanquinref9_holds = some ir_palanquinref9_holds := by kernel_rfl

theorem ok_palanquinref9_holds {t0 t1 : V} {H : Heap} {Q : V → Heap → Prop} (h : Ok (f_palanquinref9_holds (sem T) t0 t1) H fun r H' => ∃ L, r = .ret L ∧ Q (tupled L) H') : Ok (sem T fn_palanquinref9_holds [t0, t1]) H Q :=
  ok_sem tb_palanquinref9_holds (Nat.le_of_ble_eq_true (by kernel_rfl)) (eq_palanquinref9_holds (sem T) t0 t1) h

noncomputable def ir_palanquinref9_Bytes : Fn' := irOf fn_palanquinref9_Bytes
noncomputable def f_palanquinref9_Bytes_0 (G : Sem') (t6 t2 t4 t5 : V) (L : List V) : M Res :=
 (M.lift (Ax.faddr 13 t2)).bind fun t104 =>
 (mload none t104).bind fun t105 =>
 (guarded [(0, t105)] (some (0, true)) (M.pure (L.getD 0 .undef))).bind fun t107 =>
 (guarded [(0, t105)] (some (0, true)) (M.lift (Ax.faddr 16 t2))).bind fun t108 =>
 (guarded [(0, t105)] (some (0, true)) (mload none t108)).bind fun t109 =>
 (guarded [(0, t105)] (some (0, true)) (M.lift (vlen t109))).bind fun t110 =>
 (guarded [(0, t105)] (some (0, true)) (M.lift (Ax.bin .lss t107 t110))).bind fun t111 =>
 (M.lift (Ax.pick t105 t111 (V.bool false))).bind fun t112 =>
 M.ite t112
 (M.blk 1 (
 (M.lift (Ax.faddr 16 t2)).bind fun t116 =>
 (mload none t116).bind fun t117 =>
 (M.lift (Ax.iaddr none 1 t117 (L.getD 0 .undef))).bind fun t119 =>
 (mload none t119).bind fun t120 =>
 (M.lift (Ax.cint .u64 t120)).bind fun t121 =>
 (G fn_palanquinref6_Writer_Add [t6, t121, (V.int .i64 2)]).bind fun t122 =>
 M.pure (.nrm [])) fun _ =>
 (M.lift (Ax.bin .add (L.getD 0 .undef) (V.int .i64 1))).bind fun t114 =>
 M.pure (.nrm [t114]))
 (M.pure (.ex 0 []))

noncomputable def f_palanquinref9_Bytes_1 (G : Sem') (t2 t8 t4 t5 : V) (L : List V) : M Res :=
 (M.lift (Ax.faddr 17 t2)).bind fun t132 =>
 (mload none t132).bind fun t133 =>
 (M.lift (Ax.iaddr none 1 t133 t8)).bind fun t135 =>
 (mload none t135).bind fun t136 =>
 (M.lift (Ax.bin .mul (V.int .i64 4) (L.getD 0 .undef))).bind fun t138 =>
 (M.lift (Ax.cint .u64 t138)).bind fun t139 =>
 (M.lift (Ax.bin .shl (V.int .i64 1) t139)).bind fun t140 =>
 (M.lift (Ax.bin .gtr t136 t140)).bind fun t141 =>
 M.ite t141
 (M.blk 5 (
 (M.lift (Ax.bin .add (L.getD 0 .undef) (V.int .i64 1))).bind fun t143 =>
 M.pure (.nrm [t143])) fun L4 =>
 M.pure (.nrm [(L4.getD 0 .undef)]))
 (M.pure (.ex 4 [(L.getD 0 .undef)]))

noncomputable def f_palanquinref9_Bytes_2 (G : Sem') (t6 t2 t4 t5 : V) (L : List V) : M Res :=
 (M.lift (Ax.faddr 17 t2)).bind fun t126 =>
 (mload none t126).bind fun t127 =>
 (M.lift (vlen t127)).bind fun t128 =>
 (M.lift (Ax.bin .lss (L.getD 0 .undef) t128)).bind fun t129 =>
 M.ite t129
 (M.blk 3 (
 M.blk 4 (
 M.iter (f_palanquinref9_Bytes_1 G t2 (L.getD 0 .undef) t4 t5) [(V.int .i64 1)]) fun L5 =>
 (M.lift (Ax.cint .u64 (L5.getD 0 .undef))).bind fun t146 =>
 (G fn_palanquinref6_Writer_Add [t6, t146, (V.int .i64 2)]).bind fun t147 =>
 (M.lift (Ax.faddr 17 t2)).bind fun t149 =>
 (mload none t149).bind fun t150 =>
 (M.lift (Ax.iaddr none 1 t150 (L.getD 0 .undef))).bind fun t152 =>
 (mload none t152).bind fun t153 =>
 (M.lift (Ax.bin .sub t153 (V.int .i64 1))).bind fun t154 =>
 (M.lift (Ax.cint .u64 t154)).bind fun t155 =>
 (M.lift (Ax.bin .mul (V.int .i64 4) (L5.getD 0 .undef))).bind fun t157 =>
 (G fn_palanquinref6_Writer_Add [t6, t155, t157]).bind fun t158 =>
 M.pure (.nrm [])) fun _ =>
 (M.lift (Ax.bin .add (L.getD 0 .undef) (V.int .i64 1))).bind fun t131 =>
 M.pure (.nrm [t131]))
 (M.pure (.ex 2 []))

noncomputable def f_palanquinref9_Bytes_3 (G : Sem') (t6 t2 t4 t5 : V) (L : List V) : M Res :=
 (M.lift (Ax.faddr 15 t2)).bind fun t161 =>
 (mload none t161).bind fun t162 =>
 (guarded [(0, t162)] (some (0, true)) (M.pure (L.getD 0 .undef))).bind fun t164 =>
 (guarded [(0, t162)] (some (0, true)) (M.lift (Ax.faddr 18 t2))).bind fun t165 =>
 (guarded [(0, t162)] (some (0, true)) (mload none t165)).bind fun t166 =>
 (guarded [(0, t162)] (some (0, true)) (M.lift (vlen t166))).bind fun t167 =>
 (guarded [(0, t162)] (some (0, true)) (M.lift (Ax.bin .lss t164 t167))).bind fun t168 =>
 (M.lift (Ax.pick t162 t168 (V.bool false))).bind fun t169 =>
 M.ite t169
 (M.blk 7 (
 (M.lift (Ax.faddr 18 t2)).bind fun t173 =>
 (mload none t173).bind fun t174 =>
 (M.lift (Ax.iaddr none 1 t174 (L.getD 0 .undef))).bind fun t176 =>
 (mload none t176).bind fun t177 =>
 (M.lift (Ax.cint .u64 t177)).bind fun t178 =>
 (G fn_palanquinref6_Writer_Add [t6, t178, (V.int .i64 8)]).bind fun t179 =>
 M.pure (.nrm [])) fun _ =>
 (M.lift (Ax.bin .add (L.getD 0 .undef) (V.int .i64 1))).bind fun t171 =>
 M.pure (.nrm [t171]))
 (M.pure (.ex 6 []))

noncomputable def f_palanquinref9_Bytes (G : Sem') (t0 t1 : V) : M Res :=
 (mbox ty_palanquinref9_Frame t0).bind fun t2 =>
 (mbox ty_palanquinref9_Structure t1).bind fun t3 =>
 (mload (some 19) t2).bind fun t11 =>
 (mload (some 6) t3).bind fun t12 =>
 (G fn_palanquinref9_Good [t11, t12]).bind fun t13 =>
 (M.lift (Ax.un .not t13)).bind fun t14 =>
 M.ite t14
 (M.pure (.ret [V.nils, (V.int .i64 1)]))
 ((M.lift (Ax.build [V.nils] [])).bind fun t15 =>
 (mbox ty_palanquinref6_Writer t15).bind fun t16 =>
 (M.lift (Ax.faddr 0 t2)).bind fun t18 =>
 (mload none t18).bind fun t19 =>
 (G fn_palanquinref9_one [t19]).bind fun t20 =>
 (G fn_palanquinref6_Writer_Add [t16, t20, (V.int .i64 1)]).bind fun t21 =>
 (M.lift (Ax.faddr 1 t2)).bind fun t23 =>
 (mload none t23).bind fun t24 =>
 (G fn_palanquinref9_one [t24]).bind fun t25 =>
 (G fn_palanquinref6_Writer_Add [t16, t25, (V.int .i64 1)]).bind fun t26 =>
 (M.lift (Ax.faddr 2 t2)).bind fun t28 =>
 (mload none t28).bind fun t29 =>
 (M.lift (Ax.cint .u64 t29)).bind fun t30 =>
 (G fn_palanquinref6_Writer_Add [t16, t30, (V.int .i64 6)]).bind fun t31 =>
 (M.lift (Ax.faddr 3 t2)).bind fun t33 =>
 (mload none t33).bind fun t34 =>
 (M.lift (Ax.cint .u64 t34)).bind fun t35 =>
 (G fn_palanquinref6_Writer_Add [t16, t35, (V.int .i64 16)]).bind fun t36 =>
 (M.lift (Ax.faddr 4 t2)).bind fun t37 =>
 (mload none t37).bind fun t38 =>
 (M.lift (Ax.un .not t38)).bind fun t39 =>
 (guarded [(0, t39)] (some (0, true)) (M.lift (Ax.faddr 11 t2))).bind fun t41 =>
 (guarded [(0, t39)] (some (0, true)) (mload none t41)).bind fun t42 =>
 (guarded [(0, t39)] (some (0, true)) (M.lift (Ax.un .not t42))).bind fun t43 =>
 (M.lift (Ax.pick t39 t43 (V.bool false))).bind fun t44 =>
 (guarded [(0, t44)] (some (0, true)) (M.lift (Ax.faddr 13 t2))).bind fun t46 =>
 (guarded [(0, t44)] (some (0, true)) (mload none t46)).bind fun t47 =>
 (guarded [(0, t44)] (some (0, true)) (M.lift (Ax.un .not t47))).bind fun t48 =>
 (M.lift (Ax.pick t44 t48 (V.bool false))).bind fun t49 =>
 (guarded [(0, t49)] (some (0, true)) (M.lift (Ax.faddr 14 t2))).bind fun t51 =>
 (guarded [(0, t49)] (some (0, true)) (mload none t51)).bind fun t52 =>
 (guarded [(0, t49)] (some (0, true)) (M.lift (Ax.un .not t52))).bind fun t53 =>
 (M.lift (Ax.pick t49 t53 (V.bool false))).bind fun t54 =>
 (guarded [(0, t54)] (some (0, true)) (M.lift (Ax.faddr 15 t2))).bind fun t56 =>
 (guarded [(0, t54)] (some (0, true)) (mload none t56)).bind fun t57 =>
 (guarded [(0, t54)] (some (0, true)) (M.lift (Ax.un .not t57))).bind fun t58 =>
 (M.lift (Ax.pick t54 t58 (V.bool false))).bind fun t59 =>
 M.ite t59
 ((G fn_palanquinref6_Writer_Bytes [t16]).bind fun t61 =>
 M.pure (.ret [t61, (V.int .i64 0)]))
 ((M.lift (Ax.faddr 4 t2)).bind fun t63 =>
 (mload none t63).bind fun t64 =>
 (G fn_palanquinref9_one [t64]).bind fun t65 =>
 (G fn_palanquinref6_Writer_Add [t16, t65, (V.int .i64 1)]).bind fun t66 =>
 (M.lift (Ax.faddr 11 t2)).bind fun t68 =>
 (mload none t68).bind fun t69 =>
 (G fn_palanquinref9_one [t69]).bind fun t70 =>
 (G fn_palanquinref6_Writer_Add [t16, t70, (V.int .i64 1)]).bind fun t71 =>
 (M.lift (Ax.faddr 13 t2)).bind fun t73 =>
 (mload none t73).bind fun t74 =>
 (G fn_palanquinref9_one [t74]).bind fun t75 =>
 (G fn_palanquinref6_Writer_Add [t16, t75, (V.int .i64 1)]).bind fun t76 =>
 (M.lift (Ax.faddr 14 t2)).bind fun t78 =>
 (mload none t78).bind fun t79 =>
 (G fn_palanquinref9_one [t79]).bind fun t80 =>
 (G fn_palanquinref6_Writer_Add [t16, t80, (V.int .i64 1)]).bind fun t81 =>
 (M.lift (Ax.faddr 15 t2)).bind fun t83 =>
 (mload none t83).bind fun t84 =>
 (G fn_palanquinref9_one [t84]).bind fun t85 =>
 (G fn_palanquinref6_Writer_Add [t16, t85, (V.int .i64 1)]).bind fun t86 =>
 (M.lift (Ax.faddr 4 t2)).bind fun t87 =>
 (mload none t87).bind fun t88 =>
 M.join (M.ite t88
 ((M.lift (Ax.faddr 5 t2)).bind fun t90 =>
 (mload (some 6) t90).bind fun t91 =>
 (G fn_palanquinref9_writes [t16, t91]).bind fun t92 =>
 M.pure (.nrm []))
 (M.pure (.nrm []))) fun _ =>
 (M.lift (Ax.faddr 11 t2)).bind fun t93 =>
 (mload none t93).bind fun t94 =>
 M.join (M.ite t94
 ((M.lift (Ax.faddr 12 t2)).bind fun t96 =>
 (mload none t96).bind fun t97 =>
 (M.lift (Ax.cint .u64 t97)).bind fun t98 =>
 (mload (some 19) t2).bind fun t99 =>
 (mload (some 6) t3).bind fun t100 =>
 M.getH.bind fun h0 =>
 (G fn_palanquinref9_holds [t99, t100]).bind fun t101 =>
 M.getH.bind fun h0' =>
 (M.unch t96 h0 h0').bind fun _ =>
 (M.lift (Ax.field 1 none t101)).bind fun t102 =>
 (G fn_palanquinref6_Writer_Add [t16, t98, t102]).bind fun t103 =>
 M.pure (.nrm []))
 (M.pure (.nrm []))) fun _ =>
 M.blk 0 (
 M.iter (f_palanquinref9_Bytes_0 G t16 t2 V.nils (V.int .i64 0)) [(V.int .i64 0)]) fun _ =>
 (M.lift (Ax.faddr 14 t2)).bind fun t123 =>
 (mload none t123).bind fun t124 =>
 M.join (M.ite t124
 (M.blk 2 (
 M.iter (f_palanquinref9_Bytes_2 G t16 t2 V.nils (V.int .i64 0)) [(V.int .i64 0)]) fun _ =>
 (G fn_palanquinref6_Writer_Add [t16, (V.int .u64 0), (V.int .i64 2)]).bind fun t160 =>
 M.pure (.nrm []))
 (M.pure (.nrm []))) fun _ =>
 M.blk 6 (
 M.iter (f_palanquinref9_Bytes_3 G t16 t2 V.nils (V.int .i64 0)) [(V.int .i64 0)]) fun _ =>
 (G fn_palanquinref6_Writer_Bytes [t16]).bind fun t181 =>
 M.pure (.ret [t181, (V.int .i64 0)])))

theorem eq_palanquinref9_Bytes (G : Sem') (t0 t1 : V) : execK G ir_palanquinref9_Bytes.rv ir_palanquinref9_Bytes.body [] [] (params 0 [t0, t1]) = f_palanquinref9_Bytes G t0 t1 := by kernel_rfl

theorem tb_palanquinref9_Bytes : T fn_palanquinref9_Bytes = some ir_palanquinref9_Bytes := by kernel_rfl

theorem ok_palanquinref9_Bytes {t0 t1 : V} {H : Heap} {Q : V → Heap → Prop} (h : Ok (f_palanquinref9_Bytes (sem T) t0 t1) H fun r H' => ∃ L, r = .ret L ∧ Q (tupled L) H') : Ok (sem T fn_palanquinref9_Bytes [t0, t1]) H Q :=
  ok_sem tb_palanquinref9_Bytes (Nat.le_of_ble_eq_true (by kernel_rfl)) (eq_palanquinref9_Bytes (sem T) t0 t1) h

noncomputable def ir_palanquinref9_Good : Fn' := irOf fn_palanquinref9_Good
noncomputable def f_palanquinref9_Good (G : Sem') (t0 t1 : V) : M Res :=
 (mbox ty_palanquinref9_Frame t0).bind fun t2 =>
 (mbox ty_palanquinref9_Structure t1).bind fun t3 =>
 (mload (some 19) t2).bind fun t9 =>
 (mload (some 6) t3).bind fun t10 =>
 (G fn_palanquinref9_Of [t9, t10]).bind fun t11 =>
 (M.lift (Ax.ext 0 t11)).bind fun t12 =>
 (M.lift (Ax.ext 1 t11)).bind fun t13 =>
 (mbox ty_palanquinref9_Template (V.agg [(V.int .i64 0), (V.int .i64 0), V.nils, V.nils, V.nils])).bind fun t5 =>
 (mstore 5 t5 t12).bind fun _ =>
 (M.lift (Ax.un .not t13)).bind fun t15 =>
 (guarded [(0, t15)] (some (0, false)) (M.lift (Ax.faddr 4 t2))).bind fun t17 =>
 (guarded [(0, t15)] (some (0, false)) (mload none t17)).bind fun t18 =>
 (guarded [(0, t15)] (some (0, false)) (M.lift (Ax.un .not t18))).bind fun t19 =>
 (guarded [(0, t15)] (some (0, false)) (M.pure t19)).bind fun t20 =>
 (guarded [(0, t20)] (some (0, true)) (M.lift (Ax.faddr 5 t2))).bind fun t21 =>
 (guarded [(0, t20)] (some (0, true)) (mload (some 6) t21)).bind fun t22 =>
 (guarded [(0, t20)] (some (0, true)) (G fn_palanquinref9_zero [t22])).bind fun t23 =>
 (guarded [(0, t20)] (some (0, true)) (M.lift (Ax.un .not t23))).bind fun t24 =>
 (guarded [(0, t15)] (some (0, false)) (M.lift (Ax.pick t20 t24 (V.bool false)))).bind fun t25 =>
 (M.lift (Ax.pick t15 (V.bool true) t25)).bind fun t26 =>
 M.ite t26
 (M.pure (.ret [(V.bool false)]))
 ((mload (some 19) t2).bind fun t27 =>
 (mload (some 6) t3).bind fun t28 =>
 (G fn_palanquinref9_holds [t27, t28]).bind fun t29 =>
 (mbox ty_palanquinref9_Structure (V.agg [(V.int .i64 0), (V.int .i64 0), V.nils, (V.int .i64 0), V.nils, V.nils])).bind fun t7 =>
 (mstore 6 t7 t29).bind fun _ =>
 (M.lift (Ax.faddr 11 t2)).bind fun t30 =>
 (mload none t30).bind fun t31 =>
 (M.lift (Ax.un .not t31)).bind fun t32 =>
 (guarded [(0, t32)] (some (0, true)) (M.lift (Ax.faddr 12 t2))).bind fun t34 =>
 (guarded [(0, t32)] (some (0, true)) (mload none t34)).bind fun t35 =>
 (guarded [(0, t32)] (some (0, true)) (M.lift (Ax.bin .neq t35 (V.int .u32 0)))).bind fun t36 =>
 (M.lift (Ax.pick t32 t36 (V.bool false))).bind fun t37 =>
 (guarded [(0, t37)] (some (0, false)) (M.lift (Ax.faddr 12 t2))).bind fun t39 =>
 (guarded [(0, t37)] (some (0, false)) (mload none t39)).bind fun t40 =>
 (guarded [(0, t37)] (some (0, false)) (M.lift (Ax.cint .u64 t40))).bind fun t41 =>
 (guarded [(0, t37)] (some (0, false)) (M.lift (Ax.faddr 1 t7))).bind fun t42 =>
 (guarded [(0, t37)] (some (0, false)) (mload none t42)).bind fun t43 =>
 (guarded [(0, t37)] (some (0, false)) (M.lift (Ax.cint .u64 t43))).bind fun t44 =>
 (guarded [(0, t37)] (some (0, false)) (M.lift (Ax.bin .shr t41 t44))).bind fun t45 =>
 (guarded [(0, t37)] (some (0, false)) (M.lift (Ax.bin .neq t45 (V.int .u64 0)))).bind fun t46 =>
 (M.lift (Ax.pick t37 (V.bool true) t46)).bind fun t47 =>
 M.ite t47
 (M.pure (.ret [(V.bool false)]))
 ((M.lift (Ax.faddr 13 t2)).bind fun t48 =>
 (mload none t48).bind fun t49 =>
 (M.lift (Ax.un .not t49)).bind fun t50 =>
 (guarded [(0, t50)] (some (0, true)) (M.lift (Ax.faddr 16 t2))).bind fun t52 =>
 (guarded [(0, t50)] (some (0, true)) (mload none t52)).bind fun t53 =>
 (guarded [(0, t50)] (some (0, true)) (M.lift (Ax.faddr 2 t5))).bind fun t54 =>
 (guarded [(0, t50)] (some (0, true)) (mload none t54)).bind fun t55 =>
 (guarded [(0, t50)] (some (0, true)) (G fn_palanquinref9_SameInts [t53, t55])).bind fun t56 =>
 (guarded [(0, t50)] (some (0, true)) (M.lift (Ax.un .not t56))).bind fun t57 =>
 (M.lift (Ax.pick t50 t57 (V.bool false))).bind fun t58 =>
 (guarded [(0, t58)] (some (0, false)) (M.lift (Ax.faddr 13 t2))).bind fun t60 =>
 (guarded [(0, t58)] (some (0, false)) (mload none t60)).bind fun t61 =>
 (guarded [(0, t58)] (some (0, false)) (M.pure t61)).bind fun t62 =>
 (guarded [(0, t62)] (some (0, true)) (M.lift (Ax.faddr 16 t2))).bind fun t63 =>
 (guarded [(0, t62)] (some (0, true)) (mload none t63)).bind fun t64 =>
 (guarded [(0, t62)] (some (0, true)) (M.lift (Ax.faddr 1 t7))).bind fun t65 =>
 (guarded [(0, t62)] (some (0, true)) (mload none t65)).bind fun t66 =>
 (guarded [(0, t62)] (some (0, true)) (G fn_palanquinref9_within [t64, t66, (V.int .i64 0), (V.int .i64 3)])).bind fun t67 =>
 (guarded [(0, t62)] (some (0, true)) (M.lift (Ax.un .not t67))).bind fun t68 =>
 (guarded [(0, t58)] (some (0, false)) (M.lift (Ax.pick t62 t68 (V.bool false)))).bind fun t69 =>
 (M.lift (Ax.pick t58 (V.bool true) t69)).bind fun t70 =>
 M.ite t70
 (M.pure (.ret [(V.bool false)]))
 ((M.lift (Ax.faddr 14 t2)).bind fun t71 =>
 (mload none t71).bind fun t72 =>
 (M.lift (Ax.un .not t72)).bind fun t73 =>
 (guarded [(0, t73)] (some (0, true)) (M.lift (Ax.faddr 17 t2))).bind fun t75 =>
 (guarded [(0, t73)] (some (0, true)) (mload none t75)).bind fun t76 =>
 (guarded [(0, t73)] (some (0, true)) (M.lift (Ax.faddr 3 t5))).bind fun t77 =>
 (guarded [(0, t73)] (some (0, true)) (mload none t77)).bind fun t78 =>
 (guarded [(0, t73)] (some (0, true)) (G fn_palanquinref9_SameInts [t76, t78])).bind fun t79 =>
 (guarded [(0, t73)] (some (0, true)) (M.lift (Ax.un .not t79))).bind fun t80 =>
 (M.lift (Ax.pick t73 t80 (V.bool false))).bind fun t81 =>
 (guarded [(0, t81)] (some (0, false)) (M.lift (Ax.faddr 14 t2))).bind fun t83 =>
 (guarded [(0, t81)] (some (0, false)) (mload none t83)).bind fun t84 =>
 (guarded [(0, t81)] (some (0, false)) (M.pure t84)).bind fun t85 =>
 (guarded [(0, t85)] (some (0, true)) (M.lift (Ax.faddr 17 t2))).bind fun t86 =>
 (guarded [(0, t85)] (some (0, true)) (mload none t86)).bind fun t87 =>
 (guarded [(0, t85)] (some (0, true)) (M.lift (vlen t87))).bind fun t88 =>
 (guarded [(0, t85)] (some (0, true)) (M.lift (Ax.bin .gtr t88 (V.int .i64 16)))).bind fun t89 =>
 (guarded [(0, t85)] (some (0, true)) (M.pure t89)).bind fun t90 =>
 (guarded [(0, t90)] (some (0, false)) (M.lift (Ax.faddr 17 t2))).bind fun t91 =>
 (guarded [(0, t90)] (some (0, false)) (mload none t91)).bind fun t92 =>
 (guarded [(0, t90)] (some (0, false)) (G fn_palanquinref9_within [t92, (V.int .i64 (-1)), (V.int .i64 1), (V.int .i64 4096)])).bind fun t93 =>
 (guarded [(0, t90)] (some (0, false)) (M.lift (Ax.un .not t93))).bind fun t94 =>
 (guarded [(0, t85)] (some (0, true)) (M.lift (Ax.pick t90 (V.bool true) t94))).bind fun t95 =>
 (guarded [(0, t81)] (some (0, false)) (M.lift (Ax.pick t85 t95 (V.bool false)))).bind fun t96 =>
 (M.lift (Ax.pick t81 (V.bool true) t96)).bind fun t97 =>
 M.ite t97
 (M.pure (.ret [(V.bool false)]))
 ((M.lift (Ax.faddr 15 t2)).bind fun t98 =>
 (mload none t98).bind fun t99 =>
 (M.lift (Ax.un .not t99)).bind fun t100 =>
 (guarded [(0, t100)] (some (0, true)) (M.lift (Ax.faddr 18 t2))).bind fun t102 =>
 (guarded [(0, t100)] (some (0, true)) (mload none t102)).bind fun t103 =>
 (guarded [(0, t100)] (some (0, true)) (M.lift (Ax.faddr 4 t5))).bind fun t104 =>
 (guarded [(0, t100)] (some (0, true)) (mload none t104)).bind fun t105 =>
 (guarded [(0, t100)] (some (0, true)) (G fn_palanquinref9_SameInts [t103, t105])).bind fun t106 =>
 (M.lift (Ax.pick t100 t106 (V.bool false))).bind fun t107 =>
 (guarded [(0, t107)] (some (0, false)) (M.lift (Ax.faddr 15 t2))).bind fun t109 =>
 (guarded [(0, t107)] (some (0, false)) (mload none t109)).bind fun t110 =>
 (guarded [(0, t107)] (some (0, false)) (M.pure t110)).bind fun t111 =>
 (guarded [(0, t111)] (some (0, true)) (M.lift (Ax.faddr 18 t2))).bind fun t112 =>
 (guarded [(0, t111)] (some (0, true)) (mload none t112)).bind fun t113 =>
 (guarded [(0, t111)] (some (0, true)) (M.lift (Ax.faddr 3 t7))).bind fun t114 =>
 (guarded [(0, t111)] (some (0, true)) (mload none t114)).bind fun t115 =>
 (guarded [(0, t111)] (some (0, true)) (G fn_palanquinref9_within [t113, t115, (V.int .i64 0), (V.int .i64 255)])).bind fun t116 =>
 (guarded [(0, t107)] (some (0, false)) (M.lift (Ax.pick t111 t116 (V.bool false)))).bind fun t117 =>
 (M.lift (Ax.pick t107 (V.bool true) t117)).bind fun t118 =>
 M.pure (.ret [t118])))))

theorem eq_palanquinref9_Good (G : Sem') (t0 t1 : V) : execK G ir_palanquinref9_Good.rv ir_palanquinref9_Good.body [] [] (params 0 [t0, t1]) = f_palanquinref9_Good G t0 t1 := by kernel_rfl

theorem tb_palanquinref9_Good : T fn_palanquinref9_Good = some ir_palanquinref9_Good := by kernel_rfl

theorem ok_palanquinref9_Good {t0 t1 : V} {H : Heap} {Q : V → Heap → Prop} (h : Ok (f_palanquinref9_Good (sem T) t0 t1) H fun r H' => ∃ L, r = .ret L ∧ Q (tupled L) H') : Ok (sem T fn_palanquinref9_Good [t0, t1]) H Q :=
  ok_sem tb_palanquinref9_Good (Nat.le_of_ble_eq_true (by kernel_rfl)) (eq_palanquinref9_Good (sem T) t0 t1) h

noncomputable def ir_palanquinref9_zero : Fn' := irOf fn_palanquinref9_zero
noncomputable def f_palanquinref9_zero (G : Sem') (t0 : V) : M Res :=
 (mbox ty_palanquinref9_Structure t0).bind fun t1 =>
 (M.lift (Ax.faddr 0 t1)).bind fun t3 =>
 (mload none t3).bind fun t4 =>
 (M.lift (Ax.bin .eql t4 (V.int .i64 0))).bind fun t5 =>
 (guarded [(0, t5)] (some (0, true)) (M.lift (Ax.faddr 1 t1))).bind fun t7 =>
 (guarded [(0, t5)] (some (0, true)) (mload none t7)).bind fun t8 =>
 (guarded [(0, t5)] (some (0, true)) (M.lift (Ax.bin .eql t8 (V.int .i64 0)))).bind fun t9 =>
 (M.lift (Ax.pick t5 t9 (V.bool false))).bind fun t10 =>
 (guarded [(0, t10)] (some (0, true)) (M.lift (Ax.faddr 2 t1))).bind fun t12 =>
 (guarded [(0, t10)] (some (0, true)) (mload none t12)).bind fun t13 =>
 (guarded [(0, t10)] (some (0, true)) (M.lift (vlen t13))).bind fun t14 =>
 (guarded [(0, t10)] (some (0, true)) (M.lift (Ax.bin .eql t14 (V.int .i64 0)))).bind fun t15 =>
 (M.lift (Ax.pick t10 t15 (V.bool false))).bind fun t16 =>
 (guarded [(0, t16)] (some (0, true)) (M.lift (Ax.faddr 3 t1))).bind fun t18 =>
 (guarded [(0, t16)] (some (0, true)) (mload none t18)).bind fun t19 =>
 (guarded [(0, t16)] (some (0, true)) (M.lift (Ax.bin .eql t19 (V.int .i64 0)))).bind fun t20 =>
 (M.lift (Ax.pick t16 t20 (V.bool false))).bind fun t21 =>
 (guarded [(0, t21)] (some (0, true)) (M.lift (Ax.faddr 4 t1))).bind fun t23 =>
 (guarded [(0, t21)] (some (0, true)) (mload none t23)).bind fun t24 =>
 (guarded [(0, t21)] (some (0, true)) (M.lift (vlen t24))).bind fun t25 =>
 (guarded [(0, t21)] (some (0, true)) (M.lift (Ax.bin .eql t25 (V.int .i64 0)))).bind fun t26 =>
 (M.lift (Ax.pick t21 t26 (V.bool false))).bind fun t27 =>
 (guarded [(0, t27)] (some (0, true)) (M.lift (Ax.faddr 5 t1))).bind fun t29 =>
 (guarded [(0, t27)] (some (0, true)) (mload none t29)).bind fun t30 =>
 (guarded [(0, t27)] (some (0, true)) (M.lift (vlen t30))).bind fun t31 =>
 (guarded [(0, t27)] (some (0, true)) (M.lift (Ax.bin .eql t31 (V.int .i64 0)))).bind fun t32 =>
 (M.lift (Ax.pick t27 t32 (V.bool false))).bind fun t33 =>
 M.pure (.ret [t33])

theorem eq_palanquinref9_zero (G : Sem') (t0 : V) : execK G ir_palanquinref9_zero.rv ir_palanquinref9_zero.body [] [] (params 0 [t0]) = f_palanquinref9_zero G t0 := by kernel_rfl

theorem tb_palanquinref9_zero : T fn_palanquinref9_zero = some ir_palanquinref9_zero := by kernel_rfl

theorem ok_palanquinref9_zero {t0 : V} {H : Heap} {Q : V → Heap → Prop} (h : Ok (f_palanquinref9_zero (sem T) t0) H fun r H' => ∃ L, r = .ret L ∧ Q (tupled L) H') : Ok (sem T fn_palanquinref9_zero [t0]) H Q :=
  ok_sem tb_palanquinref9_zero (Nat.le_of_ble_eq_true (by kernel_rfl)) (eq_palanquinref9_zero (sem T) t0) h

noncomputable def ir_palanquinref9_SameInts : Fn' := irOf fn_palanquinref9_SameInts
noncomputable def f_palanquinref9_SameInts_0 (G : Sem') (t0 t1 : V) (L : List V) : M Res :=
 (M.lift (vlen t0)).bind fun t13 =>
 (M.lift (Ax.bin .lss (L.getD 0 .undef) t13)).bind fun t14 =>
 M.ite t14
 (M.blk 1 (
 (M.lift (Ax.iaddr none 1 t0 (L.getD 0 .undef))).bind fun t19 =>
 (mload none t19).bind fun t20 =>
 (M.lift (Ax.iaddr none 1 t1 (L.getD 0 .undef))).bind fun t23 =>
 (mload none t23).bind fun t24 =>
 (M.lift (Ax.bin .neq t20 t24)).bind fun t25 =>
 M.ite t25
 (M.pure (.ret [(V.bool false)]))
 (M.pure (.nrm []))) fun _ =>
 (M.lift (Ax.bin .add (L.getD 0 .undef) (V.int .i64 1))).bind fun t16 =>
 M.pure (.nrm [t16]))
 (M.pure (.ex 0 []))

noncomputable def f_palanquinref9_SameInts (G : Sem') (t0 t1 : V) : M Res :=
 (M.lift (vlen t0)).bind fun t7 =>
 (M.lift (vlen t1)).bind fun t9 =>
 (M.lift (Ax.bin .neq t7 t9)).bind fun t10 =>
 M.ite t10
 (M.pure (.ret [(V.bool false)]))
 (M.blk 0 (
 M.iter (f_palanquinref9_SameInts_0 G t0 t1) [(V.int .i64 0)]) fun _ =>
 M.pure (.ret [(V.bool true)]))

theorem eq_palanquinref9_SameInts (G : Sem') (t0 t1 : V) : execK G ir_palanquinref9_SameInts.rv ir_palanquinref9_SameInts.body [] [] (params 0 [t0, t1]) = f_palanquinref9_SameInts G t0 t1 := by kernel_rfl

theorem tb_palanquinref9_SameInts : T fn_palanquinref9_SameInts = some ir_palanquinref9_SameInts := by kernel_rfl

theorem ok_palanquinref9_SameInts {t0 t1 : V} {H : Heap} {Q : V → Heap → Prop} (h : Ok (f_palanquinref9_SameInts (sem T) t0 t1) H fun r H' => ∃ L, r = .ret L ∧ Q (tupled L) H') : Ok (sem T fn_palanquinref9_SameInts [t0, t1]) H Q :=
  ok_sem tb_palanquinref9_SameInts (Nat.le_of_ble_eq_true (by kernel_rfl)) (eq_palanquinref9_SameInts (sem T) t0 t1) h

noncomputable def ir_palanquinref9_one : Fn' := irOf fn_palanquinref9_one
noncomputable def f_palanquinref9_one (G : Sem') (t0 : V) : M Res :=
 M.ite t0
 (M.pure (.ret [(V.int .u64 1)]))
 (M.pure (.ret [(V.int .u64 0)]))

theorem eq_palanquinref9_one (G : Sem') (t0 : V) : execK G ir_palanquinref9_one.rv ir_palanquinref9_one.body [] [] (params 0 [t0]) = f_palanquinref9_one G t0 := by kernel_rfl

theorem tb_palanquinref9_one : T fn_palanquinref9_one = some ir_palanquinref9_one := by kernel_rfl

theorem ok_palanquinref9_one {t0 : V} {H : Heap} {Q : V → Heap → Prop} (h : Ok (f_palanquinref9_one (sem T) t0) H fun r H' => ∃ L, r = .ret L ∧ Q (tupled L) H') : Ok (sem T fn_palanquinref9_one [t0]) H Q :=
  ok_sem tb_palanquinref9_one (Nat.le_of_ble_eq_true (by kernel_rfl)) (eq_palanquinref9_one (sem T) t0) h

noncomputable def ir_palanquinref6_Writer_Add : Fn' := irOf fn_palanquinref6_Writer_Add
noncomputable def f_palanquinref6_Writer_Add_0 (G : Sem') (t0 t1 t6 : V) (L : List V) : M Res :=
 (M.lift (Ax.bin .geq (L.getD 0 .undef) (V.int .i64 0))).bind fun t28 =>
 M.ite t28
 (M.blk 1 (
 (M.lift (Ax.nilck t0)).bind fun t33 =>
 (M.lift (Ax.faddr 0 t33)).bind fun t34 =>
 (mload none t34).bind fun t35 =>
 (M.lift (Ax.cint .u64 (L.getD 0 .undef))).bind fun t38 =>
 (M.lift (Ax.bin .shr t1 t38)).bind fun t39 =>
 (M.lift (Ax.bin .and t39 (V.int .u64 1))).bind fun t40 =>
 (M.lift (Ax.bin .eql t40 (V.int .u64 1))).bind fun t41 =>
 (mslit ty_bool 1 [(V.bool false)] [(0, 1, t41)]).bind fun t42 =>
 (mappend ty_bool 1 1 t35 t42).bind fun t43 =>
 (M.lift (Ax.nilck t0)).bind fun t44 =>
 (M.lift (Ax.faddr 0 t44)).bind fun t45 =>
 (mstore 1 t45 t43).bind fun _ =>
 M.pure (.nrm [])) fun _ =>
 (M.lift (Ax.bin .sub (L.getD 0 .undef) (V.int .i64 1))).bind fun t30 =>
 M.pure (.nrm [t30]))
 (M.pure (.ex 0 []))

noncomputable def f_palanquinref6_Writer_Add (G : Sem') (t0 t1 t2 : V) : M Res :=
 (M.lift (Ax.bin .lss t2 (V.int .i64 0))).bind fun t9 =>
 (guarded [(0, t9)] (some (0, false)) (M.pure t2)).bind fun t11 =>
 (guarded [(0, t9)] (some (0, false)) (M.lift (Ax.bin .gtr t11 (V.int .i64 64)))).bind fun t12 =>
 (M.lift (Ax.pick t9 (V.bool true) t12)).bind fun t13 =>
 (guarded [(0, t13)] (some (0, false)) (M.pure t2)).bind fun t15 =>
 (guarded [(0, t13)] (some (0, false)) (M.lift (Ax.bin .lss t15 (V.int .i64 64)))).bind fun t16 =>
 (guarded [(0, t13)] (some (0, false)) (M.pure t16)).bind fun t17 =>
 (guarded [(0, t17)] (some (0, true)) (M.pure t1)).bind fun t18 =>
 (guarded [(0, t17)] (some (0, true)) (M.pure t2)).bind fun t19 =>
 (guarded [(0, t17)] (some (0, true)) (M.lift (Ax.cint .u64 t19))).bind fun t20 =>
 (guarded [(0, t17)] (some (0, true)) (M.lift (Ax.bin .shr t18 t20))).bind fun t21 =>
 (guarded [(0, t17)] (some (0, true)) (M.lift (Ax.bin .neq t21 (V.int .u64 0)))).bind fun t22 =>
 (guarded [(0, t13)] (some (0, false)) (M.lift (Ax.pick t17 t22 (V.bool false)))).bind fun t23 =>
 (M.lift (Ax.pick t13 (V.bool true) t23)).bind fun t24 =>
 M.ite t24
 (M.pure (.ret [(V.int .i64 1)]))
 ((M.lift (Ax.bin .sub t2 (V.int .i64 1))).bind fun t26 =>
 M.blk 0 (
 M.iter (f_palanquinref6_Writer_Add_0 G t0 t1 (V.int .i64 0)) [t26]) fun _ =>
 M.pure (.ret [(V.int .i64 0)]))

theorem eq_palanquinref6_Writer_Add (G : Sem') (t0 t1 t2 : V) : execK G ir_palanquinref6_Writer_Add.rv ir_palanquinref6_Writer_Add.body [] [] (params 0 [t0, t1, t2]) = f_palanquinref6_Writer_Add G t0 t1 t2 := by kernel_rfl

theorem tb_palanquinref6_Writer_Add : T fn_palanquinref6_Writer_Add = some ir_palanquinref6_Writer_Add := by kernel_rfl

theorem ok_palanquinref6_Writer_Add {t0 t1 t2 : V} {H : Heap} {Q : V → Heap → Prop} (h : Ok (f_palanquinref6_Writer_Add (sem T) t0 t1 t2) H fun r H' => ∃ L, r = .ret L ∧ Q (tupled L) H') : Ok (sem T fn_palanquinref6_Writer_Add [t0, t1, t2]) H Q :=
  ok_sem tb_palanquinref6_Writer_Add (Nat.le_of_ble_eq_true (by kernel_rfl)) (eq_palanquinref6_Writer_Add (sem T) t0 t1 t2) h

noncomputable def ir_palanquinref6_Writer_Bytes : Fn' := irOf fn_palanquinref6_Writer_Bytes
noncomputable def f_palanquinref6_Writer_Bytes_0 (G : Sem') (t0 t3 t2 : V) (L : List V) : M Res :=
 (M.lift (Ax.nilck t0)).bind fun t15 =>
 (M.lift (Ax.faddr 0 t15)).bind fun t16 =>
 (mload none t16).bind fun t17 =>
 (M.lift (vlen t17)).bind fun t18 =>
 (M.lift (Ax.bin .lss (L.getD 0 .undef) t18)).bind fun t19 =>
 M.ite t19
 (M.blk 1 (
 (M.lift (Ax.nilck t0)).bind fun t23 =>
 (M.lift (Ax.faddr 0 t23)).bind fun t24 =>
 (mload none t24).bind fun t25 =>
 (M.lift (Ax.iaddr none 1 t25 (L.getD 0 .undef))).bind fun t27 =>
 (mload none t27).bind fun t28 =>
 M.join (M.ite t28
 ((M.lift (Ax.bin .quo (L.getD 0 .undef) (V.int .i64 8))).bind fun t31 =>
 (M.lift (Ax.bin .quo (L.getD 0 .undef) (V.int .i64 8))).bind fun t34 =>
 (M.lift (Ax.iaddr none 1 t3 t34)).bind fun t35 =>
 (mload none t35).bind fun t36 =>
 (M.lift (Ax.bin .rem (L.getD 0 .undef) (V.int .i64 8))).bind fun t38 =>
 (M.lift (Ax.cint .u64 t38)).bind fun t39 =>
 (M.lift (Ax.bin .shr (V.int .u8 128) t39)).bind fun t40 =>
 (M.lift (Ax.bin .or t36 t40)).bind fun t41 =>
 (M.lift (Ax.iaddr none 1 t3 t31)).bind fun t42 =>
 (mstore 1 t42 t41).bind fun _ =>
 M.pure (.nrm []))
 (M.pure (.nrm []))) fun _ =>
 M.pure (.nrm [])) fun _ =>
 (M.lift (Ax.bin .add (L.getD 0 .undef) (V.int .i64 1))).bind fun t21 =>
 M.pure (.nrm [t21]))
 (M.pure (.ex 0 []))

noncomputable def f_palanquinref6_Writer_Bytes (G : Sem') (t0 : V) : M Res :=
 (M.lift (Ax.nilck t0)).bind fun t6 =>
 (M.lift (Ax.faddr 0 t6)).bind fun t7 =>
 (mload none t7).bind fun t8 =>
 (M.lift (vlen t8)).bind fun t9 =>
 (M.lift (Ax.bin .add t9 (V.int .i64 7))).bind fun t10 =>
 (M.lift (Ax.bin .quo t10 (V.int .i64 8))).bind fun t11 =>
 (mmkslice ty_uint8 1 [(V.int .u8 0)] t11 t11).bind fun t12 =>
 M.blk 0 (
 M.iter (f_palanquinref6_Writer_Bytes_0 G t0 t12 V.nils) [(V.int .i64 0)]) fun _ =>
 M.pure (.ret [t12])

theorem eq_palanquinref6_Writer_Bytes (G : Sem') (t0 : V) : execK G ir_palanquinref6_Writer_Bytes.rv ir_palanquinref6_Writer_Bytes.body [] [] (params 0 [t0]) = f_palanquinref6_Writer_Bytes G t0 := by kernel_rfl

theorem tb_palanquinref6_Writer_Bytes : T fn_palanquinref6_Writer_Bytes = some ir_palanquinref6_Writer_Bytes := by kernel_rfl

theorem ok_palanquinref6_Writer_Bytes {t0 : V} {H : Heap} {Q : V → Heap → Prop} (h : Ok (f_palanquinref6_Writer_Bytes (sem T) t0) H fun r H' => ∃ L, r = .ret L ∧ Q (tupled L) H') : Ok (sem T fn_palanquinref6_Writer_Bytes [t0]) H Q :=
  ok_sem tb_palanquinref6_Writer_Bytes (Nat.le_of_ble_eq_true (by kernel_rfl)) (eq_palanquinref6_Writer_Bytes (sem T) t0) h

noncomputable def ir_palanquinref9_writes : Fn' := irOf fn_palanquinref9_writes
noncomputable def f_palanquinref9_writes_0 (G : Sem') (t4 t3 t0 : V) (L : List V) : M Res :=
 (M.lift (Ax.bin .lss (L.getD 0 .undef) t4)).bind fun t31 =>
 M.ite t31
 (M.blk 1 (
 (M.lift (Ax.bin .add (L.getD 0 .undef) (V.int .i64 1))).bind fun t35 =>
 (M.lift (Ax.bin .lss t35 t4)).bind fun t37 =>
 M.join (M.ite t37
 ((M.lift (Ax.faddr 2 t3)).bind fun t38 =>
 (mload none t38).bind fun t39 =>
 (M.lift (Ax.iaddr none 5 t39 (L.getD 0 .undef))).bind fun t41 =>
 (mload (some 5) t41).bind fun t42 =>
 (M.lift (Ax.faddr 2 t3)).bind fun t43 =>
 (mload none t43).bind fun t44 =>
 (M.lift (Ax.bin .add (L.getD 0 .undef) (V.int .i64 1))).bind fun t46 =>
 (M.lift (Ax.iaddr none 5 t44 t46)).bind fun t47 =>
 (mload (some 5) t47).bind fun t48 =>
 (G fn_palanquinref9_step [t42, t48]).bind fun t49 =>
 M.pure (.nrm [t49]))
 (M.pure (.nrm [(V.int .i64 3)]))) fun L0 =>
 (M.lift (Ax.cint .u64 (L0.getD 0 .undef))).bind fun t52 =>
 (G fn_palanquinref6_Writer_Add [t0, t52, (V.int .i64 2)]).bind fun t53 =>
 M.pure (.nrm [])) fun _ =>
 (M.lift (Ax.bin .add (L.getD 0 .undef) (V.int .i64 1))).bind fun t33 =>
 M.pure (.nrm [t33]))
 (M.pure (.ex 0 []))

noncomputable def f_palanquinref9_writes_1 (G : Sem') (t0 t3 t7 : V) (L : List V) : M Res :=
 (M.lift (Ax.faddr 1 t3)).bind fun t60 =>
 (mload none t60).bind fun t61 =>
 (M.lift (Ax.bin .lss (L.getD 0 .undef) t61)).bind fun t62 =>
 M.ite t62
 (M.blk 5 (
 (M.lift (Ax.faddr 2 t3)).bind fun t66 =>
 (mload none t66).bind fun t67 =>
 (M.lift (Ax.iaddr none 5 t67 t7)).bind fun t69 =>
 (M.lift (Ax.faddr 2 t69)).bind fun t70 =>
 (mload none t70).bind fun t71 =>
 (M.lift (Ax.iaddr none 1 t71 (L.getD 0 .undef))).bind fun t73 =>
 (mload none t73).bind fun t74 =>
 (M.lift (Ax.cint .u64 t74)).bind fun t75 =>
 (G fn_palanquinref6_Writer_Add [t0, t75, (V.int .i64 2)]).bind fun t76 =>
 M.pure (.nrm [])) fun _ =>
 (M.lift (Ax.bin .add (L.getD 0 .undef) (V.int .i64 1))).bind fun t64 =>
 M.pure (.nrm [t64]))
 (M.pure (.ex 4 []))

noncomputable def f_palanquinref9_writes_2 (G : Sem') (t4 t0 t3 : V) (L : List V) : M Res :=
 (M.lift (Ax.bin .lss (L.getD 0 .undef) t4)).bind fun t56 =>
 M.ite t56
 (M.blk 3 (
 M.blk 4 (
 M.iter (f_palanquinref9_writes_1 G t0 t3 (L.getD 0 .undef)) [(V.int .i64 0)]) fun _ =>
 M.pure (.nrm [])) fun _ =>
 (M.lift (Ax.bin .add (L.getD 0 .undef) (V.int .i64 1))).bind fun t58 =>
 M.pure (.nrm [t58]))
 (M.pure (.ex 2 []))

noncomputable def f_palanquinref9_writes_3 (G : Sem') (t0 t3 t9 : V) (L : List V) : M Res :=
 (M.lift (Ax.faddr 2 t3)).bind fun t83 =>
 (mload none t83).bind fun t84 =>
 (M.lift (Ax.iaddr none 5 t84 t9)).bind fun t86 =>
 (M.lift (Ax.faddr 3 t86)).bind fun t87 =>
 (mload none t87).bind fun t88 =>
 (M.lift (vlen t88)).bind fun t89 =>
 (M.lift (Ax.bin .lss (L.getD 0 .undef) t89)).bind fun t90 =>
 M.ite t90
 (M.blk 9 (
 (G fn_palanquinref6_Writer_Add [t0, (V.int .u64 1), (V.int .i64 1)]).bind fun t94 =>
 (M.lift (Ax.faddr 2 t3)).bind fun t96 =>
 (mload none t96).bind fun t97 =>
 (M.lift (Ax.iaddr none 5 t97 t9)).bind fun t99 =>
 (M.lift (Ax.faddr 3 t99)).bind fun t100 =>
 (mload none t100).bind fun t101 =>
 (M.lift (Ax.iaddr none 1 t101 (L.getD 0 .undef))).bind fun t103 =>
 (mload none t103).bind fun t104 =>
 (M.lift (Ax.bin .sub t104 (V.int .i64 1))).bind fun t105 =>
 (M.lift (Ax.cint .u64 t105)).bind fun t106 =>
 (G fn_palanquinref6_Writer_Add [t0, t106, (V.int .i64 4)]).bind fun t107 =>
 M.pure (.nrm [])) fun _ =>
 (M.lift (Ax.bin .add (L.getD 0 .undef) (V.int .i64 1))).bind fun t92 =>
 M.pure (.nrm [t92]))
 (M.pure (.ex 8 []))

noncomputable def f_palanquinref9_writes_4 (G : Sem') (t4 t3 t0 : V) (L : List V) : M Res :=
 (M.lift (Ax.bin .lss (L.getD 0 .undef) t4)).bind fun t79 =>
 M.ite t79
 (M.blk 7 (
 M.blk 8 (
 M.iter (f_palanquinref9_writes_3 G t0 t3 (L.getD 0 .undef)) [(V.int .i64 0)]) fun _ =>
 (G fn_palanquinref6_Writer_Add [t0, (V.int .u64 0), (V.int .i64 1)]).bind fun t109 =>
 M.pure (.nrm [])) fun _ =>
 (M.lift (Ax.bin .add (L.getD 0 .undef) (V.int .i64 1))).bind fun t81 =>
 M.pure (.nrm [t81]))
 (M.pure (.ex 6 []))

noncomputable def f_palanquinref9_writes_5 (G : Sem') (t0 t3 : V) (L : List V) : M Res :=
 (M.lift (Ax.faddr 1 t3)).bind fun t123 =>
 (mload none t123).bind fun t124 =>
 (M.lift (Ax.bin .lss (L.getD 0 .undef) t124)).bind fun t125 =>
 M.ite t125
 (M.blk 11 (
 (M.lift (Ax.faddr 4 t3)).bind fun t129 =>
 (mload none t129).bind fun t130 =>
 (M.lift (Ax.iaddr none 1 t130 (L.getD 0 .undef))).bind fun t132 =>
 (mload none t132).bind fun t133 =>
 (M.lift (Ax.cint .u64 t133)).bind fun t134 =>
 (M.lift (Ax.faddr 3 t3)).bind fun t135 =>
 (mload none t135).bind fun t136 =>
 (M.lift (Ax.cint .u64 t136)).bind fun t137 =>
 (G fn_palanquinref6_Writer_AddNS [t0, t134, t137]).bind fun t138 =>
 M.pure (.nrm [])) fun _ =>
 (M.lift (Ax.bin .add (L.getD 0 .undef) (V.int .i64 1))).bind fun t127 =>
 M.pure (.nrm [t127]))
 (M.pure (.ex 10 []))

noncomputable def f_palanquinref9_writes_6 (G : Sem') (t0 t3 t12 : V) (L : List V) : M Res :=
 (M.lift (Ax.faddr 3 t3)).bind fun t145 =>
 (mload none t145).bind fun t146 =>
 (M.lift (Ax.bin .lss (L.getD 0 .undef) t146)).bind fun t147 =>
 M.ite t147
 (M.blk 15 (
 (M.lift (Ax.faddr 2 t3)).bind fun t151 =>
 (mload none t151).bind fun t152 =>
 (M.lift (Ax.iaddr none 5 t152 t12)).bind fun t154 =>
 (M.lift (Ax.faddr 4 t154)).bind fun t155 =>
 (mload none t155).bind fun t156 =>
 (M.lift (Ax.iaddr none 1 t156 (L.getD 0 .undef))).bind fun t158 =>
 (mload none t158).bind fun t159 =>
 (M.lift (Ax.cint .u64 t159)).bind fun t160 =>
 (G fn_palanquinref6_Writer_Add [t0, t160, (V.int .i64 4)]).bind fun t161 =>
 M.pure (.nrm [])) fun _ =>
 (M.lift (Ax.bin .add (L.getD 0 .undef) (V.int .i64 1))).bind fun t149 =>
 M.pure (.nrm [t149]))
 (M.pure (.ex 14 []))

noncomputable def f_palanquinref9_writes_7 (G : Sem') (t4 t0 t3 : V) (L : List V) : M Res :=
 (M.lift (Ax.bin .lss (L.getD 0 .undef) t4)).bind fun t141 =>
 M.ite t141
 (M.blk 13 (
 M.blk 14 (
 M.iter (f_palanquinref9_writes_6 G t0 t3 (L.getD 0 .undef)) [(V.int .i64 0)]) fun _ =>
 M.pure (.nrm [])) fun _ =>
 (M.lift (Ax.bin .add (L.getD 0 .undef) (V.int .i64 1))).bind fun t143 =>
 M.pure (.nrm [t143]))
 (M.pure (.ex 12 []))

noncomputable def f_palanquinref9_writes_8 (G : Sem') (t0 t3 : V) (L : List V) : M Res :=
 (M.lift (Ax.faddr 5 t3)).bind fun t170 =>
 (mload none t170).bind fun t171 =>
 (M.lift (vlen t171)).bind fun t172 =>
 (M.lift (Ax.bin .lss (L.getD 0 .undef) t172)).bind fun t173 =>
 M.ite t173
 (M.blk 17 (
 (M.lift (Ax.faddr 5 t3)).bind fun t177 =>
 (mload none t177).bind fun t178 =>
 (M.lift (Ax.iaddr none 2 t178 (L.getD 0 .undef))).bind fun t180 =>
 (M.lift (Ax.iaddr (some 2) 1 t180 (V.int .i64 0))).bind fun t181 =>
 (mload none t181).bind fun t182 =>
 (M.lift (Ax.bin .sub t182 (V.int .i64 1))).bind fun t183 =>
 (M.lift (Ax.cint .u64 t183)).bind fun t184 =>
 (G fn_palanquinref6_Writer_Add [t0, t184, (V.int .i64 16)]).bind fun t185 =>
 (M.lift (Ax.faddr 5 t3)).bind fun t187 =>
 (mload none t187).bind fun t188 =>
 (M.lift (Ax.iaddr none 2 t188 (L.getD 0 .undef))).bind fun t190 =>
 (M.lift (Ax.iaddr (some 2) 1 t190 (V.int .i64 1))).bind fun t191 =>
 (mload none t191).bind fun t192 =>
 (M.lift (Ax.bin .sub t192 (V.int .i64 1))).bind fun t193 =>
 (M.lift (Ax.cint .u64 t193)).bind fun t194 =>
 (G fn_palanquinref6_Writer_Add [t0, t194, (V.int .i64 16)]).bind fun t195 =>
 M.pure (.nrm [])) fun _ =>
 (M.lift (Ax.bin .add (L.getD 0 .undef) (V.int .i64 1))).bind fun t175 =>
 M.pure (.nrm [t175]))
 (M.pure (.ex 16 []))

noncomputable def f_palanquinref9_writes (G : Sem') (t0 t1 : V) : M Res :=
 (mbox ty_palanquinref9_Structure t1).bind fun t3 =>
 (M.lift (Ax.faddr 2 t3)).bind fun t15 =>
 (mload none t15).bind fun t16 =>
 (M.lift (vlen t16)).bind fun t17 =>
 (M.lift (Ax.faddr 0 t3)).bind fun t19 =>
 (mload none t19).bind fun t20 =>
 (M.lift (Ax.cint .u64 t20)).bind fun t21 =>
 (G fn_palanquinref6_Writer_Add [t0, t21, (V.int .i64 6)]).bind fun t22 =>
 (M.lift (Ax.faddr 1 t3)).bind fun t24 =>
 (mload none t24).bind fun t25 =>
 (M.lift (Ax.bin .sub t25 (V.int .i64 1))).bind fun t26 =>
 (M.lift (Ax.cint .u64 t26)).bind fun t27 =>
 (G fn_palanquinref6_Writer_Add [t0, t27, (V.int .i64 5)]).bind fun t28 =>
 M.blk 0 (
 M.iter (f_palanquinref9_writes_0 G t17 t3 t0) [(V.int .i64 0)]) fun _ =>
 M.blk 2 (
 M.iter (f_palanquinref9_writes_2 G t17 t0 t3) [(V.int .i64 0)]) fun _ =>
 M.blk 6 (
 M.iter (f_palanquinref9_writes_4 G t17 t3 t0) [(V.int .i64 0)]) fun _ =>
 (M.lift (Ax.faddr 3 t3)).bind fun t111 =>
 (mload none t111).bind fun t112 =>
 (M.lift (Ax.cint .u64 t112)).bind fun t113 =>
 (M.lift (Ax.faddr 1 t3)).bind fun t114 =>
 (mload none t114).bind fun t115 =>
 (M.lift (Ax.bin .add t115 (V.int .i64 1))).bind fun t116 =>
 (M.lift (Ax.cint .u64 t116)).bind fun t117 =>
 (G fn_palanquinref6_Writer_AddNS [t0, t113, t117]).bind fun t118 =>
 (M.lift (Ax.faddr 3 t3)).bind fun t119 =>
 (mload none t119).bind fun t120 =>
 (M.lift (Ax.bin .gtr t120 (V.int .i64 0))).bind fun t121 =>
 M.join (M.ite t121
 (M.blk 10 (
 M.iter (f_palanquinref9_writes_5 G t0 t3) [(V.int .i64 0)]) fun _ =>
 M.blk 12 (
 M.iter (f_palanquinref9_writes_7 G t17 t0 t3) [(V.int .i64 0)]) fun _ =>
 M.pure (.nrm []))
 (M.pure (.nrm []))) fun _ =>
 (M.lift (Ax.faddr 5 t3)).bind fun t163 =>
 (mload none t163).bind fun t164 =>
 (M.lift (vlen t164)).bind fun t165 =>
 (M.lift (Ax.bin .gtr t165 (V.int .i64 0))).bind fun t166 =>
 (G fn_palanquinref9_one [t166]).bind fun t167 =>
 (G fn_palanquinref6_Writer_Add [t0, t167, (V.int .i64 1)]).bind fun t168 =>
 M.blk 16 (
 M.iter (f_palanquinref9_writes_8 G t0 t3) [(V.int .i64 0)]) fun _ =>
 M.pure (.ret [])

theorem eq_palanquinref9_writes (G : Sem') (t0 t1 : V) : execK G ir_palanquinref9_writes.rv ir_palanquinref9_writes.body [] [] (params 0 [t0, t1]) = f_palanquinref9_writes G t0 t1 := by kernel_rfl

theorem tb_palanquinref9_writes : T fn_palanquinref9_writes = some ir_palanquinref9_writes := by kernel_rfl

theorem ok_palanquinref9_writes {t0 t1 : V} {H : Heap} {Q : V → Heap → Prop} (h : Ok (f_palanquinref9_writes (sem T) t0 t1) H fun r H' => ∃ L, r = .ret L ∧ Q (tupled L) H') : Ok (sem T fn_palanquinref9_writes [t0, t1]) H Q :=
  ok_sem tb_palanquinref9_writes (Nat.le_of_ble_eq_true (by kernel_rfl)) (eq_palanquinref9_writes (sem T) t0 t1) h

noncomputable def ir_palanquinref6_Writer_AddNS : Fn' := irOf fn_palanquinref6_Writer_AddNS
noncomputable def f_palanquinref6_Writer_AddNS (G : Sem') (t0 t1 t2 : V) : M Res :=
 (M.lift (Ax.bin .lss t2 (V.int .u64 1))).bind fun t10 =>
 (guarded [(0, t10)] (some (0, false)) (M.pure t2)).bind fun t12 =>
 (guarded [(0, t10)] (some (0, false)) (M.lift (Ax.bin .gtr t12 (V.int .u64 4294967296)))).bind fun t13 =>
 (M.lift (Ax.pick t10 (V.bool true) t13)).bind fun t14 =>
 (guarded [(0, t14)] (some (0, false)) (M.pure t1)).bind fun t16 =>
 (guarded [(0, t14)] (some (0, false)) (M.pure t2)).bind fun t17 =>
 (guarded [(0, t14)] (some (0, false)) (M.lift (Ax.bin .geq t16 t17))).bind fun t18 =>
 (M.lift (Ax.pick t14 (V.bool true) t18)).bind fun t19 =>
 M.ite t19
 (M.pure (.ret [(V.int .i64 1)]))
 ((G fn_palanquinref6_width [t2]).bind fun t22 =>
 (M.lift (Ax.ext 0 t22)).bind fun t23 =>
 (M.lift (Ax.ext 1 t22)).bind fun t24 =>
 (M.lift (Ax.bin .lss t1 t24)).bind fun t27 =>
 M.ite t27
 ((M.lift (Ax.bin .sub t23 (V.int .i64 1))).bind fun t31 =>
 (G fn_palanquinref6_Writer_Add [t0, t1, t31]).bind fun t32 =>
 M.pure (.ret [t32]))
 ((M.lift (Ax.bin .add t1 t24)).bind fun t36 =>
 (G fn_palanquinref6_Writer_Add [t0, t36, t23]).bind fun t38 =>
 M.pure (.ret [t38])))

theorem eq_palanquinref6_Writer_AddNS (G : Sem') (t0 t1 t2 : V) : execK G ir_palanquinref6_Writer_AddNS.rv ir_palanquinref6_Writer_AddNS.body [] [] (params 0 [t0, t1, t2]) = f_palanquinref6_Writer_AddNS G t0 t1 t2 := by kernel_rfl

theorem tb_palanquinref6_Writer_AddNS : T fn_palanquinref6_Writer_AddNS = some ir_palanquinref6_Writer_AddNS := by kernel_rfl

theorem ok_palanquinref6_Writer_AddNS {t0 t1 t2 : V} {H : Heap} {Q : V → Heap → Prop} (h : Ok (f_palanquinref6_Writer_AddNS (sem T) t0 t1 t2) H fun r H' => ∃ L, r = .ret L ∧ Q (tupled L) H') : Ok (sem T fn_palanquinref6_Writer_AddNS [t0, t1, t2]) H Q :=
  ok_sem tb_palanquinref6_Writer_AddNS (Nat.le_of_ble_eq_true (by kernel_rfl)) (eq_palanquinref6_Writer_AddNS (sem T) t0 t1 t2) h

noncomputable def ir_palanquinref6_width : Fn' := irOf fn_palanquinref6_width
noncomputable def f_palanquinref6_width_0 (G : Sem') (t2 t3 : V) (L : List V) : M Res :=
 (M.lift (Ax.bin .gtr (L.getD 1 .undef) (V.int .u64 0))).bind fun t8 =>
 M.ite t8
 (M.blk 1 (
 (M.lift (Ax.bin .add (L.getD 0 .undef) (V.int .i64 1))).bind fun t12 =>
 M.pure (.nrm [t12])) fun L0 =>
 (M.lift (Ax.bin .shr (L.getD 1 .undef) (V.int .u64 1))).bind fun t10 =>
 M.pure (.nrm [(L0.getD 0 .undef), t10]))
 (M.pure (.ex 0 [(L.getD 0 .undef)]))

noncomputable def f_palanquinref6_width (G : Sem') (t0 : V) : M Res :=
 M.blk 0 (
 M.iter (f_palanquinref6_width_0 G (V.int .i64 0) (V.int .u64 0)) [(V.int .i64 0), t0]) fun L1 =>
 (M.lift (Ax.cint .u64 (L1.getD 0 .undef))).bind fun t15 =>
 (M.lift (Ax.bin .shl (V.int .u64 1) t15)).bind fun t16 =>
 (M.lift (Ax.bin .sub t16 t0)).bind fun t18 =>
 M.pure (.ret [(L1.getD 0 .undef), t18])

theorem eq_palanquinref6_width (G : Sem') (t0 : V) : execK G ir_palanquinref6_width.rv ir_palanquinref6_width.body [] [] (params 0 [t0]) = f_palanquinref6_width G t0 := by kernel_rfl

theorem tb_palanquinref6_width : T fn_palanquinref6_width = some ir_palanquinref6_width := by kernel_rfl

theorem ok_palanquinref6_width {t0 : V} {H : Heap} {Q : V → Heap → Prop} (h : Ok (f_palanquinref6_width (sem T) t0) H fun r H' => ∃ L, r = .ret L ∧ Q (tupled L) H') : Ok (sem T fn_palanquinref6_width [t0]) H Q :=
  ok_sem tb_palanquinref6_width (Nat.le_of_ble_eq_true (by kernel_rfl)) (eq_palanquinref6_width (sem T) t0) h

noncomputable def ir_palanquinref1_Same : Fn' := irOf fn_palanquinref1_Same
noncomputable def f_palanquinref1_Same (G : Sem') (t0 t1 : V) : M Res :=
 (mtostr t0).bind fun t6 =>
 (mtostr t1).bind fun t8 =>
 (M.lift (Ax.bin .eql t6 t8)).bind fun t9 =>
 M.pure (.ret [t9])

theorem eq_palanquinref1_Same (G : Sem') (t0 t1 : V) : execK G ir_palanquinref1_Same.rv ir_palanquinref1_Same.body [] [] (params 0 [t0, t1]) = f_palanquinref1_Same G t0 t1 := by kernel_rfl

theorem tb_palanquinref1_Same : T fn_palanquinref1_Same = some ir_palanquinref1_Same := by kernel_rfl

theorem ok_palanquinref1_Same {t0 t1 : V} {H : Heap} {Q : V → Heap → Prop} (h : Ok (f_palanquinref1_Same (sem T) t0 t1) H fun r H' => ∃ L, r = .ret L ∧ Q (tupled L) H') : Ok (sem T fn_palanquinref1_Same [t0, t1]) H Q :=
  ok_sem tb_palanquinref1_Same (Nat.le_of_ble_eq_true (by kernel_rfl)) (eq_palanquinref1_Same (sem T) t0 t1) h

end Go.Ax
/- DepS1 -/
set_option maxRecDepth 100000
set_option linter.unusedVariables false
set_option linter.unusedSimpArgs false
namespace Go.Ax.D9
open Go.Ax
theorem list_ne {a b : List Int} {k : Nat} (h : k < a.length) (h' : k < b.length) (e : a[k] ≠ b[k]) : a ≠ b := fun he => by subst he; exact e rfl
theorem list_eq {a b : List Int} (hl : a.length = b.length) (h : ∀ j (hj : j < a.length), a[j] = b[j]'(by omega)) : a = b := List.ext_getElem hl fun i h1 h2 => h i h1

theorem Equal_ok {lo lo' : Nat} {H : Heap} {v w : V} {a b : List Int} (ha : Il lo H v a) (hb : Il lo' H w b) (hl : a.length ≤ 1099511627776) :
    Ok (sem T fn_slices_Equal_int_int [v, w]) H fun r H' => r = .bool (decide (a = b)) ∧ H' = H := by
  refine ok_slices_Equal_int_int ?_
  unfold f_slices_Equal_int_int
  by_cases e : a.length = b.length
  · simp (maxSteps := 1000000) (disch := first | omega | (simp only [RY] <;> omega) | decide) only [↓RD, RZ, eq_self, Int.reduceToNat, Int.reduceAdd, Int.reduceSub, Int.reduceMul, Nat.reduceAdd, Nat.reduceSub, Nat.reduceMul, Nat.reduceDiv, Nat.reduceMod, Nat.reduceBEq, Nat.reduceLeDiff, ha.vlen, hb.vlen, e]
    rw [← e]
    refine ok_mono (Q := fun r H' => H' = H ∧ ((r = Res.ex 0 [] ∧ a = b) ∨ (r = .ret [.bool false] ∧ a ≠ b))) ?_ ?_
    · refine ok_loop (fun k L H' => L = [.int .i64 (k : Nat)] ∧ H' = H ∧ ∀ j (hj : j < a.length), j < k → a[j] = b[j]'(by omega)) a.length ?_ ?_ ?_
      · exact ⟨rfl, rfl, fun j hj hk => absurd hk (by omega)⟩
      · rintro k L H1 hk ⟨rfl, rfl, hP⟩
        obtain ⟨p, hp, lp, -⟩ := il_at ha (i := (k : Nat)) (by omega) (by omega)
        obtain ⟨q, hq, lq, -⟩ := il_at hb (i := (k : Nat)) (by omega) (by omega)
        rw [Int.toNat_natCast, getD_get hk] at lp
        rw [Int.toNat_natCast, getD_get (by omega)] at lq
        unfold f_slices_Equal_int_int_0
        by_cases e1 : a[k] = b[k]'(by omega)
        · simp (maxSteps := 1000000) (disch := first | omega | (simp only [RY] <;> omega) | decide) only [↓RD, RZ, eq_self, Int.reduceToNat, Int.reduceAdd, Int.reduceSub, Int.reduceMul, Nat.reduceAdd, Nat.reduceSub, Nat.reduceMul, Nat.reduceDiv, Nat.reduceMod, Nat.reduceBEq, Nat.reduceLeDiff, hp, lp, hq, lq, e1]
          refine ⟨by rfl, fun j hj hjk => ?_⟩
          rcases Nat.lt_or_ge j k with h | h
          · exact hP j hj h
          · have : j = k := by omega
            subst this; exact e1
        · simp (maxSteps := 1000000) (disch := first | omega | (simp only [RY] <;> omega) | decide) only [↓RD, RZ, eq_self, Int.reduceToNat, Int.reduceAdd, Int.reduceSub, Int.reduceMul, Nat.reduceAdd, Nat.reduceSub, Nat.reduceMul, Nat.reduceDiv, Nat.reduceMod, Nat.reduceBEq, Nat.reduceLeDiff, hp, lp, hq, lq]
          exact .inr (list_ne hk (by omega) e1)
      · rintro L H1 ⟨rfl, rfl, hP⟩
        unfold f_slices_Equal_int_int_0
        simp (maxSteps := 1000000) (disch := first | omega | (simp only [RY] <;> omega) | decide) only [↓RD, RZ, eq_self, Int.reduceToNat, Int.reduceAdd, Int.reduceSub, Int.reduceMul, Nat.reduceAdd, Nat.reduceSub, Nat.reduceMul, Nat.reduceDiv, Nat.reduceMod, Nat.reduceBEq, Nat.reduceLeDiff]
        exact .inl (list_eq e fun j hj => hP j hj hj)
    · rintro r H' ⟨rfl, ⟨rfl, h⟩ | ⟨rfl, h⟩⟩
      · simp (maxSteps := 1000000) (disch := first | omega | (simp only [RY] <;> omega) | decide) only [↓RD, RZ, eq_self, Int.reduceToNat, Int.reduceAdd, Int.reduceSub, Int.reduceMul, Nat.reduceAdd, Nat.reduceSub, Nat.reduceMul, Nat.reduceDiv, Nat.reduceMod, Nat.reduceBEq, Nat.reduceLeDiff]
        rw [decide_eq_true h]
      · simp (maxSteps := 1000000) (disch := first | omega | (simp only [RY] <;> omega) | decide) only [↓RD, RZ, eq_self, Int.reduceToNat, Int.reduceAdd, Int.reduceSub, Int.reduceMul, Nat.reduceAdd, Nat.reduceSub, Nat.reduceMul, Nat.reduceDiv, Nat.reduceMod, Nat.reduceBEq, Nat.reduceLeDiff]
        rw [decide_eq_false h]
  · simp (maxSteps := 1000000) (disch := first | omega | (simp only [RY] <;> omega) | decide) only [↓RD, RZ, eq_self, Int.reduceToNat, Int.reduceAdd, Int.reduceSub, Int.reduceMul, Nat.reduceAdd, Nat.reduceSub, Nat.reduceMul, Nat.reduceDiv, Nat.reduceMod, Nat.reduceBEq, Nat.reduceLeDiff, ha.vlen, hb.vlen]
    rw [decide_eq_false fun h => e (by rw [h])]

theorem SameInts_ok {lo lo' : Nat} {H : Heap} {v w : V} {a b : List Int} (ha : Il lo H v a) (hb : Il lo' H w b) (hl : a.length ≤ 1099511627776) :
    Ok (sem T fn_palanquinref9_SameInts [v, w]) H fun r H' => r = .bool (decide (a = b)) ∧ H' = H := by
  refine ok_palanquinref9_SameInts ?_
  unfold f_palanquinref9_SameInts
  by_cases e : a.length = b.length
  · have hbv := hb.vlen
    rw [← e] at hbv
    simp (maxSteps := 1000000) (disch := first | omega | (simp only [RY] <;> omega) | decide) only [↓RD, RZ, eq_self, Int.reduceToNat, Int.reduceAdd, Int.reduceSub, Int.reduceMul, Nat.reduceAdd, Nat.reduceSub, Nat.reduceMul, Nat.reduceDiv, Nat.reduceMod, Nat.reduceBEq, Nat.reduceLeDiff, ha.vlen, hbv]
    refine ok_mono (Q := fun r H' => H' = H ∧ ((r = Res.ex 0 [] ∧ a = b) ∨ (r = .ret [.bool false] ∧ a ≠ b))) ?_ ?_
    · refine ok_loop (fun k L H' => L = [.int .i64 (k : Nat)] ∧ H' = H ∧ ∀ j (hj : j < a.length), j < k → a[j] = b[j]'(by omega)) a.length ?_ ?_ ?_
      · exact ⟨rfl, rfl, fun j hj hk => absurd hk (by omega)⟩
      · rintro k L H1 hk ⟨rfl, rfl, hP⟩
        obtain ⟨p, hp, lp, -⟩ := il_at ha (i := (k : Nat)) (by omega) (by omega)
        obtain ⟨q, hq, lq, -⟩ := il_at hb (i := (k : Nat)) (by omega) (by omega)
        rw [Int.toNat_natCast, getD_get hk] at lp
        rw [Int.toNat_natCast, getD_get (by omega)] at lq
        unfold f_palanquinref9_SameInts_0
        by_cases e1 : a[k] = b[k]'(by omega)
        · simp (maxSteps := 1000000) (disch := first | omega | (simp only [RY] <;> omega) | decide) only [↓RD, RZ, eq_self, Int.reduceToNat, Int.reduceAdd, Int.reduceSub, Int.reduceMul, Nat.reduceAdd, Nat.reduceSub, Nat.reduceMul, Nat.reduceDiv, Nat.reduceMod, Nat.reduceBEq, Nat.reduceLeDiff, ha.vlen, hp, lp, hq, lq, e1]
          refine ⟨by rfl, fun j hj hjk => ?_⟩
          rcases Nat.lt_or_ge j k with h | h
          · exact hP j hj h
          · have : j = k := by omega
            subst this; exact e1
        · simp (maxSteps := 1000000) (disch := first | omega | (simp only [RY] <;> omega) | decide) only [↓RD, RZ, eq_self, Int.reduceToNat, Int.reduceAdd, Int.reduceSub, Int.reduceMul, Nat.reduceAdd, Nat.reduceSub, Nat.reduceMul, Nat.reduceDiv, Nat.reduceMod, Nat.reduceBEq, Nat.reduceLeDiff, ha.vlen, hp, lp, hq, lq]
          exact .inr (list_ne hk (by omega) e1)
      · rintro L H1 ⟨rfl, rfl, hP⟩
        unfold f_palanquinref9_SameInts_0
        simp (maxSteps := 1000000) (disch := first | omega | (simp only [RY] <;> omega) | decide) only [↓RD, RZ, eq_self, Int.reduceToNat, Int.reduceAdd, Int.reduceSub, Int.reduceMul, Nat.reduceAdd, Nat.reduceSub, Nat.reduceMul, Nat.reduceDiv, Nat.reduceMod, Nat.reduceBEq, Nat.reduceLeDiff, ha.vlen]
        exact .inl (list_eq e fun j hj => hP j hj hj)
    · rintro r H' ⟨rfl, ⟨rfl, h⟩ | ⟨rfl, h⟩⟩
      · simp (maxSteps := 1000000) (disch := first | omega | (simp only [RY] <;> omega) | decide) only [↓RD, RZ, eq_self, Int.reduceToNat, Int.reduceAdd, Int.reduceSub, Int.reduceMul, Nat.reduceAdd, Nat.reduceSub, Nat.reduceMul, Nat.reduceDiv, Nat.reduceMod, Nat.reduceBEq, Nat.reduceLeDiff]
        rw [decide_eq_true h]
      · simp (maxSteps := 1000000) (disch := first | omega | (simp only [RY] <;> omega) | decide) only [↓RD, RZ, eq_self, Int.reduceToNat, Int.reduceAdd, Int.reduceSub, Int.reduceMul, Nat.reduceAdd, Nat.reduceSub, Nat.reduceMul, Nat.reduceDiv, Nat.reduceMod, Nat.reduceBEq, Nat.reduceLeDiff]
        rw [decide_eq_false h]
  · simp (maxSteps := 1000000) (disch := first | omega | (simp only [RY] <;> omega) | decide) only [↓RD, RZ, eq_self, Int.reduceToNat, Int.reduceAdd, Int.reduceSub, Int.reduceMul, Nat.reduceAdd, Nat.reduceSub, Nat.reduceMul, Nat.reduceDiv, Nat.reduceMod, Nat.reduceBEq, Nat.reduceLeDiff, ha.vlen, hb.vlen]
    rw [decide_eq_false fun h => e (by rw [h])]

/-- append([]byte{}, y..), append([]T{}, y..): a slice of one's own. -/
theorem okb_copy {β : Type} {ty e bytes m : Nat} {H : Heap} {y : V} {q : List V} {f : V → M β} {Q : β → Heap → Prop} (hy : acells e H y = some (q, m)) (hp : ∀ id, y.pid = some id → id < H.next) (hq : q.length = m * e)
    (hb : m * bytes ≤ 140737488355328) (hm : m ≤ 140737488355328)
    (k : ∀ x' H', App ty e H.next H' x' q m → Grow H H' → Ok (f x') H' Q) : Ok ((mappend ty e bytes (.sl H.next 0 0 (.fix 0)) y).bind f) (H.new ⟨ty, [], none⟩) Q := by
  have ha : App ty e H.next (H.new ⟨ty, [], none⟩) (.sl H.next 0 0 (.fix 0)) [] 0 := .lit (get_new_self _ _) (Nat.le_refl _) (by rw [next_new]; omega)
  refine okb_app ha (by rw [next_new]; omega) (by rw [acells_to fun i hi => get_new_ne _ _ (by have := hp i hi; omega)]; exact hy) hq (by simpa using hb) (by omega) fun x' H' h hs => ?_
  refine k x' H' (by simpa using h) ⟨by have := hs.next; rw [next_new] at this; omega, fun i hi => ?_⟩
  rw [hs.same i (by rw [next_new]; omega) (by simp [V.pid]; omega), get_new_ne _ _ (by omega)]

theorem CloneI_ok {lo : Nat} {H : Heap} {v : V} {l : List Int} (h : Il lo H v l) (hl : l.length ≤ 1099511627776) : Ok (sem T fn_slices_Clone_int_int [v]) H fun r H' => Il H.next H' r l ∧ Grow H H' := by
  refine ok_slices_Clone_int_int ?_
  unfold f_slices_Clone_int_int
  rcases h.cases with ⟨rfl, hc, hn⟩ | ⟨id, off, cap, b, rfl, _⟩ | ⟨cs, rfl, _⟩
  · simp (maxSteps := 1000000) (disch := first | omega | (simp only [RY] <;> omega) | decide) only [↓RD, RZ, eq_self, Int.reduceToNat, Int.reduceAdd, Int.reduceSub, Int.reduceMul, Nat.reduceAdd, Nat.reduceSub, Nat.reduceMul, Nat.reduceDiv, Nat.reduceMod, Nat.reduceBEq, Nat.reduceLeDiff]
    have : l = [] := List.eq_nil_of_length_eq_zero hn
    subst this
    exact ⟨Lc.nil, Grow.refl _⟩
  · simp (maxSteps := 1000000) (disch := first | omega | (simp only [RY] <;> omega) | decide) only [↓RD, RZ, eq_self, Int.reduceToNat, Int.reduceAdd, Int.reduceSub, Int.reduceMul, Nat.reduceAdd, Nat.reduceSub, Nat.reduceMul, Nat.reduceDiv, Nat.reduceMod, Nat.reduceBEq, Nat.reduceLeDiff]
    refine okb_copy h.ac (fun i hi => (h.own i hi).2) (by simp) (by omega) (by omega) fun x' H' ha hg => ?_
    simp (maxSteps := 1000000) (disch := first | omega | (simp only [RY] <;> omega) | decide) only [↓RD, RZ, eq_self, Int.reduceToNat, Int.reduceAdd, Int.reduceSub, Int.reduceMul, Nat.reduceAdd, Nat.reduceSub, Nat.reduceMul, Nat.reduceDiv, Nat.reduceMod, Nat.reduceBEq, Nat.reduceLeDiff]
    exact ⟨ha.lc, hg⟩
  · simp (maxSteps := 1000000) (disch := first | omega | (simp only [RY] <;> omega) | decide) only [↓RD, RZ, eq_self, Int.reduceToNat, Int.reduceAdd, Int.reduceSub, Int.reduceMul, Nat.reduceAdd, Nat.reduceSub, Nat.reduceMul, Nat.reduceDiv, Nat.reduceMod, Nat.reduceBEq, Nat.reduceLeDiff]
    refine okb_copy h.ac (fun i hi => (h.own i hi).2) (by simp) (by omega) (by omega) fun x' H' ha hg => ?_
    simp (maxSteps := 1000000) (disch := first | omega | (simp only [RY] <;> omega) | decide) only [↓RD, RZ, eq_self, Int.reduceToNat, Int.reduceAdd, Int.reduceSub, Int.reduceMul, Nat.reduceAdd, Nat.reduceSub, Nat.reduceMul, Nat.reduceDiv, Nat.reduceMod, Nat.reduceBEq, Nat.reduceLeDiff]
    exact ⟨ha.lc, hg⟩

theorem copied_ok {H : Heap} {t : Tm} {a b c : V} (h : TmR 0 H t a b c) (ho : TmO t) : Ok (sem T fn_depend_copied [.agg [.int .i64 t.sp, .int .i64 t.te, a, b, c]]) H fun r H' => (∃ d e f, r = .agg [.int .i64 t.sp, .int .i64 t.te, d, e, f] ∧ TmR H.next H' t d e f) ∧ Grow H H' := by
  have n1 := ho.dti.2
  have n2 := ho.dif.2
  have n3 := ho.cha.2
  refine ok_depend_copied ?_
  unfold f_depend_copied
  simp (maxSteps := 1000000) (disch := first | omega | (simp only [RY] <;> omega) | decide) only [↓RD, RZ, eq_self, Int.reduceToNat, Int.reduceAdd, Int.reduceSub, Int.reduceMul, Nat.reduceAdd, Nat.reduceSub, Nat.reduceMul, Nat.reduceDiv, Nat.reduceMod, Nat.reduceBEq, Nat.reduceLeDiff, h.dti.cells1, h.dti.okc, h.dif.cells1, h.dif.okc, h.cha.cells1, h.cha.okc]
  generalize hH1 : Heap.new (Heap.new H _) _ = H1
  have s1 : Grow H H1 := by rw [← hH1]; exact (Grow.new _ _).trans (Grow.new _ _)
  have m1 : H1.next = H.next + 2 := by rw [← hH1]; rfl
  have g1 : H1.get H.next = some ⟨ty_depend_Template, [.int .i64 t.sp, .int .i64 t.te, a, b, c], none⟩ := by rw [← hH1]; simp (maxSteps := 1000000) (disch := first | omega | (simp only [RY] <;> omega) | decide) only [↓RD, RZ, eq_self, Int.reduceToNat, Int.reduceAdd, Int.reduceSub, Int.reduceMul, Nat.reduceAdd, Nat.reduceSub, Nat.reduceMul, Nat.reduceDiv, Nat.reduceMod, Nat.reduceBEq, Nat.reduceLeDiff]
  have z1 : H1.get (H.next + 1) = some ⟨ty_depend_Template, [.int .i64 0, .int .i64 0, .nils, .nils, .nils], none⟩ := by rw [← hH1]; simp (maxSteps := 1000000) (disch := first | omega | (simp only [RY] <;> omega) | decide) only [↓RD, RZ, eq_self, Int.reduceToNat, Int.reduceAdd, Int.reduceSub, Int.reduceMul, Nat.reduceAdd, Nat.reduceSub, Nat.reduceMul, Nat.reduceDiv, Nat.reduceMod, Nat.reduceBEq, Nat.reduceLeDiff]
  clear hH1
  refine ok_bind' (CloneI_ok (h.dti.ext s1) (by omega)) ?_
  rintro d H2 ⟨hd, s2⟩
  have m2 := s2.next
  have g2 : H2.get H.next = _ := (s2.same _ (by omega)).trans g1
  have z2 : H2.get (H.next + 1) = _ := (s2.same _ (by omega)).trans z1
  simp (maxSteps := 1000000) (disch := first | omega | (simp only [RY] <;> omega) | decide) only [↓RD, RZ, eq_self, Int.reduceToNat, Int.reduceAdd, Int.reduceSub, Int.reduceMul, Nat.reduceAdd, Nat.reduceSub, Nat.reduceMul, Nat.reduceDiv, Nat.reduceMod, Nat.reduceBEq, Nat.reduceLeDiff, g1, g2]
  refine ok_bind' (CloneI_ok (h.dif.ext (s1.trans s2)) (by omega)) ?_
  rintro e H3 ⟨he, s3⟩
  have m3 := s3.next
  have g3 : H3.get H.next = _ := (s3.same _ (by omega)).trans g2
  have z3 : H3.get (H.next + 1) = _ := (s3.same _ (by omega)).trans z2
  simp (maxSteps := 1000000) (disch := first | omega | (simp only [RY] <;> omega) | decide) only [↓RD, RZ, eq_self, Int.reduceToNat, Int.reduceAdd, Int.reduceSub, Int.reduceMul, Nat.reduceAdd, Nat.reduceSub, Nat.reduceMul, Nat.reduceDiv, Nat.reduceMod, Nat.reduceBEq, Nat.reduceLeDiff, g2, g3]
  refine ok_bind' (CloneI_ok (h.cha.ext ((s1.trans s2).trans s3)) (by omega)) ?_
  rintro f H4 ⟨hf, s4⟩
  have m4 := s4.next
  have g4 : H4.get H.next = _ := (s4.same _ (by omega)).trans g3
  have z4 : H4.get (H.next + 1) = _ := (s4.same _ (by omega)).trans z3
  simp (maxSteps := 1000000) (disch := first | omega | (simp only [RY] <;> omega) | decide) only [↓RD, RZ, eq_self, Int.reduceToNat, Int.reduceAdd, Int.reduceSub, Int.reduceMul, Nat.reduceAdd, Nat.reduceSub, Nat.reduceMul, Nat.reduceDiv, Nat.reduceMod, Nat.reduceBEq, Nat.reduceLeDiff, g4, z4, hd.cells1, hd.okc, he.cells1, he.okc, hf.cells1, hf.okc]
  generalize hH5 : Heap.set _ _ _ = H5
  have s5 : Grow H H5 := by
    rw [← hH5]
    have := ((s1.trans s2).trans s3).trans s4
    first
      | exact (this.set (by omega) _).set (by omega) _
      | exact (((this.set (by omega) _).set (by omega) _).set (by omega) _).set (by omega) _
      | exact ((this.set (by omega) _).set (by omega) _).set (by omega) _
  have k5 : Keep H1.next H4 H5 := by
    rw [← hH5]
    have ks := fun (H : Heap) (w : Nat) (b : Option Blk) (hw : w < H1.next) => Keep.set (lo := H1.next) H hw b
    first
      | exact (ks _ _ _ (by omega)).trans (ks _ _ _ (by omega))
      | exact (((ks _ _ _ (by omega)).trans (ks _ _ _ (by omega))).trans (ks _ _ _ (by omega))).trans (ks _ _ _ (by omega))
      | exact ((ks _ _ _ (by omega)).trans (ks _ _ _ (by omega))).trans (ks _ _ _ (by omega))
  clear hH5
  exact ⟨⟨d, e, f, rfl, ⟨((hd.ext (s3.trans s4)).keep k5).low (by omega), (((he.low m2).ext s4).keep k5).low (by omega), ((hf.low (by omega)).keep k5).low (by omega)⟩⟩, s5⟩

/-- What is told of a place's template. -/
def TmQ (lo : Nat) (H : Heap) (o : Option Tm) (r : V) : Prop := match o with
  | none => r = .tup [.agg [.int .i64 0, .int .i64 0, .nils, .nils, .nils], .bool false]
  | some t => ∃ a b c, r = .tup [.agg [.int .i64 t.sp, .int .i64 t.te, a, b, c], .bool true] ∧ TmR lo H t a b c

theorem TmQ.get {lo : Nat} {H : Heap} {o : Option Tm} {r : V} (h : TmQ lo H o r) : ∃ a b c, r = .tup [.agg [.int .i64 (o.getD Tm0).sp, .int .i64 (o.getD Tm0).te, a, b, c], .bool o.isSome] ∧ TmR lo H (o.getD Tm0) a b c := by
  cases o with
  | none => exact ⟨_, _, _, h, Lc.nil, Lc.nil, Lc.nil⟩
  | some t => exact h

theorem rem64 {x : Int} (h0 : 0 ≤ x) (h1 : x < 1000) : Ax.bin .rem (.int .i64 x) (.int .i64 64) = some (.int .i64 (x % 64)) := by
  have e : Int.tmod x 64 = x % 64 := Int.tmod_eq_emod_of_nonneg h0
  simp [Ax.bin, intBin, e, IntKind.wrap, IntKind.signed, IntKind.bits]

theorem template_ok {lo : Nat} {H : Heap} {v : V} {s : Sr} (h : SrR 0 H v s) (ho : SrO s) (hoff : 0 ≤ s.off ∧ s.off ≤ 63) (id : Int) : Ok (sem T fn_depend_template [v, .int .i64 id]) H fun r H' => TmQ H.next H' (tmPl s id) r ∧ Grow H H' := by
  obtain ⟨a, b, c, rfl, h⟩ := h
  have nt := ho.ts
  refine ok_depend_template ?_
  unfold f_depend_template
  unfold scells
  simp (maxSteps := 1000000) (disch := first | omega | (simp only [RY] <;> omega) | decide) only [↓RD, RZ, eq_self, Int.reduceToNat, Int.reduceAdd, Int.reduceSub, Int.reduceMul, Nat.reduceAdd, Nat.reduceSub, Nat.reduceMul, Nat.reduceDiv, Nat.reduceMod, Nat.reduceBEq, Nat.reduceLeDiff, h.ts.cells1, h.ts.okc, h.pro.cells1, h.pro.okc, h.siz.cells1, h.siz.okc]
  generalize hH1 : Heap.new (Heap.new H _) _ = H1
  have s1 : Grow H H1 := by rw [← hH1]; exact (Grow.new _ _).trans (Grow.new _ _)
  have n1 : H1.next = H.next + 2 := by rw [← hH1]; rfl
  have g1 : H1.get H.next = some ⟨ty_depend_Structure, [.int .i64 s.off, .int .i64 s.tar, a, .int .i64 s.cha, b, c], none⟩ := by rw [← hH1]; simp (maxSteps := 1000000) (disch := first | omega | (simp only [RY] <;> omega) | decide) only [↓RD, RZ, eq_self, Int.reduceToNat, Int.reduceAdd, Int.reduceSub, Int.reduceMul, Nat.reduceAdd, Nat.reduceSub, Nat.reduceMul, Nat.reduceDiv, Nat.reduceMod, Nat.reduceBEq, Nat.reduceLeDiff]
  have z1 : H1.get (H.next + 1) = some ⟨ty_depend_Template, [.int .i64 0, .int .i64 0, .nils, .nils, .nils], none⟩ := by rw [← hH1]; simp (maxSteps := 1000000) (disch := first | omega | (simp only [RY] <;> omega) | decide) only [↓RD, RZ, eq_self, Int.reduceToNat, Int.reduceAdd, Int.reduceSub, Int.reduceMul, Nat.reduceAdd, Nat.reduceSub, Nat.reduceMul, Nat.reduceDiv, Nat.reduceMod, Nat.reduceBEq, Nat.reduceLeDiff]
  clear hH1
  have s1' : ∀ b, Grow H (H1.set (H.next + 1) b) := fun b => s1.set (by omega) b
  unfold tmPl
  by_cases a1 : id < 0
  · rw [if_neg (by omega)]
    simp (maxSteps := 1000000) (disch := first | omega | (simp only [RY] <;> omega) | decide) only [↓RD, RZ, eq_self, Int.reduceToNat, Int.reduceAdd, Int.reduceSub, Int.reduceMul, Nat.reduceAdd, Nat.reduceSub, Nat.reduceMul, Nat.reduceDiv, Nat.reduceMod, Nat.reduceBEq, Nat.reduceLeDiff, z1]
    exact ⟨rfl, s1' _⟩
  by_cases a2 : 64 ≤ id
  · rw [if_neg (by omega)]
    simp (maxSteps := 1000000) (disch := first | omega | (simp only [RY] <;> omega) | decide) only [↓RD, RZ, eq_self, Int.reduceToNat, Int.reduceAdd, Int.reduceSub, Int.reduceMul, Nat.reduceAdd, Nat.reduceSub, Nat.reduceMul, Nat.reduceDiv, Nat.reduceMod, Nat.reduceBEq, Nat.reduceLeDiff, z1]
    exact ⟨rfl, s1' _⟩
  rw [if_pos (by omega)]
  have er := rem64 (x := id + 64 - s.off) (by omega) (by omega)
  obtain ⟨m, hm⟩ : ∃ m : Nat, (id + 64 - s.off) % 64 = (m : Int) := ⟨((id + 64 - s.off) % 64).toNat, by omega⟩
  rw [hm] at er ⊢
  rw [Int.toNat_natCast]
  by_cases a3 : s.ts.length ≤ m
  · rw [List.getElem?_eq_none a3]
    simp (maxSteps := 1000000) (disch := first | omega | (simp only [RY] <;> omega) | decide) only [↓RD, RZ, eq_self, Int.reduceToNat, Int.reduceAdd, Int.reduceSub, Int.reduceMul, Nat.reduceAdd, Nat.reduceSub, Nat.reduceMul, Nat.reduceDiv, Nat.reduceMod, Nat.reduceBEq, Nat.reduceLeDiff, g1, er, h.ts.vlen, z1]
    exact ⟨rfl, s1' _⟩
  · have hm' : m < s.ts.length := by omega
    rw [List.getElem?_eq_getElem hm']
    obtain ⟨q, d, e, f, i1, l1, w1⟩ := (h.ts.ext s1).at hm'
    obtain ⟨-, -, -, -, -, l2⟩ := pl5 l1
    simp (maxSteps := 1000000) (disch := first | omega | (simp only [RY] <;> omega) | decide) only [↓RD, RZ, eq_self, Int.reduceToNat, Int.reduceAdd, Int.reduceSub, Int.reduceMul, Nat.reduceAdd, Nat.reduceSub, Nat.reduceMul, Nat.reduceDiv, Nat.reduceMod, Nat.reduceBEq, Nat.reduceLeDiff, g1, er, h.ts.vlen, i1, l2]
    refine ok_bind' (copied_ok w1 (ho.tm _ (List.getElem_mem hm'))) ?_
    rintro _ H2 ⟨⟨d', e', f', rfl, w2⟩, s2⟩
    have z2 : H2.get (H.next + 1) = _ := (s2.same _ (by omega)).trans z1
    simp (maxSteps := 1000000) (disch := first | omega | (simp only [RY] <;> omega) | decide) only [↓RD, RZ, eq_self, Int.reduceToNat, Int.reduceAdd, Int.reduceSub, Int.reduceMul, Nat.reduceAdd, Nat.reduceSub, Nat.reduceMul, Nat.reduceDiv, Nat.reduceMod, Nat.reduceBEq, Nat.reduceLeDiff, z2, w2.dti.cells1, w2.dti.okc, w2.dif.cells1, w2.dif.okc, w2.cha.cells1, w2.cha.okc]
    exact ⟨⟨d', e', f', rfl, (w2.keep (Keep.set (lo := H1.next) H2 (by omega) _)).low (by omega)⟩, (s1.trans s2).set (by omega) _⟩

theorem Tms.at2 {lo : Nat} {H : Heap} {v : V} {ts : List Tm} (h : Tms lo H v ts) {i : Nat} (hi : i < ts.length) : ∃ q a b c, (∀ {k : IntKind}, Ax.iaddr none 5 v (.int k i) = some q) ∧ TmR lo H ts[i] a b c ∧ ∀ H', Grow H H' → Pl H' q [.int .i64 ts[i].sp, .int .i64 ts[i].te, a, b, c] v.pid := by
  obtain ⟨ws, rfl, h2, h3⟩ := h
  rw [List.length_map] at hi
  obtain ⟨p, hp, -⟩ := h2.at (i := (i : Nat)) (by omega) (by omega)
  refine ⟨p, ws[i].2.1, ws[i].2.2.1, ws[i].2.2.2, hp, by simpa using h3 _ (List.getElem_mem hi), fun H' s => ?_⟩
  obtain ⟨p', hp', hl⟩ := (h2.ext s).at (i := (i : Nat)) (by omega) (by omega)
  have : p = p' := by
    have := (hp (k := .i64)).symm.trans (hp' (k := .i64))
    simpa using this
  subst this
  have e : ((ws.map tc).flatten.drop (i * 5)).take 5 = tc ws[i] := by
    rw [flat_piece _ (tc_len ws) i (by rw [List.length_map]; exact hi), List.getElem_map]
  rw [Int.toNat_natCast, e] at hl
  simpa [tc] using hl

/-- The structure that holds, in memory. -/
def HoC (f : Fr) (a b c p q r x y z : V) : Prop := if f.new = true then x = a ∧ y = b ∧ z = c else x = p ∧ y = q ∧ z = r
theorem HoC.src {H : Heap} {f : Fr} {k : Sr} {a b c d e g p q r x y z : V} (h : HoC f a b c p q r x y z) (hf : FrC 0 H f a b c d e g) (hk : SrC 0 H k p q r) : SrC 0 H (hold f k) x y z := by
  unfold HoC at h
  unfold hold
  split at h
  · obtain ⟨rfl, rfl, rfl⟩ := h; rw [if_pos ‹_›]; exact hf.s
  · obtain ⟨rfl, rfl, rfl⟩ := h; rw [if_neg ‹_›]; exact hk

/-- The structure that holds. -/
theorem hold_ok {H : Heap} {f : Fr} {k : Sr} {a b c d e g p q r : V} (hf : FrC 0 H f a b c d e g) (hk : SrC 0 H k p q r) :
    Ok (sem T fn_depend_holds [.agg (fcells f a b c d e g), .agg (scells k p q r)]) H fun v H' => (∃ x y z, v = .agg (scells (hold f k) x y z) ∧ HoC f a b c p q r x y z) ∧ Grow H H' := by
  obtain ⟨ca, cb, cc, cd, ce, cg⟩ := fr_dti hf
  refine ok_depend_holds ?_
  unfold f_depend_holds
  unfold fcells scells hold HoC
  simp (maxSteps := 1000000) (disch := first | omega | (simp only [RY] <;> omega) | decide) only [↓RD, RZ, eq_self, Int.reduceToNat, Int.reduceAdd, Int.reduceSub, Int.reduceMul, Nat.reduceAdd, Nat.reduceSub, Nat.reduceMul, Nat.reduceDiv, Nat.reduceMod, Nat.reduceBEq, Nat.reduceLeDiff, ca.1, ca.2, cb.1, cb.2, cc.1, cc.2, cd.1, cd.2, ce.1, ce.2, cg.1, cg.2, hk.ts.cells1, hk.ts.okc, hk.pro.cells1, hk.pro.okc, hk.siz.cells1, hk.siz.okc]
  cases f.new with
  | true =>
    simp (maxSteps := 1000000) (disch := first | omega | (simp only [RY] <;> omega) | decide) only [↓RD, RZ, eq_self, Int.reduceToNat, Int.reduceAdd, Int.reduceSub, Int.reduceMul, Nat.reduceAdd, Nat.reduceSub, Nat.reduceMul, Nat.reduceDiv, Nat.reduceMod, Nat.reduceBEq, Nat.reduceLeDiff, ca.1, ca.2, cb.1, cb.2, cc.1, cc.2]
    have s1 : ∀ x y z w, Grow H ((((H.new x).new y).new z).set (H.next + 1 + 1) w) := fun x y z w => (((Grow.new _ _).trans (Grow.new _ _)).trans (Grow.new _ _)).set (by omega) _
    exact ⟨⟨a, b, c, rfl, rfl, rfl, rfl⟩, s1 _ _ _ _⟩
  | false =>
    simp (maxSteps := 1000000) (disch := first | omega | (simp only [RY] <;> omega) | decide) only [↓RD, RZ, eq_self, Int.reduceToNat, Int.reduceAdd, Int.reduceSub, Int.reduceMul, Nat.reduceAdd, Nat.reduceSub, Nat.reduceMul, Nat.reduceDiv, Nat.reduceMod, Nat.reduceBEq, Nat.reduceLeDiff, hk.ts.cells1, hk.ts.okc, hk.pro.cells1, hk.pro.okc, hk.siz.cells1, hk.siz.okc]
    have s1 : ∀ x y z w, Grow H ((((H.new x).new y).new z).set (H.next + 1 + 1) w) := fun x y z w => (((Grow.new _ _).trans (Grow.new _ _)).trans (Grow.new _ _)).set (by omega) _
    exact ⟨⟨p, q, r, rfl, rfl, rfl, rfl⟩, s1 _ _ _ _⟩

theorem hold2_ok {H : Heap} {f : Fr} {k : Sr} {a b c d e g p q r : V} (hf : FrC 0 H f a b c d e g) (hk : SrC 0 H k p q r) :
    Ok (sem T fn_palanquinref9_holds [.agg (fcells f a b c d e g), .agg (scells k p q r)]) H fun v H' => (∃ x y z, v = .agg (scells (hold f k) x y z) ∧ HoC f a b c p q r x y z) ∧ Grow H H' := by
  obtain ⟨ca, cb, cc, cd, ce, cg⟩ := fr_dti hf
  refine ok_palanquinref9_holds ?_
  unfold f_palanquinref9_holds
  unfold fcells scells hold HoC
  simp (maxSteps := 1000000) (disch := first | omega | (simp only [RY] <;> omega) | decide) only [↓RD, RZ, eq_self, Int.reduceToNat, Int.reduceAdd, Int.reduceSub, Int.reduceMul, Nat.reduceAdd, Nat.reduceSub, Nat.reduceMul, Nat.reduceDiv, Nat.reduceMod, Nat.reduceBEq, Nat.reduceLeDiff, ca.1, ca.2, cb.1, cb.2, cc.1, cc.2, cd.1, cd.2, ce.1, ce.2, cg.1, cg.2, hk.ts.cells1, hk.ts.okc, hk.pro.cells1, hk.pro.okc, hk.siz.cells1, hk.siz.okc]
  cases f.new with
  | true =>
    simp (maxSteps := 1000000) (disch := first | omega | (simp only [RY] <;> omega) | decide) only [↓RD, RZ, eq_self, Int.reduceToNat, Int.reduceAdd, Int.reduceSub, Int.reduceMul, Nat.reduceAdd, Nat.reduceSub, Nat.reduceMul, Nat.reduceDiv, Nat.reduceMod, Nat.reduceBEq, Nat.reduceLeDiff, ca.1, ca.2, cb.1, cb.2, cc.1, cc.2]
    have s1 : ∀ x y z w, Grow H ((((H.new x).new y).new z).set (H.next + 1 + 1) w) := fun x y z w => (((Grow.new _ _).trans (Grow.new _ _)).trans (Grow.new _ _)).set (by omega) _
    exact ⟨⟨a, b, c, rfl, rfl, rfl, rfl⟩, s1 _ _ _ _⟩
  | false =>
    simp (maxSteps := 1000000) (disch := first | omega | (simp only [RY] <;> omega) | decide) only [↓RD, RZ, eq_self, Int.reduceToNat, Int.reduceAdd, Int.reduceSub, Int.reduceMul, Nat.reduceAdd, Nat.reduceSub, Nat.reduceMul, Nat.reduceDiv, Nat.reduceMod, Nat.reduceBEq, Nat.reduceLeDiff, hk.ts.cells1, hk.ts.okc, hk.pro.cells1, hk.pro.okc, hk.siz.cells1, hk.siz.okc]
    have s1 : ∀ x y z w, Grow H ((((H.new x).new y).new z).set (H.next + 1 + 1) w) := fun x y z w => (((Grow.new _ _).trans (Grow.new _ _)).trans (Grow.new _ _)).set (by omega) _
    exact ⟨⟨p, q, r, rfl, rfl, rfl, rfl⟩, s1 _ _ _ _⟩

end Go.Ax.D9
/- DepS2 -/
set_option maxRecDepth 100000
set_option linter.unusedVariables false
set_option linter.unusedSimpArgs false
namespace Go.Ax.D9
open Go.Ax
theorem SrO.hold {f : Fr} {k : Sr} (hf : FrO f) (hk : SrO k) : SrO (hold f k) := by
  unfold D9.hold; split
  · exact hf.s
  · exact hk

theorem tmOf_fine {s : Sr} {id : Int} {t : Tm} (h : tmOf s id = some t) : Fine s := by
  unfold tmOf at h
  split at h
  · exact fine_iff.1 ‹_›
  · cases h

theorem Of_ok {H : Heap} {v w : V} {f : Fr} {k : Sr} (hf : FrR 0 H v f) (hk : SrR 0 H w k) (fo : FrO f) (ko : SrO k) :
    Ok (sem T fn_depend_Of [v, w]) H fun r H' => TmQ 0 H' (tmOf (hold f k) f.id) r ∧ Grow H H' := by
  obtain ⟨a, b, c, d, e, g, rfl, hf⟩ := hf
  obtain ⟨p, q, r, rfl, hk⟩ := hk
  obtain ⟨ca, cb, cc, cd, ce, cg⟩ := fr_dti hf
  refine ok_depend_Of ?_
  unfold f_depend_Of
  unfold fcells scells
  simp (maxSteps := 1000000) (disch := first | omega | (simp only [RY] <;> omega) | decide) only [↓RD, RZ, eq_self, Int.reduceToNat, Int.reduceAdd, Int.reduceSub, Int.reduceMul, Nat.reduceAdd, Nat.reduceSub, Nat.reduceMul, Nat.reduceDiv, Nat.reduceMod, Nat.reduceBEq, Nat.reduceLeDiff, ca.1, ca.2, cb.1, cb.2, cc.1, cc.2, cd.1, cd.2, ce.1, ce.2, cg.1, cg.2, hk.ts.cells1, hk.ts.okc, hk.pro.cells1, hk.pro.okc, hk.siz.cells1, hk.siz.okc]
  generalize hH1 : Heap.new (Heap.new (Heap.new H _) _) _ = H1
  have s1 : Grow H H1 := by rw [← hH1]; exact ((Grow.new _ _).trans (Grow.new _ _)).trans (Grow.new _ _)
  have n1 : H1.next = H.next + 3 := by rw [← hH1]; rfl
  have f1 : H1.get H.next = some ⟨ty_depend_Frame, fcells f a b c d e g, none⟩ := by rw [← hH1]; unfold fcells; simp (maxSteps := 1000000) (disch := first | omega | (simp only [RY] <;> omega) | decide) only [↓RD, RZ, eq_self, Int.reduceToNat, Int.reduceAdd, Int.reduceSub, Int.reduceMul, Nat.reduceAdd, Nat.reduceSub, Nat.reduceMul, Nat.reduceDiv, Nat.reduceMod, Nat.reduceBEq, Nat.reduceLeDiff]
  have z1 : H1.get (H.next + 2) = some ⟨ty_depend_Template, [.int .i64 0, .int .i64 0, .nils, .nils, .nils], none⟩ := by rw [← hH1]; simp (maxSteps := 1000000) (disch := first | omega | (simp only [RY] <;> omega) | decide) only [↓RD, RZ, eq_self, Int.reduceToNat, Int.reduceAdd, Int.reduceSub, Int.reduceMul, Nat.reduceAdd, Nat.reduceSub, Nat.reduceMul, Nat.reduceDiv, Nat.reduceMod, Nat.reduceBEq, Nat.reduceLeDiff]
  clear hH1
  unfold fcells at f1
  refine ok_bind' (hold_ok (hf.ext s1) (hk.ext s1)) ?_
  rintro _ H2 ⟨⟨x, y, z, rfl, hh0⟩, s2⟩
  have hh0 := hh0.src hf hk
  have hh := hh0.ext (s1.trans s2)
  have so := SrO.hold fo ko
  have n2 := s2.next
  have f2 : H2.get H.next = _ := (s2.same _ (by omega)).trans f1
  have z2 : H2.get (H.next + 2) = _ := (s2.same _ (by omega)).trans z1
  generalize hold f k = s at *
  unfold scells
  simp (maxSteps := 1000000) (disch := first | omega | (simp only [RY] <;> omega) | decide) only [↓RD, RZ, eq_self, Int.reduceToNat, Int.reduceAdd, Int.reduceSub, Int.reduceMul, Nat.reduceAdd, Nat.reduceSub, Nat.reduceMul, Nat.reduceDiv, Nat.reduceMod, Nat.reduceBEq, Nat.reduceLeDiff, hh.ts.cells1, hh.ts.okc, hh.pro.cells1, hh.pro.okc, hh.siz.cells1, hh.siz.okc]
  generalize hH3 : Heap.set _ _ _ = H3
  have s3 : Grow H2 H3 := by rw [← hH3]; exact (Grow.new _ _).set (by omega) _
  have n3 : H3.next = H2.next + 1 := by rw [← hH3]; rfl
  have g3 : H3.get H2.next = some ⟨ty_depend_Structure, [.int .i64 s.off, .int .i64 s.tar, x, .int .i64 s.cha, y, z], none⟩ := by rw [← hH3]; simp (maxSteps := 1000000) (disch := first | omega | (simp only [RY] <;> omega) | decide) only [↓RD, RZ, eq_self, Int.reduceToNat, Int.reduceAdd, Int.reduceSub, Int.reduceMul, Nat.reduceAdd, Nat.reduceSub, Nat.reduceMul, Nat.reduceDiv, Nat.reduceMod, Nat.reduceBEq, Nat.reduceLeDiff]
  clear hH3
  have f3 : H3.get H.next = _ := (s3.same _ (by omega)).trans f2
  have z3 : H3.get (H.next + 2) = _ := (s3.same _ (by omega)).trans z2
  refine ok_bind' (Fine_ok (hh.ext s3).val so) ?_
  rintro _ H4 ⟨rfl, s4⟩
  have n4 := s4.next
  have f4 : H4.get H.next = _ := (s4.same _ (by omega)).trans f3
  have z4 : H4.get (H.next + 2) = _ := (s4.same _ (by omega)).trans z3
  have g4 : H4.get H2.next = _ := (s4.same _ (by omega)).trans g3
  have s14 := ((s1.trans s2).trans s3).trans s4
  unfold tmOf
  cases hfi : fine s with
  | false =>
    rw [if_neg (by decide)]
    simp (maxSteps := 1000000) (disch := first | omega | (simp only [RY] <;> omega) | decide) only [↓RD, RZ, eq_self, Int.reduceToNat, Int.reduceAdd, Int.reduceSub, Int.reduceMul, Nat.reduceAdd, Nat.reduceSub, Nat.reduceMul, Nat.reduceDiv, Nat.reduceMod, Nat.reduceBEq, Nat.reduceLeDiff, z4]
    exact ⟨rfl, s14.set (by omega) _⟩
  | true =>
    rw [if_pos rfl]
    have off := (fine_iff.1 hfi).off
    simp (maxSteps := 1000000) (disch := first | omega | (simp only [RY] <;> omega) | decide) only [↓RD, RZ, eq_self, Int.reduceToNat, Int.reduceAdd, Int.reduceSub, Int.reduceMul, Nat.reduceAdd, Nat.reduceSub, Nat.reduceMul, Nat.reduceDiv, Nat.reduceMod, Nat.reduceBEq, Nat.reduceLeDiff, g4, f4]
    refine ok_bind' (template_ok (lo := 0) (hh.ext (s3.trans s4)).val so off f.id) ?_
    rintro _ H5 ⟨hq, s5⟩
    have z5 : H5.get (H.next + 2) = _ := (s5.same _ (by omega)).trans z4
    obtain ⟨a', b', c', rfl, w⟩ := hq.get
    simp (maxSteps := 1000000) (disch := first | omega | (simp only [RY] <;> omega) | decide) only [↓RD, RZ, eq_self, Int.reduceToNat, Int.reduceAdd, Int.reduceSub, Int.reduceMul, Nat.reduceAdd, Nat.reduceSub, Nat.reduceMul, Nat.reduceDiv, Nat.reduceMod, Nat.reduceBEq, Nat.reduceLeDiff, z5, w.dti.cells1, w.dti.okc, w.dif.cells1, w.dif.okc, w.cha.cells1, w.cha.okc]
    have k5 : ∀ b, Keep H4.next H5 (H5.set (H.next + 2) b) := fun b => Keep.set _ (by omega) b
    refine ⟨?_, (s14.trans s5).set (by omega) _⟩
    cases ho : tmPl s f.id with
    | none =>
      rw [ho] at hq
      have hq : V.tup _ = V.tup _ := hq
      simp only [V.tup.injEq, List.cons.injEq, V.agg.injEq] at hq
      obtain ⟨⟨-, -, rfl, rfl, rfl, -⟩, -⟩ := hq
      rfl
    | some t =>
      rw [ho] at w
      exact ⟨a', b', c', rfl, (w.keep (k5 _)).low (by omega)⟩

theorem Of2_ok {H : Heap} {v w : V} {f : Fr} {k : Sr} (hf : FrR 0 H v f) (hk : SrR 0 H w k) (fo : FrO f) (ko : SrO k) :
    Ok (sem T fn_palanquinref9_Of [v, w]) H fun r H' => TmQ 0 H' (tmOf (hold f k) f.id) r ∧ Grow H H' := by
  obtain ⟨a, b, c, d, e, g, rfl, hf⟩ := hf
  obtain ⟨p, q, r, rfl, hk⟩ := hk
  obtain ⟨ca, cb, cc, cd, ce, cg⟩ := fr_dti hf
  refine ok_palanquinref9_Of ?_
  unfold f_palanquinref9_Of
  unfold fcells scells
  simp (maxSteps := 1000000) (disch := first | omega | (simp only [RY] <;> omega) | decide) only [↓RD, RZ, eq_self, Int.reduceToNat, Int.reduceAdd, Int.reduceSub, Int.reduceMul, Nat.reduceAdd, Nat.reduceSub, Nat.reduceMul, Nat.reduceDiv, Nat.reduceMod, Nat.reduceBEq, Nat.reduceLeDiff, ca.1, ca.2, cb.1, cb.2, cc.1, cc.2, cd.1, cd.2, ce.1, ce.2, cg.1, cg.2, hk.ts.cells1, hk.ts.okc, hk.pro.cells1, hk.pro.okc, hk.siz.cells1, hk.siz.okc]
  generalize hH1 : Heap.new (Heap.new (Heap.new H _) _) _ = H1
  have s1 : Grow H H1 := by rw [← hH1]; exact ((Grow.new _ _).trans (Grow.new _ _)).trans (Grow.new _ _)
  have n1 : H1.next = H.next + 3 := by rw [← hH1]; rfl
  have f1 : H1.get H.next = some ⟨ty_palanquinref9_Frame, fcells f a b c d e g, none⟩ := by rw [← hH1]; unfold fcells; simp (maxSteps := 1000000) (disch := first | omega | (simp only [RY] <;> omega) | decide) only [↓RD, RZ, eq_self, Int.reduceToNat, Int.reduceAdd, Int.reduceSub, Int.reduceMul, Nat.reduceAdd, Nat.reduceSub, Nat.reduceMul, Nat.reduceDiv, Nat.reduceMod, Nat.reduceBEq, Nat.reduceLeDiff]
  have z1 : H1.get (H.next + 2) = some ⟨ty_palanquinref9_Template, [.int .i64 0, .int .i64 0, .nils, .nils, .nils], none⟩ := by rw [← hH1]; simp (maxSteps := 1000000) (disch := first | omega | (simp only [RY] <;> omega) | decide) only [↓RD, RZ, eq_self, Int.reduceToNat, Int.reduceAdd, Int.reduceSub, Int.reduceMul, Nat.reduceAdd, Nat.reduceSub, Nat.reduceMul, Nat.reduceDiv, Nat.reduceMod, Nat.reduceBEq, Nat.reduceLeDiff]
  clear hH1
  unfold fcells at f1
  refine ok_bind' (hold2_ok (hf.ext s1) (hk.ext s1)) ?_
  rintro _ H2 ⟨⟨x, y, z, rfl, hh0⟩, s2⟩
  have hh0 := hh0.src hf hk
  have hh := hh0.ext (s1.trans s2)
  have so := SrO.hold fo ko
  have n2 := s2.next
  have f2 : H2.get H.next = _ := (s2.same _ (by omega)).trans f1
  have z2 : H2.get (H.next + 2) = _ := (s2.same _ (by omega)).trans z1
  generalize hold f k = s at *
  unfold scells
  simp (maxSteps := 1000000) (disch := first | omega | (simp only [RY] <;> omega) | decide) only [↓RD, RZ, eq_self, Int.reduceToNat, Int.reduceAdd, Int.reduceSub, Int.reduceMul, Nat.reduceAdd, Nat.reduceSub, Nat.reduceMul, Nat.reduceDiv, Nat.reduceMod, Nat.reduceBEq, Nat.reduceLeDiff, f2, hh.ts.cells1, hh.ts.okc, hh.pro.cells1, hh.pro.okc, hh.siz.cells1, hh.siz.okc]
  generalize hH3 : Heap.set _ _ _ = H3
  have s3 : Grow H2 H3 := by rw [← hH3]; exact (Grow.new _ _).set (by omega) _
  have n3 : H3.next = H2.next + 1 := by rw [← hH3]; rfl
  have g3 : H3.get H2.next = some ⟨ty_palanquinref9_Structure, [.int .i64 s.off, .int .i64 s.tar, x, .int .i64 s.cha, y, z], none⟩ := by rw [← hH3]; simp (maxSteps := 1000000) (disch := first | omega | (simp only [RY] <;> omega) | decide) only [↓RD, RZ, eq_self, Int.reduceToNat, Int.reduceAdd, Int.reduceSub, Int.reduceMul, Nat.reduceAdd, Nat.reduceSub, Nat.reduceMul, Nat.reduceDiv, Nat.reduceMod, Nat.reduceBEq, Nat.reduceLeDiff]
  clear hH3
  have f3 : H3.get H.next = _ := (s3.same _ (by omega)).trans f2
  have z3 : H3.get (H.next + 2) = _ := (s3.same _ (by omega)).trans z2
  have s13 := (s1.trans s2).trans s3
  by_cases a1 : f.id < 0
  · have : tmOf s f.id = none := by unfold tmOf tmPl; split; rw [if_neg (by omega)]; rfl
    rw [this]
    simp (maxSteps := 1000000) (disch := first | omega | (simp only [RY] <;> omega) | decide) only [↓RD, RZ, eq_self, Int.reduceToNat, Int.reduceAdd, Int.reduceSub, Int.reduceMul, Nat.reduceAdd, Nat.reduceSub, Nat.reduceMul, Nat.reduceDiv, Nat.reduceMod, Nat.reduceBEq, Nat.reduceLeDiff, f3, z3]
    exact ⟨rfl, s13.set (by omega) _⟩
  by_cases a2 : 63 < f.id
  · have : tmOf s f.id = none := by unfold tmOf tmPl; split; rw [if_neg (by omega)]; rfl
    rw [this]
    simp (maxSteps := 1000000) (disch := first | omega | (simp only [RY] <;> omega) | decide) only [↓RD, RZ, eq_self, Int.reduceToNat, Int.reduceAdd, Int.reduceSub, Int.reduceMul, Nat.reduceAdd, Nat.reduceSub, Nat.reduceMul, Nat.reduceDiv, Nat.reduceMod, Nat.reduceBEq, Nat.reduceLeDiff, f3, z3]
    exact ⟨rfl, s13.set (by omega) _⟩
  simp (maxSteps := 1000000) (disch := first | omega | (simp only [RY] <;> omega) | decide) only [↓RD, RZ, eq_self, Int.reduceToNat, Int.reduceAdd, Int.reduceSub, Int.reduceMul, Nat.reduceAdd, Nat.reduceSub, Nat.reduceMul, Nat.reduceDiv, Nat.reduceMod, Nat.reduceBEq, Nat.reduceLeDiff, f3, g3]
  refine ok_bind' (Fine2_ok (hh.ext s3).val so) ?_
  rintro _ H4 ⟨rfl, s4⟩
  have n4 := s4.next
  have f4 : H4.get H.next = _ := (s4.same _ (by omega)).trans f3
  have z4 : H4.get (H.next + 2) = _ := (s4.same _ (by omega)).trans z3
  have g4 : H4.get H2.next = _ := (s4.same _ (by omega)).trans g3
  have s14 := s13.trans s4
  unfold tmOf
  cases hfi : fine s with
  | false =>
    rw [if_neg (by decide)]
    simp (maxSteps := 1000000) (disch := first | omega | (simp only [RY] <;> omega) | decide) only [↓RD, RZ, eq_self, Int.reduceToNat, Int.reduceAdd, Int.reduceSub, Int.reduceMul, Nat.reduceAdd, Nat.reduceSub, Nat.reduceMul, Nat.reduceDiv, Nat.reduceMod, Nat.reduceBEq, Nat.reduceLeDiff, z4]
    exact ⟨rfl, s14.set (by omega) _⟩
  | true =>
    rw [if_pos rfl]
    have off := (fine_iff.1 hfi).off
    have len := (fine_iff.1 hfi).len
    unfold tmPl
    rw [if_pos (by omega)]
    have er := rem64 (x := f.id + 64 - s.off) (by omega) (by omega)
    obtain ⟨m, hm⟩ : ∃ m : Nat, (f.id + 64 - s.off) % 64 = (m : Int) := ⟨((f.id + 64 - s.off) % 64).toNat, by omega⟩
    rw [hm] at er ⊢
    rw [Int.toNat_natCast]
    have h4 := hh.ext (s3.trans s4)
    by_cases a3 : s.ts.length ≤ m
    · rw [List.getElem?_eq_none a3]
      simp (maxSteps := 1000000) (disch := first | omega | (simp only [RY] <;> omega) | decide) only [↓RD, RZ, eq_self, Int.reduceToNat, Int.reduceAdd, Int.reduceSub, Int.reduceMul, Nat.reduceAdd, Nat.reduceSub, Nat.reduceMul, Nat.reduceDiv, Nat.reduceMod, Nat.reduceBEq, Nat.reduceLeDiff, f4, g4, er, h4.ts.vlen, z4]
      exact ⟨rfl, s14.set (by omega) _⟩
    · have hm' : m < s.ts.length := by omega
      rw [List.getElem?_eq_getElem hm']
      obtain ⟨q, d', e', f', i1, w1, l1⟩ := hh0.ts.at2 hm'
      obtain ⟨-, -, -, -, -, l2⟩ := pl5 (l1 _ s14)
      simp (maxSteps := 1000000) (disch := first | omega | (simp only [RY] <;> omega) | decide) only [↓RD, RZ, eq_self, Int.reduceToNat, Int.reduceAdd, Int.reduceSub, Int.reduceMul, Nat.reduceAdd, Nat.reduceSub, Nat.reduceMul, Nat.reduceDiv, Nat.reduceMod, Nat.reduceBEq, Nat.reduceLeDiff, f4, g4, er, h4.ts.vlen, i1, l2, z4, w1.dti.cells1, w1.dti.okc, w1.dif.cells1, w1.dif.okc, w1.cha.cells1, w1.cha.okc]
      exact ⟨⟨d', e', f', rfl, w1.ext (s14.set (by omega) _)⟩, s14.set (by omega) _⟩

/-- Nothing in it. -/
def isZ (s : Sr) : Bool := decide (s.off = 0 ∧ s.tar = 0 ∧ s.cha = 0 ∧ s.ts.length = 0 ∧ s.pro.length = 0 ∧ s.siz.length = 0)

theorem none_ok {lo : Nat} {H : Heap} {s : Sr} {a b c : V} (h : SrC lo H s a b c) (ho : SrO s) : Ok (sem T fn_depend_none [.agg (scells s a b c)]) H fun r H' => r = .bool (isZ s) ∧ Grow H H' := by
  have n1 := ho.ts
  have n2 := ho.pro.2
  have n3 := ho.siz.1
  have hv1 := h.ts.vlen
  have hv2 := h.pro.vlen
  have hv3 := h.siz.vlen
  have e1 : (s.ts.length : Int) + (s.pro.length : Nat) = ((s.ts.length + s.pro.length : Nat) : Int) := rfl
  have e2 : ((s.ts.length + s.pro.length : Nat) : Int) + (s.siz.length : Nat) = ((s.ts.length + s.pro.length + s.siz.length : Nat) : Int) := rfl
  refine ok_depend_none ?_
  unfold f_depend_none
  unfold scells isZ
  by_cases a1 : s.off = 0
  · by_cases a2 : s.tar = 0
    · by_cases a3 : s.cha = 0
      · by_cases a4 : s.ts.length + s.pro.length + s.siz.length = 0
        · simp (maxSteps := 1000000) (disch := first | omega | (simp only [RY] <;> omega) | decide) only [↓RD, RZ, eq_self, Int.reduceToNat, Int.reduceAdd, Int.reduceSub, Int.reduceMul, Nat.reduceAdd, Nat.reduceSub, Nat.reduceMul, Nat.reduceDiv, Nat.reduceMod, Nat.reduceBEq, Nat.reduceLeDiff, h.ts.cells1, h.ts.okc, h.pro.cells1, h.pro.okc, h.siz.cells1, h.siz.okc, hv1, hv2, hv3, a1, a2, a3, e1, e2, a4]
          exact ⟨by rw [decide_eq_true (by omega)], Grow.new _ _⟩
        · simp (maxSteps := 1000000) (disch := first | omega | (simp only [RY] <;> omega) | decide) only [↓RD, RZ, eq_self, Int.reduceToNat, Int.reduceAdd, Int.reduceSub, Int.reduceMul, Nat.reduceAdd, Nat.reduceSub, Nat.reduceMul, Nat.reduceDiv, Nat.reduceMod, Nat.reduceBEq, Nat.reduceLeDiff, h.ts.cells1, h.ts.okc, h.pro.cells1, h.pro.okc, h.siz.cells1, h.siz.okc, hv1, hv2, hv3, a1, a2, a3, e1, e2]
          exact ⟨by rw [decide_eq_false (by omega)], Grow.new _ _⟩
      · simp (maxSteps := 1000000) (disch := first | omega | (simp only [RY] <;> omega) | decide) only [↓RD, RZ, eq_self, Int.reduceToNat, Int.reduceAdd, Int.reduceSub, Int.reduceMul, Nat.reduceAdd, Nat.reduceSub, Nat.reduceMul, Nat.reduceDiv, Nat.reduceMod, Nat.reduceBEq, Nat.reduceLeDiff, h.ts.cells1, h.ts.okc, h.pro.cells1, h.pro.okc, h.siz.cells1, h.siz.okc, a1, a2]
        exact ⟨by rw [decide_eq_false (by omega)], Grow.new _ _⟩
    · simp (maxSteps := 1000000) (disch := first | omega | (simp only [RY] <;> omega) | decide) only [↓RD, RZ, eq_self, Int.reduceToNat, Int.reduceAdd, Int.reduceSub, Int.reduceMul, Nat.reduceAdd, Nat.reduceSub, Nat.reduceMul, Nat.reduceDiv, Nat.reduceMod, Nat.reduceBEq, Nat.reduceLeDiff, h.ts.cells1, h.ts.okc, h.pro.cells1, h.pro.okc, h.siz.cells1, h.siz.okc, a1]
      exact ⟨by rw [decide_eq_false (by omega)], Grow.new _ _⟩
  · simp (maxSteps := 1000000) (disch := first | omega | (simp only [RY] <;> omega) | decide) only [↓RD, RZ, eq_self, Int.reduceToNat, Int.reduceAdd, Int.reduceSub, Int.reduceMul, Nat.reduceAdd, Nat.reduceSub, Nat.reduceMul, Nat.reduceDiv, Nat.reduceMod, Nat.reduceBEq, Nat.reduceLeDiff, h.ts.cells1, h.ts.okc, h.pro.cells1, h.pro.okc, h.siz.cells1, h.siz.okc]
    exact ⟨by rw [decide_eq_false (by omega)], Grow.new _ _⟩

theorem zero_ok {lo : Nat} {H : Heap} {s : Sr} {a b c : V} (h : SrC lo H s a b c) : Ok (sem T fn_palanquinref9_zero [.agg (scells s a b c)]) H fun r H' => r = .bool (isZ s) ∧ Grow H H' := by
  have hv1 := h.ts.vlen
  have hv2 := h.pro.vlen
  have hv3 := h.siz.vlen
  refine ok_palanquinref9_zero ?_
  unfold f_palanquinref9_zero
  unfold scells isZ
  by_cases a1 : s.off = 0
  · by_cases a2 : s.tar = 0
    · by_cases a4 : s.ts.length = 0
      · by_cases a3 : s.cha = 0
        · by_cases a5 : s.pro.length = 0
          · by_cases a6 : s.siz.length = 0
            · simp (maxSteps := 1000000) (disch := first | omega | (simp only [RY] <;> omega) | decide) only [↓RD, RZ, eq_self, Int.reduceToNat, Int.reduceAdd, Int.reduceSub, Int.reduceMul, Nat.reduceAdd, Nat.reduceSub, Nat.reduceMul, Nat.reduceDiv, Nat.reduceMod, Nat.reduceBEq, Nat.reduceLeDiff, h.ts.cells1, h.ts.okc, h.pro.cells1, h.pro.okc, h.siz.cells1, h.siz.okc, hv1, hv2, hv3, a1, a2, a3, a4, a5, a6]
              exact Grow.new _ _
            · simp (maxSteps := 1000000) (disch := first | omega | (simp only [RY] <;> omega) | decide) only [↓RD, RZ, eq_self, Int.reduceToNat, Int.reduceAdd, Int.reduceSub, Int.reduceMul, Nat.reduceAdd, Nat.reduceSub, Nat.reduceMul, Nat.reduceDiv, Nat.reduceMod, Nat.reduceBEq, Nat.reduceLeDiff, h.ts.cells1, h.ts.okc, h.pro.cells1, h.pro.okc, h.siz.cells1, h.siz.okc, hv1, hv2, hv3, a1, a2, a3, a4, a5]
              exact ⟨by rw [decide_eq_false (by omega)], Grow.new _ _⟩
          · simp (maxSteps := 1000000) (disch := first | omega | (simp only [RY] <;> omega) | decide) only [↓RD, RZ, eq_self, Int.reduceToNat, Int.reduceAdd, Int.reduceSub, Int.reduceMul, Nat.reduceAdd, Nat.reduceSub, Nat.reduceMul, Nat.reduceDiv, Nat.reduceMod, Nat.reduceBEq, Nat.reduceLeDiff, h.ts.cells1, h.ts.okc, h.pro.cells1, h.pro.okc, h.siz.cells1, h.siz.okc, hv1, hv2, hv3, a1, a2, a3, a4]
            exact ⟨by rw [decide_eq_false (by omega)], Grow.new _ _⟩
        · simp (maxSteps := 1000000) (disch := first | omega | (simp only [RY] <;> omega) | decide) only [↓RD, RZ, eq_self, Int.reduceToNat, Int.reduceAdd, Int.reduceSub, Int.reduceMul, Nat.reduceAdd, Nat.reduceSub, Nat.reduceMul, Nat.reduceDiv, Nat.reduceMod, Nat.reduceBEq, Nat.reduceLeDiff, h.ts.cells1, h.ts.okc, h.pro.cells1, h.pro.okc, h.siz.cells1, h.siz.okc, hv1, a1, a2, a4]
          exact ⟨by rw [decide_eq_false (by omega)], Grow.new _ _⟩
      · simp (maxSteps := 1000000) (disch := first | omega | (simp only [RY] <;> omega) | decide) only [↓RD, RZ, eq_self, Int.reduceToNat, Int.reduceAdd, Int.reduceSub, Int.reduceMul, Nat.reduceAdd, Nat.reduceSub, Nat.reduceMul, Nat.reduceDiv, Nat.reduceMod, Nat.reduceBEq, Nat.reduceLeDiff, h.ts.cells1, h.ts.okc, h.pro.cells1, h.pro.okc, h.siz.cells1, h.siz.okc, hv1, a1, a2]
        exact ⟨by rw [decide_eq_false (by omega)], Grow.new _ _⟩
    · simp (maxSteps := 1000000) (disch := first | omega | (simp only [RY] <;> omega) | decide) only [↓RD, RZ, eq_self, Int.reduceToNat, Int.reduceAdd, Int.reduceSub, Int.reduceMul, Nat.reduceAdd, Nat.reduceSub, Nat.reduceMul, Nat.reduceDiv, Nat.reduceMod, Nat.reduceBEq, Nat.reduceLeDiff, h.ts.cells1, h.ts.okc, h.pro.cells1, h.pro.okc, h.siz.cells1, h.siz.okc, a1]
      exact ⟨by rw [decide_eq_false (by omega)], Grow.new _ _⟩
  · simp (maxSteps := 1000000) (disch := first | omega | (simp only [RY] <;> omega) | decide) only [↓RD, RZ, eq_self, Int.reduceToNat, Int.reduceAdd, Int.reduceSub, Int.reduceMul, Nat.reduceAdd, Nat.reduceSub, Nat.reduceMul, Nat.reduceDiv, Nat.reduceMod, Nat.reduceBEq, Nat.reduceLeDiff, h.ts.cells1, h.ts.okc, h.pro.cells1, h.pro.okc, h.siz.cells1, h.siz.okc]
    exact ⟨by rw [decide_eq_false (by omega)], Grow.new _ _⟩

end Go.Ax.D9
/- DepS3 -/
set_option maxRecDepth 100000
set_option linter.unusedVariables false
set_option linter.unusedSimpArgs false
namespace Go.Ax.D9
open Go.Ax
structure GoodT (f : Fr) (s : Sr) (t : Tm) : Prop where
  z : f.new = true ∨ isZ f.s = true
  a : f.has = true ∨ f.act = 0
  b : f.act < 2 ^ s.tar.toNat
  d : if f.od = true then wi f.dti s.tar 0 3 = true else f.dti = t.dti
  e : if f.of' = true then di f.dif 16 4096 = true else f.dif = t.dif
  c : if f.oc = true then wi f.cha s.cha 0 255 = true else f.cha = t.cha
def GoodP (f : Fr) (k : Sr) : Prop := ∃ t, tmOf (hold f k) f.id = some t ∧ GoodT f (hold f k) t
noncomputable def good (f : Fr) (k : Sr) : Bool := dec (GoodP f k)

theorem shr0 (a n : Nat) : shr a n = 0 ↔ a < 2 ^ n := by
  rw [shr_def, Nat.shiftRight_eq_div_pow, Nat.div_eq_zero_iff]
  have := Nat.two_pow_pos n
  omega

/-- The boxes of a check. -/
structure GS (B : Heap) (tf tt ts : TypeId) (bf bt bs : Nat) (cf ct cs : List V) (H : Heap) : Prop where
  gr : Grow B H
  lt : bf < H.next ∧ bt < H.next ∧ bs < H.next
  f : H.get bf = some ⟨tf, cf, none⟩
  t : H.get bt = some ⟨tt, ct, none⟩
  s : H.get bs = some ⟨ts, cs, none⟩
theorem GS.ext {B : Heap} {tf tt ts : TypeId} {bf bt bs : Nat} {cf ct cs : List V} {H H' : Heap} (h : GS B tf tt ts bf bt bs cf ct cs H) (s : Grow H H') : GS B tf tt ts bf bt bs cf ct cs H' :=
  ⟨h.gr.trans s, by have := s.next; have := h.lt; omega, (s.same _ h.lt.1).trans h.f, (s.same _ h.lt.2.1).trans h.t, (s.same _ h.lt.2.2).trans h.s⟩

theorem wi_neg1 {l : List Int} {many : Nat} {most : Int} : di l many most = (decide (l.length ≤ many) && wi2 l (-1) 1 most) := by unfold di; rw [wi2_neg]

set_option maxHeartbeats 1600000 in
theorem Good_ok {H : Heap} {v w : V} {f : Fr} {k : Sr} (hf : FrR 0 H v f) (hk : SrR 0 H w k) (fo : FrO f) (ko : SrO k) :
    Ok (sem T fn_depend_Good [v, w]) H fun r H' => r = .bool (good f k) ∧ Grow H H' := by
  obtain ⟨a, b, c, d, e, g, rfl, hf⟩ := hf
  obtain ⟨p, q, r, rfl, hk⟩ := hk
  obtain ⟨ca, cb, cc, cd, ce, cg⟩ := fr_dti hf
  have kts := hk.ts.cel
  have kpr := hk.pro.cel
  have ksi := hk.siz.cel
  refine ok_depend_Good ?_
  unfold f_depend_Good
  unfold fcells scells
  simp (maxSteps := 1000000) (disch := first | omega | (simp only [RY] <;> omega) | decide) only [↓RD, RZ, eq_self, Int.reduceToNat, Int.reduceAdd, Int.reduceSub, Int.reduceMul, Nat.reduceAdd, Nat.reduceSub, Nat.reduceMul, Nat.reduceDiv, Nat.reduceMod, Nat.reduceBEq, Nat.reduceLeDiff, ca.1, ca.2, cb.1, cb.2, cc.1, cc.2, cd.1, cd.2, ce.1, ce.2, cg.1, cg.2, kts.1, kts.2, kpr.1, kpr.2, ksi.1, ksi.2]
  generalize hH1 : Heap.new (Heap.new H _) _ = H1
  have s1 : Grow H H1 := by rw [← hH1]; exact (Grow.new _ _).trans (Grow.new _ _)
  have n1 : H1.next = H.next + 2 := by rw [← hH1]; rfl
  have f1 : H1.get H.next = some ⟨ty_depend_Frame, fcells f a b c d e g, none⟩ := by rw [← hH1]; unfold fcells; simp (maxSteps := 1000000) (disch := first | omega | (simp only [RY] <;> omega) | decide) only [↓RD, RZ, eq_self, Int.reduceToNat, Int.reduceAdd, Int.reduceSub, Int.reduceMul, Nat.reduceAdd, Nat.reduceSub, Nat.reduceMul, Nat.reduceDiv, Nat.reduceMod, Nat.reduceBEq, Nat.reduceLeDiff]
  have k1 : H1.get (H.next + 1) = some ⟨ty_depend_Structure, scells k p q r, none⟩ := by rw [← hH1]; unfold scells; simp (maxSteps := 1000000) (disch := first | omega | (simp only [RY] <;> omega) | decide) only [↓RD, RZ, eq_self, Int.reduceToNat, Int.reduceAdd, Int.reduceSub, Int.reduceMul, Nat.reduceAdd, Nat.reduceSub, Nat.reduceMul, Nat.reduceDiv, Nat.reduceMod, Nat.reduceBEq, Nat.reduceLeDiff]
  clear hH1
  unfold fcells at f1
  unfold scells at k1
  refine ok_bind' (Of_ok (hf.ext s1).val (hk.ext s1).val fo ko) ?_
  rintro _ H2 ⟨hq, s2⟩
  have n2 := s2.next
  have f2 : H2.get H.next = _ := (s2.same _ (by omega)).trans f1
  have k2 : H2.get (H.next + 1) = _ := (s2.same _ (by omega)).trans k1
  obtain ⟨x1, x2, x3, rfl, wt⟩ := hq.get
  unfold good GoodP
  have so := SrO.hold fo ko
  generalize ho : tmOf (hold f k) f.id = o at *
  simp (maxSteps := 1000000) (disch := first | omega | (simp only [RY] <;> omega) | decide) only [↓RD, RZ, eq_self, Int.reduceToNat, Int.reduceAdd, Int.reduceSub, Int.reduceMul, Nat.reduceAdd, Nat.reduceSub, Nat.reduceMul, Nat.reduceDiv, Nat.reduceMod, Nat.reduceBEq, Nat.reduceLeDiff, f2, k2, wt.dti.cells1, wt.dti.okc, wt.dif.cells1, wt.dif.okc, wt.cha.cells1, wt.cha.okc]
  generalize hH3 : Heap.set _ _ _ = H3
  have s3 : Grow H2 H3 := by rw [← hH3]; exact (Grow.new _ _).set (by omega) _
  have n3 : H3.next = H2.next + 1 := by rw [← hH3]; rfl
  have f3 : H3.get H.next = _ := (s3.same _ (by omega)).trans f2
  have k3 : H3.get (H.next + 1) = _ := (s3.same _ (by omega)).trans k2
  have t3 : H3.get H2.next = some ⟨ty_depend_Template, [.int .i64 (o.getD Tm0).sp, .int .i64 (o.getD Tm0).te, x1, x2, x3], none⟩ := by rw [← hH3]; simp (maxSteps := 1000000) (disch := first | omega | (simp only [RY] <;> omega) | decide) only [↓RD, RZ, eq_self, Int.reduceToNat, Int.reduceAdd, Int.reduceSub, Int.reduceMul, Nat.reduceAdd, Nat.reduceSub, Nat.reduceMul, Nat.reduceDiv, Nat.reduceMod, Nat.reduceBEq, Nat.reduceLeDiff]
  clear hH3
  replace wt := wt.ext s3
  have s13 := (s1.trans s2).trans s3
  refine ok_bind' (hold_ok (hf.ext s13) (hk.ext s13)) ?_
  rintro _ H4 ⟨⟨y1, y2, y3, rfl, hh⟩, s4⟩
  have n4 := s4.next
  replace hh := hh.src (hf.ext (s13.trans s4)) (hk.ext (s13.trans s4))
  unfold scells
  have hts := hh.ts.cel
  have hpr := hh.pro.cel
  have hsi := hh.siz.cel
  simp (maxSteps := 1000000) (disch := first | omega | (simp only [RY] <;> omega) | decide) only [↓RD, RZ, eq_self, Int.reduceToNat, Int.reduceAdd, Int.reduceSub, Int.reduceMul, Nat.reduceAdd, Nat.reduceSub, Nat.reduceMul, Nat.reduceDiv, Nat.reduceMod, Nat.reduceBEq, Nat.reduceLeDiff, hts.1, hts.2, hpr.1, hpr.2, hsi.1, hsi.2]
  generalize hH5 : Heap.set _ _ _ = H5
  have s5 : Grow H4 H5 := by rw [← hH5]; exact (Grow.new _ _).set (by omega) _
  have n5 : H5.next = H4.next + 1 := by rw [← hH5]; rfl
  have h5 : H5.get H4.next = some ⟨ty_depend_Structure, [.int .i64 (hold f k).off, .int .i64 (hold f k).tar, y1, .int .i64 (hold f k).cha, y2, y3], none⟩ := by rw [← hH5]; simp (maxSteps := 1000000) (disch := first | omega | (simp only [RY] <;> omega) | decide) only [↓RD, RZ, eq_self, Int.reduceToNat, Int.reduceAdd, Int.reduceSub, Int.reduceMul, Nat.reduceAdd, Nat.reduceSub, Nat.reduceMul, Nat.reduceDiv, Nat.reduceMod, Nat.reduceBEq, Nat.reduceLeDiff]
  clear hH5
  have st : GS H3 ty_depend_Frame ty_depend_Template ty_depend_Structure H.next H2.next H4.next [.bool f.st, .bool f.en, .int .i64 f.id, .int .u16 f.num, .bool f.new, .int .i64 f.s.off, .int .i64 f.s.tar, a, .int .i64 f.s.cha, b, c, .bool f.has, .int .u32 f.act, .bool f.od, .bool f.of', .bool f.oc, d, e, g] [.int .i64 (o.getD Tm0).sp, .int .i64 (o.getD Tm0).te, x1, x2, x3] [.int .i64 (hold f k).off, .int .i64 (hold f k).tar, y1, .int .i64 (hold f k).cha, y2, y3] H5 :=
    ⟨s4.trans s5, by omega, ((s4.trans s5).same _ (by omega)).trans f3, ((s4.trans s5).same _ (by omega)).trans t3, h5⟩
  have goF : ∀ {H' : Heap}, Grow H3 H' → Grow H H' := fun g => s13.trans g
  have n16 := fo.dti.2
  have n17 := fo.dif.2
  have n18 := fo.cha.2
  cases o with
  | none =>
    simp (maxSteps := 1000000) (disch := first | omega | (simp only [RY] <;> omega) | decide) only [↓RD, RZ, eq_self, Int.reduceToNat, Int.reduceAdd, Int.reduceSub, Int.reduceMul, Nat.reduceAdd, Nat.reduceSub, Nat.reduceMul, Nat.reduceDiv, Nat.reduceMod, Nat.reduceBEq, Nat.reduceLeDiff, Option.isSome_none]
    exact ⟨by rw [dec_no (by rintro ⟨t, h, _⟩; cases h)], goF st.gr⟩
  | some t =>
  have hF := tmOf_fine ho
  have hT := hF.tar
  have hC := hF.cha
  generalize hold f k = s at *
  have bad : ¬ GoodT f s t → dec (∃ t', some t = some t' ∧ GoodT f s t') = false := fun h => dec_no (by rintro ⟨t', ⟨rfl⟩, h'⟩; exact h h')
  have yes : GoodT f s t → dec (∃ t', some t = some t' ∧ GoodT f s t') = true := fun h => dec_yes ⟨t, rfl, h⟩
  simp only [Option.getD_some, Option.isSome_some] at *
  obtain ⟨m, hm⟩ : ∃ m : Nat, s.tar = (m : Int) := ⟨s.tar.toNat, by omega⟩
  have hb : shr f.act m = 0 ↔ f.act < 2 ^ s.tar.toNat := by rw [hm, Int.toNat_natCast]; exact shr0 _ _
  have hsl := shr_le f.act m
  have fact := fo.act
  have A : (f.new = false ∧ isZ f.s = false) ∨ (f.new = false ∧ isZ f.s = true) ∨ f.new = true := by
    cases f.new <;> cases isZ f.s <;> simp
  have stc := st
  rcases A with ⟨hn, hz⟩ | A
  · simp (maxSteps := 1000000) (disch := first | omega | (simp only [RY] <;> omega) | decide) only [↓RD, RZ, eq_self, Int.reduceToNat, Int.reduceAdd, Int.reduceSub, Int.reduceMul, Nat.reduceAdd, Nat.reduceSub, Nat.reduceMul, Nat.reduceDiv, Nat.reduceMod, Nat.reduceBEq, Nat.reduceLeDiff, st.f, hn, Option.isSome_some, Bool.not_true]
    refine ok_bind' (none_ok (hf.s.ext (goF st.gr)) fo.s) ?_
    rintro _ _ ⟨rfl, sA⟩
    rw [hz]
    simp (maxSteps := 1000000) (disch := first | omega | (simp only [RY] <;> omega) | decide) only [↓RD, RZ, eq_self, Int.reduceToNat, Int.reduceAdd, Int.reduceSub, Int.reduceMul, Nat.reduceAdd, Nat.reduceSub, Nat.reduceMul, Nat.reduceDiv, Nat.reduceMod, Nat.reduceBEq, Nat.reduceLeDiff, Option.isSome_some, Bool.not_true]
    exact ⟨by rw [bad fun h => by have := h.z; rw [hn, hz] at this; simp at this], goF (st.gr.trans sA)⟩
  have hz : f.new = true ∨ isZ f.s = true := by rcases A with ⟨_, h⟩ | h; exact .inr h; exact .inl h
  rcases A with ⟨hn, hz'⟩ | hn
  all_goals try (
    simp (maxSteps := 1000000) (disch := first | omega | (simp only [RY] <;> omega) | decide) only [↓RD, RZ, eq_self, Int.reduceToNat, Int.reduceAdd, Int.reduceSub, Int.reduceMul, Nat.reduceAdd, Nat.reduceSub, Nat.reduceMul, Nat.reduceDiv, Nat.reduceMod, Nat.reduceBEq, Nat.reduceLeDiff, st.f, hn, Option.isSome_some, Bool.not_true]
    refine ok_bind' (none_ok (hf.s.ext (goF st.gr)) fo.s) ?_
    rintro _ _ ⟨rfl, sA⟩
    replace st := st.ext sA
    rw [hz'])
  all_goals (
    by_cases hB : f.has = true ∨ f.act = 0
    rotate_left
    · have h1 : f.has = false := by cases h : f.has; rfl; exact absurd (.inl h) hB
      have h2 : ¬ f.act = 0 := fun h => hB (.inr h)
      simp (maxSteps := 1000000) (disch := first | omega | (simp only [RY] <;> omega) | decide) only [↓RD, RZ, eq_self, Int.reduceToNat, Int.reduceAdd, Int.reduceSub, Int.reduceMul, Nat.reduceAdd, Nat.reduceSub, Nat.reduceMul, Nat.reduceDiv, Nat.reduceMod, Nat.reduceBEq, Nat.reduceLeDiff, st.f, h1, hn, Option.isSome_some, Bool.not_true]
      exact ⟨by rw [bad fun h => hB h.a], goF st.gr⟩
    by_cases hB2 : shr f.act m = 0
    rotate_left
    · have h3 : ¬ f.act = 0 := fun h => by rw [h] at hB2; exact hB2 ((shr0 0 m).2 (Nat.two_pow_pos m))
      have h1 : f.has = true := by rcases hB with h | h; exact h; exact absurd h h3
      simp (maxSteps := 1000000) (disch := first | omega | (simp only [RY] <;> omega) | decide) only [↓RD, RZ, eq_self, Int.reduceToNat, Int.reduceAdd, Int.reduceSub, Int.reduceMul, Nat.reduceAdd, Nat.reduceSub, Nat.reduceMul, Nat.reduceDiv, Nat.reduceMod, Nat.reduceBEq, Nat.reduceLeDiff, st.f, st.s, h1, hn, Option.isSome_some, Bool.not_true, hm]
      exact ⟨by rw [bad fun h => hB2 (hb.2 h.b)], goF st.gr⟩
    rcases (show f.has = true ∨ (f.has = false ∧ f.act = 0) by cases h : f.has; exact .inr ⟨rfl, by rcases hB with h' | h'; rw [h] at h'; cases h'; exact h'⟩; exact .inl rfl) with h1 | ⟨h1, h2⟩
    simp (maxSteps := 1000000) (disch := first | omega | (simp only [RY] <;> omega) | decide) only [↓RD, RZ, eq_self, Int.reduceToNat, Int.reduceAdd, Int.reduceSub, Int.reduceMul, Nat.reduceAdd, Nat.reduceSub, Nat.reduceMul, Nat.reduceDiv, Nat.reduceMod, Nat.reduceBEq, Nat.reduceLeDiff, st.f, st.s, h1, hn, Option.isSome_some, Bool.not_true, hm, hB2]
    rotate_left
    rw [h2] at hB2
    simp (maxSteps := 1000000) (disch := first | omega | (simp only [RY] <;> omega) | decide) only [↓RD, RZ, eq_self, Int.reduceToNat, Int.reduceAdd, Int.reduceSub, Int.reduceMul, Nat.reduceAdd, Nat.reduceSub, Nat.reduceMul, Nat.reduceDiv, Nat.reduceMod, Nat.reduceBEq, Nat.reduceLeDiff, st.f, st.s, h1, hn, Option.isSome_some, Bool.not_true, hm, h2, hB2])
  all_goals (
    rcases hD : f.od with _ | _
    by_cases qD : f.dti = t.dti
    simp (maxSteps := 1000000) (disch := first | omega | (simp only [RY] <;> omega) | decide) only [↓RD, RZ, eq_self, Int.reduceToNat, Int.reduceAdd, Int.reduceSub, Int.reduceMul, Nat.reduceAdd, Nat.reduceSub, Nat.reduceMul, Nat.reduceDiv, Nat.reduceMod, Nat.reduceBEq, Nat.reduceLeDiff, st.f, st.t, hD]
    refine ok_bind' (Equal_ok (hf.dti.ext (goF st.gr)) (wt.dti.ext st.gr) (by omega)) ?_
    rintro _ _ ⟨rfl, rfl⟩
    rw [decide_eq_true qD]
    rotate_left
    · simp (maxSteps := 1000000) (disch := first | omega | (simp only [RY] <;> omega) | decide) only [↓RD, RZ, eq_self, Int.reduceToNat, Int.reduceAdd, Int.reduceSub, Int.reduceMul, Nat.reduceAdd, Nat.reduceSub, Nat.reduceMul, Nat.reduceDiv, Nat.reduceMod, Nat.reduceBEq, Nat.reduceLeDiff, st.f, st.t, hD]
      refine ok_bind' (Equal_ok (hf.dti.ext (goF st.gr)) (wt.dti.ext st.gr) (by omega)) ?_
      rintro _ _ ⟨rfl, rfl⟩
      rw [decide_eq_false qD]
      simp (maxSteps := 1000000) (disch := first | omega | (simp only [RY] <;> omega) | decide) only [↓RD, RZ, eq_self, Int.reduceToNat, Int.reduceAdd, Int.reduceSub, Int.reduceMul, Nat.reduceAdd, Nat.reduceSub, Nat.reduceMul, Nat.reduceDiv, Nat.reduceMod, Nat.reduceBEq, Nat.reduceLeDiff]
      exact ⟨by rw [bad fun h => by have := h.d; rw [hD, if_neg (by decide)] at this; exact qD this], goF st.gr⟩
    simp (maxSteps := 1000000) (disch := first | omega | (simp only [RY] <;> omega) | decide) only [↓RD, RZ, eq_self, Int.reduceToNat, Int.reduceAdd, Int.reduceSub, Int.reduceMul, Nat.reduceAdd, Nat.reduceSub, Nat.reduceMul, Nat.reduceDiv, Nat.reduceMod, Nat.reduceBEq, Nat.reduceLeDiff, st.f, st.s, hD]
    refine ok_bind' (within_ok (hf.dti.ext (goF st.gr)) s.tar 0 3 (by omega)) ?_
    rintro _ _ ⟨rfl, s'⟩
    replace st := st.ext s'
    rcases wD : wi f.dti s.tar 0 3 with _ | _
    · simp (maxSteps := 1000000) (disch := first | omega | (simp only [RY] <;> omega) | decide) only [↓RD, RZ, eq_self, Int.reduceToNat, Int.reduceAdd, Int.reduceSub, Int.reduceMul, Nat.reduceAdd, Nat.reduceSub, Nat.reduceMul, Nat.reduceDiv, Nat.reduceMod, Nat.reduceBEq, Nat.reduceLeDiff, st.f, hD]
      exact ⟨by rw [bad fun h => by have := h.d; rw [hD, if_pos rfl, wD] at this; cases this], goF st.gr⟩)
  all_goals (
    rcases hE : f.of' with _ | _
    by_cases qE : f.dif = t.dif
    simp (maxSteps := 1000000) (disch := first | omega | (simp only [RY] <;> omega) | decide) only [↓RD, RZ, eq_self, Int.reduceToNat, Int.reduceAdd, Int.reduceSub, Int.reduceMul, Nat.reduceAdd, Nat.reduceSub, Nat.reduceMul, Nat.reduceDiv, Nat.reduceMod, Nat.reduceBEq, Nat.reduceLeDiff, st.f, st.t, hD, hE]
    refine ok_bind' (Equal_ok (hf.dif.ext (goF st.gr)) (wt.dif.ext st.gr) (by omega)) ?_
    rintro _ _ ⟨rfl, rfl⟩
    rw [decide_eq_true qE]
    rotate_left
    · simp (maxSteps := 1000000) (disch := first | omega | (simp only [RY] <;> omega) | decide) only [↓RD, RZ, eq_self, Int.reduceToNat, Int.reduceAdd, Int.reduceSub, Int.reduceMul, Nat.reduceAdd, Nat.reduceSub, Nat.reduceMul, Nat.reduceDiv, Nat.reduceMod, Nat.reduceBEq, Nat.reduceLeDiff, st.f, st.t, hD, hE]
      refine ok_bind' (Equal_ok (hf.dif.ext (goF st.gr)) (wt.dif.ext st.gr) (by omega)) ?_
      rintro _ _ ⟨rfl, rfl⟩
      rw [decide_eq_false qE]
      simp (maxSteps := 1000000) (disch := first | omega | (simp only [RY] <;> omega) | decide) only [↓RD, RZ, eq_self, Int.reduceToNat, Int.reduceAdd, Int.reduceSub, Int.reduceMul, Nat.reduceAdd, Nat.reduceSub, Nat.reduceMul, Nat.reduceDiv, Nat.reduceMod, Nat.reduceBEq, Nat.reduceLeDiff]
      exact ⟨by rw [bad fun h => by have := h.e; rw [hE, if_neg (by decide)] at this; exact qE this], goF st.gr⟩
    simp (maxSteps := 1000000) (disch := first | omega | (simp only [RY] <;> omega) | decide) only [↓RD, RZ, eq_self, Int.reduceToNat, Int.reduceAdd, Int.reduceSub, Int.reduceMul, Nat.reduceAdd, Nat.reduceSub, Nat.reduceMul, Nat.reduceDiv, Nat.reduceMod, Nat.reduceBEq, Nat.reduceLeDiff, st.f, st.s, hD, hE]
    refine ok_bind' (diffs_ok (hf.dif.ext (goF st.gr)) 16 4096 (by omega)) ?_
    rintro _ _ ⟨rfl, s'⟩
    replace st := st.ext s'
    rcases wE : di f.dif 16 4096 with _ | _
    · simp (maxSteps := 1000000) (disch := first | omega | (simp only [RY] <;> omega) | decide) only [↓RD, RZ, eq_self, Int.reduceToNat, Int.reduceAdd, Int.reduceSub, Int.reduceMul, Nat.reduceAdd, Nat.reduceSub, Nat.reduceMul, Nat.reduceDiv, Nat.reduceMod, Nat.reduceBEq, Nat.reduceLeDiff, st.f, hD, hE]
      exact ⟨by rw [bad fun h => by have := h.e; rw [hE, if_pos rfl, wE] at this; cases this], goF st.gr⟩)
  all_goals (
    have hd : if f.od = true then wi f.dti s.tar 0 3 = true else f.dti = t.dti := by
      rw [hD]
      first | exact wD | exact qD
    have he : if f.of' = true then di f.dif 16 4096 = true else f.dif = t.dif := by
      rw [hE]
      first | exact wE | exact qE
    cases hC' : f.oc with
    | true =>
      simp (maxSteps := 1000000) (disch := first | omega | (simp only [RY] <;> omega) | decide) only [↓RD, RZ, eq_self, Int.reduceToNat, Int.reduceAdd, Int.reduceSub, Int.reduceMul, Nat.reduceAdd, Nat.reduceSub, Nat.reduceMul, Nat.reduceDiv, Nat.reduceMod, Nat.reduceBEq, Nat.reduceLeDiff, st.f, st.s, hE, hC']
      refine ok_bind' (within_ok (hf.cha.ext (goF st.gr)) s.cha 0 255 (by omega)) ?_
      rintro _ _ ⟨rfl, s'⟩
      replace st := st.ext s'
      simp (maxSteps := 1000000) (disch := first | omega | (simp only [RY] <;> omega) | decide) only [↓RD, RZ, eq_self, Int.reduceToNat, Int.reduceAdd, Int.reduceSub, Int.reduceMul, Nat.reduceAdd, Nat.reduceSub, Nat.reduceMul, Nat.reduceDiv, Nat.reduceMod, Nat.reduceBEq, Nat.reduceLeDiff]
      refine ⟨?_, goF st.gr⟩
      congr 1
      cases wC : wi f.cha s.cha 0 255 with
      | true => rw [yes ⟨hz, hB, hb.1 (by first | exact hB2 | (rw [‹f.act = 0›]; exact hB2)), hd, he, by rw [hC', if_pos rfl]; exact wC⟩]
      | false => rw [bad fun h => by have := h.c; rw [hC', if_pos rfl, wC] at this; cases this]
    | false =>
      simp (maxSteps := 1000000) (disch := first | omega | (simp only [RY] <;> omega) | decide) only [↓RD, RZ, eq_self, Int.reduceToNat, Int.reduceAdd, Int.reduceSub, Int.reduceMul, Nat.reduceAdd, Nat.reduceSub, Nat.reduceMul, Nat.reduceDiv, Nat.reduceMod, Nat.reduceBEq, Nat.reduceLeDiff, st.f, st.t, hE, hC']
      refine ok_bind' (Equal_ok (hf.cha.ext (goF st.gr)) (wt.cha.ext st.gr) (by omega)) ?_
      rintro _ _ ⟨rfl, rfl⟩
      by_cases qC : f.cha = t.cha
      · rw [decide_eq_true qC]
        simp (maxSteps := 1000000) (disch := first | omega | (simp only [RY] <;> omega) | decide) only [↓RD, RZ, eq_self, Int.reduceToNat, Int.reduceAdd, Int.reduceSub, Int.reduceMul, Nat.reduceAdd, Nat.reduceSub, Nat.reduceMul, Nat.reduceDiv, Nat.reduceMod, Nat.reduceBEq, Nat.reduceLeDiff]
        exact ⟨by rw [yes ⟨hz, hB, hb.1 (by first | exact hB2 | (rw [‹f.act = 0›]; exact hB2)), hd, he, by rw [hC', if_neg (by decide)]; exact qC⟩], goF st.gr⟩
      · rw [decide_eq_false qC]
        simp (maxSteps := 1000000) (disch := first | omega | (simp only [RY] <;> omega) | decide) only [↓RD, RZ, eq_self, Int.reduceToNat, Int.reduceAdd, Int.reduceSub, Int.reduceMul, Nat.reduceAdd, Nat.reduceSub, Nat.reduceMul, Nat.reduceDiv, Nat.reduceMod, Nat.reduceBEq, Nat.reduceLeDiff]
        exact ⟨by rw [bad fun h => by have := h.c; rw [hC', if_neg (by decide)] at this; exact qC this], goF st.gr⟩)

end Go.Ax.D9
/- Wb1 -/
namespace Go.Ax.B6
/-- Bit 7-j of byte i is bit 8i+j; N bits have room. -/
structure Pk (N : Nat) (l : List Nat) (bits : List Bool) : Prop where
  len : l.length = (N + 7) / 8
  lt : ∀ i (h : i < l.length), l[i] < 256
  bit : ∀ i j (h : i < l.length), j < 8 → (l[i]).testBit (7 - j) = bits.getD (8 * i + j) false

theorem Pk.unique {N : Nat} {l l' : List Nat} {bits : List Bool} (h : Pk N l bits) (k : Pk N l' bits) : l = l' := by
  refine List.ext_getElem (by rw [h.len, k.len]) fun i h1 h2 => Nat.eq_of_testBit_eq fun m => ?_
  by_cases hm : m < 8
  · have e1 := h.bit i (7 - m) h1 (by omega)
    have e2 := k.bit i (7 - m) h2 (by omega)
    have : 7 - (7 - m) = m := by omega
    rw [this] at e1 e2
    rw [e1, e2]
  · have hp : 256 ≤ 2 ^ m := by
      calc 256 = 2 ^ 8 := rfl
        _ ≤ 2 ^ m := Nat.pow_le_pow_right (by decide) (by omega)
    rw [Nat.testBit_lt_two_pow (Nat.lt_of_lt_of_le (h.lt i h1) hp), Nat.testBit_lt_two_pow (Nat.lt_of_lt_of_le (k.lt i h2) hp)]

theorem Pk.nil : Pk 0 [] [] := ⟨rfl, fun i h => absurd h (by simp), fun i j h => absurd h (by simp)⟩

/-- All bytes are nought: no bit yet. -/
theorem Pk.zeros (N : Nat) : Pk N (List.replicate ((N + 7) / 8) 0) [] := by
  refine ⟨by simp, fun i h => by simp, fun i j h hj => by simp⟩

/-- One more byte where the bits fill all. -/
theorem Pk.more {l : List Nat} {bits : List Bool} (h : Pk bits.length l bits) (h0 : bits.length % 8 = 0) : Pk (bits.length + 1) (l ++ [0]) bits := by
  have hl := h.len
  refine ⟨by simp; omega, fun i hi => ?_, fun i j hi hj => ?_⟩
  · rw [List.getElem_append]
    split
    · exact h.lt i _
    · simp
  · rw [List.getElem_append]
    split
    · exact h.bit i j _ hj
    · rename_i hn
      simp only [List.getElem_singleton, Nat.zero_testBit]
      rw [List.getD_eq_getElem?_getD, List.getElem?_eq_none (by omega)]; rfl

theorem Pk.same {l : List Nat} {bits : List Bool} (h : Pk bits.length l bits) (h0 : bits.length % 8 ≠ 0) : Pk (bits.length + 1) l bits := ⟨by rw [h.len]; omega, h.lt, h.bit⟩

theorem getD_snoc (bits : List Bool) (b : Bool) (k : Nat) : (bits ++ [b]).getD k false = if k = bits.length then b else bits.getD k false := by
  simp only [List.getD_eq_getElem?_getD, List.getElem?_append]
  split
  · rw [if_neg (by omega)]
  · by_cases e : k = bits.length
    · subst e; simp
    · rw [if_neg e, List.getElem?_eq_none (by simp; omega), List.getElem?_eq_none (by omega)]

theorem Pk.off {N : Nat} {l : List Nat} {bits : List Bool} (h : Pk N l bits) : Pk N l (bits ++ [false]) := by
  refine ⟨h.len, h.lt, fun i j hi hj => ?_⟩
  rw [h.bit i j hi hj, getD_snoc]
  split
  · rename_i e; rw [e, List.getD_eq_getElem?_getD, List.getElem?_eq_none (by omega)]; rfl
  · rfl

theorem testBit_128 (k j : Nat) (hj : j < 8) (hk : k < 8) : (128 >>> k).testBit (7 - j) = decide (j = k) := by
  rw [Nat.testBit_shiftRight, show (128 : Nat) = 2 ^ 7 from rfl, Nat.testBit_two_pow]
  congr 1
  exact propext ⟨fun h => by omega, fun h => by omega⟩

theorem Pk.on {N : Nat} {l : List Nat} {bits : List Bool} (h : Pk N l bits) (hn : bits.length < N) (hl : bits.length / 8 < l.length) : Pk N (l.set (bits.length / 8) (l[bits.length / 8] ||| 128 >>> (bits.length % 8))) (bits ++ [true]) := by
  refine ⟨by rw [List.length_set, h.len], fun i hi => ?_, fun i j hi hj => ?_⟩
  · rw [List.getElem_set]
    split
    · refine Nat.or_lt_two_pow (n := 8) (h.lt _ hl) ?_
      exact Nat.lt_of_le_of_lt (Nat.shiftRight_le ..) (by decide)
    · exact h.lt i _
  · rw [List.getElem_set, getD_snoc]
    rw [List.length_set] at hi
    split
    · rename_i e
      subst e
      rw [Nat.testBit_or, h.bit _ j hl hj, testBit_128 _ _ hj (Nat.mod_lt _ (by decide))]
      by_cases e : j = bits.length % 8
      · rw [if_pos (by omega)]; simp [e]
      · rw [if_neg (by omega)]; simp [e]
    · rename_i e
      rw [h.bit i j hi hj, if_neg (by omega)]

/-- n bits of v, the highest first. -/
def nb (v : Nat) : Nat → List Bool
  | 0 => []
  | n + 1 => v.testBit n :: nb v n

theorem nb_length (v n : Nat) : (nb v n).length = n := by induction n with | zero => rfl | succ n ih => simp [nb, ih]

def val (l : List Bool) : Nat := l.foldl (fun a b => 2 * a + b.toNat) 0

/-- The width of a number. -/
def bl (n : Nat) : Nat := if n = 0 then 0 else n.log2 + 1

theorem bl_div (n : Nat) (h : 0 < n) : bl n = bl (n / 2) + 1 := by
  unfold bl
  rw [if_neg (by omega)]
  by_cases e : n / 2 = 0
  · rw [if_pos e]
    have : n = 1 := by omega
    subst this; rfl
  · rw [if_neg e, Nat.log2_def, if_pos (by omega)]

theorem lt_bl (n : Nat) : n < 2 ^ bl n := by
  unfold bl
  split
  · omega
  · exact Nat.lt_log2_self

theorem bl_le (n : Nat) (h : 0 < n) : 2 ^ (bl n - 1) ≤ n := by
  unfold bl
  rw [if_neg (by omega)]
  exact Nat.log2_self_le (by omega)

theorem bl_le_iff (n k : Nat) : bl n ≤ k ↔ n < 2 ^ k := by
  constructor
  · intro h; exact Nat.lt_of_lt_of_le (lt_bl n) (Nat.pow_le_pow_right (by decide) h)
  · intro h
    by_cases h0 : n = 0
    · subst h0; simp [bl]
    · by_cases hk : bl n ≤ k
      · exact hk
      · have h1 := bl_le n (by omega)
        have : 2 ^ k ≤ 2 ^ (bl n - 1) := Nat.pow_le_pow_right (by decide) (by omega)
        omega

end Go.Ax.B6
/- Wb2 -/
set_option maxRecDepth 100000
set_option linter.unusedVariables false
set_option linter.unusedSimpArgs false
namespace Go.Ax.B6
open Go.Ax
theorem tab_at (x : Nat) (h : x < 256) : Ax.sindex (.str str_math_bits_Len64_0) (.int .u8 (x : Int)) = some (.int .u8 (bl x : Nat)) := by
  have key : ∀ y : Fin 256, (str_math_bits_Len64_0[y.val]?).map UInt8.toNat = some (bl y.val) := by decide +kernel
  have := key ⟨x, h⟩
  simp only [Ax.sindex]
  rw [if_pos (by omega)]
  simp only [Int.toNat_natCast]
  cases ht : str_math_bits_Len64_0[x]? with
  | none => rw [ht] at this; cases this
  | some b => rw [ht] at this; simp only [Option.map_some, Option.some.injEq] at this ⊢; rw [this]

theorem bl_sh (n k m : Nat) (hm : m = 2 ^ k) (h : 0 < n / m) : bl n = bl (n / m) + k := by
  subst hm
  induction k with
  | zero => simp
  | succ k ih =>
    have e : n / 2 ^ (k + 1) = (n / 2 ^ k) / 2 := by rw [Nat.pow_succ, Nat.div_div_eq_div_mul]
    rw [e] at h ⊢
    have h' : 0 < n / 2 ^ k := by omega
    rw [ih h', bl_div _ h']; omega

theorem len64 (n : Nat) (h : n < 18446744073709551616) : sem T fn_math_bits_Len64 [.int .u64 n] = M.pure (.int .i64 (bl n : Nat)) := by
  refine pure_of_ok fun H => ?_
  refine ok_math_bits_Len64 ?_
  unfold f_math_bits_Len64
  simp (disch := first | omega | decide) only [↓RD, RC, RH, RO, RN, RL, RX, RS, eq_self, Int.reduceToNat, Int.reduceAdd, Int.reduceSub, Int.reduceMul, Nat.reduceAdd, Nat.reduceSub, Nat.reduceMul, Nat.reduceDiv, Nat.reduceMod, Nat.reduceBEq, Nat.reduceLeDiff]
  refine ok_itep (fun h1 => ?_) (fun h1 => ?_)
  · have b1 := bl_sh n 32 4294967296 rfl (by omega)
    simp (disch := first | omega | decide) only [↓RD, RC, RH, RO, RN, RL, RX, RS, eq_self, Int.reduceToNat, Int.reduceAdd, Int.reduceSub, Int.reduceMul, Nat.reduceAdd, Nat.reduceSub, Nat.reduceMul, Nat.reduceDiv, Nat.reduceMod, Nat.reduceBEq, Nat.reduceLeDiff]
    refine ok_itep (fun h2 => ?_) (fun h2 => ?_)
    · have b2 := bl_sh (n / 4294967296) 16 65536 rfl (by omega)
      simp (disch := first | omega | decide) only [↓RD, RC, RH, RO, RN, RL, RX, RS, eq_self, Int.reduceToNat, Int.reduceAdd, Int.reduceSub, Int.reduceMul, Nat.reduceAdd, Nat.reduceSub, Nat.reduceMul, Nat.reduceDiv, Nat.reduceMod, Nat.reduceBEq, Nat.reduceLeDiff]
      refine ok_itep (fun h3 => ?_) (fun h3 => ?_)
      · have b3 := bl_sh (n / 4294967296 / 65536) 8 256 rfl (by omega)
        have b8 : bl (n / 4294967296 / 65536 / 256) ≤ 8 := (bl_le_iff _ 8).2 (by omega)
        simp (disch := first | omega | decide) only [↓RD, RC, RH, RO, RN, RL, RX, RS, eq_self, Int.reduceToNat, Int.reduceAdd, Int.reduceSub, Int.reduceMul, Nat.reduceAdd, Nat.reduceSub, Nat.reduceMul, Nat.reduceDiv, Nat.reduceMod, Nat.reduceBEq, Nat.reduceLeDiff, tab_at]
        congr 1; omega
      · have b8 : bl (n / 4294967296 / 65536) ≤ 8 := (bl_le_iff _ 8).2 (by omega)
        simp (disch := first | omega | decide) only [↓RD, RC, RH, RO, RN, RL, RX, RS, eq_self, Int.reduceToNat, Int.reduceAdd, Int.reduceSub, Int.reduceMul, Nat.reduceAdd, Nat.reduceSub, Nat.reduceMul, Nat.reduceDiv, Nat.reduceMod, Nat.reduceBEq, Nat.reduceLeDiff, tab_at]
        congr 1; omega
    · simp (disch := first | omega | decide) only [↓RD, RC, RH, RO, RN, RL, RX, RS, eq_self, Int.reduceToNat, Int.reduceAdd, Int.reduceSub, Int.reduceMul, Nat.reduceAdd, Nat.reduceSub, Nat.reduceMul, Nat.reduceDiv, Nat.reduceMod, Nat.reduceBEq, Nat.reduceLeDiff]
      refine ok_itep (fun h3 => ?_) (fun h3 => ?_)
      · have b3 := bl_sh (n / 4294967296) 8 256 rfl (by omega)
        have b8 : bl (n / 4294967296 / 256) ≤ 8 := (bl_le_iff _ 8).2 (by omega)
        simp (disch := first | omega | decide) only [↓RD, RC, RH, RO, RN, RL, RX, RS, eq_self, Int.reduceToNat, Int.reduceAdd, Int.reduceSub, Int.reduceMul, Nat.reduceAdd, Nat.reduceSub, Nat.reduceMul, Nat.reduceDiv, Nat.reduceMod, Nat.reduceBEq, Nat.reduceLeDiff, tab_at]
        congr 1; omega
      · have b8 : bl (n / 4294967296) ≤ 8 := (bl_le_iff _ 8).2 (by omega)
        simp (disch := first | omega | decide) only [↓RD, RC, RH, RO, RN, RL, RX, RS, eq_self, Int.reduceToNat, Int.reduceAdd, Int.reduceSub, Int.reduceMul, Nat.reduceAdd, Nat.reduceSub, Nat.reduceMul, Nat.reduceDiv, Nat.reduceMod, Nat.reduceBEq, Nat.reduceLeDiff, tab_at]
        congr 1; omega
  · simp (disch := first | omega | decide) only [↓RD, RC, RH, RO, RN, RL, RX, RS, eq_self, Int.reduceToNat, Int.reduceAdd, Int.reduceSub, Int.reduceMul, Nat.reduceAdd, Nat.reduceSub, Nat.reduceMul, Nat.reduceDiv, Nat.reduceMod, Nat.reduceBEq, Nat.reduceLeDiff]
    refine ok_itep (fun h2 => ?_) (fun h2 => ?_)
    · have b2 := bl_sh n 16 65536 rfl (by omega)
      simp (disch := first | omega | decide) only [↓RD, RC, RH, RO, RN, RL, RX, RS, eq_self, Int.reduceToNat, Int.reduceAdd, Int.reduceSub, Int.reduceMul, Nat.reduceAdd, Nat.reduceSub, Nat.reduceMul, Nat.reduceDiv, Nat.reduceMod, Nat.reduceBEq, Nat.reduceLeDiff]
      refine ok_itep (fun h3 => ?_) (fun h3 => ?_)
      · have b3 := bl_sh (n / 65536) 8 256 rfl (by omega)
        have b8 : bl (n / 65536 / 256) ≤ 8 := (bl_le_iff _ 8).2 (by omega)
        simp (disch := first | omega | decide) only [↓RD, RC, RH, RO, RN, RL, RX, RS, eq_self, Int.reduceToNat, Int.reduceAdd, Int.reduceSub, Int.reduceMul, Nat.reduceAdd, Nat.reduceSub, Nat.reduceMul, Nat.reduceDiv, Nat.reduceMod, Nat.reduceBEq, Nat.reduceLeDiff, tab_at]
        congr 1; omega
      · have b8 : bl (n / 65536) ≤ 8 := (bl_le_iff _ 8).2 (by omega)
        simp (disch := first | omega | decide) only [↓RD, RC, RH, RO, RN, RL, RX, RS, eq_self, Int.reduceToNat, Int.reduceAdd, Int.reduceSub, Int.reduceMul, Nat.reduceAdd, Nat.reduceSub, Nat.reduceMul, Nat.reduceDiv, Nat.reduceMod, Nat.reduceBEq, Nat.reduceLeDiff, tab_at]
        congr 1; omega
    · simp (disch := first | omega | decide) only [↓RD, RC, RH, RO, RN, RL, RX, RS, eq_self, Int.reduceToNat, Int.reduceAdd, Int.reduceSub, Int.reduceMul, Nat.reduceAdd, Nat.reduceSub, Nat.reduceMul, Nat.reduceDiv, Nat.reduceMod, Nat.reduceBEq, Nat.reduceLeDiff]
      refine ok_itep (fun h3 => ?_) (fun h3 => ?_)
      · have b3 := bl_sh n 8 256 rfl (by omega)
        have b8 : bl (n / 256) ≤ 8 := (bl_le_iff _ 8).2 (by omega)
        simp (disch := first | omega | decide) only [↓RD, RC, RH, RO, RN, RL, RX, RS, eq_self, Int.reduceToNat, Int.reduceAdd, Int.reduceSub, Int.reduceMul, Nat.reduceAdd, Nat.reduceSub, Nat.reduceMul, Nat.reduceDiv, Nat.reduceMod, Nat.reduceBEq, Nat.reduceLeDiff, tab_at]
        congr 1; omega
      · have b8 : bl (n) ≤ 8 := (bl_le_iff _ 8).2 (by omega)
        simp (disch := first | omega | decide) only [↓RD, RC, RH, RO, RN, RL, RX, RS, eq_self, Int.reduceToNat, Int.reduceAdd, Int.reduceSub, Int.reduceMul, Nat.reduceAdd, Nat.reduceSub, Nat.reduceMul, Nat.reduceDiv, Nat.reduceMod, Nat.reduceBEq, Nat.reduceLeDiff, tab_at]
        congr 1; omega

end Go.Ax.B6
/- Wb3 -/
set_option maxRecDepth 100000
set_option linter.unusedVariables false
set_option linter.unusedSimpArgs false
namespace Go.Ax.B6
open Go.Ax
theorem short_eq (n : Nat) (h0 : 1 ≤ n) (h : n ≤ 4294967296) : sem T fn_bits_short [.int .u64 n] = M.pure (.tup [.int .i64 (bl n : Nat), .int .u64 ((2 ^ bl n - n : Nat) : Int)]) := by
  have h1 := lt_bl n
  have h33 : bl n ≤ 33 := (bl_le_iff n 33).2 (by omega)
  have h2 : 2 ^ bl n ≤ 2 ^ 33 := Nat.pow_le_pow_right (by decide) h33
  have e : shl 1 (bl n) % 18446744073709551616 = 2 ^ bl n := by
    rw [shl_def, Nat.one_shiftLeft]; exact Nat.mod_eq_of_lt (by omega)
  refine pure_of_ok fun H => ?_
  refine ok_bits_short ?_
  unfold f_bits_short
  simp (disch := first | omega | decide) only [↓RD, RC, RH, RO, RN, RL, RX, RS, eq_self, Int.reduceToNat, Int.reduceAdd, Int.reduceSub, Int.reduceMul, Nat.reduceAdd, Nat.reduceSub, Nat.reduceMul, Nat.reduceDiv, Nat.reduceMod, Nat.reduceBEq, Nat.reduceLeDiff, len64 n (by omega), e, Int.toNat_one]
  rw [Int.ofNat_sub (by omega)]

/-- A writer that has bits. -/
structure WRep (H : Heap) (w : Nat) (bits : List Bool) (F : List Nat) : Prop where
  mk' ::
  ex : ∃ bv l, H.get w = some ⟨ty_bits_Writer, [bv, .int .i64 (bits.length : Nat)], none⟩ ∧ Pk bits.length l bits ∧ Opn ty_uint8 1 H bv (l.map by8) l.length ∧ F = w :: bv.pid.toList ∧ bv.pid ≠ some w
  low : Below F H

theorem WRep.to {H H' : Heap} {w : Nat} {bits : List Bool} {F : List Nat} (h : WRep H w bits F) (hs : ∀ i ∈ F, H'.get i = H.get i) (hn : H.next ≤ H'.next) : WRep H' w bits F := by
  obtain ⟨⟨bv, l, h1, h2, h3, rfl, h5⟩, hb⟩ := h
  refine ⟨⟨bv, l, ?_, h2, h3.to fun i hi => hs i (by simp [hi]), rfl, h5⟩, fun i hi => Nat.lt_of_lt_of_le (hb i hi) hn⟩
  rw [hs w (by simp), h1]

theorem nb_take (v k j : Nat) (h : j < k) : (nb v k).take (j + 1) = (nb v k).take j ++ [v.testBit (k - 1 - j)] := by
  induction k generalizing j with
  | zero => omega
  | succ k ih =>
    cases j with
    | zero => simp [nb]
    | succ j =>
      simp only [nb, List.take_succ_cons, List.cons_append]
      rw [ih j (by omega)]
      have : k + 1 - 1 - (j + 1) = k - 1 - j := by omega
      rw [this]

theorem shr1 (v i : Nat) : shr v i &&& 1 = (v.testBit i).toNat := by
  rw [shr_def, Nat.toNat_testBit, Nat.and_one_is_mod, Nat.shiftRight_eq_div_pow]

theorem New_ok {H : Heap} : Ok (sem T fn_bits_New []) H fun r H' => r = .ptr H.next 0 ∧ WRep H' H.next [] [H.next] ∧ Step H H' [] [H.next] := by
  refine ok_bits_New ?_
  unfold f_bits_New
  simp (disch := first | omega | decide) only [↓RD, RC, RH, RO, RN, RL, RX, RS, eq_self, Int.reduceToNat, Int.reduceAdd, Int.reduceSub, Int.reduceMul, Nat.reduceAdd, Nat.reduceSub, Nat.reduceMul, Nat.reduceDiv, Nat.reduceMod, Nat.reduceBEq, Nat.reduceLeDiff]
  refine ⟨⟨⟨.nils, [], ?_, Pk.nil, Opn.nil, rfl, by simp [V.pid]⟩, ?_⟩, ?_⟩
  · simp (disch := first | omega | decide) only [↓RD, RC, RH, RO, RN, RL, RX, RS, eq_self, Int.reduceToNat, Int.reduceAdd, Int.reduceSub, Int.reduceMul, Nat.reduceAdd, Nat.reduceSub, Nat.reduceMul, Nat.reduceDiv, Nat.reduceMod, Nat.reduceBEq, Nat.reduceLeDiff]
    rfl
  · intro i hi; simp only [List.mem_singleton] at hi; subst hi; rw [next_new]; omega
  · refine ⟨by rw [next_new]; omega, fun i hi _ => get_new_ne _ _ (by omega), fun i hi => .inr ?_⟩
    simp only [List.mem_singleton] at hi; subst hi; rw [next_new]; omega

def addE (v : Nat) (n : Int) : Int := if n < 0 ∨ 64 < n ∨ n < bl v then 1 else 0
def addB (bits : List Bool) (v : Nat) (n : Int) : List Bool := if n < 0 ∨ 64 < n ∨ n < bl v then bits else bits ++ nb v n.toNat

theorem Add_loop {H : Heap} {w : Nat} {bits : List Bool} {F : List Nat} (h : WRep H w bits F) (v i : Nat) (hv : v < 18446744073709551616) (hi : i < 64) (hl : bits.length < 1099511627776) (t6 : V) {Q : Res → Heap → Prop}
    (k : ∀ H' F', WRep H' w (bits ++ [v.testBit i]) F' → Step H H' F F' → Q (.nrm [.int .i64 ((i : Int) - 1)]) H') :
    Ok (f_bits_Writer_Add_0 (sem T) (.int .u64 v) (.ptr w 0) t6 [.int .i64 (i : Int)]) H Q := by
  obtain ⟨⟨bv, l, hw, hp, ho, rfl, hne⟩, hb⟩ := h
  have hw0 : w < H.next := hb w (by simp)
  have hpl := hp.len
  unfold f_bits_Writer_Add_0
  simp (disch := first | omega | decide) only [↓RD, RC, RH, RO, RN, RL, RX, RS, eq_self, Int.reduceToNat, Int.reduceAdd, Int.reduceSub, Int.reduceMul, Nat.reduceAdd, Nat.reduceSub, Nat.reduceMul, Nat.reduceDiv, Nat.reduceMod, Nat.reduceBEq, Nat.reduceLeDiff, hw]
  -- room for one more
  refine ok_mono (Q := fun r H' => r = .nrm [] ∧ ∃ bv' l', H'.get w = some ⟨ty_bits_Writer, [bv', .int .i64 (bits.length : Nat)], none⟩ ∧ Pk (bits.length + 1) l' bits ∧ Opn ty_uint8 1 H' bv' (l'.map by8) l'.length ∧ bv'.pid ≠ some w ∧ Below (w :: bv'.pid.toList) H' ∧ Step H H' (w :: bv.pid.toList) (w :: bv'.pid.toList)) ?_ ?_
  · refine ok_iteb (fun hz => ?_) fun hz => ?_
    · simp (disch := first | omega | decide) only [↓RD, RC, RH, RO, RN, RL, RX, RS, eq_self, Int.reduceToNat, Int.reduceAdd, Int.reduceSub, Int.reduceMul, Nat.reduceAdd, Nat.reduceSub, Nat.reduceMul, Nat.reduceDiv, Nat.reduceMod, Nat.reduceBEq, Nat.reduceLeDiff, hw]
      refine okb_append (bytes := 1) (cells := l.map by8) (n := l.length) (q := [by8 0]) (m := 1) (ho.to fun i hi => get_new_ne _ _ ?_) ?_ rfl (by omega) (by omega) fun bv' H1 ho1 hs hf => ?_
      · have := hb i (by simp [hi]); omega
      · exact acells_fresh rfl
      · have hw1 : H1.get w = some ⟨ty_bits_Writer, [bv, .int .i64 (bits.length : Nat)], none⟩ := by
          rw [hs.same w (by rw [next_new]; omega) (by rw [mem_pid]; exact hne), get_new_ne _ _ (by omega), hw]
        have hn := hs.next
        rw [next_new] at hn
        have hne1 : bv'.pid ≠ some w := fun e => by
          have := hf (.inr (by decide)) w e
          rw [next_new] at this; omega
        simp (disch := first | omega | decide) only [↓RD, RC, RH, RO, RN, RL, RX, RS, eq_self, Int.reduceToNat, Int.reduceAdd, Int.reduceSub, Int.reduceMul, Nat.reduceAdd, Nat.reduceSub, Nat.reduceMul, Nat.reduceDiv, Nat.reduceMod, Nat.reduceBEq, Nat.reduceLeDiff, hw1, ho1.cells1, ho1.okc]
        refine ⟨bv', l ++ [0], rfl, hp.more (by omega), ?_, hne1, ?_, ?_⟩
        · simp only [List.map_append, List.length_append]
          exact ho1.to fun i hi => get_set_ne _ _ (fun e => hne1 (e ▸ hi))
        · refine Below.cons (by rw [next_set]; omega) fun i hi => ?_
          rw [next_set]
          exact hs.below (fun i hi => by rw [next_new]; have := hb i (List.mem_cons_of_mem _ hi); omega) i hi
        · exact ((Step.new H _ _).trans (hs.cons w)).trans (Step.set _ (by simp))
    · simp (disch := first | omega | decide) only [↓RD, RC, RH, RO, RN, RL, RX, RS, eq_self, Int.reduceToNat, Int.reduceAdd, Int.reduceSub, Int.reduceMul, Nat.reduceAdd, Nat.reduceSub, Nat.reduceMul, Nat.reduceDiv, Nat.reduceMod, Nat.reduceBEq, Nat.reduceLeDiff]
      exact ⟨bv, l, hw, hp.same (by omega), ho, hne, hb, Step.refl _ _⟩
  · rintro _ H1 ⟨rfl, bv', l', hw1, hp1, ho1, hne1, hb1, hs1⟩
    have hw1' : w < H1.next := hb1 w (by simp)
    have hpl1 := hp1.len
    have hlt : bits.length / 8 < l'.length := by omega
    have hsh := shr_le v i
    have hbit : (v.testBit i).toNat ≤ 1 := Bool.toNat_le _
    simp (disch := first | omega | decide) only [↓RD, RC, RH, RO, RN, RL, RX, RS, eq_self, Int.reduceToNat, Int.reduceAdd, Int.reduceSub, Int.reduceMul, Nat.reduceAdd, Nat.reduceSub, Nat.reduceMul, Nat.reduceDiv, Nat.reduceMod, Nat.reduceBEq, Nat.reduceLeDiff, hw1, shr1]
    refine ok_mono (Q := fun r H' => r = .nrm [] ∧ ∃ l2, H'.get w = some ⟨ty_bits_Writer, [bv', .int .i64 (bits.length : Nat)], none⟩ ∧ Pk (bits.length + 1) l2 (bits ++ [v.testBit i]) ∧ l2.length = l'.length ∧ Opn ty_uint8 1 H' bv' (l2.map by8) l2.length ∧ Step H1 H' (w :: bv'.pid.toList) (w :: bv'.pid.toList)) ?_ ?_
    · refine ok_iteb (fun hb1 => ?_) fun hb1 => ?_
      · have hbt : v.testBit i = true := by cases e : v.testBit i <;> simp [e] at hb1 ⊢
        obtain ⟨id, rfl, hg, -⟩ := ho1.at (k := .i64) (i := (bits.length / 8 : Nat)) (by omega) (by omega)
        have hx : l'[bits.length / 8] < 256 := hp1.lt _ hlt
        have hs8 := shr_le 128 (bits.length % 8)
        have e8 : ((bits.length : Int) / 8).toNat = bits.length / 8 := by omega
        have e9 : ((bits.length : Int) % 8).toNat = bits.length % 8 := by omega
        simp (disch := first | omega | decide) only [↓RD, RC, RH, RO, RN, RL, RX, RS, eq_self, Int.reduceToNat, Int.reduceAdd, Int.reduceSub, Int.reduceMul, Nat.reduceAdd, Nat.reduceSub, Nat.reduceMul, Nat.reduceDiv, Nat.reduceMod, Nat.reduceBEq, Nat.reduceLeDiff, hw1, hg, e8, e9, List.getElem?_map, List.getElem?_eq_getElem hlt, by8]
        have hwi : w ≠ id := fun e => hne1 (by simp [V.pid, e])
        refine ⟨by rw [List.length_map]; omega, l'.set (bits.length / 8) (l'[bits.length / 8] ||| shr 128 (bits.length % 8)), by rw [get_set_ne _ _ hwi, hw1], ?_, List.length_set .., .inr ⟨id, by rw [List.length_set], ?_, by simp⟩, Step.set _ (by simp [V.pid])⟩
        · rw [hbt]; exact hp1.on (by omega) hlt
        · rw [get_set_self, sp_set _ _ _ (by rw [List.length_map]; omega), List.map_set]; rfl
      · have hbt : v.testBit i = false := by cases e : v.testBit i <;> simp [e] at hb1 ⊢
        simp (disch := first | omega | decide) only [↓RD, RC, RH, RO, RN, RL, RX, RS, eq_self, Int.reduceToNat, Int.reduceAdd, Int.reduceSub, Int.reduceMul, Nat.reduceAdd, Nat.reduceSub, Nat.reduceMul, Nat.reduceDiv, Nat.reduceMod, Nat.reduceBEq, Nat.reduceLeDiff, hbt]
        exact ⟨l', hw1, hp1.off, rfl, ho1, Step.refl _ _⟩
    · rintro _ H2 ⟨rfl, l2, hw2, hp2, hl2, ho2, hs2⟩
      simp (disch := first | omega | decide) only [↓RD, RC, RH, RO, RN, RL, RX, RS, eq_self, Int.reduceToNat, Int.reduceAdd, Int.reduceSub, Int.reduceMul, Nat.reduceAdd, Nat.reduceSub, Nat.reduceMul, Nat.reduceDiv, Nat.reduceMod, Nat.reduceBEq, Nat.reduceLeDiff, hw2]
      refine k _ (w :: bv'.pid.toList) ⟨⟨bv', l2, ?_, ?_, ho2.to fun j hj => get_set_ne _ _ fun e => hne1 (e ▸ hj), rfl, hne1⟩, ?_⟩ ((hs1.trans hs2).trans (Step.set _ (by simp)))
      · rw [get_set_self]; simp
      · simpa using hp2
      · intro j hj; rw [next_set]; exact hs2.below hb1 j hj

theorem Add_ok {H : Heap} {w : Nat} {bits : List Bool} {F : List Nat} (h : WRep H w bits F) (v : Nat) (n : Int) (hv : v < 18446744073709551616) (hl : bits.length < 549755813888) (hn : -9223372036854775808 ≤ n ∧ n ≤ 9223372036854775807) :
    Ok (sem T fn_bits_Writer_Add [.ptr w 0, .int .u64 v, .int .i64 n]) H fun r H' => ∃ F', r = .int .i64 (addE v n) ∧ WRep H' w (addB bits v n) F' ∧ Step H H' F F' := by
  refine ok_bits_Writer_Add ?_
  unfold f_bits_Writer_Add addE addB
  simp (disch := first | omega | decide) only [↓RD, RC, RH, RO, RN, RL, RX, RS, eq_self, Int.reduceToNat, Int.reduceAdd, Int.reduceSub, Int.reduceMul, Nat.reduceAdd, Nat.reduceSub, Nat.reduceMul, Nat.reduceDiv, Nat.reduceMod, Nat.reduceBEq, Nat.reduceLeDiff]
  refine ok_gdp (fun h1 => ?_) fun h1 => ?_
  · simp (disch := first | omega | decide) only [↓RD, RC, RH, RO, RN, RL, RX, RS, eq_self, Int.reduceToNat, Int.reduceAdd, Int.reduceSub, Int.reduceMul, Nat.reduceAdd, Nat.reduceSub, Nat.reduceMul, Nat.reduceDiv, Nat.reduceMod, Nat.reduceBEq, Nat.reduceLeDiff]
    rw [if_pos (.inl h1), if_pos (.inl h1)]
    exact ⟨F, rfl, h, Step.refl _ _⟩
  · simp (disch := first | omega | decide) only [↓RD, RC, RH, RO, RN, RL, RX, RS, eq_self, Int.reduceToNat, Int.reduceAdd, Int.reduceSub, Int.reduceMul, Nat.reduceAdd, Nat.reduceSub, Nat.reduceMul, Nat.reduceDiv, Nat.reduceMod, Nat.reduceBEq, Nat.reduceLeDiff]
    refine ok_gdp (fun h2 => ?_) fun h2 => ?_
    · simp (disch := first | omega | decide) only [↓RD, RC, RH, RO, RN, RL, RX, RS, eq_self, Int.reduceToNat, Int.reduceAdd, Int.reduceSub, Int.reduceMul, Nat.reduceAdd, Nat.reduceSub, Nat.reduceMul, Nat.reduceDiv, Nat.reduceMod, Nat.reduceBEq, Nat.reduceLeDiff]
      rw [if_pos (.inr (.inl h2)), if_pos (.inr (.inl h2))]
      exact ⟨F, rfl, h, Step.refl _ _⟩
    · simp (disch := first | omega | decide) only [↓RD, RC, RH, RO, RN, RL, RX, RS, eq_self, Int.reduceToNat, Int.reduceAdd, Int.reduceSub, Int.reduceMul, Nat.reduceAdd, Nat.reduceSub, Nat.reduceMul, Nat.reduceDiv, Nat.reduceMod, Nat.reduceBEq, Nat.reduceLeDiff, len64 v hv]
      refine ok_itep (fun h3 => ?_) fun h3 => ?_
      · simp (disch := first | omega | decide) only [↓RD, RC, RH, RO, RN, RL, RX, RS, eq_self, Int.reduceToNat, Int.reduceAdd, Int.reduceSub, Int.reduceMul, Nat.reduceAdd, Nat.reduceSub, Nat.reduceMul, Nat.reduceDiv, Nat.reduceMod, Nat.reduceBEq, Nat.reduceLeDiff]
        rw [if_pos (.inr (.inr h3)), if_pos (.inr (.inr h3))]
        exact ⟨F, rfl, h, Step.refl _ _⟩
      · rw [if_neg (by omega), if_neg (by omega)]
        simp (disch := first | omega | decide) only [↓RD, RC, RH, RO, RN, RL, RX, RS, eq_self, Int.reduceToNat, Int.reduceAdd, Int.reduceSub, Int.reduceMul, Nat.reduceAdd, Nat.reduceSub, Nat.reduceMul, Nat.reduceDiv, Nat.reduceMod, Nat.reduceBEq, Nat.reduceLeDiff]
        obtain ⟨m, rfl⟩ := Int.eq_ofNat_of_zero_le (show 0 ≤ n by omega)
        refine ok_loop (fun j L H' => ∃ F', L = [.int .i64 ((m : Int) - 1 - j)] ∧ WRep H' w (bits ++ (nb v m).take j) F' ∧ Step H H' F F') m ⟨F, by simp, by simpa using h, Step.refl _ _⟩ ?_ ?_
        · rintro j L H1 hj ⟨F1, rfl, h1, s1⟩
          have e : (m : Int) - 1 - j = ((m - 1 - j : Nat) : Int) := by omega
          rw [e]
          refine Add_loop h1 v _ hv (by omega) (by simp only [List.length_append, List.length_take, nb_length]; omega) _ fun H2 F2 h2 s2 => ?_
          refine ⟨F2, by congr 2; omega, ?_, s1.trans s2⟩
          rw [nb_take v m j hj, ← List.append_assoc]; exact h2
        · rintro L H1 ⟨F1, rfl, h1, s1⟩
          unfold f_bits_Writer_Add_0
          simp (disch := first | omega | decide) only [↓RD, RC, RH, RO, RN, RL, RX, RS, eq_self, Int.reduceToNat, Int.reduceAdd, Int.reduceSub, Int.reduceMul, Nat.reduceAdd, Nat.reduceSub, Nat.reduceMul, Nat.reduceDiv, Nat.reduceMod, Nat.reduceBEq, Nat.reduceLeDiff]
          rw [List.take_of_length_le (by rw [nb_length]; omega)] at h1
          exact ⟨F1, h1, s1⟩

def addNSE (v n : Nat) : Int := if n < 1 ∨ 4294967296 < n ∨ n ≤ v then 1 else 0
def addNSB (bits : List Bool) (v n : Nat) : List Bool := if n < 1 ∨ 4294967296 < n ∨ n ≤ v then bits else if v < 2 ^ bl n - n then bits ++ nb v (bl n - 1) else bits ++ nb (v + (2 ^ bl n - n)) (bl n)

theorem addNS_lt {v n : Nat} (h0 : 1 ≤ n) (h1 : n ≤ 4294967296) (h : v < n) : 2 ^ bl n ≤ 8589934592 ∧ n < 2 ^ bl n ∧ 2 ^ bl n ≤ 2 * n ∧ 1 ≤ bl n ∧ bl n ≤ 33 ∧ (v < 2 ^ bl n - n → bl v ≤ bl n - 1) ∧ (¬ v < 2 ^ bl n - n → bl (v + (2 ^ bl n - n)) ≤ bl n) := by
  have h2 := lt_bl n
  have h3 := bl_le n h0
  have h33 : bl n ≤ 33 := (bl_le_iff n 33).2 (by omega)
  have hp : 1 ≤ bl n := by
    rcases Nat.eq_zero_or_pos (bl n) with e | e
    · rw [e] at h2; simp at h2; omega
    · exact e
  have e : 2 ^ bl n = 2 * 2 ^ (bl n - 1) := by
    obtain ⟨m, hm⟩ : ∃ m, bl n = m + 1 := ⟨bl n - 1, by omega⟩
    rw [hm, Nat.pow_succ, Nat.mul_comm]; rfl
  have h4 : 2 ^ bl n ≤ 2 ^ 33 := Nat.pow_le_pow_right (by decide) h33
  refine ⟨by omega, h2, by omega, hp, h33, fun hv => (bl_le_iff _ _).2 (by omega), fun hv => (bl_le_iff _ _).2 (by omega)⟩

theorem AddNS_ok {H : Heap} {w : Nat} {bits : List Bool} {F : List Nat} (h : WRep H w bits F) (v n : Nat) (hv : v < 18446744073709551616) (hn : n < 18446744073709551616) (hl : bits.length < 549755813888) :
    Ok (sem T fn_bits_Writer_AddNS [.ptr w 0, .int .u64 v, .int .u64 n]) H fun r H' => ∃ F', r = .int .i64 (addNSE v n) ∧ WRep H' w (addNSB bits v n) F' ∧ Step H H' F F' := by
  refine ok_bits_Writer_AddNS ?_
  unfold f_bits_Writer_AddNS addNSE addNSB
  simp (disch := first | omega | decide) only [↓RD, RC, RH, RO, RN, RL, RX, RS, eq_self, Int.reduceToNat, Int.reduceAdd, Int.reduceSub, Int.reduceMul, Nat.reduceAdd, Nat.reduceSub, Nat.reduceMul, Nat.reduceDiv, Nat.reduceMod, Nat.reduceBEq, Nat.reduceLeDiff]
  refine ok_gdp (fun h1 => ?_) fun h1 => ?_
  · simp (disch := first | omega | decide) only [↓RD, RC, RH, RO, RN, RL, RX, RS, eq_self, Int.reduceToNat, Int.reduceAdd, Int.reduceSub, Int.reduceMul, Nat.reduceAdd, Nat.reduceSub, Nat.reduceMul, Nat.reduceDiv, Nat.reduceMod, Nat.reduceBEq, Nat.reduceLeDiff]
    rw [if_pos (by omega), if_pos (by omega)]
    exact ⟨F, rfl, h, Step.refl _ _⟩
  · simp (disch := first | omega | decide) only [↓RD, RC, RH, RO, RN, RL, RX, RS, eq_self, Int.reduceToNat, Int.reduceAdd, Int.reduceSub, Int.reduceMul, Nat.reduceAdd, Nat.reduceSub, Nat.reduceMul, Nat.reduceDiv, Nat.reduceMod, Nat.reduceBEq, Nat.reduceLeDiff]
    refine ok_gdp (fun h2 => ?_) fun h2 => ?_
    · simp (disch := first | omega | decide) only [↓RD, RC, RH, RO, RN, RL, RX, RS, eq_self, Int.reduceToNat, Int.reduceAdd, Int.reduceSub, Int.reduceMul, Nat.reduceAdd, Nat.reduceSub, Nat.reduceMul, Nat.reduceDiv, Nat.reduceMod, Nat.reduceBEq, Nat.reduceLeDiff]
      rw [if_pos (by omega), if_pos (by omega)]
      exact ⟨F, rfl, h, Step.refl _ _⟩
    · simp (disch := first | omega | decide) only [↓RD, RC, RH, RO, RN, RL, RX, RS, eq_self, Int.reduceToNat, Int.reduceAdd, Int.reduceSub, Int.reduceMul, Nat.reduceAdd, Nat.reduceSub, Nat.reduceMul, Nat.reduceDiv, Nat.reduceMod, Nat.reduceBEq, Nat.reduceLeDiff]
      refine ok_itep (fun h3 => ?_) fun h3 => ?_
      · simp (disch := first | omega | decide) only [↓RD, RC, RH, RO, RN, RL, RX, RS, eq_self, Int.reduceToNat, Int.reduceAdd, Int.reduceSub, Int.reduceMul, Nat.reduceAdd, Nat.reduceSub, Nat.reduceMul, Nat.reduceDiv, Nat.reduceMod, Nat.reduceBEq, Nat.reduceLeDiff]
        rw [if_pos (by omega), if_pos (by omega)]
        exact ⟨F, rfl, h, Step.refl _ _⟩
      · rw [if_neg (by omega), if_neg (by omega)]
        obtain ⟨a1, a2, a3, a4, a5, a6, a7⟩ := addNS_lt (v := v) (n := n) (by omega) (by omega) (by omega)
        simp (disch := first | omega | decide) only [↓RD, RC, RH, RO, RN, RL, RX, RS, eq_self, Int.reduceToNat, Int.reduceAdd, Int.reduceSub, Int.reduceMul, Nat.reduceAdd, Nat.reduceSub, Nat.reduceMul, Nat.reduceDiv, Nat.reduceMod, Nat.reduceBEq, Nat.reduceLeDiff, short_eq]
        refine ok_itep (fun h4 => ?_) fun h4 => ?_
        · have a6' := a6 (by omega)
          simp (disch := first | omega | decide) only [↓RD, RC, RH, RO, RN, RL, RX, RS, eq_self, Int.reduceToNat, Int.reduceAdd, Int.reduceSub, Int.reduceMul, Nat.reduceAdd, Nat.reduceSub, Nat.reduceMul, Nat.reduceDiv, Nat.reduceMod, Nat.reduceBEq, Nat.reduceLeDiff]
          rw [if_pos (by omega)]
          have e : (bl n : Int) - 1 = ((bl n - 1 : Nat) : Int) := by omega
          rw [e]
          refine ok_bind' (Add_ok h v _ hv hl ⟨by omega, by omega⟩) ?_
          rintro r H1 ⟨F1, rfl, hw1, hs1⟩
          simp only [addE, addB] at hw1 ⊢
          rw [if_neg (by omega)] at hw1
          rw [if_neg (by omega)]
          simp (disch := first | omega | decide) only [↓RD, RC, RH, RO, RN, RL, RX, RS, eq_self, Int.reduceToNat, Int.reduceAdd, Int.reduceSub, Int.reduceMul, Nat.reduceAdd, Nat.reduceSub, Nat.reduceMul, Nat.reduceDiv, Nat.reduceMod, Nat.reduceBEq, Nat.reduceLeDiff]
          exact ⟨F1, hw1, hs1⟩
        · have a7' := a7 (by omega)
          simp (disch := first | omega | decide) only [↓RD, RC, RH, RO, RN, RL, RX, RS, eq_self, Int.reduceToNat, Int.reduceAdd, Int.reduceSub, Int.reduceMul, Nat.reduceAdd, Nat.reduceSub, Nat.reduceMul, Nat.reduceDiv, Nat.reduceMod, Nat.reduceBEq, Nat.reduceLeDiff]
          rw [if_neg (by omega)]
          have e : (v : Int) + ((2 ^ bl n - n : Nat) : Int) = ((v + (2 ^ bl n - n) : Nat) : Int) := by omega
          rw [e]
          refine ok_bind' (Add_ok h _ _ (by omega) hl ⟨by omega, by omega⟩) ?_
          rintro r H1 ⟨F1, rfl, hw1, hs1⟩
          simp only [addE, addB] at hw1 ⊢
          rw [if_neg (by omega)] at hw1
          rw [if_neg (by omega)]
          simp (disch := first | omega | decide) only [↓RD, RC, RH, RO, RN, RL, RX, RS, eq_self, Int.reduceToNat, Int.reduceAdd, Int.reduceSub, Int.reduceMul, Nat.reduceAdd, Nat.reduceSub, Nat.reduceMul, Nat.reduceDiv, Nat.reduceMod, Nat.reduceBEq, Nat.reduceLeDiff]
          exact ⟨F1, hw1, hs1⟩

end Go.Ax.B6
/- Wb4 -/
set_option maxRecDepth 100000
set_option linter.unusedVariables false
set_option linter.unusedSimpArgs false
namespace Go.Ax.B6
open Go.Ax
theorem Bytes_ok {H : Heap} {w : Nat} {bits : List Bool} {F : List Nat} (h : WRep H w bits F) (hl : bits.length < 549755813888) :
    Ok (sem T fn_bits_Writer_Bytes [.ptr w 0]) H fun r H' => ∃ l, Pk bits.length l bits ∧ Opn ty_uint8 1 H' r (l.map by8) l.length ∧ Step H H' [] r.pid.toList := by
  obtain ⟨⟨bv, l, hw, hp, ho, rfl, hne⟩, hb⟩ := h
  have hpl := hp.len
  refine ok_bits_Writer_Bytes ?_
  unfold f_bits_Writer_Bytes
  simp (disch := first | omega | decide) only [↓RD, RC, RH, RO, RN, RL, RX, RS, eq_self, Int.reduceToNat, Int.reduceAdd, Int.reduceSub, Int.reduceMul, Nat.reduceAdd, Nat.reduceSub, Nat.reduceMul, Nat.reduceDiv, Nat.reduceMod, Nat.reduceBEq, Nat.reduceLeDiff, hw]
  refine okb_append (bytes := 1) .nil (acells_rc ho.rc) (by simp) (by omega) (by omega) fun x' H1 ho1 hs hf => ?_
  simp (disch := first | omega | decide) only [↓RD, RC, RH, RO, RN, RL, RX, RS, eq_self, Int.reduceToNat, Int.reduceAdd, Int.reduceSub, Int.reduceMul, Nat.reduceAdd, Nat.reduceSub, Nat.reduceMul, Nat.reduceDiv, Nat.reduceMod, Nat.reduceBEq, Nat.reduceLeDiff]
  exact ⟨l, hp, by simpa using ho1, hs⟩

/-- The document's writer. -/
structure RRep (H : Heap) (w : Nat) (bits : List Bool) (F : List Nat) : Prop where
  mk' ::
  ex : ∃ bv, H.get w = some ⟨ty_palanquinref6_Writer, [bv], none⟩ ∧ Opn ty_bool 1 H bv (bits.map V.bool) bits.length ∧ F = w :: bv.pid.toList ∧ bv.pid ≠ some w
  low : Below F H

theorem RRep.to {H H' : Heap} {w : Nat} {bits : List Bool} {F : List Nat} (h : RRep H w bits F) (hs : ∀ i ∈ F, H'.get i = H.get i) (hn : H.next ≤ H'.next) : RRep H' w bits F := by
  obtain ⟨⟨bv, h1, h3, rfl, h5⟩, hb⟩ := h
  refine ⟨⟨bv, ?_, h3.to fun i hi => hs i (by simp [hi]), rfl, h5⟩, fun i hi => Nat.lt_of_lt_of_le (hb i hi) hn⟩
  rw [hs w (by simp), h1]

theorem shr_bl (v n : Nat) : shr v n = 0 ↔ bl v ≤ n := by
  rw [bl_le_iff, shr_pow]
  constructor
  · intro h
    exact Nat.lt_of_div_eq_zero (Nat.two_pow_pos n) h
  · exact Nat.div_eq_of_lt

theorem RAdd_loop {H : Heap} {w : Nat} {bits : List Bool} {F : List Nat} (h : RRep H w bits F) (v i : Nat) (hv : v < 18446744073709551616) (hi : i < 64) (hl : bits.length < 1099511627776) (t6 : V) {Q : Res → Heap → Prop}
    (k : ∀ H' F', RRep H' w (bits ++ [v.testBit i]) F' → Step H H' F F' → Q (.nrm [.int .i64 ((i : Int) - 1)]) H') :
    Ok (f_palanquinref6_Writer_Add_0 (sem T) (.ptr w 0) (.int .u64 v) t6 [.int .i64 (i : Int)]) H Q := by
  obtain ⟨⟨bv, hw, ho, rfl, hne⟩, hb⟩ := h
  have hw0 : w < H.next := hb w (by simp)
  have hsh := shr_le v i
  have hbit : (v.testBit i).toNat ≤ 1 := Bool.toNat_le _
  have hbe : (((v.testBit i).toNat : Int) == 1) = v.testBit i := by cases v.testBit i <;> rfl
  unfold f_palanquinref6_Writer_Add_0
  simp (disch := first | omega | decide) only [↓RD, RC, RH, RO, RN, RL, RX, RS, eq_self, Int.reduceToNat, Int.reduceAdd, Int.reduceSub, Int.reduceMul, Nat.reduceAdd, Nat.reduceSub, Nat.reduceMul, Nat.reduceDiv, Nat.reduceMod, Nat.reduceBEq, Nat.reduceLeDiff, hw, shr1, hbe]
  refine okb_append (bytes := 1) (n := bits.length) (m := 1) (q := [V.bool (v.testBit i)]) (ho.to fun i hi => get_new_ne _ _ ?_) (acells_fresh rfl) rfl (by omega) (by omega) fun bv' H1 ho1 hs hf => ?_
  · have := hb i (by simp [hi]); omega
  have hw1 : H1.get w = some ⟨ty_palanquinref6_Writer, [bv], none⟩ := by
    rw [hs.same w (by rw [next_new]; omega) (by rw [mem_pid]; exact hne), get_new_ne _ _ (by omega), hw]
  have hn := hs.next
  rw [next_new] at hn
  have hne1 : bv'.pid ≠ some w := fun e => by
    have := hf (.inr (by decide)) w e
    rw [next_new] at this; omega
  simp (disch := first | omega | decide) only [↓RD, RC, RH, RO, RN, RL, RX, RS, eq_self, Int.reduceToNat, Int.reduceAdd, Int.reduceSub, Int.reduceMul, Nat.reduceAdd, Nat.reduceSub, Nat.reduceMul, Nat.reduceDiv, Nat.reduceMod, Nat.reduceBEq, Nat.reduceLeDiff, hw1, ho1.cells1, ho1.okc]
  refine k _ (w :: bv'.pid.toList) ⟨⟨bv', ?_, ?_, rfl, hne1⟩, ?_⟩ (((Step.new H _ _).trans (hs.cons w)).trans (Step.set _ (by simp)))
  · rw [get_set_self]
  · simp only [List.map_append, List.length_append]
    exact ho1.to fun j hj => get_set_ne _ _ fun e => hne1 (e ▸ hj)
  · refine Below.cons (by rw [next_set]; omega) fun j hj => ?_
    rw [next_set]
    exact hs.below (fun i hi => by rw [next_new]; have := hb i (List.mem_cons_of_mem _ hi); omega) j hj

theorem RAdd_ok {H : Heap} {w : Nat} {bits : List Bool} {F : List Nat} (h : RRep H w bits F) (v : Nat) (n : Int) (hv : v < 18446744073709551616) (hl : bits.length < 549755813888) (hn : -9223372036854775808 ≤ n ∧ n ≤ 9223372036854775807) :
    Ok (sem T fn_palanquinref6_Writer_Add [.ptr w 0, .int .u64 v, .int .i64 n]) H fun r H' => ∃ F', r = .int .i64 (addE v n) ∧ RRep H' w (addB bits v n) F' ∧ Step H H' F F' := by
  refine ok_palanquinref6_Writer_Add ?_
  unfold f_palanquinref6_Writer_Add addE addB
  have h64 : bl v ≤ 64 := (bl_le_iff v 64).2 hv
  simp (disch := first | omega | decide) only [↓RD, RC, RH, RO, RN, RL, RX, RS, eq_self, Int.reduceToNat, Int.reduceAdd, Int.reduceSub, Int.reduceMul, Nat.reduceAdd, Nat.reduceSub, Nat.reduceMul, Nat.reduceDiv, Nat.reduceMod, Nat.reduceBEq, Nat.reduceLeDiff]
  refine ok_gdp (fun h1 => ?_) fun h1 => ?_
  · simp (disch := first | omega | decide) only [↓RD, RC, RH, RO, RN, RL, RX, RS, eq_self, Int.reduceToNat, Int.reduceAdd, Int.reduceSub, Int.reduceMul, Nat.reduceAdd, Nat.reduceSub, Nat.reduceMul, Nat.reduceDiv, Nat.reduceMod, Nat.reduceBEq, Nat.reduceLeDiff]
    rw [if_pos (.inl h1), if_pos (.inl h1)]
    exact ⟨F, rfl, h, Step.refl _ _⟩
  · simp (disch := first | omega | decide) only [↓RD, RC, RH, RO, RN, RL, RX, RS, eq_self, Int.reduceToNat, Int.reduceAdd, Int.reduceSub, Int.reduceMul, Nat.reduceAdd, Nat.reduceSub, Nat.reduceMul, Nat.reduceDiv, Nat.reduceMod, Nat.reduceBEq, Nat.reduceLeDiff]
    refine ok_gdp (fun h2 => ?_) fun h2 => ?_
    · simp (disch := first | omega | decide) only [↓RD, RC, RH, RO, RN, RL, RX, RS, eq_self, Int.reduceToNat, Int.reduceAdd, Int.reduceSub, Int.reduceMul, Nat.reduceAdd, Nat.reduceSub, Nat.reduceMul, Nat.reduceDiv, Nat.reduceMod, Nat.reduceBEq, Nat.reduceLeDiff]
      rw [if_pos (.inr (.inl h2)), if_pos (.inr (.inl h2))]
      exact ⟨F, rfl, h, Step.refl _ _⟩
    · obtain ⟨m, rfl⟩ := Int.eq_ofNat_of_zero_le (show 0 ≤ n by omega)
      have hsh := shr_le v m
      -- the loop
      have rest : ¬ m < bl v → Ok (M.blk 0 (M.iter (f_palanquinref6_Writer_Add_0 (sem T) (.ptr w 0) (.int .u64 v) (.int .i64 0)) [.int .i64 ((m : Int) - 1)]) fun _ => M.pure (.ret [.int .i64 0])) H fun r H' => ∃ L, r = .ret L ∧ ∃ F', tupled L = .int .i64 0 ∧ RRep H' w (bits ++ nb v m) F' ∧ Step H H' F F' := by
        intro h3
        simp (disch := first | omega | decide) only [↓RD, RC, RH, RO, RN, RL, RX, RS, eq_self, Int.reduceToNat, Int.reduceAdd, Int.reduceSub, Int.reduceMul, Nat.reduceAdd, Nat.reduceSub, Nat.reduceMul, Nat.reduceDiv, Nat.reduceMod, Nat.reduceBEq, Nat.reduceLeDiff]
        refine ok_loop (fun j L H' => ∃ F', L = [.int .i64 ((m : Int) - 1 - j)] ∧ RRep H' w (bits ++ (nb v m).take j) F' ∧ Step H H' F F') m ⟨F, by simp, by simpa using h, Step.refl _ _⟩ ?_ ?_
        · rintro j L H1 hj ⟨F1, rfl, h1, s1⟩
          have e : (m : Int) - 1 - j = ((m - 1 - j : Nat) : Int) := by omega
          rw [e]
          refine RAdd_loop h1 v _ hv (by omega) (by simp only [List.length_append, List.length_take, nb_length]; omega) _ fun H2 F2 h2 s2 => ?_
          refine ⟨F2, by congr 2; omega, ?_, s1.trans s2⟩
          rw [nb_take v m j hj, ← List.append_assoc]; exact h2
        · rintro L H1 ⟨F1, rfl, h1, s1⟩
          unfold f_palanquinref6_Writer_Add_0
          simp (disch := first | omega | decide) only [↓RD, RC, RH, RO, RN, RL, RX, RS, eq_self, Int.reduceToNat, Int.reduceAdd, Int.reduceSub, Int.reduceMul, Nat.reduceAdd, Nat.reduceSub, Nat.reduceMul, Nat.reduceDiv, Nat.reduceMod, Nat.reduceBEq, Nat.reduceLeDiff]
          rw [List.take_of_length_le (by rw [nb_length]; omega)] at h1
          exact ⟨F1, h1, s1⟩
      simp (disch := first | omega | decide) only [↓RD, RC, RH, RO, RN, RL, RX, RS, eq_self, Int.reduceToNat, Int.reduceAdd, Int.reduceSub, Int.reduceMul, Nat.reduceAdd, Nat.reduceSub, Nat.reduceMul, Nat.reduceDiv, Nat.reduceMod, Nat.reduceBEq, Nat.reduceLeDiff]
      refine ok_gdp (fun h3 => ?_) fun h3 => ?_
      · simp (disch := first | omega | decide) only [↓RD, RC, RH, RO, RN, RL, RX, RS, eq_self, Int.reduceToNat, Int.reduceAdd, Int.reduceSub, Int.reduceMul, Nat.reduceAdd, Nat.reduceSub, Nat.reduceMul, Nat.reduceDiv, Nat.reduceMod, Nat.reduceBEq, Nat.reduceLeDiff]
        refine ok_itenb (fun h4 => ?_) fun h4 => ?_
        · have : ¬ bl v ≤ m := fun e => by have := (shr_bl v m).2 e; omega
          simp (disch := first | omega | decide) only [↓RD, RC, RH, RO, RN, RL, RX, RS, eq_self, Int.reduceToNat, Int.reduceAdd, Int.reduceSub, Int.reduceMul, Nat.reduceAdd, Nat.reduceSub, Nat.reduceMul, Nat.reduceDiv, Nat.reduceMod, Nat.reduceBEq, Nat.reduceLeDiff]
          rw [if_pos (by omega), if_pos (by omega)]
          exact ⟨F, rfl, h, Step.refl _ _⟩
        · have := (shr_bl v m).1 (by omega)
          rw [if_neg (by omega), if_neg (by omega)]
          simp (disch := first | omega | decide) only [↓RD, RC, RH, RO, RN, RL, RX, RS, eq_self, Int.reduceToNat, Int.reduceAdd, Int.reduceSub, Int.reduceMul, Nat.reduceAdd, Nat.reduceSub, Nat.reduceMul, Nat.reduceDiv, Nat.reduceMod, Nat.reduceBEq, Nat.reduceLeDiff]
          simpa only [↓RD, RC] using rest (by omega)
      · rw [if_neg (by omega), if_neg (by omega)]
        simp (disch := first | omega | decide) only [↓RD, RC, RH, RO, RN, RL, RX, RS, eq_self, Int.reduceToNat, Int.reduceAdd, Int.reduceSub, Int.reduceMul, Nat.reduceAdd, Nat.reduceSub, Nat.reduceMul, Nat.reduceDiv, Nat.reduceMod, Nat.reduceBEq, Nat.reduceLeDiff]
        simpa only [↓RD, RC] using rest (by omega)

theorem RBytes_ok {H : Heap} {w : Nat} {bits : List Bool} {F : List Nat} (h : RRep H w bits F) (hl : bits.length < 549755813888) :
    Ok (sem T fn_palanquinref6_Writer_Bytes [.ptr w 0]) H fun r H' => ∃ l, Pk bits.length l bits ∧ rcells 1 H' r = some (l.map by8, l.length) ∧ (∃ id, r.pid = some id ∧ H.next ≤ id ∧ id < H'.next) ∧ Step H H' [] r.pid.toList := by
  have hR := h
  obtain ⟨⟨bv, hw, ho, rfl, hne⟩, hb⟩ := h
  have hw0 : w < H.next := hb w (by simp)
  refine ok_palanquinref6_Writer_Bytes ?_
  unfold f_palanquinref6_Writer_Bytes
  simp (disch := first | omega | decide) only [↓RD, RC, RH, RO, RN, RL, RX, RS, eq_self, Int.reduceToNat, Int.reduceAdd, Int.reduceSub, Int.reduceMul, Nat.reduceAdd, Nat.reduceSub, Nat.reduceMul, Nat.reduceDiv, Nat.reduceMod, Nat.reduceBEq, Nat.reduceLeDiff, hw, ho.vlen]
  have e : (((bits.length : Int) + 7) / 8).toNat = (bits.length + 7) / 8 := by omega
  refine ⟨⟨by omega, by omega, by omega, by omega⟩, ?_⟩
  rw [e, zeros1]
  generalize hH1 : H.new _ = H1
  have hn1 : H1.next = H.next + 1 := by rw [← hH1, next_new]
  have hg1 : H1.get H.next = some ⟨ty_uint8, List.replicate ((bits.length + 7) / 8) (.int .u8 0), none⟩ := by rw [← hH1, get_new_self]
  have hs1 : Step H H1 [] [H.next] := by rw [← hH1]; exact Step.newo H _ []
  have hbv : ∀ i, bv.pid = some i → i < H.next := fun i hi => hb i (by simp [hi])
  refine ok_loop (fun k L H' => L = [.int .i64 (k : Nat)] ∧ ∃ l, H'.get H.next = some ⟨ty_uint8, l.map by8, none⟩ ∧ Pk bits.length l (bits.take k) ∧ Step H1 H' [H.next] [H.next]) bits.length ⟨rfl, List.replicate ((bits.length + 7) / 8) 0, by rw [hg1, List.map_replicate]; rfl, by rw [List.take_zero]; exact Pk.zeros _, Step.refl _ _⟩ ?_ ?_
  · rintro k L H2 hk ⟨rfl, l, hg2, hp2, hs2⟩
    have hpl := hp2.len
    have hw2 : H2.get w = some ⟨ty_palanquinref6_Writer, [bv], none⟩ := by rw [hs2.same w (by omega) (by simp; omega), hs1.same w hw0 (by simp), hw]
    have ho2 : Opn ty_bool 1 H2 bv (bits.map V.bool) bits.length := ho.to fun i hi => by
      have := hbv i hi
      rw [hs2.same i (by omega) (by simp; omega), hs1.same i this (by simp)]
    unfold f_palanquinref6_Writer_Bytes_0
    obtain ⟨id, rfl, hg, hia⟩ := ho2.at (k := .i64) (i := (k : Nat)) (by omega) (by omega)
    have hat : bits.take (k + 1) = bits.take k ++ [bits[k]] := by rw [List.take_add_one, List.getElem?_eq_getElem hk]; rfl
    have hk' : (bits.take k).length = k := by rw [List.length_take]; omega
    have hlt : k / 8 < l.length := by omega
    have hx : l[k / 8] < 256 := hp2.lt _ hlt
    have hs8 := shr_le 128 (k % 8)
    have e8 : ((k : Int) / 8).toNat = k / 8 := by omega
    have e9 : ((k : Int) % 8).toNat = k % 8 := by omega
    simp (disch := first | omega | decide) only [↓RD, RC, RH, RO, RN, RL, RX, RS, eq_self, Int.reduceToNat, Int.reduceAdd, Int.reduceSub, Int.reduceMul, Nat.reduceAdd, Nat.reduceSub, Nat.reduceMul, Nat.reduceDiv, Nat.reduceMod, Nat.reduceBEq, Nat.reduceLeDiff, hw2, hia, hg, List.getElem?_map, List.getElem?_eq_getElem hk, e8, e9, hg2, List.getElem?_eq_getElem hlt, by8]
    refine ok_ite (fun hbt => ?_) fun hbt => ?_
    · simp (disch := first | omega | decide) only [↓RD, RC, RH, RO, RN, RL, RX, RS, eq_self, Int.reduceToNat, Int.reduceAdd, Int.reduceSub, Int.reduceMul, Nat.reduceAdd, Nat.reduceSub, Nat.reduceMul, Nat.reduceDiv, Nat.reduceMod, Nat.reduceBEq, Nat.reduceLeDiff, hw2, hia, hg, List.getElem?_map, List.getElem?_eq_getElem hk, e8, e9, hg2, List.getElem?_eq_getElem hlt, by8]
      have hon := hp2.on (by omega) (by rw [hk']; exact hlt)
      simp only [hk'] at hon
      refine ⟨by rw [List.length_map]; omega, rfl, l.set (k / 8) (l[k / 8] ||| shr 128 (k % 8)), ?_, ?_, hs2.trans (Step.set _ (by simp))⟩
      · try rw [get_set_self]
        rw [sp_set _ _ _ (by rw [List.length_map]; omega), List.map_set]; rfl
      · rw [hat, hbt]; exact hon
    · simp (disch := first | omega | decide) only [↓RD, RC, RH, RO, RN, RL, RX, RS, eq_self, Int.reduceToNat, Int.reduceAdd, Int.reduceSub, Int.reduceMul, Nat.reduceAdd, Nat.reduceSub, Nat.reduceMul, Nat.reduceDiv, Nat.reduceMod, Nat.reduceBEq, Nat.reduceLeDiff]
      refine ⟨rfl, l, hg2, ?_, hs2⟩
      rw [hat, hbt]; exact hp2.off
  · rintro L H2 ⟨rfl, l, hg2, hp2, hs2⟩
    have hpl := hp2.len
    have hw2 : H2.get w = some ⟨ty_palanquinref6_Writer, [bv], none⟩ := by rw [hs2.same w (by omega) (by simp; omega), hs1.same w hw0 (by simp), hw]
    have ho2 : Opn ty_bool 1 H2 bv (bits.map V.bool) bits.length := ho.to fun i hi => by
      have := hbv i hi
      rw [hs2.same i (by omega) (by simp; omega), hs1.same i this (by simp)]
    unfold f_palanquinref6_Writer_Bytes_0
    simp (disch := first | omega | decide) only [↓RD, RC, RH, RO, RN, RL, RX, RS, eq_self, Int.reduceToNat, Int.reduceAdd, Int.reduceSub, Int.reduceMul, Nat.reduceAdd, Nat.reduceSub, Nat.reduceMul, Nat.reduceDiv, Nat.reduceMod, Nat.reduceBEq, Nat.reduceLeDiff, hw2, ho2.vlen]
    rw [List.take_length] at hp2
    refine ⟨l, hp2, ?_, ⟨H.next, rfl, Nat.le_refl _, Nat.lt_of_lt_of_le (by omega) hs2.next⟩, hs1.trans hs2⟩
    simp only [rcells, hg2, Option.bind_some]
    rw [if_pos (by simp; omega), List.drop_zero, List.take_of_length_le (by simp; omega), hpl]

theorem width_eq (n : Nat) (h0 : 1 ≤ n) (h : n ≤ 4294967296) : sem T fn_palanquinref6_width [.int .u64 n] = M.pure (.tup [.int .i64 (bl n : Nat), .int .u64 ((2 ^ bl n - n : Nat) : Int)]) := by
  have h1 := lt_bl n
  have h33 : bl n ≤ 33 := (bl_le_iff n 33).2 (by omega)
  have h2 : 2 ^ bl n ≤ 2 ^ 33 := Nat.pow_le_pow_right (by decide) h33
  have e : shl 1 (bl n) % 18446744073709551616 = 2 ^ bl n := by
    rw [shl_def, Nat.one_shiftLeft]; exact Nat.mod_eq_of_lt (by omega)
  refine pure_of_ok fun H => ?_
  refine ok_palanquinref6_width ?_
  unfold f_palanquinref6_width
  simp (disch := first | omega | decide) only [↓RD, RC, RH, RO, RN, RL, RX, RS, eq_self, Int.reduceToNat, Int.reduceAdd, Int.reduceSub, Int.reduceMul, Nat.reduceAdd, Nat.reduceSub, Nat.reduceMul, Nat.reduceDiv, Nat.reduceMod, Nat.reduceBEq, Nat.reduceLeDiff]
  refine ok_while (fun L H' m => ∃ x k : Nat, L = [.int .i64 (k : Nat), .int .u64 (x : Nat)] ∧ m = x ∧ x ≤ n ∧ bl n = bl x + k ∧ H' = H) n ⟨n, 0, rfl, rfl, Nat.le_refl _, rfl, rfl⟩ ?_
  rintro L H' m ⟨x, k, rfl, rfl, hx, hb, rfl⟩
  unfold f_palanquinref6_width_0
  simp (disch := first | omega | decide) only [↓RD, RC, RH, RO, RN, RL, RX, RS, eq_self, Int.reduceToNat, Int.reduceAdd, Int.reduceSub, Int.reduceMul, Nat.reduceAdd, Nat.reduceSub, Nat.reduceMul, Nat.reduceDiv, Nat.reduceMod, Nat.reduceBEq, Nat.reduceLeDiff]
  refine ok_itep (fun h3 => ?_) fun h3 => ?_
  · have hd := bl_div m (by omega)
    simp (disch := first | omega | decide) only [↓RD, RC, RH, RO, RN, RL, RX, RS, eq_self, Int.reduceToNat, Int.reduceAdd, Int.reduceSub, Int.reduceMul, Nat.reduceAdd, Nat.reduceSub, Nat.reduceMul, Nat.reduceDiv, Nat.reduceMod, Nat.reduceBEq, Nat.reduceLeDiff]
    exact ⟨m / 2, by omega, m / 2, k + 1, rfl, rfl, by omega, by omega⟩
  · have : m = 0 := by omega
    subst this
    have hk : bl n = k := by simpa [bl] using hb
    subst hk
    simp (disch := first | omega | decide) only [↓RD, RC, RH, RO, RN, RL, RX, RS, eq_self, Int.reduceToNat, Int.reduceAdd, Int.reduceSub, Int.reduceMul, Nat.reduceAdd, Nat.reduceSub, Nat.reduceMul, Nat.reduceDiv, Nat.reduceMod, Nat.reduceBEq, Nat.reduceLeDiff, e, Int.toNat_one]
    rw [Int.ofNat_sub (by omega)]

theorem RAddNS_ok {H : Heap} {w : Nat} {bits : List Bool} {F : List Nat} (h : RRep H w bits F) (v n : Nat) (hv : v < 18446744073709551616) (hn : n < 18446744073709551616) (hl : bits.length < 549755813888) :
    Ok (sem T fn_palanquinref6_Writer_AddNS [.ptr w 0, .int .u64 v, .int .u64 n]) H fun r H' => ∃ F', r = .int .i64 (addNSE v n) ∧ RRep H' w (addNSB bits v n) F' ∧ Step H H' F F' := by
  refine ok_palanquinref6_Writer_AddNS ?_
  unfold f_palanquinref6_Writer_AddNS addNSE addNSB
  simp (disch := first | omega | decide) only [↓RD, RC, RH, RO, RN, RL, RX, RS, eq_self, Int.reduceToNat, Int.reduceAdd, Int.reduceSub, Int.reduceMul, Nat.reduceAdd, Nat.reduceSub, Nat.reduceMul, Nat.reduceDiv, Nat.reduceMod, Nat.reduceBEq, Nat.reduceLeDiff]
  refine ok_gdp (fun h1 => ?_) fun h1 => ?_
  · simp (disch := first | omega | decide) only [↓RD, RC, RH, RO, RN, RL, RX, RS, eq_self, Int.reduceToNat, Int.reduceAdd, Int.reduceSub, Int.reduceMul, Nat.reduceAdd, Nat.reduceSub, Nat.reduceMul, Nat.reduceDiv, Nat.reduceMod, Nat.reduceBEq, Nat.reduceLeDiff]
    rw [if_pos (by omega), if_pos (by omega)]
    exact ⟨F, rfl, h, Step.refl _ _⟩
  · simp (disch := first | omega | decide) only [↓RD, RC, RH, RO, RN, RL, RX, RS, eq_self, Int.reduceToNat, Int.reduceAdd, Int.reduceSub, Int.reduceMul, Nat.reduceAdd, Nat.reduceSub, Nat.reduceMul, Nat.reduceDiv, Nat.reduceMod, Nat.reduceBEq, Nat.reduceLeDiff]
    refine ok_gdp (fun h2 => ?_) fun h2 => ?_
    · simp (disch := first | omega | decide) only [↓RD, RC, RH, RO, RN, RL, RX, RS, eq_self, Int.reduceToNat, Int.reduceAdd, Int.reduceSub, Int.reduceMul, Nat.reduceAdd, Nat.reduceSub, Nat.reduceMul, Nat.reduceDiv, Nat.reduceMod, Nat.reduceBEq, Nat.reduceLeDiff]
      rw [if_pos (by omega), if_pos (by omega)]
      exact ⟨F, rfl, h, Step.refl _ _⟩
    · simp (disch := first | omega | decide) only [↓RD, RC, RH, RO, RN, RL, RX, RS, eq_self, Int.reduceToNat, Int.reduceAdd, Int.reduceSub, Int.reduceMul, Nat.reduceAdd, Nat.reduceSub, Nat.reduceMul, Nat.reduceDiv, Nat.reduceMod, Nat.reduceBEq, Nat.reduceLeDiff]
      refine ok_itep (fun h3 => ?_) fun h3 => ?_
      · simp (disch := first | omega | decide) only [↓RD, RC, RH, RO, RN, RL, RX, RS, eq_self, Int.reduceToNat, Int.reduceAdd, Int.reduceSub, Int.reduceMul, Nat.reduceAdd, Nat.reduceSub, Nat.reduceMul, Nat.reduceDiv, Nat.reduceMod, Nat.reduceBEq, Nat.reduceLeDiff]
        rw [if_pos (by omega), if_pos (by omega)]
        exact ⟨F, rfl, h, Step.refl _ _⟩
      · rw [if_neg (by omega), if_neg (by omega)]
        obtain ⟨a1, a2, a3, a4, a5, a6, a7⟩ := addNS_lt (v := v) (n := n) (by omega) (by omega) (by omega)
        simp (disch := first | omega | decide) only [↓RD, RC, RH, RO, RN, RL, RX, RS, eq_self, Int.reduceToNat, Int.reduceAdd, Int.reduceSub, Int.reduceMul, Nat.reduceAdd, Nat.reduceSub, Nat.reduceMul, Nat.reduceDiv, Nat.reduceMod, Nat.reduceBEq, Nat.reduceLeDiff, width_eq]
        refine ok_itep (fun h4 => ?_) fun h4 => ?_
        · have a6' := a6 (by omega)
          simp (disch := first | omega | decide) only [↓RD, RC, RH, RO, RN, RL, RX, RS, eq_self, Int.reduceToNat, Int.reduceAdd, Int.reduceSub, Int.reduceMul, Nat.reduceAdd, Nat.reduceSub, Nat.reduceMul, Nat.reduceDiv, Nat.reduceMod, Nat.reduceBEq, Nat.reduceLeDiff]
          rw [if_pos (by omega)]
          have e : (bl n : Int) - 1 = ((bl n - 1 : Nat) : Int) := by omega
          rw [e]
          refine ok_bind' (RAdd_ok h v _ hv hl ⟨by omega, by omega⟩) ?_
          rintro r H1 ⟨F1, rfl, hw1, hs1⟩
          simp only [addE, addB] at hw1 ⊢
          rw [if_neg (by omega)] at hw1
          rw [if_neg (by omega)]
          simp (disch := first | omega | decide) only [↓RD, RC, RH, RO, RN, RL, RX, RS, eq_self, Int.reduceToNat, Int.reduceAdd, Int.reduceSub, Int.reduceMul, Nat.reduceAdd, Nat.reduceSub, Nat.reduceMul, Nat.reduceDiv, Nat.reduceMod, Nat.reduceBEq, Nat.reduceLeDiff]
          exact ⟨F1, hw1, hs1⟩
        · have a7' := a7 (by omega)
          simp (disch := first | omega | decide) only [↓RD, RC, RH, RO, RN, RL, RX, RS, eq_self, Int.reduceToNat, Int.reduceAdd, Int.reduceSub, Int.reduceMul, Nat.reduceAdd, Nat.reduceSub, Nat.reduceMul, Nat.reduceDiv, Nat.reduceMod, Nat.reduceBEq, Nat.reduceLeDiff]
          rw [if_neg (by omega)]
          have e : (v : Int) + ((2 ^ bl n - n : Nat) : Int) = ((v + (2 ^ bl n - n) : Nat) : Int) := by omega
          rw [e]
          refine ok_bind' (RAdd_ok h _ _ (by omega) hl ⟨by omega, by omega⟩) ?_
          rintro r H1 ⟨F1, rfl, hw1, hs1⟩
          simp only [addE, addB] at hw1 ⊢
          rw [if_neg (by omega)] at hw1
          rw [if_neg (by omega)]
          simp (disch := first | omega | decide) only [↓RD, RC, RH, RO, RN, RL, RX, RS, eq_self, Int.reduceToNat, Int.reduceAdd, Int.reduceSub, Int.reduceMul, Nat.reduceAdd, Nat.reduceSub, Nat.reduceMul, Nat.reduceDiv, Nat.reduceMod, Nat.reduceBEq, Nat.reduceLeDiff]
          exact ⟨F1, hw1, hs1⟩

end Go.Ax.B6
/- DepW1 -/
set_option maxRecDepth 100000
set_option linter.unusedVariables false
set_option linter.unusedSimpArgs false
namespace Go.Ax.D9
open Go.Ax B6
/-- A writer: what it is hangs on its own blocks alone. -/
structure Kp (R : Heap → List Bool → List Nat → Prop) : Prop where
  to : ∀ {H H' : Heap} {bits : List Bool} {F : List Nat}, R H bits F → (∀ i ∈ F, H'.get i = H.get i) → H.next ≤ H'.next → R H' bits F
  low : ∀ {H : Heap} {bits : List Bool} {F : List Nat}, R H bits F → Below F H

abbrev WR (w : Nat) (H : Heap) (bits : List Bool) (F : List Nat) : Prop := WRep H w bits F
abbrev DR (w : Nat) (H : Heap) (bits : List Bool) (F : List Nat) : Prop := RRep H w bits F
theorem kpW (w : Nat) : Kp (WR w) := ⟨fun h => h.to, fun h => h.low⟩
theorem kpD (w : Nat) : Kp (DR w) := ⟨fun h => h.to, fun h => h.low⟩

/-- A writer that was made behind B; boxes ks beside it. -/
structure Wk (R : Heap → List Bool → List Nat → Prop) (B : Heap) (ks : List (Nat × Blk)) (H : Heap) (bits : List Bool) : Prop where
  kp : Kp R
  ex : ∃ F, R H bits F ∧ (∀ i ∈ F, B.next ≤ i) ∧ ∀ k ∈ ks, k.1 ∉ F
  gr : Grow B H
  kk : ∀ k ∈ ks, k.1 < H.next ∧ H.get k.1 = some k.2

section
variable {R : Heap → List Bool → List Nat → Prop} {B H H' : Heap} {ks : List (Nat × Blk)} {bits bits' : List Bool}
theorem Wk.step {x : M V} {P : V → Prop} (h : Wk R B ks H bits) (hop : ∀ F, R H bits F → Ok x H fun r H' => ∃ F', P r ∧ R H' bits' F' ∧ Step H H' F F') : Ok x H fun r H' => P r ∧ Wk R B ks H' bits' := by
  obtain ⟨hR, ⟨F, hF, hlo, hks⟩, gr, kk⟩ := h
  refine ok_mono (hop F hF) ?_
  rintro r H' ⟨F', hp, hF', s⟩
  have gn := gr.next
  refine ⟨hp, hR, ⟨F', hF', fun i hi => ?_, fun k hk => s.ne (kk k hk).1 (hks k hk)⟩, ⟨Nat.le_trans gr.next s.next, fun i hi => ?_⟩, fun k hk => ⟨Nat.lt_of_lt_of_le (kk k hk).1 s.next, ?_⟩⟩
  · rcases s.own i hi with h | h
    · exact hlo i h
    · omega
  · rw [s.same i (by omega) (fun h => by have := hlo i h; omega), gr.same i hi]
  · rw [s.same _ (kk k hk).1 (hks k hk)]; exact (kk k hk).2

theorem Wk.add (h : Wk R B ks H bits) (s : Grow H H') {id : Nat} {b : Blk} (h0 : H.next ≤ id) (h1 : id < H'.next) (hg : H'.get id = some b) : Wk R B ((id, b) :: ks) H' bits := by
  obtain ⟨hR, ⟨F, hF, hlo, hks⟩, gr, kk⟩ := h
  have hb := hR.low hF
  refine ⟨hR, ⟨F, hR.to hF (fun i hi => s.same i (hb i hi)) s.next, hlo, fun k hk => ?_⟩, gr.trans s, fun k hk => ?_⟩
  · rcases List.mem_cons.1 hk with rfl | hk
    · exact fun hi => by have := hb _ hi; omega
    · exact hks k hk
  · rcases List.mem_cons.1 hk with rfl | hk
    · exact ⟨h1, hg⟩
    · exact ⟨Nat.lt_of_lt_of_le (kk k hk).1 s.next, (s.same _ (kk k hk).1).trans (kk k hk).2⟩
theorem Wk.grow (h : Wk R B ks H bits) (s : Grow H H') : Wk R B ks H' bits := by
  obtain ⟨hR, ⟨F, hF, hlo, hks⟩, gr, kk⟩ := h
  have hb := hR.low hF
  exact ⟨hR, ⟨F, hR.to hF (fun i hi => s.same i (hb i hi)) s.next, hlo, hks⟩, gr.trans s, fun k hk => ⟨Nat.lt_of_lt_of_le (kk k hk).1 s.next, (s.same _ (kk k hk).1).trans (kk k hk).2⟩⟩
theorem Wk.new (h : Wk R B ks H bits) (b : Blk) : Wk R B ((H.next, b) :: ks) (H.new b) bits := h.add (Grow.new H b) (Nat.le_refl _) (by rw [next_new]; omega) (get_new_self _ _)
theorem Wk.drop {k : Nat × Blk} (h : Wk R B (k :: ks) H bits) : Wk R B ks H bits := by
  obtain ⟨hR, ⟨F, hF, hlo, hks⟩, gr, kk⟩ := h
  exact ⟨hR, ⟨F, hF, hlo, fun k hk => hks k (List.mem_cons_of_mem _ hk)⟩, gr, fun k hk => kk k (List.mem_cons_of_mem _ hk)⟩
theorem Wk.get {id : Nat} {b : Blk} (h : Wk R B ((id, b) :: ks) H bits) : H.get id = some b := (h.kk _ (List.mem_cons_self ..)).2
theorem Wk.lt {id : Nat} {b : Blk} (h : Wk R B ((id, b) :: ks) H bits) : id < H.next := (h.kk _ (List.mem_cons_self ..)).1
end
theorem addB_eq {bits : List Bool} {v n : Nat} (h : v < 2 ^ n) (hn : n ≤ 64) : addB bits v (n : Nat) = bits ++ nb v n := by
  unfold addB
  have := (bl_le_iff v n).2 h
  rw [if_neg (by omega)]; simp

theorem pow64 {v n : Nat} (h : v < 2 ^ n) (hn : n ≤ 63) : v < 9223372036854775808 := by
  have : 2 ^ n ≤ 2 ^ 63 := Nat.pow_le_pow_right (by decide) hn
  omega

/-- A number is written. -/
theorem num_ok {B H : Heap} {ks : List (Nat × Blk)} {w : Nat} {bits : List Bool} (h : Wk (WR w) B ks H bits) (v : Int) (n : Nat) (h0 : 0 ≤ v) (hv : v.toNat < 2 ^ n) (hn : n ≤ 63) (hl : bits.length < 549755813888) :
    Ok (sem T fn_depend_writer_num [.agg [.ptr w 0], .int .i64 v, .int .i64 (n : Nat)]) H fun r H' => Wk (WR w) B ks H' (bits ++ nb v.toNat n) := by
  have hv63 := pow64 hv hn
  obtain ⟨m, rfl⟩ := Int.eq_ofNat_of_zero_le h0
  rw [Int.toNat_natCast] at hv hv63 ⊢
  have em : m % 18446744073709551616 = m := Nat.mod_eq_of_lt (by omega)
  refine ok_depend_writer_num ?_
  unfold f_depend_writer_num
  simp (maxSteps := 1000000) (disch := first | omega | (simp only [RY] <;> omega) | decide) only [↓RD, RZ, eq_self, Int.reduceToNat, Int.reduceAdd, Int.reduceSub, Int.reduceMul, Nat.reduceAdd, Nat.reduceSub, Nat.reduceMul, Nat.reduceDiv, Nat.reduceMod, Nat.reduceBEq, Nat.reduceLeDiff, em]
  have h1 := h.new ⟨ty_depend_writer, [.ptr w 0], none⟩
  refine ok_bind' (h1.step (P := fun r => True) (bits' := bits ++ nb m n) fun F hF => ok_mono (Add_ok hF m (n : Nat) (by omega) hl (by omega)) ?_) ?_
  · rintro r H' ⟨F', -, h2, s⟩
    rw [addB_eq hv (by omega)] at h2
    exact ⟨F', trivial, h2, s⟩
  · rintro r H' ⟨-, h2⟩
    simp (maxSteps := 1000000) (disch := first | omega | (simp only [RY] <;> omega) | decide) only [↓RD, RZ, eq_self, Int.reduceToNat, Int.reduceAdd, Int.reduceSub, Int.reduceMul, Nat.reduceAdd, Nat.reduceSub, Nat.reduceMul, Nat.reduceDiv, Nat.reduceMod, Nat.reduceBEq, Nat.reduceLeDiff]
    exact h2.drop

theorem bit_ok {B H : Heap} {ks : List (Nat × Blk)} {w : Nat} {bits : List Bool} (h : Wk (WR w) B ks H bits) (b : Bool) (hl : bits.length < 549755813888) :
    Ok (sem T fn_depend_writer_bit [.agg [.ptr w 0], .bool b]) H fun r H' => Wk (WR w) B ks H' (bits ++ [b]) := by
  refine ok_depend_writer_bit ?_
  unfold f_depend_writer_bit
  have h1 := h.new ⟨ty_depend_writer, [.ptr w 0], none⟩
  cases b with
  | true =>
    simp (maxSteps := 1000000) (disch := first | omega | (simp only [RY] <;> omega) | decide) only [↓RD, RZ, eq_self, Int.reduceToNat, Int.reduceAdd, Int.reduceSub, Int.reduceMul, Nat.reduceAdd, Nat.reduceSub, Nat.reduceMul, Nat.reduceDiv, Nat.reduceMod, Nat.reduceBEq, Nat.reduceLeDiff]
    refine ok_bind' (num_ok h1 1 1 (by omega) (by decide) (by omega) hl) ?_
    rintro r H' h2
    simp (maxSteps := 1000000) (disch := first | omega | (simp only [RY] <;> omega) | decide) only [↓RD, RZ, eq_self, Int.reduceToNat, Int.reduceAdd, Int.reduceSub, Int.reduceMul, Nat.reduceAdd, Nat.reduceSub, Nat.reduceMul, Nat.reduceDiv, Nat.reduceMod, Nat.reduceBEq, Nat.reduceLeDiff]
    exact h2.drop
  | false =>
    simp (maxSteps := 1000000) (disch := first | omega | (simp only [RY] <;> omega) | decide) only [↓RD, RZ, eq_self, Int.reduceToNat, Int.reduceAdd, Int.reduceSub, Int.reduceMul, Nat.reduceAdd, Nat.reduceSub, Nat.reduceMul, Nat.reduceDiv, Nat.reduceMod, Nat.reduceBEq, Nat.reduceLeDiff]
    refine ok_bind' (num_ok h1 0 1 (by omega) (by decide) (by omega) hl) ?_
    rintro r H' h2
    simp (maxSteps := 1000000) (disch := first | omega | (simp only [RY] <;> omega) | decide) only [↓RD, RZ, eq_self, Int.reduceToNat, Int.reduceAdd, Int.reduceSub, Int.reduceMul, Nat.reduceAdd, Nat.reduceSub, Nat.reduceMul, Nat.reduceDiv, Nat.reduceMod, Nat.reduceBEq, Nat.reduceLeDiff]
    exact h2.drop

theorem wk_new {H : Heap} : Ok (sem T fn_bits_New []) H fun r H' => r = .ptr H.next 0 ∧ Wk (WR H.next) H [] H' [] := by
  refine ok_mono New_ok ?_
  rintro r H' ⟨h1, h2, s⟩
  refine ⟨h1, kpW _, ⟨[H.next], h2, fun i hi => ?_, fun k hk => by cases hk⟩, s.ext, fun k hk => by cases hk⟩
  simp only [List.mem_singleton] at hi
  omega

abbrev By (lo : Nat) (H : Heap) (v : V) (l : List Nat) : Prop := Lc 1 lo H v (l.map by8) l.length

theorem wk_bytes {B H : Heap} {ks : List (Nat × Blk)} {w : Nat} {bits : List Bool} (h : Wk (WR w) B ks H bits) (hl : bits.length < 549755813888) :
    Ok (sem T fn_bits_Writer_Bytes [.ptr w 0]) H fun r H' => (∃ l, Pk bits.length l bits ∧ By 0 H' r l) ∧ Grow H H' := by
  obtain ⟨hR, ⟨F, hF, hlo, hks⟩, gr, kk⟩ := h
  refine ok_mono (Bytes_ok hF hl) ?_
  rintro r H' ⟨l, hp, ho, s⟩
  refine ⟨⟨l, hp, ?_⟩, s.ext⟩
  refine ho.lc fun i hi => ⟨Nat.zero_le _, ?_⟩
  have := s.own i (by simp [hi])
  simp only [List.not_mem_nil, false_or] at this
  exact this.2

/-- The bits of a descriptor's head. -/
def headB (f : Fr) : List Bool := [f.st, f.en] ++ nb f.id.toNat 6 ++ nb f.num 16
theorem headB_len (f : Fr) : (headB f).length = 24 := by simp [headB, nb_length]

theorem good_id {f : Fr} {k : Sr} (h : good f k = true) : 0 ≤ f.id ∧ f.id ≤ 63 := by
  obtain ⟨t, h1, -⟩ := dec_iff.1 h
  unfold tmOf tmPl at h1
  split at h1
  · split at h1
    · assumption
    · cases h1
  · cases h1

theorem Bytes_short {H : Heap} {v w : V} {f : Fr} {k : Sr} (hf : FrR 0 H v f) (hk : SrR 0 H w k) (fo : FrO f) (ko : SrO k) (hg : good f k = true) (h1 : f.new = false) (h2 : f.has = false) (h3 : f.od = false) (h4 : f.of' = false) (h5 : f.oc = false) :
    Ok (sem T fn_depend_Bytes [v, w]) H fun r H' => (∃ x l, r = .tup [x, .int .i64 0] ∧ Pk (headB f).length l (headB f) ∧ By 0 H' x l) ∧ Grow H H' := by
  have hid := good_id hg
  have hnum := fo.num
  obtain ⟨a, b, c, d, e, g, rfl, hf⟩ := hf
  obtain ⟨p, q, r, rfl, hk⟩ := hk
  obtain ⟨ca, cb, cc, cd, ce, cg⟩ := fr_dti hf
  have kts := hk.ts.cel
  have kpr := hk.pro.cel
  have ksi := hk.siz.cel
  refine ok_depend_Bytes ?_
  unfold f_depend_Bytes
  unfold fcells scells
  simp (maxSteps := 1000000) (disch := first | omega | (simp only [RY] <;> omega) | decide) only [↓RD, RZ, eq_self, Int.reduceToNat, Int.reduceAdd, Int.reduceSub, Int.reduceMul, Nat.reduceAdd, Nat.reduceSub, Nat.reduceMul, Nat.reduceDiv, Nat.reduceMod, Nat.reduceBEq, Nat.reduceLeDiff, ca.1, ca.2, cb.1, cb.2, cc.1, cc.2, cd.1, cd.2, ce.1, ce.2, cg.1, cg.2, kts.1, kts.2, kpr.1, kpr.2, ksi.1, ksi.2]
  generalize hH1 : Heap.new (Heap.new H _) _ = H1
  have s1 : Grow H H1 := by rw [← hH1]; exact (Grow.new _ _).trans (Grow.new _ _)
  have n1 : H1.next = H.next + 2 := by rw [← hH1]; rfl
  have f1 : H1.get H.next = some ⟨ty_depend_Frame, fcells f a b c d e g, none⟩ := by rw [← hH1]; unfold fcells; simp (maxSteps := 1000000) (disch := first | omega | (simp only [RY] <;> omega) | decide) only [↓RD, RZ, eq_self, Int.reduceToNat, Int.reduceAdd, Int.reduceSub, Int.reduceMul, Nat.reduceAdd, Nat.reduceSub, Nat.reduceMul, Nat.reduceDiv, Nat.reduceMod, Nat.reduceBEq, Nat.reduceLeDiff]
  clear hH1
  unfold fcells at f1
  refine ok_bind' (Good_ok (hf.ext s1).val (hk.ext s1).val fo ko) ?_
  rintro _ H2 ⟨rfl, s2⟩
  have n2 := s2.next
  have f2 : H2.get H.next = _ := (s2.same _ (by omega)).trans f1
  rw [hg]
  simp (maxSteps := 1000000) (disch := first | omega | (simp only [RY] <;> omega) | decide) only [↓RD, RZ, eq_self, Int.reduceToNat, Int.reduceAdd, Int.reduceSub, Int.reduceMul, Nat.reduceAdd, Nat.reduceSub, Nat.reduceMul, Nat.reduceDiv, Nat.reduceMod, Nat.reduceBEq, Nat.reduceLeDiff]
  refine ok_bind' wk_new ?_
  rintro _ H3 ⟨rfl, k3⟩
  have s3 := k3.gr
  have n3 := s3.next
  have f3 : H3.get H.next = _ := (s3.same _ (by omega)).trans f2
  simp (maxSteps := 1000000) (disch := first | omega | (simp only [RY] <;> omega) | decide) only [↓RD, RZ, eq_self, Int.reduceToNat, Int.reduceAdd, Int.reduceSub, Int.reduceMul, Nat.reduceAdd, Nat.reduceSub, Nat.reduceMul, Nat.reduceDiv, Nat.reduceMod, Nat.reduceBEq, Nat.reduceLeDiff, f3]
  generalize hH4 : Heap.set _ _ _ = H4
  have s4 : Grow H3 H4 := by rw [← hH4]; exact (Grow.new _ _).set (by omega) _
  have n4 : H4.next = H3.next + 1 := by rw [← hH4]; rfl
  have g4 : H4.get H3.next = some ⟨ty_depend_writer, [.ptr H2.next 0], none⟩ := by rw [← hH4]; simp (maxSteps := 1000000) (disch := first | omega | (simp only [RY] <;> omega) | decide) only [↓RD, RZ, eq_self, Int.reduceToNat, Int.reduceAdd, Int.reduceSub, Int.reduceMul, Nat.reduceAdd, Nat.reduceSub, Nat.reduceMul, Nat.reduceDiv, Nat.reduceMod, Nat.reduceBEq, Nat.reduceLeDiff]
  clear hH4
  have k4 := k3.add s4 (Nat.le_refl _) (by omega) g4
  have em : f.num % 9223372036854775808 = f.num := by omega
  have get : ∀ {H' : Heap} {bits : List Bool}, Wk (WR H2.next) H2 [(H3.next, ⟨ty_depend_writer, [.ptr H2.next 0], none⟩)] H' bits → H'.get H.next = some ⟨ty_depend_Frame, [.bool f.st, .bool f.en, .int .i64 f.id, .int .u16 f.num, .bool f.new, .int .i64 f.s.off, .int .i64 f.s.tar, a, .int .i64 f.s.cha, b, c, .bool f.has, .int .u32 f.act, .bool f.od, .bool f.of', .bool f.oc, d, e, g], none⟩ := fun k => (k.gr.same _ (by omega)).trans f2
  refine ok_bind' (bit_ok k4 f.st (by simp)) ?_
  rintro _ H5 k5
  simp (maxSteps := 1000000) (disch := first | omega | (simp only [RY] <;> omega) | decide) only [↓RD, RZ, eq_self, Int.reduceToNat, Int.reduceAdd, Int.reduceSub, Int.reduceMul, Nat.reduceAdd, Nat.reduceSub, Nat.reduceMul, Nat.reduceDiv, Nat.reduceMod, Nat.reduceBEq, Nat.reduceLeDiff, get k5, k5.get]
  refine ok_bind' (bit_ok k5 f.en (by simp)) ?_
  rintro _ H6 k6
  simp (maxSteps := 1000000) (disch := first | omega | (simp only [RY] <;> omega) | decide) only [↓RD, RZ, eq_self, Int.reduceToNat, Int.reduceAdd, Int.reduceSub, Int.reduceMul, Nat.reduceAdd, Nat.reduceSub, Nat.reduceMul, Nat.reduceDiv, Nat.reduceMod, Nat.reduceBEq, Nat.reduceLeDiff, get k6, k6.get]
  refine ok_bind' (num_ok k6 f.id 6 (by omega) (by omega) (by omega) (by simp)) ?_
  rintro _ H7 k7
  simp (maxSteps := 1000000) (disch := first | omega | (simp only [RY] <;> omega) | decide) only [↓RD, RZ, eq_self, Int.reduceToNat, Int.reduceAdd, Int.reduceSub, Int.reduceMul, Nat.reduceAdd, Nat.reduceSub, Nat.reduceMul, Nat.reduceDiv, Nat.reduceMod, Nat.reduceBEq, Nat.reduceLeDiff, get k7, k7.get]
  refine ok_bind' (num_ok k7 (f.num : Nat) 16 (by omega) (by omega) (by omega) (by simp [nb_length])) ?_
  rintro _ H8 k8
  simp (maxSteps := 1000000) (disch := first | omega | (simp only [RY] <;> omega) | decide) only [↓RD, RZ, eq_self, Int.reduceToNat, Int.reduceAdd, Int.reduceSub, Int.reduceMul, Nat.reduceAdd, Nat.reduceSub, Nat.reduceMul, Nat.reduceDiv, Nat.reduceMod, Nat.reduceBEq, Nat.reduceLeDiff, get k8, k8.get, h1, h2, h3, h4, h5]
  refine ok_bind' (wk_bytes k8 (by simp [nb_length])) ?_
  rintro x H9 ⟨⟨l, hp, hb⟩, s9⟩
  simp (maxSteps := 1000000) (disch := first | omega | (simp only [RY] <;> omega) | decide) only [↓RD, RZ, eq_self, Int.reduceToNat, Int.reduceAdd, Int.reduceSub, Int.reduceMul, Nat.reduceAdd, Nat.reduceSub, Nat.reduceMul, Nat.reduceDiv, Nat.reduceMod, Nat.reduceBEq, Nat.reduceLeDiff]
  refine ⟨⟨x, l, rfl, ?_, hb⟩, ((s1.trans s2).trans k8.gr).trans s9⟩
  have e1 : [] ++ [f.st] ++ [f.en] ++ nb f.id.toNat 6 ++ nb ((f.num : Nat) : Int).toNat 16 = headB f := by
    unfold headB; rw [Int.toNat_natCast]; rfl
  rw [e1] at hp
  exact hp

end Go.Ax.D9
/- DepR1 -/
set_option maxRecDepth 100000
set_option linter.unusedVariables false
set_option linter.unusedSimpArgs false
namespace Go.Ax.D9
open Go.Ax B6
/-- What is left to be read, or the first error. -/
abbrev St : Type := Except Int (List Bool)
abbrev S (α : Type) : Type := St → α × St
def sb {α β : Type} (x : S α) (f : α → S β) : S β := fun σ => f (x σ).1 (x σ).2
def sp {α : Type} (a : α) : S α := fun σ => (a, σ)

def rd (n : Nat) : S Int := fun σ => match σ with
  | .error e => (0, .error e)
  | .ok bs => if bs.length < n then (0, .error 3) else ((val (bs.take n) : Nat), .ok (bs.drop n))
def fail (e : Int) : S Unit := fun σ => match σ with
  | .error x => ((), .error x)
  | .ok _ => ((), .error e)

/-- An error stays. -/
def Stb {α : Type} (x : S α) : Prop := ∀ e, (x (.error e)).2 = .error e
/-- Alike: the same errors, and the same where there is none. -/
def Sim {α : Type} (x y : S α) : Prop := ∀ σ, (x σ).2 = (y σ).2 ∧ ∀ bs, (x σ).2 = .ok bs → (x σ).1 = (y σ).1

theorem Sim.refl {α : Type} (x : S α) : Sim x x := fun σ => ⟨rfl, fun _ _ => rfl⟩
theorem Sim.bind {α β : Type} {x y : S α} {f g : α → S β} (h : Sim x y) (k : ∀ a, Sim (f a) (g a)) (hf : ∀ a, Stb (f a)) (hg : ∀ a, Stb (g a)) : Sim (sb x f) (sb y g) := by
  intro σ
  obtain ⟨h1, h2⟩ := h σ
  unfold sb
  rw [← h1]
  cases e : (x σ).2 with
  | ok bs =>
    rw [h2 bs e]
    exact k _ _
  | error c =>
    rw [hf, hg]
    exact ⟨rfl, fun bs h => by cases h⟩
def eachN (f : Tm → S Tm) (ts : List Tm) : Nat → S (List Tm)
  | 0 => sp []
  | k + 1 => sb (eachN f ts k) fun l => sb (f (ts.getD k Tm0)) fun t => sp (l ++ [t])
def each (f : Tm → S Tm) (ts : List Tm) : S (List Tm) := eachN f ts ts.length
def tbad (l : List Tm) (t : Tm) : Prop := 3 < t.sp ∨ 7 < t.te ∨ 64 ≤ l.length
instance (l : List Tm) (t : Tm) : Decidable (tbad l t) := by unfold tbad; infer_instance
def last (l : List Tm) : Tm := l.getD (l.length - 1) Tm0

/-- What the program and the document do in their own ways: layers, lists of templates. -/
structure Way where
  tm : S (List Tm)
  df : S (List Int)
  ea : (Tm → S Tm) → Tm → S Tm

end Go.Ax.D9
/- DepR2 -/
set_option maxRecDepth 100000
set_option linter.unusedVariables false
set_option linter.unusedSimpArgs false
namespace Go.Ax.D9
open Go.Ax B6
/-- The bits behind. -/
def zeros : S Unit := fun σ => match σ with
  | .error e => ((), .error e)
  | .ok bs => if bs.all (!·) then ((), .ok []) else ((), .error 2)

/-- Zero where there is an error. -/
def cut (x : Fr × St) : Fr × St := match x.2 with
  | .error e => (Fr0, .error e)
  | .ok bs => (x.1, .ok bs)

end Go.Ax.D9
/- DepR3 -/
set_option maxRecDepth 100000
set_option linter.unusedVariables false
set_option linter.unusedSimpArgs false
namespace Go.Ax.D9
open Go.Ax B6
/-! Layers. -/
structure TmL (l : List Tm) : Prop where
  len : 1 ≤ l.length ∧ l.length ≤ 64
  lay : ∀ i, i < l.length → LayAt l i
  emp : ∀ t ∈ l, t.dti = [] ∧ t.dif = [] ∧ t.cha = []

theorem TmL.one : TmL [Tm0] := by
  refine ⟨by simp, fun i hi => ?_, fun t ht => ?_⟩
  · have : i = 0 := by simpa using hi
    subst this
    exact ⟨rfl, rfl⟩
  · simp only [List.mem_singleton] at ht
    subst ht
    exact ⟨rfl, rfl, rfl⟩

theorem top_max {ts : List Tm} (h : ∀ t ∈ ts, 0 ≤ t.sp ∧ t.sp ≤ 3) : 0 ≤ top ts ∧ top ts ≤ 3 := by
  have : ∀ (l : List Tm) (x : Int), 0 ≤ x → x ≤ 3 → (∀ t ∈ l, 0 ≤ t.sp ∧ t.sp ≤ 3) → 0 ≤ l.foldl (fun n t => max n t.sp) x ∧ l.foldl (fun n t => max n t.sp) x ≤ 3 := by
    intro l
    induction l with
    | nil => intro x h1 h2 _; exact ⟨h1, h2⟩
    | cons t l ih =>
      intro x h1 h2 h3
      have := h3 t (List.mem_cons_self ..)
      exact ih _ (show 0 ≤ max x t.sp by omega) (show max x t.sp ≤ 3 by omega) fun u hu => h3 u (List.mem_cons_of_mem _ hu)
  exact this ts 0 (by decide) (by decide) h

/-- The templates' lists. -/
structure TmB (ts0 : List Tm) (tar c : Nat) (i : Nat) (t : Tm) : Prop where
  sp : t.sp = (ts0.getD i Tm0).sp
  te : t.te = (ts0.getD i Tm0).te
  dti : wi t.dti tar 0 3 = true
  dif : di t.dif 8 16 = true
  cha : wi t.cha c 0 15 = true

end Go.Ax.D9
/- FnD4 -/
set_option maxRecDepth 100000
set_option linter.unusedVariables false
namespace Go.Ax
open Go.Proofs
end Go.Ax
/- FnD5 -/
set_option maxRecDepth 100000
set_option linter.unusedVariables false
namespace Go.Ax
open Go.Proofs
end Go.Ax
/- Wb6 -/
set_option maxRecDepth 100000
set_option linter.unusedVariables false
set_option linter.unusedSimpArgs false
namespace Go.Ax.B6
open Go.Ax
/-- All bits of bytes, the highest of each first. -/
def ub (l : List Nat) : List Bool := (List.range (8 * l.length)).map fun k => (l.getD (k / 8) 0).testBit (7 - k % 8)

/-- The program's reader: its blocks lie from m.1 on, below m.2. -/
structure PRd (H : Heap) (m : Nat × Nat) (r : Nat) (l : List Nat) (at' : Nat) : Prop where
  mk' ::
  ex : ∃ bv, H.get r = some ⟨ty_bits_Reader, [bv, .int .i64 (at' : Nat)], none⟩ ∧ Opn ty_uint8 1 H bv (l.map by8) l.length ∧ bv.pid ≠ some r ∧ ∀ i, bv.pid = some i → m.1 ≤ i ∧ i < m.2
  low : m.1 ≤ r ∧ r < m.2
  lt : ∀ i (h : i < l.length), l[i] < 256
  len : l.length ≤ 1099511627776
  le : at' ≤ 8 * l.length

theorem PRd.frame {H H' : Heap} {m : Nat × Nat} {r : Nat} {l : List Nat} {at' : Nat} (h : PRd H m r l at') (hs : ∀ i, m.1 ≤ i → i < m.2 → H'.get i = H.get i) : PRd H' m r l at' := by
  obtain ⟨⟨bv, h1, h2, h3, h4⟩, h5, h6, h7, h8⟩ := h
  exact ⟨⟨bv, by rw [hs r h5.1 h5.2, h1], h2.to fun i hi => hs i (h4 i hi).1 (h4 i hi).2, h3, h4⟩, h5, h6, h7, h8⟩

/-- What taking changes: the reader's own place alone. -/
def RStep (H H' : Heap) (r : Nat) : Prop := H'.next = H.next ∧ ∀ i, i ≠ r → H'.get i = H.get i

theorem RStep.refl (H : Heap) (r : Nat) : RStep H H r := ⟨rfl, fun _ _ => rfl⟩
theorem RStep.trans {H H1 H2 : Heap} {r : Nat} (h : RStep H H1 r) (k : RStep H1 H2 r) : RStep H H2 r := ⟨k.1.trans h.1, fun i hi => (k.2 i hi).trans (h.2 i hi)⟩
theorem RStep.set (H : Heap) (r : Nat) (b : Option Blk) : RStep H (H.set r b) r := ⟨rfl, fun i hi => get_set_ne _ _ hi⟩

/-- The document's reader: over bytes that it only reads. -/
structure RRd (H : Heap) (r : Nat) (l : List Nat) (at' : Nat) : Prop where
  mk' ::
  ex : ∃ bv, H.get r = some ⟨ty_palanquinref6_Reader, [bv, .int .i64 (at' : Nat)], none⟩ ∧ ((bv = .nils ∧ l = []) ∨ bv = .rs (l.map by8) l.length)
  low : r < H.next
  lt : ∀ i (h : i < l.length), l[i] < 256
  len : l.length ≤ 1099511627776
  le : at' ≤ 8 * l.length

theorem RRd.frame {H H' : Heap} {r : Nat} {l : List Nat} {at' : Nat} (h : RRd H r l at') (hs : H'.get r = H.get r) (hn : H.next ≤ H'.next) : RRd H' r l at' := by
  obtain ⟨⟨bv, h1, h2⟩, h5, h6, h7, h8⟩ := h
  exact ⟨⟨bv, by rw [hs, h1], h2⟩, Nat.lt_of_lt_of_le h5 hn, h6, h7, h8⟩

end Go.Ax.B6
/- DepR4 -/
set_option maxRecDepth 100000
set_option linter.unusedVariables false
set_option linter.unusedSimpArgs false
namespace Go.Ax
/-- Outside [a, m) nothing that was there is turned. -/
structure Ko (a m : Nat) (H H' : Heap) : Prop where
  next : H.next ≤ H'.next
  same : ∀ i, i < H.next → (i < a ∨ m ≤ i) → H'.get i = H.get i
theorem Ko.refl (a m : Nat) (H : Heap) : Ko a m H H := ⟨Nat.le_refl _, fun _ _ _ => rfl⟩
theorem Ko.trans {a m : Nat} {H H1 H2 : Heap} (h : Ko a m H H1) (k : Ko a m H1 H2) : Ko a m H H2 := ⟨Nat.le_trans h.next k.next, fun i hi ho => by rw [k.same i (Nat.lt_of_lt_of_le hi h.next) ho, h.same i hi ho]⟩
theorem Grow.ko {H H' : Heap} (h : Grow H H') (a m : Nat) : Ko a m H H' := ⟨h.next, fun i hi _ => h.same i hi⟩
theorem Ko.keep {a m lo : Nat} {H H' : Heap} (h : Ko a m H H') (hl : m ≤ lo) : Keep lo H H' := ⟨h.next, fun i hl' hi => h.same i hi (.inr (by omega))⟩
theorem Ko.grow {a m : Nat} {B H H' : Heap} (g : Grow B H) (hb : B.next ≤ a) (h : Ko a m H H') : Grow B H' := ⟨Nat.le_trans g.next h.next, fun i hi => by rw [h.same i (by have := g.next; omega) (.inl (by omega)), g.same i hi]⟩
theorem Step.ko {H H' : Heap} {F F' : List Nat} (h : Step H H' F F') {a m : Nat} {B : Heap} (k : Ko a m B H) (hF : ∀ i ∈ F, B.next ≤ i) : Ko a m B H' :=
  ⟨Nat.le_trans k.next h.next, fun i hi ho => by rw [h.same i (by have := k.next; omega) (fun hm => by have := hF i hm; omega), k.same i hi ho]⟩
theorem Ko.set {a m : Nat} {B H : Heap} (h : Ko a m B H) {w : Nat} (hw : B.next ≤ w) (b : Option Blk) : Ko a m B (H.set w b) := ⟨by rw [next_set]; exact h.next, fun i hi ho => by rw [get_set_ne _ _ (by omega), h.same i hi ho]⟩
theorem Ko.new {a m : Nat} {B H : Heap} (h : Ko a m B H) (b : Blk) : Ko a m B (H.new b) := h.trans ((Grow.new H b).ko a m)

/-- A slice that may be appended to, or that is full. -/
inductive Af (ty e lo : Nat) (H : Heap) : V → List V → Nat → Prop
  | opn {v : V} {cells : List V} {n : Nat} (h : Opn ty e H v cells n) (ho : ∀ id, v.pid = some id → lo ≤ id ∧ id < H.next) : Af ty e lo H v cells n
  | full {id n : Nat} {cells : List V} (h : H.get id = some ⟨ty, cells, none⟩) (hl : cells.length = n * e) (h0 : lo ≤ id) (h1 : id < H.next) : Af ty e lo H (.sl id 0 n (.fix n)) cells n

section
variable {ty e lo n : Nat} {H H' : Heap} {v : V} {cells : List V}
theorem Af.lc (h : Af ty e lo H v cells n) : Lc e lo H v cells n := by
  cases h with
  | opn h ho => exact h.lc ho
  | full h hl h0 h1 =>
    refine ⟨?_, fun id hi => by simp only [V.pid, Option.some.injEq] at hi; subst hi; exact ⟨h0, h1⟩, Nat.le_refl _⟩
    simp only [rcells, h, Option.bind_some]
    rw [if_pos (by simp [hl]), List.drop_zero, ← hl, List.take_length]
theorem Af.nil : Af ty e lo H .nils [] 0 := .opn .nil fun _ h => by cases h
theorem Af.keep (h : Af ty e lo H v cells n) (k : Keep lo H H') : Af ty e lo H' v cells n := by
  cases h with
  | opn h ho => exact .opn (h.to fun i hi => k.same i (ho i hi).1 (ho i hi).2) fun i hi => ⟨(ho i hi).1, Nat.lt_of_lt_of_le (ho i hi).2 k.next⟩
  | full h hl h0 h1 => exact .full (by rw [k.same _ h0 h1, h]) hl h0 (Nat.lt_of_lt_of_le h1 k.next)
theorem Af.to (h : Af ty e lo H v cells n) (hn : H.next ≤ H'.next) (hs : ∀ i, v.pid = some i → H'.get i = H.get i) : Af ty e lo H' v cells n := by
  cases h with
  | opn h ho => exact .opn (h.to hs) fun i hi => ⟨(ho i hi).1, Nat.lt_of_lt_of_le (ho i hi).2 hn⟩
  | full h hl h0 h1 => exact .full (by rw [hs _ rfl, h]) hl h0 (Nat.lt_of_lt_of_le h1 hn)
theorem Af.own (h : Af ty e lo H v cells n) : ∀ i ∈ v.pid.toList, lo ≤ i := fun i hi => (h.lc.own i (mem_pid.1 hi)).1
/-- Its block. -/
theorem Af.blk (h : Af ty e lo H v cells n) (hn : 0 < n) : ∃ id cap o, v = .sl id 0 n cap ∧ H.get id = some ⟨ty, cells, o⟩ ∧ lo ≤ id ∧ id < H.next ∧ cells.length = n * e ∧ V.capOk e v := by
  cases h with
  | opn h ho =>
    rcases h with ⟨rfl, _, rfl⟩ | ⟨id, rfl, hg, hl⟩
    · omega
    · exact ⟨id, _, _, rfl, hg, (ho id rfl).1, (ho id rfl).2, hl, rfl⟩
  | full h hl h0 h1 => exact ⟨_, _, _, rfl, h, h0, h1, hl, Nat.le_refl _⟩

end
end Go.Ax
namespace Go.Ax.D9
open Go.Ax B6
/-- A reader's error and what is left. -/
def Sg (e : Int) (l : List Nat) (at' : Nat) : St → Prop
  | .ok bs => e = 0 ∧ bs = (ub l).drop at'
  | .error c => e = c ∧ c ≠ 0 ∧ -9223372036854775808 ≤ c ∧ c ≤ 9223372036854775807

/-- The program's reader, its blocks from a on, below m. -/
structure PR (a m rb : Nat) (σ : St) (H : Heap) : Prop where
  ex : ∃ rk e at' l, H.get rb = some ⟨ty_depend_reader, [.ptr rk 0, .int .i64 e], none⟩ ∧ PRd H (a, rb) rk l at' ∧ Sg e l at' σ
  low : a ≤ rb ∧ rb < m ∧ m ≤ H.next

section
variable {a m rb : Nat} {σ : St} {H H' : Heap}
theorem PR.keep (h : PR a m rb σ H) (hs : ∀ i, a ≤ i → i < m → H'.get i = H.get i) (hn : H.next ≤ H'.next) : PR a m rb σ H' := by
  obtain ⟨⟨rk, e, at', l, h1, h3, h6⟩, h7, h8, h9⟩ := h
  exact ⟨⟨rk, e, at', l, (hs rb h7 h8).trans h1, h3.frame fun i h1 h2 => hs i h1 (Nat.lt_trans h2 h8), h6⟩, h7, h8, by omega⟩

theorem PR.ko {B : Heap} (h : PR a m rb σ H) (hs : ∀ i, i < m → H'.get i = H.get i) (hn : H.next ≤ H'.next) : PR a m rb σ H' := h.keep (fun i _ hi => hs i hi) hn
theorem PR.grow (h : PR a m rb σ H) (g : Grow H H') : PR a m rb σ H' := h.keep (fun i _ hi => g.same i (by have := h.low; omega)) g.next
theorem PR.set (h : PR a m rb σ H) {w : Nat} (hw : w < a ∨ m ≤ w) (b : Option Blk) : PR a m rb σ (H.set w b) := h.keep (fun i _ hi => get_set_ne _ _ (by omega)) (Nat.le_refl _)
theorem PR.step {F F' : List Nat} (h : PR a m rb σ H) (s : Step H H' F F') (hF : ∀ i ∈ F, m ≤ i) : PR a m rb σ H' := h.keep (fun i _ hi => s.same i (by have := h.low; omega) fun k => by have := hF i k; omega) s.next

/-- Is there an error? -/
def St.err : St → Int
  | .ok _ => 0
  | .error c => c
theorem PR.get (h : PR a m rb σ H) : ∃ rk, H.get rb = some ⟨ty_depend_reader, [.ptr rk 0, .int .i64 (St.err σ)], none⟩ := by
  obtain ⟨⟨rk, e, at', l, h1, h3, h6⟩, h7⟩ := h
  refine ⟨rk, ?_⟩
  cases σ with
  | ok bs => rw [h1, h6.1]; rfl
  | error c => rw [h1, h6.1]; rfl
theorem PR.rng (h : PR a m rb σ H) : -9223372036854775808 ≤ St.err σ ∧ St.err σ ≤ 9223372036854775807 ∧ (St.err σ = 0 ↔ ∃ bs, σ = .ok bs) := by
  obtain ⟨⟨rk, e, at', l, h1, h3, h6⟩, h7⟩ := h
  cases σ with
  | ok bs => exact ⟨(by decide : (-9223372036854775808 : Int) ≤ 0), (by decide : (0 : Int) ≤ 9223372036854775807), ⟨fun _ => ⟨bs, rfl⟩, fun _ => rfl⟩⟩
  | error c => exact ⟨h6.2.2.1, h6.2.2.2, ⟨fun h => absurd h h6.2.1, fun ⟨bs, h⟩ => by cases h⟩⟩

end
end Go.Ax.D9
/- DepW2 -/
set_option maxRecDepth 100000
set_option linter.unusedVariables false
set_option linter.unusedSimpArgs false
namespace Go.Ax.D9
open Go.Ax B6
/-! The bits. -/
def numsB (n : Nat) (l : List Int) : List Bool := l.flatMap fun x => nb x.toNat n
def nsB (v n : Nat) : List Bool := if v < 2 ^ bl n - n then nb v (bl n - 1) else nb (v + (2 ^ bl n - n)) (bl n)
def dfB (l : List Int) : List Bool := l.flatMap fun d => true :: nb (d - 1).toNat 4
def lyI (ts : List Tm) (i : Nat) : Int := if i + 1 < ts.length then ((nx (ts.getD i Tm0) (ts.getD (i + 1) Tm0)).getD 0 : Nat) else 3
def lysB (ts : List Tm) (k : Nat) : List Bool := (List.range k).flatMap fun i => nb (lyI ts i).toNat 2
def szB (l : List (Int × Int)) : List Bool := l.flatMap fun x => nb (x.1 - 1).toNat 16 ++ nb (x.2 - 1).toNat 16
def proB (n : Nat) (l : List Int) : List Bool := l.flatMap fun x => nsB x.toNat n
def strB (s : Sr) : List Bool :=
  nb s.off.toNat 6 ++ nb (s.tar - 1).toNat 5 ++ lysB s.ts s.ts.length ++ s.ts.flatMap (fun t => numsB 2 t.dti) ++ s.ts.flatMap (fun t => dfB t.dif ++ [false]) ++ nsB s.cha.toNat (s.tar + 1).toNat ++
    (if 0 < s.cha then proB s.cha.toNat s.pro ++ s.ts.flatMap (fun t => numsB 4 t.cha) else []) ++ [decide (0 < s.siz.length)] ++ szB s.siz
/-- How many times four bits a difference of a frame's own takes. -/
def wid (d : Int) : Nat := if d - 1 < 16 then 1 else if d - 1 < 256 then 2 else 3
def owB (l : List Int) : List Bool := (l.flatMap fun d => nb (wid d) 2 ++ nb (d - 1).toNat (4 * wid d)) ++ nb 0 2
def flagsB (f : Fr) : List Bool := [f.new, f.has, f.od, f.of', f.oc]
def frB (f : Fr) (k : Sr) : List Bool :=
  if f.new = false ∧ f.has = false ∧ f.od = false ∧ f.of' = false ∧ f.oc = false then headB f
  else headB f ++ flagsB f ++ (if f.new = true then strB f.s else []) ++ (if f.has = true then nb f.act (hold f k).tar.toNat else []) ++ (if f.od = true then numsB 2 f.dti else []) ++ (if f.of' = true then owB f.dif else []) ++ (if f.oc = true then numsB 8 f.cha else [])

theorem flat_snoc {α : Type} (f : α → List Bool) {l : List α} {k : Nat} (h : k < l.length) : (l.take (k + 1)).flatMap f = (l.take k).flatMap f ++ f l[k] := by
  rw [List.take_succ_eq_append_getElem h, List.flatMap_append]; simp
theorem flat_le {α : Type} (f : α → List Bool) {c : Nat} : ∀ (l : List α), (∀ x ∈ l, (f x).length ≤ c) → (l.flatMap f).length ≤ c * l.length
  | [], _ => by simp
  | x :: l, h => by
    rw [List.flatMap_cons, List.length_append, List.length_cons, Nat.mul_succ]
    have := flat_le f l fun y hy => h y (List.mem_cons_of_mem _ hy)
    have := h x (List.mem_cons_self ..)
    omega
theorem flat_take_le {α : Type} (f : α → List Bool) {c : Nat} {l : List α} (h : ∀ x ∈ l, (f x).length ≤ c) (k : Nat) : ((l.take k).flatMap f).length ≤ c * l.length :=
  Nat.le_trans (flat_le f _ fun x hx => h x (List.mem_of_mem_take hx)) (Nat.mul_le_mul_left _ (by rw [List.length_take]; omega))

theorem flat_take_k {α : Type} (f : α → List Bool) {c : Nat} {l : List α} (h : ∀ x ∈ l, (f x).length ≤ c) (k : Nat) : ((l.take k).flatMap f).length ≤ c * k :=
  Nat.le_trans (flat_le f _ fun x hx => h x (List.mem_of_mem_take hx)) (Nat.mul_le_mul_left _ (by rw [List.length_take]; omega))

theorem nsB_le {v n : Nat} (h1 : 1 ≤ n) (h : v < n) (hn : n ≤ 4294967296) : (nsB v n).length ≤ 33 := by
  obtain ⟨a1, a2, a3, a4, a5, -, -⟩ := addNS_lt h1 hn h
  unfold nsB
  split <;> (rw [nb_length]; omega)
theorem addNSB_eq {bits : List Bool} {v n : Nat} (h1 : 1 ≤ n) (h : v < n) (hn : n ≤ 4294967296) : addNSB bits v n = bits ++ nsB v n := by
  unfold addNSB nsB
  rw [if_neg (by omega)]
  split <;> rfl

section
variable {B H : Heap} {ks : List (Nat × Blk)} {w : Nat} {bits : List Bool}
theorem wns_ok (h : Wk (WR w) B ks H bits) (v n : Nat) (h1 : 1 ≤ n) (hv : v < n) (hn : n ≤ 4294967296) (hl : bits.length < 549755813888) :
    Ok (sem T fn_bits_Writer_AddNS [.ptr w 0, .int .u64 (v : Nat), .int .u64 (n : Nat)]) H fun r H' => Wk (WR w) B ks H' (bits ++ nsB v n) := by
  refine ok_mono (h.step (P := fun r => True) (bits' := bits ++ nsB v n) fun F hF => ok_mono (AddNS_ok hF v n (by omega) (by omega) hl) ?_) fun r H' h => h.2
  rintro r H' ⟨F', -, h2, s⟩
  rw [addNSB_eq h1 hv hn] at h2
  exact ⟨F', trivial, h2, s⟩

theorem wnums_ok {lo : Nat} {v : V} {l : List Int} {n : Nat} (h : Wk (WR w) B ks H bits) (hv : Il lo B v l) (hr : ∀ x ∈ l, 0 ≤ x ∧ x.toNat < 2 ^ n) (hn : n ≤ 63) (hl : bits.length + n * l.length < 549755813888) (hll : l.length ≤ 1048576) :
    Ok (sem T fn_depend_writer_nums [.agg [.ptr w 0], v, .int .i64 (n : Nat)]) H fun r H' => Wk (WR w) B ks H' (bits ++ numsB n l) := by
  refine ok_depend_writer_nums ?_
  unfold f_depend_writer_nums
  have h1 := h.new ⟨ty_depend_writer, [.ptr w 0], none⟩
  simp (maxSteps := 1000000) (disch := first | omega | (simp only [RY] <;> omega) | decide) only [↓RD, RZ, eq_self, Int.reduceToNat, Int.reduceAdd, Int.reduceSub, Int.reduceMul, Nat.reduceAdd, Nat.reduceSub, Nat.reduceMul, Nat.reduceDiv, Nat.reduceMod, Nat.reduceBEq, Nat.reduceLeDiff, hv.vlen]
  generalize H.new _ = H1 at *
  refine ok_loop (fun k L H' => L = [.int .i64 (k : Nat)] ∧ Wk (WR w) B ((H.next, ⟨ty_depend_writer, [.ptr w 0], none⟩) :: ks) H' (bits ++ numsB n (l.take k))) l.length ?_ ?_ ?_
  · exact ⟨rfl, by simpa [numsB] using h1⟩
  · rintro k L H2 hk ⟨rfl, h2⟩
    obtain ⟨q, i1, l1, -⟩ := il_at (hv.ext h2.gr) (i := (k : Nat)) (by omega) (by omega)
    rw [Int.toNat_natCast, getD_get hk] at l1
    obtain ⟨r0, r1⟩ := hr _ (List.getElem_mem hk)
    have hlen : (numsB n (l.take k)).length ≤ n * l.length := flat_take_le _ (fun x _ => by rw [nb_length]; omega) k
    unfold f_depend_writer_nums_0
    simp (maxSteps := 1000000) (disch := first | omega | (simp only [RY] <;> omega) | decide) only [↓RD, RZ, eq_self, Int.reduceToNat, Int.reduceAdd, Int.reduceSub, Int.reduceMul, Nat.reduceAdd, Nat.reduceSub, Nat.reduceMul, Nat.reduceDiv, Nat.reduceMod, Nat.reduceBEq, Nat.reduceLeDiff, i1, l1, h2.get]
    refine ok_bind' (num_ok h2 l[k] n r0 r1 hn (by rw [List.length_append]; omega)) ?_
    rintro _ H3 h3
    simp (maxSteps := 1000000) (disch := first | omega | (simp only [RY] <;> omega) | decide) only [↓RD, RZ, eq_self, Int.reduceToNat, Int.reduceAdd, Int.reduceSub, Int.reduceMul, Nat.reduceAdd, Nat.reduceSub, Nat.reduceMul, Nat.reduceDiv, Nat.reduceMod, Nat.reduceBEq, Nat.reduceLeDiff]
    refine ⟨by rfl, ?_⟩
    have e : numsB n (l.take (k + 1)) = numsB n (l.take k) ++ nb l[k].toNat n := flat_snoc _ hk
    rw [e, ← List.append_assoc]; exact h3
  · rintro L H2 ⟨rfl, h2⟩
    unfold f_depend_writer_nums_0
    rw [List.take_length] at h2
    simp (maxSteps := 1000000) (disch := first | omega | (simp only [RY] <;> omega) | decide) only [↓RD, RZ, eq_self, Int.reduceToNat, Int.reduceAdd, Int.reduceSub, Int.reduceMul, Nat.reduceAdd, Nat.reduceSub, Nat.reduceMul, Nat.reduceDiv, Nat.reduceMod, Nat.reduceBEq, Nat.reduceLeDiff]
    exact h2.drop

theorem wid_rng {d : Int} (h0 : 1 ≤ d) (h1 : d ≤ 4096) : 1 ≤ wid d ∧ wid d ≤ 3 ∧ (d - 1).toNat < 2 ^ (4 * wid d) ∧ ∀ n, 1 ≤ n → n < wid d → ¬ (d - 1).toNat < 2 ^ (4 * n) := by
  unfold wid
  split
  · exact ⟨by omega, by omega, by omega, fun n h1 h2 => by omega⟩
  · split
    · refine ⟨by omega, by omega, by omega, fun n h1 h2 => ?_⟩
      have : n = 1 := by omega
      subst this; omega
    · refine ⟨by omega, by omega, by omega, fun n h1 h2 => ?_⟩
      have : n = 1 ∨ n = 2 := by omega
      rcases this with rfl | rfl <;> omega

theorem wown_ok {lo : Nat} {v : V} {l : List Int} (h : Wk (WR w) B ks H bits) (hv : Il lo B v l) (hr : ∀ x ∈ l, 1 ≤ x ∧ x ≤ 4096) (hl : bits.length + 14 * l.length < 549755813888) (hll : l.length ≤ 1048576) :
    Ok (sem T fn_depend_writer_own [.agg [.ptr w 0], v]) H fun r H' => Wk (WR w) B ks H' (bits ++ owB l) := by
  refine ok_depend_writer_own ?_
  unfold f_depend_writer_own
  have h1 := h.new ⟨ty_depend_writer, [.ptr w 0], none⟩
  simp (maxSteps := 1000000) (disch := first | omega | (simp only [RY] <;> omega) | decide) only [↓RD, RZ, eq_self, Int.reduceToNat, Int.reduceAdd, Int.reduceSub, Int.reduceMul, Nat.reduceAdd, Nat.reduceSub, Nat.reduceMul, Nat.reduceDiv, Nat.reduceMod, Nat.reduceBEq, Nat.reduceLeDiff, hv.vlen]
  generalize H.new _ = H1 at *
  let F := fun d : Int => nb (wid d) 2 ++ nb (d - 1).toNat (4 * wid d)
  have hF : ∀ x ∈ l, (F x).length ≤ 14 := fun x hx => by
    have := wid_rng (hr x hx).1 (hr x hx).2
    show (nb _ _ ++ nb _ _).length ≤ 14
    rw [List.length_append, nb_length, nb_length]; omega
  refine ok_loop (fun k L H' => L = [.int .i64 (k : Nat)] ∧ Wk (WR w) B ((H.next, ⟨ty_depend_writer, [.ptr w 0], none⟩) :: ks) H' (bits ++ (l.take k).flatMap F)) l.length ?_ ?_ ?_
  · exact ⟨rfl, by simpa using h1⟩
  · rintro k L H2 hk ⟨rfl, h2⟩
    obtain ⟨q, i1, l1, -⟩ := il_at (hv.ext h2.gr) (i := (k : Nat)) (by omega) (by omega)
    rw [Int.toNat_natCast, getD_get hk] at l1
    obtain ⟨r0, r1⟩ := hr _ (List.getElem_mem hk)
    have hlen := flat_take_k F hF k
    have e : (l.take (k + 1)).flatMap F = (l.take k).flatMap F ++ F l[k] := flat_snoc F hk
    rw [e]
    have eF : F l[k] = nb (wid l[k]) 2 ++ nb (l[k] - 1).toNat (4 * wid l[k]) := rfl
    rw [eF]
    generalize l[k] = d at *
    obtain ⟨w1, w2, w3, w4⟩ := wid_rng r0 r1
    obtain ⟨dn, hdn⟩ := Int.eq_ofNat_of_zero_le (show 0 ≤ d - 1 by omega)
    rw [hdn, Int.toNat_natCast] at w3 w4 ⊢
    unfold f_depend_writer_own_1
    simp (maxSteps := 1000000) (disch := first | omega | (simp only [RY] <;> omega) | decide) only [↓RD, RZ, eq_self, Int.reduceToNat, Int.reduceAdd, Int.reduceSub, Int.reduceMul, Nat.reduceAdd, Nat.reduceSub, Nat.reduceMul, Nat.reduceDiv, Nat.reduceMod, Nat.reduceBEq, Nat.reduceLeDiff, i1, l1]
    refine ok_while (fun L H' m => ∃ n : Nat, L = [.int .i64 (n : Nat)] ∧ H' = H2 ∧ 1 ≤ n ∧ n ≤ wid d ∧ m = wid d - n) (wid d - 1) ?_ ?_
    · exact ⟨1, rfl, rfl, by omega, by omega, rfl⟩
    · rintro L H' m ⟨n, rfl, rfl, n1, n2, rfl⟩
      have e4 : 4 * (n : Int) = ((4 * n : Nat) : Int) := by omega
      have hs := shr_pow dn (4 * n)
      unfold f_depend_writer_own_0
      by_cases hn : n < wid d
      · have hne : ¬ shr dn (4 * n) = 0 := by
          rw [hs]
          have := w4 n n1 hn
          rw [Nat.div_eq_zero_iff]
          have := Nat.two_pow_pos (4 * n)
          omega
        have hle : shr dn (4 * n) ≤ dn := shr_le _ _
        simp (maxSteps := 1000000) (disch := first | omega | (simp only [RY] <;> omega) | decide) only [↓RD, RZ, eq_self, Int.reduceToNat, Int.reduceAdd, Int.reduceSub, Int.reduceMul, Nat.reduceAdd, Nat.reduceSub, Nat.reduceMul, Nat.reduceDiv, Nat.reduceMod, Nat.reduceBEq, Nat.reduceLeDiff, hdn, e4]
        exact ⟨wid d - (n + 1), by omega, n + 1, by rfl, by omega, by omega, rfl⟩
      · have hn' : n = wid d := by omega
        have hz : shr dn (4 * n) = 0 := by
          rw [hs, hn']; exact Nat.div_eq_of_lt w3
        simp (maxSteps := 1000000) (disch := first | omega | (simp only [RY] <;> omega) | decide) only [↓RD, RZ, eq_self, Int.reduceToNat, Int.reduceAdd, Int.reduceSub, Int.reduceMul, Nat.reduceAdd, Nat.reduceSub, Nat.reduceMul, Nat.reduceDiv, Nat.reduceMod, Nat.reduceBEq, Nat.reduceLeDiff, hdn, e4, hz, h2.get]
        refine ok_bind' (num_ok h2 (n : Nat) 2 (by omega) (by omega) (by omega) (by rw [List.length_append]; omega)) ?_
        rintro _ H3 h3
        simp (maxSteps := 1000000) (disch := first | omega | (simp only [RY] <;> omega) | decide) only [↓RD, RZ, eq_self, Int.reduceToNat, Int.reduceAdd, Int.reduceSub, Int.reduceMul, Nat.reduceAdd, Nat.reduceSub, Nat.reduceMul, Nat.reduceDiv, Nat.reduceMod, Nat.reduceBEq, Nat.reduceLeDiff, h3.get, hdn, e4]
        refine ok_bind' (num_ok h3 (dn : Nat) (4 * n) (by omega) (by rw [Int.toNat_natCast, hn']; exact w3) (by omega) (by rw [List.length_append, List.length_append, nb_length]; omega)) ?_
        rintro _ H4 h4
        simp (maxSteps := 1000000) (disch := first | omega | (simp only [RY] <;> omega) | decide) only [↓RD, RZ, eq_self, Int.reduceToNat, Int.reduceAdd, Int.reduceSub, Int.reduceMul, Nat.reduceAdd, Nat.reduceSub, Nat.reduceMul, Nat.reduceDiv, Nat.reduceMod, Nat.reduceBEq, Nat.reduceLeDiff]
        refine ⟨by rfl, ?_⟩
        rw [Int.toNat_natCast, Int.toNat_natCast, hn'] at h4
        rw [← List.append_assoc, ← List.append_assoc]
        exact h4
  · rintro L H2 ⟨rfl, h2⟩
    unfold f_depend_writer_own_1
    rw [List.take_length] at h2
    have hlen := flat_le F l hF
    simp (maxSteps := 1000000) (disch := first | omega | (simp only [RY] <;> omega) | decide) only [↓RD, RZ, eq_self, Int.reduceToNat, Int.reduceAdd, Int.reduceSub, Int.reduceMul, Nat.reduceAdd, Nat.reduceSub, Nat.reduceMul, Nat.reduceDiv, Nat.reduceMod, Nat.reduceBEq, Nat.reduceLeDiff, h2.get]
    refine ok_bind' (num_ok h2 0 2 (by omega) (by decide) (by omega) (by rw [List.length_append]; omega)) ?_
    rintro _ H3 h3
    simp (maxSteps := 1000000) (disch := first | omega | (simp only [RY] <;> omega) | decide) only [↓RD, RZ, eq_self, Int.reduceToNat, Int.reduceAdd, Int.reduceSub, Int.reduceMul, Nat.reduceAdd, Nat.reduceSub, Nat.reduceMul, Nat.reduceDiv, Nat.reduceMod, Nat.reduceBEq, Nat.reduceLeDiff]
    have := h3.drop
    rw [List.append_assoc] at this
    exact this

end
end Go.Ax.D9
/- DepR5 -/
set_option maxRecDepth 100000
set_option linter.unusedVariables false
set_option linter.unusedSimpArgs false
namespace Go.Ax.D9
open Go.Ax B6
theorem splice_flat {k : Nat} : ∀ {es : List (List V)}, (∀ x ∈ es, x.length = k) → ∀ {i j : Nat} (hi : i < es.length), j < k → ∀ (x : V), splice es.flatten (i * k + j) [x] = (es.set i (es[i].set j x)).flatten := by
  intro es
  induction es with
  | nil => intro _ i j hi; simp at hi
  | cons y es ih =>
    intro h i j hi hj x
    have hy := h y (List.mem_cons_self ..)
    have hl := flat_len es (k := k) fun z hz => h z (List.mem_cons_of_mem _ hz)
    cases i with
    | zero =>
      simp only [Nat.zero_mul, Nat.zero_add, List.flatten_cons, List.getElem_cons_zero, List.set_cons_zero]
      rw [sp_set _ _ _ (by rw [List.length_append]; omega), List.set_append, if_pos (by omega)]
    | succ i =>
      have hi' : i < es.length := by simpa using hi
      have := ih (fun z hz => h z (List.mem_cons_of_mem _ hz)) hi' hj x
      have hik : i * k + k ≤ es.length * k := by rw [← Nat.succ_mul]; exact Nat.mul_le_mul_right k hi'
      rw [sp_set _ _ _ (by rw [hl]; omega)] at this
      simp only [List.flatten_cons, List.getElem_cons_succ, List.set_cons_succ]
      have e : (i + 1) * k + j = y.length + (i * k + j) := by rw [Nat.succ_mul]; omega
      rw [sp_set _ _ _ (by rw [List.length_append, hl, e]; omega), e, List.set_append_right _ _ (by omega), Nat.add_sub_cancel_left, this]

/-- Templates that may be written. -/
structure TsW (ty lo : Nat) (H : Heap) (v : V) (id : Nat) (cap : Cap) (o : Option Nat) (ws : List Tw) : Prop where
  v : v = .sl id 0 ws.length cap
  g : H.get id = some ⟨ty, (ws.map tc).flatten, o⟩
  lo : lo ≤ id ∧ id < H.next
  cap : V.capOk 5 (.sl id 0 ws.length cap)
  ls : ∀ w ∈ ws, TmR (id + 1) H w.1 w.2.1 w.2.2.1 w.2.2.2

section
variable {ty lo id : Nat} {H H' : Heap} {v : V} {cap : Cap} {o : Option Nat} {ws : List Tw}
theorem TsW.keep (h : TsW ty lo H v id cap o ws) (k : Keep lo H H') : TsW ty lo H' v id cap o ws :=
  ⟨h.v, (k.same id h.lo.1 h.lo.2).trans h.g, ⟨h.lo.1, Nat.lt_of_lt_of_le h.lo.2 k.next⟩, h.cap, fun w hw => (h.ls w hw).keep ⟨k.next, fun i hi hl => k.same i (by have := h.lo; omega) hl⟩⟩
theorem TsW.ko {a m : Nat} (h : TsW ty lo H v id cap o ws) (k : Ko a m H H') (hm : m ≤ lo) : TsW ty lo H' v id cap o ws := h.keep (k.keep hm)
theorem TsW.set {w : Nat} (h : TsW ty lo H v id cap o ws) (hw : w < lo) (b : Option Blk) : TsW ty lo (H.set w b) v id cap o ws := h.keep (Keep.set H hw b)
theorem TsW.len (h : TsW ty lo H v id cap o ws) : ((ws.map tc).flatten).length = ws.length * 5 := by
  have := flat_len (ws.map tc) (tc_len ws); rwa [List.length_map] at this
theorem TsW.lc (h : TsW ty lo H v id cap o ws) : Lc 5 lo H v (ws.map tc).flatten ws.length := by
  have hl := h.len
  obtain ⟨rfl, hg, hlo, hc, -⟩ := h
  refine ⟨?_, fun i hi => by simp only [V.pid, Option.some.injEq] at hi; subst hi; exact hlo, hc⟩
  simp only [rcells, hg, Option.bind_some]
  rw [if_pos (by omega), List.drop_zero, ← hl, List.take_length]
theorem TsW.tms (h : TsW ty lo H v id cap o ws) : Tms lo H v (ws.map (·.1)) := ⟨ws, rfl, h.lc, fun w hw => (h.ls w hw).low (by have := h.lo; omega)⟩
theorem TsW.vlen (h : TsW ty lo H v id cap o ws) : Ax.vlen v = some (.int .i64 (ws.length : Nat)) := h.lc.vlen
theorem TsW.at (h : TsW ty lo H v id cap o ws) {i : Nat} (hi : i < ws.length) {k : IntKind} : Ax.iaddr none 5 v (.int k (i : Nat)) = some (.ptr id (i * 5)) := by
  rw [h.v, iaddr_sl (by omega) (by omega)]; simp
theorem TsW.cel (h : TsW ty lo H v id cap o ws) : Cel v := h.lc.cel
theorem TsW.put (h : TsW ty lo H v id cap o ws) {i j : Nat} (hi : i < ws.length) {w' : Tw} {x : V} (hj : j < 5) (hw : tc w' = (tc ws[i]).set j x) (hr : TmR (id + 1) H w'.1 w'.2.1 w'.2.2.1 w'.2.2.2) :
    TsW ty lo (H.set id (some ⟨ty, splice (ws.map tc).flatten (i * 5 + j) [x], o⟩)) v id cap o (ws.set i w') := by
  have k : Keep (id + 1) H (H.set id (some ⟨ty, splice (ws.map tc).flatten (i * 5 + j) [x], o⟩)) := Keep.set H (by omega) _
  refine ⟨by rw [List.length_set]; exact h.v, ?_, h.lo, by rw [List.length_set]; exact h.cap, fun w hw' => ?_⟩
  · rw [get_set_self, splice_flat (tc_len ws) (by rw [List.length_map]; exact hi) hj, List.getElem_map, ← hw, List.map_set]
  · rcases List.mem_or_eq_of_mem_set hw' with hw' | rfl
    · exact (h.ls w hw').keep k
    · exact hr.keep k
end
/-- What is read so far: fine, or there is an error. -/
structure TmE (σ : St) (l : List Tm) : Prop where
  ok : (∃ bs, σ = .ok bs) → TmL l
  len : 1 ≤ l.length ∧ l.length ≤ 65
  rng : ∀ t ∈ l, 0 ≤ t.sp ∧ t.sp ≤ 4 ∧ 0 ≤ t.te ∧ t.te ≤ 8
  emp : ∀ t ∈ l, t.dti = [] ∧ t.dif = [] ∧ t.cha = []

section
variable {a m rb : Nat} {σ : St} {H H' : Heap}
end
end Go.Ax.D9
/- DepR6 -/
set_option maxRecDepth 100000
set_option linter.unusedVariables false
set_option linter.unusedSimpArgs false
namespace Go.Ax
/-- Outside P nothing that was there is turned. -/
structure Kx (P : Nat → Prop) (H H' : Heap) : Prop where
  next : H.next ≤ H'.next
  same : ∀ i, i < H.next → ¬ P i → H'.get i = H.get i
theorem Kx.refl (P : Nat → Prop) (H : Heap) : Kx P H H := ⟨Nat.le_refl _, fun _ _ _ => rfl⟩
theorem Kx.trans {P : Nat → Prop} {H H1 H2 : Heap} (h : Kx P H H1) (k : Kx P H1 H2) : Kx P H H2 := ⟨Nat.le_trans h.next k.next, fun i hi ho => by rw [k.same i (Nat.lt_of_lt_of_le hi h.next) ho, h.same i hi ho]⟩
theorem Kx.mono {P P' : Nat → Prop} {H H' : Heap} (h : Kx P H H') (hp : ∀ i, i < H.next → P i → P' i) : Kx P' H H' := ⟨h.next, fun i hi ho => h.same i hi fun k => ho (hp i hi k)⟩
theorem Kx.keep {P : Nat → Prop} {lo : Nat} {H H' : Heap} (h : Kx P H H') (hp : ∀ i, lo ≤ i → ¬ P i) : Keep lo H H' := ⟨h.next, fun i hl hi => h.same i hi (hp i hl)⟩
theorem Kx.set {P : Nat → Prop} {B H : Heap} (h : Kx P B H) {w : Nat} (hw : B.next ≤ w ∨ P w) (b : Option Blk) : Kx P B (H.set w b) := ⟨by rw [next_set]; exact h.next, fun i hi ho => by
  rw [get_set_ne _ _ (fun e => by subst e; rcases hw with hw | hw; omega; exact ho hw), h.same i hi ho]⟩
theorem Keep.step {lo : Nat} {G H H' : Heap} {F F' : List Nat} (k : Keep lo G H) (s : Step H H' F F') (hF : ∀ i ∈ F, G.next ≤ i) : Keep lo G H' := ⟨Nat.le_trans k.next s.next, fun i hl hi => by rw [s.same i (by have := k.next; omega) (fun hm => by have := hF i hm; omega), k.same i hl hi]⟩
theorem Keep.ko {lo a m : Nat} {G H H' : Heap} (k : Keep lo G H) (h : Ko a m H H') (hm : m ≤ lo) : Keep lo G H' := k.trans (h.keep hm)
end Go.Ax
namespace Go.Ax.D9
open Go.Ax B6
section
variable {a m rb b3 lo id tn cn : Nat} {cap : Cap} {o : Option Nat} {H : Heap} {σ : St} {off tar c : Int} {v x4 x5 : V} {ws : List Tw} {ts : List Tm}
end
end Go.Ax.D9
