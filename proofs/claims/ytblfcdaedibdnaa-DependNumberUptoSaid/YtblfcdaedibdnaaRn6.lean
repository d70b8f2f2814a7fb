/-
  Texts of mine, put together by program (wip/slim.py), for law_dependNumber: part 6.
-/
import Derived.Test.YtblfcdaedibdnaaRn5
/- FnD4 -/
set_option maxRecDepth 100000
set_option linter.unusedVariables false
namespace Go.Ax
open Go.Proofs
noncomputable def ir_depend_Parse : Fn' := irOf fn_depend_Parse
noncomputable def f_depend_Parse_0 (G : Sem') (t6 t4 : V) (_ : List V) : M Res :=
 (M.lift (Ax.nilck t6)).bind fun t123 =>
 (M.lift (Ax.faddr 1 t123)).bind fun t124 =>
 (mload none t124).bind fun t125 =>
 (M.lift (Ax.bin .eql t125 (V.int .i64 0))).bind fun t126 =>
 (guarded [(0, t126)] (some (0, true)) (M.pure t6)).bind fun t128 =>
 (guarded [(0, t126)] (some (0, true)) (M.lift (Ax.nilck t128))).bind fun t129 =>
 (guarded [(0, t126)] (some (0, true)) (M.lift (Ax.faddr 0 t129))).bind fun t130 =>
 (guarded [(0, t126)] (some (0, true)) (mload none t130)).bind fun t131 =>
 (guarded [(0, t126)] (some (0, true)) (G fn_bits_Reader_Left [t131])).bind fun t132 =>
 (guarded [(0, t126)] (some (0, true)) (M.lift (Ax.bin .gtr t132 (V.int .i64 0)))).bind fun t133 =>
 (M.lift (Ax.pick t126 t133 (V.bool false))).bind fun t134 =>
 M.ite t134
 (M.blk 2 (
 (G fn_depend_reader_bit [t6]).bind fun t136 =>
 M.join (M.ite t136
 ((G fn_depend_reader_fail [t6, (V.int .i64 2)]).bind fun t138 =>
 M.pure (.nrm []))
 (M.pure (.nrm []))) fun _ =>
 M.pure (.nrm [])) fun _ =>
 M.pure (.nrm []))
 (M.pure (.ex 1 []))

noncomputable def f_depend_Parse (G : Sem') (t0 t1 : V) : M Res :=
 (mbox ty_depend_Structure t1).bind fun t3 =>
 (mbox ty_depend_Frame (V.agg [(V.bool false), (V.bool false), (V.int .i64 0), (V.int .u16 0), (V.bool false), (V.int .i64 0), (V.int .i64 0), V.nils, (V.int .i64 0), V.nils, V.nils, (V.bool false), (V.int .u32 0), (V.bool false), (V.bool false), (V.bool false), V.nils, V.nils, V.nils])).bind fun t4 =>
 (G fn_bits_Over [t0]).bind fun t12 =>
 (M.lift (Ax.build [V.nilp, (V.int .i64 0)] [(0, 1, t12)])).bind fun t13 =>
 (mbox ty_depend_reader t13).bind fun t14 =>
 (G fn_depend_reader_bit [t14]).bind fun t16 =>
 (G fn_depend_reader_bit [t14]).bind fun t18 =>
 (G fn_depend_reader_num [t14, (V.int .i64 6)]).bind fun t20 =>
 (G fn_depend_reader_num [t14, (V.int .i64 16)]).bind fun t22 =>
 (M.lift (Ax.cint .u16 t22)).bind fun t23 =>
 (M.lift (Ax.build [(V.bool false), (V.bool false), (V.int .i64 0), (V.int .u16 0), (V.bool false), (V.int .i64 0), (V.int .i64 0), V.nils, (V.int .i64 0), V.nils, V.nils, (V.bool false), (V.int .u32 0), (V.bool false), (V.bool false), (V.bool false), V.nils, V.nils, V.nils] [(0, 1, t16), (1, 1, t18), (2, 1, t20), (3, 1, t23)])).bind fun t24 =>
 (mbox ty_depend_Frame (V.agg [(V.bool false), (V.bool false), (V.int .i64 0), (V.int .u16 0), (V.bool false), (V.int .i64 0), (V.int .i64 0), V.nils, (V.int .i64 0), V.nils, V.nils, (V.bool false), (V.int .u32 0), (V.bool false), (V.bool false), (V.bool false), V.nils, V.nils, V.nils])).bind fun t7 =>
 (mstore 19 t7 t24).bind fun _ =>
 (M.lift (vlen t0)).bind fun t26 =>
 (M.lift (Ax.bin .gtr t26 (V.int .i64 3))).bind fun t27 =>
 M.join (M.ite t27
 ((G fn_depend_reader_bit [t14]).bind fun t29 =>
 (G fn_depend_reader_bit [t14]).bind fun t31 =>
 (M.lift (Ax.faddr 4 t7)).bind fun t32 =>
 (mstore 1 t32 t29).bind fun _ =>
 (M.lift (Ax.faddr 11 t7)).bind fun t33 =>
 (mstore 1 t33 t31).bind fun _ =>
 (G fn_depend_reader_bit [t14]).bind fun t35 =>
 (G fn_depend_reader_bit [t14]).bind fun t37 =>
 (G fn_depend_reader_bit [t14]).bind fun t39 =>
 (M.lift (Ax.faddr 13 t7)).bind fun t40 =>
 (mstore 1 t40 t35).bind fun _ =>
 (M.lift (Ax.faddr 14 t7)).bind fun t41 =>
 (mstore 1 t41 t37).bind fun _ =>
 (M.lift (Ax.faddr 15 t7)).bind fun t42 =>
 (mstore 1 t42 t39).bind fun _ =>
 M.pure (.nrm []))
 (M.pure (.nrm []))) fun _ =>
 M.blk 0 (
 (M.lift (Ax.nilck t14)).bind fun t45 =>
 (M.lift (Ax.faddr 1 t45)).bind fun t46 =>
 (mload none t46).bind fun t47 =>
 (M.lift (Ax.bin .neq t47 (V.int .i64 0))).bind fun t48 =>
 M.ite t48
 ((M.lift (Ax.build [(V.bool false), (V.bool false), (V.int .i64 0), (V.int .u16 0), (V.bool false), (V.int .i64 0), (V.int .i64 0), V.nils, (V.int .i64 0), V.nils, V.nils, (V.bool false), (V.int .u32 0), (V.bool false), (V.bool false), (V.bool false), V.nils, V.nils, V.nils] [])).bind fun t49 =>
 (M.lift (Ax.nilck t14)).bind fun t51 =>
 (M.lift (Ax.faddr 1 t51)).bind fun t52 =>
 (mload none t52).bind fun t53 =>
 M.getH.bind fun h0 =>
 (mstore 19 t4 t49).bind fun _ =>
 M.getH.bind fun h0' =>
 (M.unch t52 h0 h0').bind fun _ =>
 (mload (some 19) t4).bind fun r0 =>
 M.pure (.ret [r0, t53]))
 ((M.lift (Ax.faddr 4 t7)).bind fun t55 =>
 (mload none t55).bind fun t56 =>
 M.join (M.ite t56
 ((G fn_depend_reader_structure [t14]).bind fun t58 =>
 (M.lift (Ax.faddr 5 t7)).bind fun t59 =>
 (mstore 6 t59 t58).bind fun _ =>
 M.pure (.nrm []))
 ((mload (some 6) t3).bind fun t61 =>
 (G fn_depend_Fine [t61]).bind fun t62 =>
 (M.lift (Ax.un .not t62)).bind fun t63 =>
 M.ite t63
 ((M.lift (Ax.build [(V.bool false), (V.bool false), (V.int .i64 0), (V.int .u16 0), (V.bool false), (V.int .i64 0), (V.int .i64 0), V.nils, (V.int .i64 0), V.nils, V.nils, (V.bool false), (V.int .u32 0), (V.bool false), (V.bool false), (V.bool false), V.nils, V.nils, V.nils] [])).bind fun t64 =>
 (mstore 19 t4 t64).bind fun _ =>
 (mload (some 19) t4).bind fun r0 =>
 M.pure (.ret [r0, (V.int .i64 2)]))
 (M.pure (.nrm [])))) fun _ =>
 M.pure (.nrm []))) fun _ =>
 (mload (some 19) t7).bind fun t65 =>
 (mload (some 6) t3).bind fun t66 =>
 (G fn_depend_holds [t65, t66]).bind fun t67 =>
 (mbox ty_depend_Structure (V.agg [(V.int .i64 0), (V.int .i64 0), V.nils, (V.int .i64 0), V.nils, V.nils])).bind fun t8 =>
 (mstore 6 t8 t67).bind fun _ =>
 (M.lift (Ax.faddr 11 t7)).bind fun t68 =>
 (mload none t68).bind fun t69 =>
 (guarded [(0, t69)] (some (0, true)) (M.pure t14)).bind fun t71 =>
 (guarded [(0, t69)] (some (0, true)) (M.lift (Ax.nilck t71))).bind fun t72 =>
 (guarded [(0, t69)] (some (0, true)) (M.lift (Ax.faddr 1 t72))).bind fun t73 =>
 (guarded [(0, t69)] (some (0, true)) (mload none t73)).bind fun t74 =>
 (guarded [(0, t69)] (some (0, true)) (M.lift (Ax.bin .eql t74 (V.int .i64 0)))).bind fun t75 =>
 (M.lift (Ax.pick t69 t75 (V.bool false))).bind fun t76 =>
 M.join (M.ite t76
 ((M.lift (Ax.faddr 1 t8)).bind fun t78 =>
 (mload none t78).bind fun t79 =>
 (G fn_depend_reader_num [t14, t79]).bind fun t80 =>
 (M.lift (Ax.cint .u32 t80)).bind fun t81 =>
 (M.lift (Ax.faddr 12 t7)).bind fun t82 =>
 (mstore 1 t82 t81).bind fun _ =>
 M.pure (.nrm []))
 (M.pure (.nrm []))) fun _ =>
 (mload (some 6) t8).bind fun t84 =>
 (M.lift (Ax.faddr 2 t7)).bind fun t85 =>
 (mload none t85).bind fun t86 =>
 (G fn_depend_template [t84, t86]).bind fun t87 =>
 (M.lift (Ax.ext 0 t87)).bind fun t88 =>
 (M.lift (Ax.ext 1 t87)).bind fun t89 =>
 (mbox ty_depend_Template (V.agg [(V.int .i64 0), (V.int .i64 0), V.nils, V.nils, V.nils])).bind fun t9 =>
 (mstore 5 t9 t88).bind fun _ =>
 (M.lift (Ax.un .not t89)).bind fun t91 =>
 M.join (M.ite t91
 ((G fn_depend_reader_fail [t14, (V.int .i64 2)]).bind fun t93 =>
 M.pure (.nrm []))
 (M.pure (.nrm []))) fun _ =>
 (M.lift (Ax.faddr 2 t9)).bind fun t94 =>
 (mload none t94).bind fun t95 =>
 (M.lift (Ax.faddr 3 t9)).bind fun t96 =>
 (mload none t96).bind fun t97 =>
 (M.lift (Ax.faddr 4 t9)).bind fun t98 =>
 (mload none t98).bind fun t99 =>
 (M.lift (Ax.faddr 16 t7)).bind fun t100 =>
 M.getH.bind fun h1 =>
 (mstore 1 t100 t95).bind fun _ =>
 M.getH.bind fun h1' =>
 (M.unch t98 h1 h1').bind fun _ =>
 (M.unch t96 h1 h1').bind fun _ =>
 (M.lift (Ax.faddr 17 t7)).bind fun t101 =>
 M.getH.bind fun h2 =>
 (mstore 1 t101 t97).bind fun _ =>
 M.getH.bind fun h2' =>
 (M.unch t98 h2 h2').bind fun _ =>
 (M.lift (Ax.faddr 18 t7)).bind fun t102 =>
 (mstore 1 t102 t99).bind fun _ =>
 (M.lift (Ax.faddr 13 t7)).bind fun t103 =>
 (mload none t103).bind fun t104 =>
 M.join (M.ite t104
 ((M.lift (Ax.faddr 1 t8)).bind fun t106 =>
 (mload none t106).bind fun t107 =>
 (G fn_depend_reader_nums [t14, t107, (V.int .i64 2)]).bind fun t108 =>
 (M.lift (Ax.faddr 16 t7)).bind fun t109 =>
 (mstore 1 t109 t108).bind fun _ =>
 M.pure (.nrm []))
 (M.pure (.nrm []))) fun _ =>
 (M.lift (Ax.faddr 14 t7)).bind fun t110 =>
 (mload none t110).bind fun t111 =>
 M.join (M.ite t111
 ((G fn_depend_reader_own [t14]).bind fun t113 =>
 (M.lift (Ax.faddr 17 t7)).bind fun t114 =>
 (mstore 1 t114 t113).bind fun _ =>
 M.pure (.nrm []))
 (M.pure (.nrm []))) fun _ =>
 (M.lift (Ax.faddr 15 t7)).bind fun t115 =>
 (mload none t115).bind fun t116 =>
 M.join (M.ite t116
 ((M.lift (Ax.faddr 3 t8)).bind fun t118 =>
 (mload none t118).bind fun t119 =>
 (G fn_depend_reader_nums [t14, t119, (V.int .i64 8)]).bind fun t120 =>
 (M.lift (Ax.faddr 18 t7)).bind fun t121 =>
 (mstore 1 t121 t120).bind fun _ =>
 M.pure (.nrm []))
 (M.pure (.nrm []))) fun _ =>
 M.blk 1 (
 M.iter (f_depend_Parse_0 G t14 t4) []) fun _ =>
 (M.lift (Ax.nilck t14)).bind fun t140 =>
 (M.lift (Ax.faddr 1 t140)).bind fun t141 =>
 (mload none t141).bind fun t142 =>
 (M.lift (Ax.bin .neq t142 (V.int .i64 0))).bind fun t143 =>
 M.ite t143
 ((M.lift (Ax.build [(V.bool false), (V.bool false), (V.int .i64 0), (V.int .u16 0), (V.bool false), (V.int .i64 0), (V.int .i64 0), V.nils, (V.int .i64 0), V.nils, V.nils, (V.bool false), (V.int .u32 0), (V.bool false), (V.bool false), (V.bool false), V.nils, V.nils, V.nils] [])).bind fun t144 =>
 (M.lift (Ax.nilck t14)).bind fun t146 =>
 (M.lift (Ax.faddr 1 t146)).bind fun t147 =>
 (mload none t147).bind fun t148 =>
 M.getH.bind fun h3 =>
 (mstore 19 t4 t144).bind fun _ =>
 M.getH.bind fun h3' =>
 (M.unch t147 h3 h3').bind fun _ =>
 (mload (some 19) t4).bind fun r0 =>
 M.pure (.ret [r0, t148]))
 ((mload (some 19) t7).bind fun t149 =>
 (mstore 19 t4 t149).bind fun _ =>
 (mload (some 19) t4).bind fun r0 =>
 M.pure (.ret [r0, (V.int .i64 0)]))

theorem eq_depend_Parse (G : Sem') (t0 t1 : V) : execK G ir_depend_Parse.rv ir_depend_Parse.body [] [] (params 0 [t0, t1]) = f_depend_Parse G t0 t1 := by kernel_rfl

theorem tb_depend_Parse : T fn_depend_Parse = some ir_depend_Parse := by kernel_rfl

theorem ok_depend_Parse {t0 t1 : V} {H : Heap} {Q : V → Heap → Prop} (h : Ok (f_depend_Parse (sem T) t0 t1) H fun r H' => ∃ L, r = .ret L ∧ Q (tupled L) H') : Ok (sem T fn_depend_Parse [t0, t1]) H Q :=
  ok_sem tb_depend_Parse (Nat.le_of_ble_eq_true (by kernel_rfl)) (eq_depend_Parse (sem T) t0 t1) h

noncomputable def ir_bits_Over : Fn' := irOf fn_bits_Over
noncomputable def f_bits_Over (G : Sem') (t0 : V) : M Res :=
 (mappend ty_uint8 1 1 V.nils t0).bind fun t4 =>
 (M.lift (Ax.build [V.nils, (V.int .i64 0)] [(0, 1, t4)])).bind fun t5 =>
 (mbox ty_bits_Reader t5).bind fun t6 =>
 M.pure (.ret [t6])

theorem eq_bits_Over (G : Sem') (t0 : V) : execK G ir_bits_Over.rv ir_bits_Over.body [] [] (params 0 [t0]) = f_bits_Over G t0 := by kernel_rfl

theorem tb_bits_Over : T fn_bits_Over = some ir_bits_Over := by kernel_rfl

theorem ok_bits_Over {t0 : V} {H : Heap} {Q : V → Heap → Prop} (h : Ok (f_bits_Over (sem T) t0) H fun r H' => ∃ L, r = .ret L ∧ Q (tupled L) H') : Ok (sem T fn_bits_Over [t0]) H Q :=
  ok_sem tb_bits_Over (Nat.le_of_ble_eq_true (by kernel_rfl)) (eq_bits_Over (sem T) t0) h

noncomputable def ir_depend_reader_bit : Fn' := irOf fn_depend_reader_bit
noncomputable def f_depend_reader_bit (G : Sem') (t0 : V) : M Res :=
 (G fn_depend_reader_num [t0, (V.int .i64 1)]).bind fun t4 =>
 (M.lift (Ax.bin .eql t4 (V.int .i64 1))).bind fun t5 =>
 M.pure (.ret [t5])

theorem eq_depend_reader_bit (G : Sem') (t0 : V) : execK G ir_depend_reader_bit.rv ir_depend_reader_bit.body [] [] (params 0 [t0]) = f_depend_reader_bit G t0 := by kernel_rfl

theorem tb_depend_reader_bit : T fn_depend_reader_bit = some ir_depend_reader_bit := by kernel_rfl

theorem ok_depend_reader_bit {t0 : V} {H : Heap} {Q : V → Heap → Prop} (h : Ok (f_depend_reader_bit (sem T) t0) H fun r H' => ∃ L, r = .ret L ∧ Q (tupled L) H') : Ok (sem T fn_depend_reader_bit [t0]) H Q :=
  ok_sem tb_depend_reader_bit (Nat.le_of_ble_eq_true (by kernel_rfl)) (eq_depend_reader_bit (sem T) t0) h

noncomputable def ir_depend_reader_num : Fn' := irOf fn_depend_reader_num
noncomputable def f_depend_reader_num (G : Sem') (t0 t1 : V) : M Res :=
 (M.lift (Ax.nilck t0)).bind fun t8 =>
 (M.lift (Ax.faddr 1 t8)).bind fun t9 =>
 (mload none t9).bind fun t10 =>
 (M.lift (Ax.bin .neq t10 (V.int .i64 0))).bind fun t11 =>
 M.ite t11
 (M.pure (.ret [(V.int .i64 0)]))
 ((M.lift (Ax.nilck t0)).bind fun t14 =>
 (M.lift (Ax.faddr 0 t14)).bind fun t15 =>
 (mload none t15).bind fun t16 =>
 (G fn_bits_Reader_Take [t16, t1]).bind fun t18 =>
 (M.lift (Ax.ext 0 t18)).bind fun t19 =>
 (M.lift (Ax.ext 1 t18)).bind fun t20 =>
 (M.lift (Ax.nilck t0)).bind fun t23 =>
 (M.lift (Ax.faddr 1 t23)).bind fun t24 =>
 (mstore 1 t24 t20).bind fun _ =>
 (M.lift (Ax.cint .i64 t19)).bind fun t26 =>
 M.pure (.ret [t26]))

theorem eq_depend_reader_num (G : Sem') (t0 t1 : V) : execK G ir_depend_reader_num.rv ir_depend_reader_num.body [] [] (params 0 [t0, t1]) = f_depend_reader_num G t0 t1 := by kernel_rfl

theorem tb_depend_reader_num : T fn_depend_reader_num = some ir_depend_reader_num := by kernel_rfl

theorem ok_depend_reader_num {t0 t1 : V} {H : Heap} {Q : V → Heap → Prop} (h : Ok (f_depend_reader_num (sem T) t0 t1) H fun r H' => ∃ L, r = .ret L ∧ Q (tupled L) H') : Ok (sem T fn_depend_reader_num [t0, t1]) H Q :=
  ok_sem tb_depend_reader_num (Nat.le_of_ble_eq_true (by kernel_rfl)) (eq_depend_reader_num (sem T) t0 t1) h

noncomputable def ir_bits_Reader_Take : Fn' := irOf fn_bits_Reader_Take
noncomputable def f_bits_Reader_Take_0 (G : Sem') (t19 t0 : V) (L : List V) : M Res :=
 (M.lift (Ax.bin .lss (L.getD 1 .undef) t19)).bind fun t21 =>
 M.ite t21
 (M.blk 2 (
 (M.lift (Ax.bin .shl (L.getD 0 .undef) (V.int .u64 1))).bind fun t23 =>
 (M.lift (Ax.nilck t0)).bind fun t25 =>
 (M.lift (Ax.faddr 0 t25)).bind fun t26 =>
 (mload none t26).bind fun t27 =>
 (M.lift (Ax.nilck t0)).bind fun t29 =>
 (M.lift (Ax.faddr 1 t29)).bind fun t30 =>
 (mload none t30).bind fun t31 =>
 (M.lift (Ax.bin .quo t31 (V.int .i64 8))).bind fun t32 =>
 (M.lift (Ax.iaddr none 1 t27 t32)).bind fun t33 =>
 (mload none t33).bind fun t34 =>
 (M.lift (Ax.nilck t0)).bind fun t36 =>
 (M.lift (Ax.faddr 1 t36)).bind fun t37 =>
 (mload none t37).bind fun t38 =>
 (M.lift (Ax.bin .rem t38 (V.int .i64 8))).bind fun t39 =>
 (M.lift (Ax.bin .sub (V.int .i64 7) t39)).bind fun t40 =>
 (M.lift (Ax.bin .shr t34 t40)).bind fun t41 =>
 (M.lift (Ax.bin .and t41 (V.int .u8 1))).bind fun t42 =>
 (M.lift (Ax.cint .u64 t42)).bind fun t43 =>
 (M.lift (Ax.bin .or t23 t43)).bind fun t44 =>
 (M.lift (Ax.nilck t0)).bind fun t46 =>
 (M.lift (Ax.faddr 1 t46)).bind fun t47 =>
 (mload none t47).bind fun t48 =>
 (M.lift (Ax.bin .add t48 (V.int .i64 1))).bind fun t49 =>
 (M.lift (Ax.nilck t0)).bind fun t50 =>
 (M.lift (Ax.faddr 1 t50)).bind fun t51 =>
 (mstore 1 t51 t49).bind fun _ =>
 M.pure (.nrm [t44])) fun L1 =>
 (M.lift (Ax.bin .add (L.getD 1 .undef) (V.int .i64 1))).bind fun t52 =>
 M.pure (.nrm [(L1.getD 0 .undef), t52]))
 (M.pure (.ex 1 [(L.getD 0 .undef)]))

noncomputable def f_bits_Reader_Take (G : Sem') (t0 t1 : V) : M Res :=
 M.blk 0 (
 (M.lift (Ax.bin .lss t1 (V.int .i64 0))).bind fun t9 =>
 (guarded [(0, t9)] (some (0, false)) (M.pure t1)).bind fun t11 =>
 (guarded [(0, t9)] (some (0, false)) (M.lift (Ax.bin .gtr t11 (V.int .i64 64)))).bind fun t12 =>
 (M.lift (Ax.pick t9 (V.bool true) t12)).bind fun t13 =>
 M.ite t13
 (M.pure (.ret [(V.int .u64 0), (V.int .i64 1)]))
 ((G fn_bits_Reader_Left [t0]).bind fun t17 =>
 (M.lift (Ax.bin .gtr t1 t17)).bind fun t18 =>
 M.ite t18
 (M.pure (.ret [(V.int .u64 0), (V.int .i64 3)]))
 (M.pure (.nrm [])))) fun _ =>
 M.blk 1 (
 M.iter (f_bits_Reader_Take_0 G t1 t0) [(V.int .u64 0), (V.int .i64 0)]) fun L2 =>
 M.pure (.ret [(L2.getD 0 .undef), (V.int .i64 0)])

theorem eq_bits_Reader_Take (G : Sem') (t0 t1 : V) : execK G ir_bits_Reader_Take.rv ir_bits_Reader_Take.body [] [] (params 0 [t0, t1]) = f_bits_Reader_Take G t0 t1 := by kernel_rfl

theorem tb_bits_Reader_Take : T fn_bits_Reader_Take = some ir_bits_Reader_Take := by kernel_rfl

theorem ok_bits_Reader_Take {t0 t1 : V} {H : Heap} {Q : V → Heap → Prop} (h : Ok (f_bits_Reader_Take (sem T) t0 t1) H fun r H' => ∃ L, r = .ret L ∧ Q (tupled L) H') : Ok (sem T fn_bits_Reader_Take [t0, t1]) H Q :=
  ok_sem tb_bits_Reader_Take (Nat.le_of_ble_eq_true (by kernel_rfl)) (eq_bits_Reader_Take (sem T) t0 t1) h

noncomputable def ir_bits_Reader_Left : Fn' := irOf fn_bits_Reader_Left
noncomputable def f_bits_Reader_Left (G : Sem') (t0 : V) : M Res :=
 (M.lift (Ax.nilck t0)).bind fun t4 =>
 (M.lift (Ax.faddr 0 t4)).bind fun t5 =>
 (mload none t5).bind fun t6 =>
 (M.lift (vlen t6)).bind fun t7 =>
 (M.lift (Ax.bin .mul (V.int .i64 8) t7)).bind fun t8 =>
 (M.lift (Ax.nilck t0)).bind fun t10 =>
 (M.lift (Ax.faddr 1 t10)).bind fun t11 =>
 (mload none t11).bind fun t12 =>
 (M.lift (Ax.bin .sub t8 t12)).bind fun t13 =>
 M.pure (.ret [t13])

theorem eq_bits_Reader_Left (G : Sem') (t0 : V) : execK G ir_bits_Reader_Left.rv ir_bits_Reader_Left.body [] [] (params 0 [t0]) = f_bits_Reader_Left G t0 := by kernel_rfl

theorem tb_bits_Reader_Left : T fn_bits_Reader_Left = some ir_bits_Reader_Left := by kernel_rfl

theorem ok_bits_Reader_Left {t0 : V} {H : Heap} {Q : V → Heap → Prop} (h : Ok (f_bits_Reader_Left (sem T) t0) H fun r H' => ∃ L, r = .ret L ∧ Q (tupled L) H') : Ok (sem T fn_bits_Reader_Left [t0]) H Q :=
  ok_sem tb_bits_Reader_Left (Nat.le_of_ble_eq_true (by kernel_rfl)) (eq_bits_Reader_Left (sem T) t0) h

noncomputable def ir_depend_reader_structure : Fn' := irOf fn_depend_reader_structure
noncomputable def f_depend_reader_structure_0 (G : Sem') (t18 t0 t3 t2 : V) (L : List V) : M Res :=
 (M.lift (Ax.bin .lss (L.getD 0 .undef) t18)).bind fun t20 =>
 M.ite t20
 (M.blk 1 (
 (M.lift (Ax.faddr 2 t3)).bind fun t22 =>
 (mload none t22).bind fun t23 =>
 (M.lift (Ax.faddr 1 t3)).bind fun t26 =>
 (mload none t26).bind fun t27 =>
 M.getH.bind fun h0 =>
 (G fn_depend_reader_nums [t0, t27, (V.int .i64 2)]).bind fun t28 =>
 M.getH.bind fun h0' =>
 (M.unch t22 h0 h0').bind fun _ =>
 (M.lift (Ax.iaddr none 5 t23 (L.getD 0 .undef))).bind fun t29 =>
 (M.lift (Ax.faddr 2 t29)).bind fun t30 =>
 (mstore 1 t30 t28).bind fun _ =>
 M.pure (.nrm [])) fun _ =>
 (M.lift (Ax.bin .add (L.getD 0 .undef) (V.int .i64 1))).bind fun t31 =>
 M.pure (.nrm [t31]))
 (M.pure (.ex 0 []))

noncomputable def f_depend_reader_structure_1 (G : Sem') (t34 t3 t0 t2 : V) (L : List V) : M Res :=
 (M.lift (Ax.bin .lss (L.getD 0 .undef) t34)).bind fun t36 =>
 M.ite t36
 (M.blk 3 (
 (M.lift (Ax.faddr 2 t3)).bind fun t38 =>
 (mload none t38).bind fun t39 =>
 M.getH.bind fun h1 =>
 (G fn_depend_reader_diffs [t0]).bind fun t42 =>
 M.getH.bind fun h1' =>
 (M.unch t38 h1 h1').bind fun _ =>
 (M.lift (Ax.iaddr none 5 t39 (L.getD 0 .undef))).bind fun t43 =>
 (M.lift (Ax.faddr 3 t43)).bind fun t44 =>
 (mstore 1 t44 t42).bind fun _ =>
 M.pure (.nrm [])) fun _ =>
 (M.lift (Ax.bin .add (L.getD 0 .undef) (V.int .i64 1))).bind fun t45 =>
 M.pure (.nrm [t45]))
 (M.pure (.ex 2 []))

noncomputable def f_depend_reader_structure_2 (G : Sem') (t56 t0 t3 t2 : V) (L : List V) : M Res :=
 (M.lift (Ax.bin .lss (L.getD 0 .undef) t56)).bind fun t58 =>
 M.ite t58
 (M.blk 5 (
 (M.lift (Ax.faddr 4 t3)).bind fun t59 =>
 (mload none t59).bind fun t60 =>
 (M.lift (Ax.faddr 3 t3)).bind fun t62 =>
 (mload none t62).bind fun t63 =>
 M.getH.bind fun h2 =>
 (G fn_depend_reader_ns [t0, t63]).bind fun t64 =>
 M.getH.bind fun h2' =>
 (M.unch t59 h2 h2').bind fun _ =>
 (mslit ty_int 1 [(V.int .i64 0)] [(0, 1, t64)]).bind fun t65 =>
 (mappend ty_int 1 8 t60 t65).bind fun t66 =>
 (M.lift (Ax.faddr 4 t3)).bind fun t67 =>
 (mstore 1 t67 t66).bind fun _ =>
 M.pure (.nrm [])) fun _ =>
 (M.lift (Ax.bin .add (L.getD 0 .undef) (V.int .i64 1))).bind fun t68 =>
 M.pure (.nrm [t68]))
 (M.pure (.ex 4 []))

noncomputable def f_depend_reader_structure_3 (G : Sem') (t71 t0 t3 t2 : V) (L : List V) : M Res :=
 (M.lift (Ax.bin .lss (L.getD 0 .undef) t71)).bind fun t73 =>
 M.ite t73
 (M.blk 7 (
 (M.lift (Ax.faddr 2 t3)).bind fun t75 =>
 (mload none t75).bind fun t76 =>
 (M.lift (Ax.faddr 3 t3)).bind fun t79 =>
 (mload none t79).bind fun t80 =>
 M.getH.bind fun h3 =>
 (G fn_depend_reader_nums [t0, t80, (V.int .i64 4)]).bind fun t81 =>
 M.getH.bind fun h3' =>
 (M.unch t75 h3 h3').bind fun _ =>
 (M.lift (Ax.iaddr none 5 t76 (L.getD 0 .undef))).bind fun t82 =>
 (M.lift (Ax.faddr 4 t82)).bind fun t83 =>
 (mstore 1 t83 t81).bind fun _ =>
 M.pure (.nrm [])) fun _ =>
 (M.lift (Ax.bin .add (L.getD 0 .undef) (V.int .i64 1))).bind fun t84 =>
 M.pure (.nrm [t84]))
 (M.pure (.ex 6 []))

noncomputable def f_depend_reader_structure_4 (G : Sem') (t88 t0 t3 t2 : V) (L : List V) : M Res :=
 (M.lift (Ax.bin .lss (L.getD 0 .undef) t88)).bind fun t90 =>
 M.ite t90
 (M.blk 9 (
 (M.lift (Ax.faddr 5 t3)).bind fun t91 =>
 (mload none t91).bind fun t92 =>
 M.getH.bind fun h4 =>
 (G fn_depend_reader_num [t0, (V.int .i64 16)]).bind fun t94 =>
 M.getH.bind fun h4' =>
 (M.unch t91 h4 h4').bind fun _ =>
 M.getH.bind fun h5 =>
 (G fn_depend_reader_num [t0, (V.int .i64 16)]).bind fun t97 =>
 M.getH.bind fun h5' =>
 (M.unch t91 h5 h5').bind fun _ =>
 (M.lift (Ax.bin .add t94 (V.int .i64 1))).bind fun t95 =>
 (M.lift (Ax.bin .add t97 (V.int .i64 1))).bind fun t98 =>
 (M.lift (Ax.build [(V.int .i64 0), (V.int .i64 0)] [(0, 1, t95), (1, 1, t98)])).bind fun t99 =>
 (mslit ty_2_int 1 [(V.int .i64 0), (V.int .i64 0)] [(0, 2, t99)]).bind fun t100 =>
 (mappend ty_2_int 2 16 t92 t100).bind fun t101 =>
 (M.lift (Ax.faddr 5 t3)).bind fun t102 =>
 (mstore 1 t102 t101).bind fun _ =>
 M.pure (.nrm [])) fun _ =>
 (M.lift (Ax.bin .add (L.getD 0 .undef) (V.int .i64 1))).bind fun t103 =>
 M.pure (.nrm [t103]))
 (M.pure (.ex 8 []))

noncomputable def f_depend_reader_structure (G : Sem') (t0 : V) : M Res :=
 (mbox ty_depend_Structure (V.agg [(V.int .i64 0), (V.int .i64 0), V.nils, (V.int .i64 0), V.nils, V.nils])).bind fun t2 =>
 (G fn_depend_reader_num [t0, (V.int .i64 6)]).bind fun t8 =>
 (G fn_depend_reader_num [t0, (V.int .i64 5)]).bind fun t10 =>
 (M.lift (Ax.bin .add t10 (V.int .i64 1))).bind fun t11 =>
 (M.lift (Ax.build [(V.int .i64 0), (V.int .i64 0), V.nils, (V.int .i64 0), V.nils, V.nils] [(0, 1, t8), (1, 1, t11)])).bind fun t12 =>
 (mbox ty_depend_Structure (V.agg [(V.int .i64 0), (V.int .i64 0), V.nils, (V.int .i64 0), V.nils, V.nils])).bind fun t3 =>
 (mstore 6 t3 t12).bind fun _ =>
 (G fn_depend_reader_templates [t0]).bind fun t14 =>
 (M.lift (Ax.faddr 2 t3)).bind fun t15 =>
 (mstore 1 t15 t14).bind fun _ =>
 (M.lift (Ax.faddr 2 t3)).bind fun t16 =>
 (mload none t16).bind fun t17 =>
 (M.lift (vlen t17)).bind fun t18 =>
 M.blk 0 (
 M.iter (f_depend_reader_structure_0 G t18 t0 t3 t2) [(V.int .i64 0)]) fun _ =>
 (M.lift (Ax.faddr 2 t3)).bind fun t32 =>
 (mload none t32).bind fun t33 =>
 (M.lift (vlen t33)).bind fun t34 =>
 M.blk 2 (
 M.iter (f_depend_reader_structure_1 G t34 t3 t0 t2) [(V.int .i64 0)]) fun _ =>
 (M.lift (Ax.faddr 1 t3)).bind fun t47 =>
 (mload none t47).bind fun t48 =>
 (M.lift (Ax.bin .add t48 (V.int .i64 1))).bind fun t49 =>
 (G fn_depend_reader_ns [t0, t49]).bind fun t50 =>
 (M.lift (Ax.faddr 3 t3)).bind fun t51 =>
 (mstore 1 t51 t50).bind fun _ =>
 (M.lift (Ax.faddr 3 t3)).bind fun t52 =>
 (mload none t52).bind fun t53 =>
 (M.lift (Ax.bin .gtr t53 (V.int .i64 0))).bind fun t54 =>
 M.join (M.ite t54
 ((M.lift (Ax.faddr 1 t3)).bind fun t55 =>
 (mload none t55).bind fun t56 =>
 M.blk 4 (
 M.iter (f_depend_reader_structure_2 G t56 t0 t3 t2) [(V.int .i64 0)]) fun _ =>
 (M.lift (Ax.faddr 2 t3)).bind fun t69 =>
 (mload none t69).bind fun t70 =>
 (M.lift (vlen t70)).bind fun t71 =>
 M.blk 6 (
 M.iter (f_depend_reader_structure_3 G t71 t0 t3 t2) [(V.int .i64 0)]) fun _ =>
 M.pure (.nrm []))
 (M.pure (.nrm []))) fun _ =>
 (G fn_depend_reader_bit [t0]).bind fun t86 =>
 M.join (M.ite t86
 ((mload (some 6) t3).bind fun t87 =>
 (G fn_depend_spatial [t87]).bind fun t88 =>
 M.blk 8 (
 M.iter (f_depend_reader_structure_4 G t88 t0 t3 t2) [(V.int .i64 0)]) fun _ =>
 M.pure (.nrm []))
 (M.pure (.nrm []))) fun _ =>
 (mload (some 6) t3).bind fun t104 =>
 (mstore 6 t2 t104).bind fun _ =>
 (mload (some 6) t2).bind fun r0 =>
 M.pure (.ret [r0])

theorem eq_depend_reader_structure (G : Sem') (t0 : V) : execK G ir_depend_reader_structure.rv ir_depend_reader_structure.body [] [] (params 0 [t0]) = f_depend_reader_structure G t0 := by kernel_rfl

theorem tb_depend_reader_structure : T fn_depend_reader_structure = some ir_depend_reader_structure := by kernel_rfl

theorem ok_depend_reader_structure {t0 : V} {H : Heap} {Q : V → Heap → Prop} (h : Ok (f_depend_reader_structure (sem T) t0) H fun r H' => ∃ L, r = .ret L ∧ Q (tupled L) H') : Ok (sem T fn_depend_reader_structure [t0]) H Q :=
  ok_sem tb_depend_reader_structure (Nat.le_of_ble_eq_true (by kernel_rfl)) (eq_depend_reader_structure (sem T) t0) h

noncomputable def ir_depend_reader_templates : Fn' := irOf fn_depend_reader_templates
noncomputable def f_depend_reader_templates_0 (G : Sem') (t0 : V) (L : List V) : M Res :=
 (M.lift (Ax.nilck t0)).bind fun t8 =>
 (M.lift (Ax.faddr 1 t8)).bind fun t9 =>
 (mload none t9).bind fun t10 =>
 (M.lift (Ax.bin .eql t10 (V.int .i64 0))).bind fun t11 =>
 M.ite t11
 (M.blk 1 (
 (M.lift (vlen (L.getD 0 .undef))).bind fun t14 =>
 (M.lift (Ax.bin .sub t14 (V.int .i64 1))).bind fun t15 =>
 (M.lift (Ax.iaddr none 5 (L.getD 0 .undef) t15)).bind fun t16 =>
 (M.lift (Ax.faddr 0 t16)).bind fun t17 =>
 (mload none t17).bind fun t18 =>
 (M.lift (vlen (L.getD 0 .undef))).bind fun t21 =>
 (M.lift (Ax.bin .sub t21 (V.int .i64 1))).bind fun t22 =>
 (M.lift (Ax.iaddr none 5 (L.getD 0 .undef) t22)).bind fun t23 =>
 (M.lift (Ax.faddr 1 t23)).bind fun t24 =>
 (mload none t24).bind fun t25 =>
 (M.lift (Ax.build [(V.int .i64 0), (V.int .i64 0), V.nils, V.nils, V.nils] [(0, 1, t18), (1, 1, t25)])).bind fun t26 =>
 (mbox ty_depend_Template (V.agg [(V.int .i64 0), (V.int .i64 0), V.nils, V.nils, V.nils])).bind fun t4 =>
 (mstore 5 t4 t26).bind fun _ =>
 (G fn_depend_reader_num [t0, (V.int .i64 2)]).bind fun t28 =>
 M.blk 2 (
 (M.lift (Ax.bin .eql t28 (V.int .i64 3))).bind fun t30 =>
 M.ite t30
 (M.pure (.ret [(L.getD 0 .undef)]))
 ((M.lift (Ax.bin .eql t28 (V.int .i64 1))).bind fun t33 =>
 M.join (M.ite t33
 ((M.lift (Ax.faddr 1 t4)).bind fun t34 =>
 (mload none t34).bind fun t35 =>
 (M.lift (Ax.bin .add t35 (V.int .i64 1))).bind fun t36 =>
 (M.lift (Ax.faddr 1 t4)).bind fun t37 =>
 (mstore 1 t37 t36).bind fun _ =>
 M.pure (.nrm []))
 ((M.lift (Ax.bin .eql t28 (V.int .i64 2))).bind fun t39 =>
 M.join (M.ite t39
 ((M.lift (Ax.faddr 0 t4)).bind fun t40 =>
 (mload none t40).bind fun t41 =>
 (M.lift (Ax.bin .add t41 (V.int .i64 1))).bind fun t42 =>
 (M.lift (Ax.faddr 0 t4)).bind fun t43 =>
 (mstore 1 t43 t42).bind fun _ =>
 (M.lift (Ax.faddr 1 t4)).bind fun t44 =>
 (mstore 1 t44 (V.int .i64 0)).bind fun _ =>
 M.pure (.nrm []))
 (M.pure (.nrm []))) fun _ =>
 M.pure (.nrm []))) fun _ =>
 M.pure (.nrm []))) fun _ =>
 (M.lift (Ax.faddr 0 t4)).bind fun t45 =>
 (mload none t45).bind fun t46 =>
 (M.lift (Ax.bin .gtr t46 (V.int .i64 3))).bind fun t47 =>
 (guarded [(0, t47)] (some (0, false)) (M.lift (Ax.faddr 1 t4))).bind fun t49 =>
 (guarded [(0, t47)] (some (0, false)) (mload none t49)).bind fun t50 =>
 (guarded [(0, t47)] (some (0, false)) (M.lift (Ax.bin .gtr t50 (V.int .i64 7)))).bind fun t51 =>
 (M.lift (Ax.pick t47 (V.bool true) t51)).bind fun t52 =>
 (guarded [(0, t52)] (some (0, false)) (M.pure (L.getD 0 .undef))).bind fun t54 =>
 (guarded [(0, t52)] (some (0, false)) (M.lift (vlen t54))).bind fun t55 =>
 (guarded [(0, t52)] (some (0, false)) (M.lift (Ax.bin .geq t55 (V.int .i64 64)))).bind fun t56 =>
 (M.lift (Ax.pick t52 (V.bool true) t56)).bind fun t57 =>
 M.join (M.ite t57
 ((G fn_depend_reader_fail [t0, (V.int .i64 2)]).bind fun t59 =>
 M.pure (.nrm []))
 (M.pure (.nrm []))) fun _ =>
 (mload (some 5) t4).bind fun t61 =>
 (mslit ty_depend_Template 1 [(V.int .i64 0), (V.int .i64 0), V.nils, V.nils, V.nils] [(0, 5, t61)]).bind fun t62 =>
 (mappend ty_depend_Template 5 88 (L.getD 0 .undef) t62).bind fun t63 =>
 M.pure (.nrm [t63])) fun L4 =>
 M.pure (.nrm [(L4.getD 0 .undef)]))
 (M.pure (.ex 0 [(L.getD 0 .undef)]))

noncomputable def f_depend_reader_templates (G : Sem') (t0 : V) : M Res :=
 (M.lift (Ax.build [(V.int .i64 0), (V.int .i64 0), V.nils, V.nils, V.nils] [])).bind fun t5 =>
 (mslit ty_depend_Template 1 [(V.int .i64 0), (V.int .i64 0), V.nils, V.nils, V.nils] [(0, 5, t5)]).bind fun t6 =>
 M.blk 0 (
 M.iter (f_depend_reader_templates_0 G t0) [t6]) fun L5 =>
 M.pure (.ret [(L5.getD 0 .undef)])

theorem eq_depend_reader_templates (G : Sem') (t0 : V) : execK G ir_depend_reader_templates.rv ir_depend_reader_templates.body [] [] (params 0 [t0]) = f_depend_reader_templates G t0 := by kernel_rfl

theorem tb_depend_reader_templates : T fn_depend_reader_templates = some ir_depend_reader_templates := by kernel_rfl

theorem ok_depend_reader_templates {t0 : V} {H : Heap} {Q : V → Heap → Prop} (h : Ok (f_depend_reader_templates (sem T) t0) H fun r H' => ∃ L, r = .ret L ∧ Q (tupled L) H') : Ok (sem T fn_depend_reader_templates [t0]) H Q :=
  ok_sem tb_depend_reader_templates (Nat.le_of_ble_eq_true (by kernel_rfl)) (eq_depend_reader_templates (sem T) t0) h

noncomputable def ir_depend_reader_fail : Fn' := irOf fn_depend_reader_fail
noncomputable def f_depend_reader_fail (G : Sem') (t0 t1 : V) : M Res :=
 (M.lift (Ax.nilck t0)).bind fun t5 =>
 (M.lift (Ax.faddr 1 t5)).bind fun t6 =>
 (mload none t6).bind fun t7 =>
 (M.lift (Ax.bin .eql t7 (V.int .i64 0))).bind fun t8 =>
 M.join (M.ite t8
 ((M.lift (Ax.nilck t0)).bind fun t11 =>
 (M.lift (Ax.faddr 1 t11)).bind fun t12 =>
 (mstore 1 t12 t1).bind fun _ =>
 M.pure (.nrm []))
 (M.pure (.nrm []))) fun _ =>
 M.pure (.ret [])

theorem eq_depend_reader_fail (G : Sem') (t0 t1 : V) : execK G ir_depend_reader_fail.rv ir_depend_reader_fail.body [] [] (params 0 [t0, t1]) = f_depend_reader_fail G t0 t1 := by kernel_rfl

theorem tb_depend_reader_fail : T fn_depend_reader_fail = some ir_depend_reader_fail := by kernel_rfl

theorem ok_depend_reader_fail {t0 t1 : V} {H : Heap} {Q : V → Heap → Prop} (h : Ok (f_depend_reader_fail (sem T) t0 t1) H fun r H' => ∃ L, r = .ret L ∧ Q (tupled L) H') : Ok (sem T fn_depend_reader_fail [t0, t1]) H Q :=
  ok_sem tb_depend_reader_fail (Nat.le_of_ble_eq_true (by kernel_rfl)) (eq_depend_reader_fail (sem T) t0 t1) h

noncomputable def ir_depend_reader_nums : Fn' := irOf fn_depend_reader_nums
noncomputable def f_depend_reader_nums_0 (G : Sem') (t8 t0 t2 t6 : V) (L : List V) : M Res :=
 (M.lift (Ax.bin .lss (L.getD 1 .undef) t8)).bind fun t10 =>
 M.ite t10
 (M.blk 1 (
 (G fn_depend_reader_num [t0, t2]).bind fun t14 =>
 (mslit ty_int 1 [(V.int .i64 0)] [(0, 1, t14)]).bind fun t15 =>
 (mappend ty_int 1 8 (L.getD 0 .undef) t15).bind fun t16 =>
 M.pure (.nrm [t16])) fun L0 =>
 (M.lift (Ax.bin .add (L.getD 1 .undef) (V.int .i64 1))).bind fun t17 =>
 M.pure (.nrm [(L0.getD 0 .undef), t17]))
 (M.pure (.ex 0 [(L.getD 0 .undef)]))

noncomputable def f_depend_reader_nums (G : Sem') (t0 t1 t2 : V) : M Res :=
 M.blk 0 (
 M.iter (f_depend_reader_nums_0 G t1 t0 t2 V.nils) [V.nils, (V.int .i64 0)]) fun L1 =>
 M.pure (.ret [(L1.getD 0 .undef)])

theorem eq_depend_reader_nums (G : Sem') (t0 t1 t2 : V) : execK G ir_depend_reader_nums.rv ir_depend_reader_nums.body [] [] (params 0 [t0, t1, t2]) = f_depend_reader_nums G t0 t1 t2 := by kernel_rfl

theorem tb_depend_reader_nums : T fn_depend_reader_nums = some ir_depend_reader_nums := by kernel_rfl

theorem ok_depend_reader_nums {t0 t1 t2 : V} {H : Heap} {Q : V → Heap → Prop} (h : Ok (f_depend_reader_nums (sem T) t0 t1 t2) H fun r H' => ∃ L, r = .ret L ∧ Q (tupled L) H') : Ok (sem T fn_depend_reader_nums [t0, t1, t2]) H Q :=
  ok_sem tb_depend_reader_nums (Nat.le_of_ble_eq_true (by kernel_rfl)) (eq_depend_reader_nums (sem T) t0 t1 t2) h

noncomputable def ir_depend_reader_diffs : Fn' := irOf fn_depend_reader_diffs
noncomputable def f_depend_reader_diffs_0 (G : Sem') (t0 : V) (L : List V) : M Res :=
 (G fn_depend_reader_bit [t0]).bind fun t5 =>
 M.ite t5
 (M.blk 1 (
 (M.lift (vlen (L.getD 0 .undef))).bind fun t7 =>
 (M.lift (Ax.bin .geq t7 (V.int .i64 8))).bind fun t8 =>
 M.ite t8
 ((G fn_depend_reader_fail [t0, (V.int .i64 4)]).bind fun t10 =>
 M.pure (.ret [V.nils]))
 ((G fn_depend_reader_num [t0, (V.int .i64 4)]).bind fun t13 =>
 (M.lift (Ax.bin .add t13 (V.int .i64 1))).bind fun t14 =>
 (mslit ty_int 1 [(V.int .i64 0)] [(0, 1, t14)]).bind fun t15 =>
 (mappend ty_int 1 8 (L.getD 0 .undef) t15).bind fun t16 =>
 M.pure (.nrm [t16]))) fun L0 =>
 M.pure (.nrm [(L0.getD 0 .undef)]))
 (M.pure (.ex 0 [(L.getD 0 .undef)]))

noncomputable def f_depend_reader_diffs (G : Sem') (t0 : V) : M Res :=
 M.blk 0 (
 M.iter (f_depend_reader_diffs_0 G t0) [V.nils]) fun L1 =>
 M.pure (.ret [(L1.getD 0 .undef)])

theorem eq_depend_reader_diffs (G : Sem') (t0 : V) : execK G ir_depend_reader_diffs.rv ir_depend_reader_diffs.body [] [] (params 0 [t0]) = f_depend_reader_diffs G t0 := by kernel_rfl

theorem tb_depend_reader_diffs : T fn_depend_reader_diffs = some ir_depend_reader_diffs := by kernel_rfl

theorem ok_depend_reader_diffs {t0 : V} {H : Heap} {Q : V → Heap → Prop} (h : Ok (f_depend_reader_diffs (sem T) t0) H fun r H' => ∃ L, r = .ret L ∧ Q (tupled L) H') : Ok (sem T fn_depend_reader_diffs [t0]) H Q :=
  ok_sem tb_depend_reader_diffs (Nat.le_of_ble_eq_true (by kernel_rfl)) (eq_depend_reader_diffs (sem T) t0) h

noncomputable def ir_depend_reader_ns : Fn' := irOf fn_depend_reader_ns
noncomputable def f_depend_reader_ns (G : Sem') (t0 t1 : V) : M Res :=
 (M.lift (Ax.nilck t0)).bind fun t8 =>
 (M.lift (Ax.faddr 1 t8)).bind fun t9 =>
 (mload none t9).bind fun t10 =>
 (M.lift (Ax.bin .neq t10 (V.int .i64 0))).bind fun t11 =>
 M.ite t11
 (M.pure (.ret [(V.int .i64 0)]))
 ((M.lift (Ax.nilck t0)).bind fun t14 =>
 (M.lift (Ax.faddr 0 t14)).bind fun t15 =>
 (mload none t15).bind fun t16 =>
 (M.lift (Ax.cint .u64 t1)).bind fun t18 =>
 (G fn_bits_Reader_TakeNS [t16, t18]).bind fun t19 =>
 (M.lift (Ax.ext 0 t19)).bind fun t20 =>
 (M.lift (Ax.ext 1 t19)).bind fun t21 =>
 (M.lift (Ax.nilck t0)).bind fun t24 =>
 (M.lift (Ax.faddr 1 t24)).bind fun t25 =>
 (mstore 1 t25 t21).bind fun _ =>
 (M.lift (Ax.cint .i64 t20)).bind fun t27 =>
 M.pure (.ret [t27]))

theorem eq_depend_reader_ns (G : Sem') (t0 t1 : V) : execK G ir_depend_reader_ns.rv ir_depend_reader_ns.body [] [] (params 0 [t0, t1]) = f_depend_reader_ns G t0 t1 := by kernel_rfl

theorem tb_depend_reader_ns : T fn_depend_reader_ns = some ir_depend_reader_ns := by kernel_rfl

theorem ok_depend_reader_ns {t0 t1 : V} {H : Heap} {Q : V → Heap → Prop} (h : Ok (f_depend_reader_ns (sem T) t0 t1) H fun r H' => ∃ L, r = .ret L ∧ Q (tupled L) H') : Ok (sem T fn_depend_reader_ns [t0, t1]) H Q :=
  ok_sem tb_depend_reader_ns (Nat.le_of_ble_eq_true (by kernel_rfl)) (eq_depend_reader_ns (sem T) t0 t1) h

noncomputable def ir_bits_Reader_TakeNS : Fn' := irOf fn_bits_Reader_TakeNS
noncomputable def f_bits_Reader_TakeNS (G : Sem') (t0 t1 : V) : M Res :=
 (M.lift (Ax.bin .lss t1 (V.int .u64 1))).bind fun t13 =>
 (guarded [(0, t13)] (some (0, false)) (M.pure t1)).bind fun t15 =>
 (guarded [(0, t13)] (some (0, false)) (M.lift (Ax.bin .gtr t15 (V.int .u64 4294967296)))).bind fun t16 =>
 (M.lift (Ax.pick t13 (V.bool true) t16)).bind fun t17 =>
 M.ite t17
 (M.pure (.ret [(V.int .u64 0), (V.int .i64 1)]))
 ((M.lift (Ax.nilck t0)).bind fun t19 =>
 (M.lift (Ax.faddr 1 t19)).bind fun t20 =>
 (mload none t20).bind fun t21 =>
 (G fn_bits_short [t1]).bind fun t24 =>
 (M.lift (Ax.ext 0 t24)).bind fun t25 =>
 (M.lift (Ax.ext 1 t24)).bind fun t26 =>
 (M.lift (Ax.bin .sub t25 (V.int .i64 1))).bind fun t30 =>
 (G fn_bits_Reader_Take [t0, t30]).bind fun t31 =>
 (M.lift (Ax.ext 0 t31)).bind fun t32 =>
 (M.lift (Ax.ext 1 t31)).bind fun t33 =>
 (M.lift (Ax.bin .neq t33 (V.int .i64 0))).bind fun t35 =>
 (guarded [(0, t35)] (some (0, false)) (M.pure t32)).bind fun t37 =>
 (guarded [(0, t35)] (some (0, false)) (M.pure t26)).bind fun t38 =>
 (guarded [(0, t35)] (some (0, false)) (M.lift (Ax.bin .lss t37 t38))).bind fun t39 =>
 (M.lift (Ax.pick t35 (V.bool true) t39)).bind fun t40 =>
 M.ite t40
 (M.pure (.ret [t32, t33]))
 ((G fn_bits_Reader_Take [t0, (V.int .i64 1)]).bind fun t45 =>
 (M.lift (Ax.ext 0 t45)).bind fun t46 =>
 (M.lift (Ax.ext 1 t45)).bind fun t47 =>
 (M.lift (Ax.bin .neq t47 (V.int .i64 0))).bind fun t49 =>
 M.ite t49
 ((M.lift (Ax.nilck t0)).bind fun t52 =>
 (M.lift (Ax.faddr 1 t52)).bind fun t53 =>
 (mstore 1 t53 t21).bind fun _ =>
 M.pure (.ret [(V.int .u64 0), t47]))
 ((M.lift (Ax.bin .shl t32 (V.int .u64 1))).bind fun t56 =>
 (M.lift (Ax.bin .add t56 t46)).bind fun t58 =>
 (M.lift (Ax.bin .sub t58 t26)).bind fun t60 =>
 M.pure (.ret [t60, (V.int .i64 0)]))))

theorem eq_bits_Reader_TakeNS (G : Sem') (t0 t1 : V) : execK G ir_bits_Reader_TakeNS.rv ir_bits_Reader_TakeNS.body [] [] (params 0 [t0, t1]) = f_bits_Reader_TakeNS G t0 t1 := by kernel_rfl

theorem tb_bits_Reader_TakeNS : T fn_bits_Reader_TakeNS = some ir_bits_Reader_TakeNS := by kernel_rfl

theorem ok_bits_Reader_TakeNS {t0 t1 : V} {H : Heap} {Q : V → Heap → Prop} (h : Ok (f_bits_Reader_TakeNS (sem T) t0 t1) H fun r H' => ∃ L, r = .ret L ∧ Q (tupled L) H') : Ok (sem T fn_bits_Reader_TakeNS [t0, t1]) H Q :=
  ok_sem tb_bits_Reader_TakeNS (Nat.le_of_ble_eq_true (by kernel_rfl)) (eq_bits_Reader_TakeNS (sem T) t0 t1) h

noncomputable def ir_depend_reader_own : Fn' := irOf fn_depend_reader_own
noncomputable def f_depend_reader_own_0 (G : Sem') (t0 : V) (L : List V) : M Res :=
 (M.lift (Ax.bin .gtr (L.getD 1 .undef) (V.int .i64 0))).bind fun t8 =>
 M.ite t8
 (M.blk 1 (
 (M.lift (vlen (L.getD 0 .undef))).bind fun t12 =>
 (M.lift (Ax.bin .geq t12 (V.int .i64 16))).bind fun t13 =>
 M.ite t13
 ((G fn_depend_reader_fail [t0, (V.int .i64 4)]).bind fun t15 =>
 M.pure (.ret [V.nils]))
 ((M.lift (Ax.bin .mul (V.int .i64 4) (L.getD 1 .undef))).bind fun t19 =>
 (G fn_depend_reader_num [t0, t19]).bind fun t20 =>
 (M.lift (Ax.bin .add t20 (V.int .i64 1))).bind fun t21 =>
 (mslit ty_int 1 [(V.int .i64 0)] [(0, 1, t21)]).bind fun t22 =>
 (mappend ty_int 1 8 (L.getD 0 .undef) t22).bind fun t23 =>
 M.pure (.nrm [t23]))) fun L0 =>
 (G fn_depend_reader_num [t0, (V.int .i64 2)]).bind fun t10 =>
 M.pure (.nrm [(L0.getD 0 .undef), t10]))
 (M.pure (.ex 0 [(L.getD 0 .undef)]))

noncomputable def f_depend_reader_own (G : Sem') (t0 : V) : M Res :=
 (G fn_depend_reader_num [t0, (V.int .i64 2)]).bind fun t6 =>
 M.blk 0 (
 M.iter (f_depend_reader_own_0 G t0) [V.nils, t6]) fun L1 =>
 M.pure (.ret [(L1.getD 0 .undef)])

theorem eq_depend_reader_own (G : Sem') (t0 : V) : execK G ir_depend_reader_own.rv ir_depend_reader_own.body [] [] (params 0 [t0]) = f_depend_reader_own G t0 := by kernel_rfl

theorem tb_depend_reader_own : T fn_depend_reader_own = some ir_depend_reader_own := by kernel_rfl

theorem ok_depend_reader_own {t0 : V} {H : Heap} {Q : V → Heap → Prop} (h : Ok (f_depend_reader_own (sem T) t0) H fun r H' => ∃ L, r = .ret L ∧ Q (tupled L) H') : Ok (sem T fn_depend_reader_own [t0]) H Q :=
  ok_sem tb_depend_reader_own (Nat.le_of_ble_eq_true (by kernel_rfl)) (eq_depend_reader_own (sem T) t0) h

end Go.Ax
/- FnD5 -/
set_option maxRecDepth 100000
set_option linter.unusedVariables false
namespace Go.Ax
open Go.Proofs
noncomputable def ir_palanquinref9_SameFrame : Fn' := irOf fn_palanquinref9_SameFrame
noncomputable def f_palanquinref9_SameFrame (G : Sem') (t0 t1 : V) : M Res :=
 (mbox ty_palanquinref9_Frame t0).bind fun t2 =>
 (mbox ty_palanquinref9_Frame t1).bind fun t3 =>
 (M.lift (Ax.faddr 0 t2)).bind fun t5 =>
 (mload none t5).bind fun t6 =>
 (M.lift (Ax.faddr 0 t3)).bind fun t7 =>
 (mload none t7).bind fun t8 =>
 (M.lift (eqr .bool false t6 t8)).bind fun t9 =>
 (guarded [(0, t9)] (some (0, true)) (M.lift (Ax.faddr 1 t2))).bind fun t11 =>
 (guarded [(0, t9)] (some (0, true)) (mload none t11)).bind fun t12 =>
 (guarded [(0, t9)] (some (0, true)) (M.lift (Ax.faddr 1 t3))).bind fun t13 =>
 (guarded [(0, t9)] (some (0, true)) (mload none t13)).bind fun t14 =>
 (guarded [(0, t9)] (some (0, true)) (M.lift (eqr .bool false t12 t14))).bind fun t15 =>
 (M.lift (Ax.pick t9 t15 (V.bool false))).bind fun t16 =>
 (guarded [(0, t16)] (some (0, true)) (M.lift (Ax.faddr 2 t2))).bind fun t18 =>
 (guarded [(0, t16)] (some (0, true)) (mload none t18)).bind fun t19 =>
 (guarded [(0, t16)] (some (0, true)) (M.lift (Ax.faddr 2 t3))).bind fun t20 =>
 (guarded [(0, t16)] (some (0, true)) (mload none t20)).bind fun t21 =>
 (guarded [(0, t16)] (some (0, true)) (M.lift (Ax.bin .eql t19 t21))).bind fun t22 =>
 (M.lift (Ax.pick t16 t22 (V.bool false))).bind fun t23 =>
 (guarded [(0, t23)] (some (0, true)) (M.lift (Ax.faddr 3 t2))).bind fun t25 =>
 (guarded [(0, t23)] (some (0, true)) (mload none t25)).bind fun t26 =>
 (guarded [(0, t23)] (some (0, true)) (M.lift (Ax.faddr 3 t3))).bind fun t27 =>
 (guarded [(0, t23)] (some (0, true)) (mload none t27)).bind fun t28 =>
 (guarded [(0, t23)] (some (0, true)) (M.lift (Ax.bin .eql t26 t28))).bind fun t29 =>
 (M.lift (Ax.pick t23 t29 (V.bool false))).bind fun t30 =>
 (guarded [(0, t30)] (some (0, true)) (M.lift (Ax.faddr 4 t2))).bind fun t32 =>
 (guarded [(0, t30)] (some (0, true)) (mload none t32)).bind fun t33 =>
 (guarded [(0, t30)] (some (0, true)) (M.lift (Ax.faddr 4 t3))).bind fun t34 =>
 (guarded [(0, t30)] (some (0, true)) (mload none t34)).bind fun t35 =>
 (guarded [(0, t30)] (some (0, true)) (M.lift (eqr .bool false t33 t35))).bind fun t36 =>
 (M.lift (Ax.pick t30 t36 (V.bool false))).bind fun t37 =>
 (guarded [(0, t37)] (some (0, true)) (M.lift (Ax.faddr 5 t2))).bind fun t39 =>
 (guarded [(0, t37)] (some (0, true)) (mload (some 6) t39)).bind fun t40 =>
 (guarded [(0, t37)] (some (0, true)) (M.lift (Ax.faddr 5 t3))).bind fun t41 =>
 (guarded [(0, t37)] (some (0, true)) (mload (some 6) t41)).bind fun t42 =>
 (guarded [(0, t37)] (some (0, true)) (G fn_palanquinref9_SameStructure [t40, t42])).bind fun t43 =>
 (M.lift (Ax.pick t37 t43 (V.bool false))).bind fun t44 =>
 (guarded [(0, t44)] (some (0, true)) (M.lift (Ax.faddr 11 t2))).bind fun t46 =>
 (guarded [(0, t44)] (some (0, true)) (mload none t46)).bind fun t47 =>
 (guarded [(0, t44)] (some (0, true)) (M.lift (Ax.faddr 11 t3))).bind fun t48 =>
 (guarded [(0, t44)] (some (0, true)) (mload none t48)).bind fun t49 =>
 (guarded [(0, t44)] (some (0, true)) (M.lift (eqr .bool false t47 t49))).bind fun t50 =>
 (M.lift (Ax.pick t44 t50 (V.bool false))).bind fun t51 =>
 (guarded [(0, t51)] (some (0, true)) (M.lift (Ax.faddr 12 t2))).bind fun t53 =>
 (guarded [(0, t51)] (some (0, true)) (mload none t53)).bind fun t54 =>
 (guarded [(0, t51)] (some (0, true)) (M.lift (Ax.faddr 12 t3))).bind fun t55 =>
 (guarded [(0, t51)] (some (0, true)) (mload none t55)).bind fun t56 =>
 (guarded [(0, t51)] (some (0, true)) (M.lift (Ax.bin .eql t54 t56))).bind fun t57 =>
 (M.lift (Ax.pick t51 t57 (V.bool false))).bind fun t58 =>
 (guarded [(0, t58)] (some (0, true)) (M.lift (Ax.faddr 13 t2))).bind fun t60 =>
 (guarded [(0, t58)] (some (0, true)) (mload none t60)).bind fun t61 =>
 (guarded [(0, t58)] (some (0, true)) (M.lift (Ax.faddr 13 t3))).bind fun t62 =>
 (guarded [(0, t58)] (some (0, true)) (mload none t62)).bind fun t63 =>
 (guarded [(0, t58)] (some (0, true)) (M.lift (eqr .bool false t61 t63))).bind fun t64 =>
 (M.lift (Ax.pick t58 t64 (V.bool false))).bind fun t65 =>
 (guarded [(0, t65)] (some (0, true)) (M.lift (Ax.faddr 14 t2))).bind fun t67 =>
 (guarded [(0, t65)] (some (0, true)) (mload none t67)).bind fun t68 =>
 (guarded [(0, t65)] (some (0, true)) (M.lift (Ax.faddr 14 t3))).bind fun t69 =>
 (guarded [(0, t65)] (some (0, true)) (mload none t69)).bind fun t70 =>
 (guarded [(0, t65)] (some (0, true)) (M.lift (eqr .bool false t68 t70))).bind fun t71 =>
 (M.lift (Ax.pick t65 t71 (V.bool false))).bind fun t72 =>
 (guarded [(0, t72)] (some (0, true)) (M.lift (Ax.faddr 15 t2))).bind fun t74 =>
 (guarded [(0, t72)] (some (0, true)) (mload none t74)).bind fun t75 =>
 (guarded [(0, t72)] (some (0, true)) (M.lift (Ax.faddr 15 t3))).bind fun t76 =>
 (guarded [(0, t72)] (some (0, true)) (mload none t76)).bind fun t77 =>
 (guarded [(0, t72)] (some (0, true)) (M.lift (eqr .bool false t75 t77))).bind fun t78 =>
 (M.lift (Ax.pick t72 t78 (V.bool false))).bind fun t79 =>
 (guarded [(0, t79)] (some (0, true)) (M.lift (Ax.faddr 16 t2))).bind fun t81 =>
 (guarded [(0, t79)] (some (0, true)) (mload none t81)).bind fun t82 =>
 (guarded [(0, t79)] (some (0, true)) (M.lift (Ax.faddr 16 t3))).bind fun t83 =>
 (guarded [(0, t79)] (some (0, true)) (mload none t83)).bind fun t84 =>
 (guarded [(0, t79)] (some (0, true)) (G fn_palanquinref9_SameInts [t82, t84])).bind fun t85 =>
 (M.lift (Ax.pick t79 t85 (V.bool false))).bind fun t86 =>
 (guarded [(0, t86)] (some (0, true)) (M.lift (Ax.faddr 17 t2))).bind fun t88 =>
 (guarded [(0, t86)] (some (0, true)) (mload none t88)).bind fun t89 =>
 (guarded [(0, t86)] (some (0, true)) (M.lift (Ax.faddr 17 t3))).bind fun t90 =>
 (guarded [(0, t86)] (some (0, true)) (mload none t90)).bind fun t91 =>
 (guarded [(0, t86)] (some (0, true)) (G fn_palanquinref9_SameInts [t89, t91])).bind fun t92 =>
 (M.lift (Ax.pick t86 t92 (V.bool false))).bind fun t93 =>
 (guarded [(0, t93)] (some (0, true)) (M.lift (Ax.faddr 18 t2))).bind fun t95 =>
 (guarded [(0, t93)] (some (0, true)) (mload none t95)).bind fun t96 =>
 (guarded [(0, t93)] (some (0, true)) (M.lift (Ax.faddr 18 t3))).bind fun t97 =>
 (guarded [(0, t93)] (some (0, true)) (mload none t97)).bind fun t98 =>
 (guarded [(0, t93)] (some (0, true)) (G fn_palanquinref9_SameInts [t96, t98])).bind fun t99 =>
 (M.lift (Ax.pick t93 t99 (V.bool false))).bind fun t100 =>
 M.pure (.ret [t100])

theorem eq_palanquinref9_SameFrame (G : Sem') (t0 t1 : V) : execK G ir_palanquinref9_SameFrame.rv ir_palanquinref9_SameFrame.body [] [] (params 0 [t0, t1]) = f_palanquinref9_SameFrame G t0 t1 := by kernel_rfl

theorem tb_palanquinref9_SameFrame : T fn_palanquinref9_SameFrame = some ir_palanquinref9_SameFrame := by kernel_rfl

theorem ok_palanquinref9_SameFrame {t0 t1 : V} {H : Heap} {Q : V → Heap → Prop} (h : Ok (f_palanquinref9_SameFrame (sem T) t0 t1) H fun r H' => ∃ L, r = .ret L ∧ Q (tupled L) H') : Ok (sem T fn_palanquinref9_SameFrame [t0, t1]) H Q :=
  ok_sem tb_palanquinref9_SameFrame (Nat.le_of_ble_eq_true (by kernel_rfl)) (eq_palanquinref9_SameFrame (sem T) t0 t1) h

noncomputable def ir_palanquinref9_SameStructure : Fn' := irOf fn_palanquinref9_SameStructure
noncomputable def f_palanquinref9_SameStructure_0 (G : Sem') (t2 t3 : V) (L : List V) : M Res :=
 (M.lift (Ax.faddr 2 t2)).bind fun t55 =>
 (mload none t55).bind fun t56 =>
 (M.lift (vlen t56)).bind fun t57 =>
 (M.lift (Ax.bin .lss (L.getD 0 .undef) t57)).bind fun t58 =>
 M.ite t58
 (M.blk 1 (
 (M.lift (Ax.faddr 2 t2)).bind fun t61 =>
 (mload none t61).bind fun t62 =>
 (M.lift (Ax.iaddr none 5 t62 (L.getD 0 .undef))).bind fun t64 =>
 (mload (some 5) t64).bind fun t65 =>
 (M.lift (Ax.faddr 2 t3)).bind fun t66 =>
 (mload none t66).bind fun t67 =>
 (M.lift (Ax.iaddr none 5 t67 (L.getD 0 .undef))).bind fun t69 =>
 (mload (some 5) t69).bind fun t70 =>
 (mbox ty_palanquinref9_Template (V.agg [(V.int .i64 0), (V.int .i64 0), V.nils, V.nils, V.nils])).bind fun t6 =>
 (mbox ty_palanquinref9_Template (V.agg [(V.int .i64 0), (V.int .i64 0), V.nils, V.nils, V.nils])).bind fun t7 =>
 M.getH.bind fun h0 =>
 (mstore 5 t6 t65).bind fun _ =>
 M.getH.bind fun h0' =>
 (M.unch t69 h0 h0').bind fun _ =>
 (M.unch t66 h0 h0').bind fun _ =>
 (mstore 5 t7 t70).bind fun _ =>
 (M.lift (Ax.faddr 0 t6)).bind fun t71 =>
 (mload none t71).bind fun t72 =>
 (M.lift (Ax.faddr 0 t7)).bind fun t73 =>
 (mload none t73).bind fun t74 =>
 (M.lift (Ax.bin .neq t72 t74)).bind fun t75 =>
 (guarded [(0, t75)] (some (0, false)) (M.lift (Ax.faddr 1 t6))).bind fun t77 =>
 (guarded [(0, t75)] (some (0, false)) (mload none t77)).bind fun t78 =>
 (guarded [(0, t75)] (some (0, false)) (M.lift (Ax.faddr 1 t7))).bind fun t79 =>
 (guarded [(0, t75)] (some (0, false)) (mload none t79)).bind fun t80 =>
 (guarded [(0, t75)] (some (0, false)) (M.lift (Ax.bin .neq t78 t80))).bind fun t81 =>
 (M.lift (Ax.pick t75 (V.bool true) t81)).bind fun t82 =>
 (guarded [(0, t82)] (some (0, false)) (M.lift (Ax.faddr 2 t6))).bind fun t84 =>
 (guarded [(0, t82)] (some (0, false)) (mload none t84)).bind fun t85 =>
 (guarded [(0, t82)] (some (0, false)) (M.lift (Ax.faddr 2 t7))).bind fun t86 =>
 (guarded [(0, t82)] (some (0, false)) (mload none t86)).bind fun t87 =>
 (guarded [(0, t82)] (some (0, false)) (G fn_palanquinref9_SameInts [t85, t87])).bind fun t88 =>
 (guarded [(0, t82)] (some (0, false)) (M.lift (Ax.un .not t88))).bind fun t89 =>
 (M.lift (Ax.pick t82 (V.bool true) t89)).bind fun t90 =>
 (guarded [(0, t90)] (some (0, false)) (M.lift (Ax.faddr 3 t6))).bind fun t92 =>
 (guarded [(0, t90)] (some (0, false)) (mload none t92)).bind fun t93 =>
 (guarded [(0, t90)] (some (0, false)) (M.lift (Ax.faddr 3 t7))).bind fun t94 =>
 (guarded [(0, t90)] (some (0, false)) (mload none t94)).bind fun t95 =>
 (guarded [(0, t90)] (some (0, false)) (G fn_palanquinref9_SameInts [t93, t95])).bind fun t96 =>
 (guarded [(0, t90)] (some (0, false)) (M.lift (Ax.un .not t96))).bind fun t97 =>
 (M.lift (Ax.pick t90 (V.bool true) t97)).bind fun t98 =>
 (guarded [(0, t98)] (some (0, false)) (M.lift (Ax.faddr 4 t6))).bind fun t100 =>
 (guarded [(0, t98)] (some (0, false)) (mload none t100)).bind fun t101 =>
 (guarded [(0, t98)] (some (0, false)) (M.lift (Ax.faddr 4 t7))).bind fun t102 =>
 (guarded [(0, t98)] (some (0, false)) (mload none t102)).bind fun t103 =>
 (guarded [(0, t98)] (some (0, false)) (G fn_palanquinref9_SameInts [t101, t103])).bind fun t104 =>
 (guarded [(0, t98)] (some (0, false)) (M.lift (Ax.un .not t104))).bind fun t105 =>
 (M.lift (Ax.pick t98 (V.bool true) t105)).bind fun t106 =>
 M.ite t106
 (M.pure (.ret [(V.bool false)]))
 (M.pure (.nrm []))) fun _ =>
 (M.lift (Ax.bin .add (L.getD 0 .undef) (V.int .i64 1))).bind fun t60 =>
 M.pure (.nrm [t60]))
 (M.pure (.ex 0 []))

noncomputable def f_palanquinref9_SameStructure_1 (G : Sem') (t2 t3 : V) (L : List V) : M Res :=
 (M.lift (Ax.faddr 5 t2)).bind fun t108 =>
 (mload none t108).bind fun t109 =>
 (M.lift (vlen t109)).bind fun t110 =>
 (M.lift (Ax.bin .lss (L.getD 0 .undef) t110)).bind fun t111 =>
 M.ite t111
 (M.blk 3 (
 (M.lift (Ax.faddr 5 t2)).bind fun t114 =>
 (mload none t114).bind fun t115 =>
 (M.lift (Ax.iaddr none 2 t115 (L.getD 0 .undef))).bind fun t117 =>
 (mload (some 2) t117).bind fun t118 =>
 (M.lift (Ax.faddr 5 t3)).bind fun t119 =>
 (mload none t119).bind fun t120 =>
 (M.lift (Ax.iaddr none 2 t120 (L.getD 0 .undef))).bind fun t122 =>
 (mload (some 2) t122).bind fun t123 =>
 (M.lift (eqr (.arr 2) true t118 t123)).bind fun t124 =>
 M.ite t124
 (M.pure (.ret [(V.bool false)]))
 (M.pure (.nrm []))) fun _ =>
 (M.lift (Ax.bin .add (L.getD 0 .undef) (V.int .i64 1))).bind fun t113 =>
 M.pure (.nrm [t113]))
 (M.pure (.ex 2 []))

noncomputable def f_palanquinref9_SameStructure (G : Sem') (t0 t1 : V) : M Res :=
 (mbox ty_palanquinref9_Structure t0).bind fun t2 =>
 (mbox ty_palanquinref9_Structure t1).bind fun t3 =>
 (M.lift (Ax.faddr 0 t2)).bind fun t9 =>
 (mload none t9).bind fun t10 =>
 (M.lift (Ax.faddr 0 t3)).bind fun t11 =>
 (mload none t11).bind fun t12 =>
 (M.lift (Ax.bin .neq t10 t12)).bind fun t13 =>
 (guarded [(0, t13)] (some (0, false)) (M.lift (Ax.faddr 1 t2))).bind fun t15 =>
 (guarded [(0, t13)] (some (0, false)) (mload none t15)).bind fun t16 =>
 (guarded [(0, t13)] (some (0, false)) (M.lift (Ax.faddr 1 t3))).bind fun t17 =>
 (guarded [(0, t13)] (some (0, false)) (mload none t17)).bind fun t18 =>
 (guarded [(0, t13)] (some (0, false)) (M.lift (Ax.bin .neq t16 t18))).bind fun t19 =>
 (M.lift (Ax.pick t13 (V.bool true) t19)).bind fun t20 =>
 (guarded [(0, t20)] (some (0, false)) (M.lift (Ax.faddr 2 t2))).bind fun t22 =>
 (guarded [(0, t20)] (some (0, false)) (mload none t22)).bind fun t23 =>
 (guarded [(0, t20)] (some (0, false)) (M.lift (vlen t23))).bind fun t24 =>
 (guarded [(0, t20)] (some (0, false)) (M.lift (Ax.faddr 2 t3))).bind fun t25 =>
 (guarded [(0, t20)] (some (0, false)) (mload none t25)).bind fun t26 =>
 (guarded [(0, t20)] (some (0, false)) (M.lift (vlen t26))).bind fun t27 =>
 (guarded [(0, t20)] (some (0, false)) (M.lift (Ax.bin .neq t24 t27))).bind fun t28 =>
 (M.lift (Ax.pick t20 (V.bool true) t28)).bind fun t29 =>
 (guarded [(0, t29)] (some (0, false)) (M.lift (Ax.faddr 3 t2))).bind fun t31 =>
 (guarded [(0, t29)] (some (0, false)) (mload none t31)).bind fun t32 =>
 (guarded [(0, t29)] (some (0, false)) (M.lift (Ax.faddr 3 t3))).bind fun t33 =>
 (guarded [(0, t29)] (some (0, false)) (mload none t33)).bind fun t34 =>
 (guarded [(0, t29)] (some (0, false)) (M.lift (Ax.bin .neq t32 t34))).bind fun t35 =>
 (M.lift (Ax.pick t29 (V.bool true) t35)).bind fun t36 =>
 (guarded [(0, t36)] (some (0, false)) (M.lift (Ax.faddr 4 t2))).bind fun t38 =>
 (guarded [(0, t36)] (some (0, false)) (mload none t38)).bind fun t39 =>
 (guarded [(0, t36)] (some (0, false)) (M.lift (Ax.faddr 4 t3))).bind fun t40 =>
 (guarded [(0, t36)] (some (0, false)) (mload none t40)).bind fun t41 =>
 (guarded [(0, t36)] (some (0, false)) (G fn_palanquinref9_SameInts [t39, t41])).bind fun t42 =>
 (guarded [(0, t36)] (some (0, false)) (M.lift (Ax.un .not t42))).bind fun t43 =>
 (M.lift (Ax.pick t36 (V.bool true) t43)).bind fun t44 =>
 (guarded [(0, t44)] (some (0, false)) (M.lift (Ax.faddr 5 t2))).bind fun t46 =>
 (guarded [(0, t44)] (some (0, false)) (mload none t46)).bind fun t47 =>
 (guarded [(0, t44)] (some (0, false)) (M.lift (vlen t47))).bind fun t48 =>
 (guarded [(0, t44)] (some (0, false)) (M.lift (Ax.faddr 5 t3))).bind fun t49 =>
 (guarded [(0, t44)] (some (0, false)) (mload none t49)).bind fun t50 =>
 (guarded [(0, t44)] (some (0, false)) (M.lift (vlen t50))).bind fun t51 =>
 (guarded [(0, t44)] (some (0, false)) (M.lift (Ax.bin .neq t48 t51))).bind fun t52 =>
 (M.lift (Ax.pick t44 (V.bool true) t52)).bind fun t53 =>
 M.ite t53
 (M.pure (.ret [(V.bool false)]))
 (M.blk 0 (
 M.iter (f_palanquinref9_SameStructure_0 G t2 t3) [(V.int .i64 0)]) fun _ =>
 M.blk 2 (
 M.iter (f_palanquinref9_SameStructure_1 G t2 t3) [(V.int .i64 0)]) fun _ =>
 M.pure (.ret [(V.bool true)]))

theorem eq_palanquinref9_SameStructure (G : Sem') (t0 t1 : V) : execK G ir_palanquinref9_SameStructure.rv ir_palanquinref9_SameStructure.body [] [] (params 0 [t0, t1]) = f_palanquinref9_SameStructure G t0 t1 := by kernel_rfl

theorem tb_palanquinref9_SameStructure : T fn_palanquinref9_SameStructure = some ir_palanquinref9_SameStructure := by kernel_rfl

theorem ok_palanquinref9_SameStructure {t0 t1 : V} {H : Heap} {Q : V → Heap → Prop} (h : Ok (f_palanquinref9_SameStructure (sem T) t0 t1) H fun r H' => ∃ L, r = .ret L ∧ Q (tupled L) H') : Ok (sem T fn_palanquinref9_SameStructure [t0, t1]) H Q :=
  ok_sem tb_palanquinref9_SameStructure (Nat.le_of_ble_eq_true (by kernel_rfl)) (eq_palanquinref9_SameStructure (sem T) t0 t1) h

noncomputable def ir_palanquinlaw9_DependNumber : Fn' := irOf fn_palanquinlaw9_DependNumber
noncomputable def f_palanquinlaw9_DependNumber (G : Sem') (t0 t1 t2 : V) : M Res :=
 (mbox ty_depend_Structure t1).bind fun t4 =>
 (G fn_palanquinlaw9_awake []).bind fun t13 =>
 (M.lift (Ax.un .not t13)).bind fun t14 =>
 M.ite t14
 (M.pure (.ret [(V.bool false)]))
 ((mload (some 6) t4).bind fun t15 =>
 (G fn_palanquinlaw9_heavy [t15]).bind fun t16 =>
 (guarded [(0, t16)] (some (0, false)) (M.pure t0)).bind fun t18 =>
 (guarded [(0, t16)] (some (0, false)) (M.lift (vlen t18))).bind fun t19 =>
 (guarded [(0, t16)] (some (0, false)) (M.lift (Ax.bin .gtr t19 (V.int .i64 2000)))).bind fun t20 =>
 (M.lift (Ax.pick t16 (V.bool true) t20)).bind fun t21 =>
 M.ite t21
 (M.pure (.ret [(V.bool true)]))
 ((mslit ty_uint8 0 [(V.int .u8 0)] []).bind fun t22 =>
 (mappend ty_uint8 1 1 t22 t0).bind fun t24 =>
 (G fn_depend_Number [t0, t2]).bind fun t27 =>
 (mload (some 6) t4).bind fun t30 =>
 (G fn_depend_Parse [t0, t30]).bind fun t31 =>
 (M.lift (Ax.ext 0 t31)).bind fun t32 =>
 (M.lift (Ax.ext 1 t31)).bind fun t33 =>
 (mbox ty_depend_Frame (V.agg [(V.bool false), (V.bool false), (V.int .i64 0), (V.int .u16 0), (V.bool false), (V.int .i64 0), (V.int .i64 0), V.nils, (V.int .i64 0), V.nils, V.nils, (V.bool false), (V.int .u32 0), (V.bool false), (V.bool false), (V.bool false), V.nils, V.nils, V.nils])).bind fun t9 =>
 (mstore 19 t9 t32).bind fun _ =>
 (mload (some 6) t4).bind fun t36 =>
 (G fn_depend_Parse [t27, t36]).bind fun t37 =>
 (M.lift (Ax.ext 0 t37)).bind fun t38 =>
 (M.lift (Ax.ext 1 t37)).bind fun t39 =>
 (mbox ty_depend_Frame (V.agg [(V.bool false), (V.bool false), (V.int .i64 0), (V.int .u16 0), (V.bool false), (V.int .i64 0), (V.int .i64 0), V.nils, (V.int .i64 0), V.nils, V.nils, (V.bool false), (V.int .u32 0), (V.bool false), (V.bool false), (V.bool false), V.nils, V.nils, V.nils])).bind fun t11 =>
 (mstore 19 t11 t38).bind fun _ =>
 (M.lift (Ax.bin .neq t33 t39)).bind fun t42 =>
 (guarded [(0, t42)] (some (0, false)) (M.pure t27)).bind fun t44 =>
 (guarded [(0, t42)] (some (0, false)) (M.lift (vlen t44))).bind fun t45 =>
 (guarded [(0, t42)] (some (0, false)) (M.pure t0)).bind fun t46 =>
 (guarded [(0, t42)] (some (0, false)) (M.lift (vlen t46))).bind fun t47 =>
 (guarded [(0, t42)] (some (0, false)) (M.lift (Ax.bin .neq t45 t47))).bind fun t48 =>
 (M.lift (Ax.pick t42 (V.bool true) t48)).bind fun t49 =>
 (guarded [(0, t49)] (some (0, false)) (M.pure t0)).bind fun t51 =>
 (guarded [(0, t49)] (some (0, false)) (M.pure t24)).bind fun t52 =>
 (guarded [(0, t49)] (some (0, false)) (G fn_palanquinref1_Same [t51, t52])).bind fun t53 =>
 (guarded [(0, t49)] (some (0, false)) (M.lift (Ax.un .not t53))).bind fun t54 =>
 (M.lift (Ax.pick t49 (V.bool true) t54)).bind fun t55 =>
 M.ite t55
 (M.pure (.ret [(V.bool false)]))
 ((M.lift (Ax.bin .neq t33 (V.int .i64 0))).bind fun t57 =>
 M.ite t57
 (M.pure (.ret [(V.bool true)]))
 ((M.lift (Ax.faddr 3 t9)).bind fun t59 =>
 (mstore 1 t59 t2).bind fun _ =>
 (mload (some 19) t9).bind fun t60 =>
 (mload (some 19) t11).bind fun t62 =>
 M.getH.bind fun h0 =>
 (G fn_palanquinhelp_Frame [t60]).bind fun t61 =>
 M.getH.bind fun h0' =>
 (M.unch t11 h0 h0').bind fun _ =>
 (G fn_palanquinhelp_Frame [t62]).bind fun t63 =>
 (G fn_palanquinref9_SameFrame [t61, t63]).bind fun t64 =>
 M.pure (.ret [t64])))))

theorem eq_palanquinlaw9_DependNumber (G : Sem') (t0 t1 t2 : V) : execK G ir_palanquinlaw9_DependNumber.rv ir_palanquinlaw9_DependNumber.body [] [] (params 0 [t0, t1, t2]) = f_palanquinlaw9_DependNumber G t0 t1 t2 := by kernel_rfl

theorem tb_palanquinlaw9_DependNumber : T fn_palanquinlaw9_DependNumber = some ir_palanquinlaw9_DependNumber := by kernel_rfl

theorem ok_palanquinlaw9_DependNumber {t0 t1 t2 : V} {H : Heap} {Q : V → Heap → Prop} (h : Ok (f_palanquinlaw9_DependNumber (sem T) t0 t1 t2) H fun r H' => ∃ L, r = .ret L ∧ Q (tupled L) H') : Ok (sem T fn_palanquinlaw9_DependNumber [t0, t1, t2]) H Q :=
  ok_sem tb_palanquinlaw9_DependNumber (Nat.le_of_ble_eq_true (by kernel_rfl)) (eq_palanquinlaw9_DependNumber (sem T) t0 t1 t2) h

noncomputable def ir_depend_Number : Fn' := irOf fn_depend_Number
noncomputable def f_depend_Number (G : Sem') (t0 t1 : V) : M Res :=
 (G fn_bytes_Clone [t0]).bind fun t7 =>
 (M.lift (vlen t7)).bind fun t9 =>
 (M.lift (Ax.bin .geq t9 (V.int .i64 3))).bind fun t10 =>
 M.join (M.ite t10
 ((M.lift (Ax.bin .shr t1 (V.int .u64 8))).bind fun t14 =>
 (M.lift (Ax.cint .u8 t14)).bind fun t15 =>
 (M.lift (Ax.cint .u8 t1)).bind fun t17 =>
 (M.lift (Ax.iaddr none 1 t7 (V.int .i64 1))).bind fun t18 =>
 (mstore 1 t18 t15).bind fun _ =>
 (M.lift (Ax.iaddr none 1 t7 (V.int .i64 2))).bind fun t19 =>
 (mstore 1 t19 t17).bind fun _ =>
 M.pure (.nrm []))
 (M.pure (.nrm []))) fun _ =>
 M.pure (.ret [t7])

theorem eq_depend_Number (G : Sem') (t0 t1 : V) : execK G ir_depend_Number.rv ir_depend_Number.body [] [] (params 0 [t0, t1]) = f_depend_Number G t0 t1 := by kernel_rfl

theorem tb_depend_Number : T fn_depend_Number = some ir_depend_Number := by kernel_rfl

theorem ok_depend_Number {t0 t1 : V} {H : Heap} {Q : V → Heap → Prop} (h : Ok (f_depend_Number (sem T) t0 t1) H fun r H' => ∃ L, r = .ret L ∧ Q (tupled L) H') : Ok (sem T fn_depend_Number [t0, t1]) H Q :=
  ok_sem tb_depend_Number (Nat.le_of_ble_eq_true (by kernel_rfl)) (eq_depend_Number (sem T) t0 t1) h

noncomputable def ir_bytes_Clone : Fn' := irOf fn_bytes_Clone
noncomputable def f_bytes_Clone (G : Sem') (t0 : V) : M Res :=
 (M.lift (eqr .sl false t0 V.nils)).bind fun t4 =>
 M.ite t4
 (M.pure (.ret [V.nils]))
 ((mslit ty_uint8 0 [(V.int .u8 0)] []).bind fun t5 =>
 (mappend ty_uint8 1 1 t5 t0).bind fun t7 =>
 M.pure (.ret [t7]))

theorem eq_bytes_Clone (G : Sem') (t0 : V) : execK G ir_bytes_Clone.rv ir_bytes_Clone.body [] [] (params 0 [t0]) = f_bytes_Clone G t0 := by kernel_rfl

theorem tb_bytes_Clone : T fn_bytes_Clone = some ir_bytes_Clone := by kernel_rfl

theorem ok_bytes_Clone {t0 : V} {H : Heap} {Q : V → Heap → Prop} (h : Ok (f_bytes_Clone (sem T) t0) H fun r H' => ∃ L, r = .ret L ∧ Q (tupled L) H') : Ok (sem T fn_bytes_Clone [t0]) H Q :=
  ok_sem tb_bytes_Clone (Nat.le_of_ble_eq_true (by kernel_rfl)) (eq_bytes_Clone (sem T) t0) h

end Go.Ax
/- Wb6 -/
set_option maxRecDepth 100000
set_option linter.unusedVariables false
set_option linter.unusedSimpArgs false
namespace Go.Ax.B6
open Go.Ax
/-- All bits of bytes, the highest of each first. -/
def ub (l : List Nat) : List Bool := (List.range (8 * l.length)).map fun k => (l.getD (k / 8) 0).testBit (7 - k % 8)

theorem ub_length (l : List Nat) : (ub l).length = 8 * l.length := by simp [ub]

theorem ub_get (l : List Nat) (k : Nat) (h : k < 8 * l.length) : (ub l)[k]'(by rw [ub_length]; exact h) = (l.getD (k / 8) 0).testBit (7 - k % 8) := by simp [ub]

theorem shr1' (v i : Nat) : shr v i &&& 1 = (v.testBit i).toNat := shr1 v i

theorem take_bit {l : List Nat} {at' k : Nat} (h : at' + k < 8 * l.length) : ((ub l).drop at').take (k + 1) = ((ub l).drop at').take k ++ [(l.getD ((at' + k) / 8) 0).testBit (7 - (at' + k) % 8)] := by
  have h' : k < ((ub l).drop at').length := by rw [List.length_drop, ub_length]; omega
  rw [List.take_add_one, List.getElem?_eq_getElem h', List.getElem_drop, ub_get l _ h]; rfl

/-- The program's reader: its blocks lie from m.1 on, below m.2. -/
structure PRd (H : Heap) (m : Nat × Nat) (r : Nat) (l : List Nat) (at' : Nat) : Prop where
  mk' ::
  ex : ∃ bv, H.get r = some ⟨ty_bits_Reader, [bv, .int .i64 (at' : Nat)], none⟩ ∧ Opn ty_uint8 1 H bv (l.map by8) l.length ∧ bv.pid ≠ some r ∧ ∀ i, bv.pid = some i → m.1 ≤ i ∧ i < m.2
  low : m.1 ≤ r ∧ r < m.2
  lt : ∀ i (h : i < l.length), l[i] < 256
  len : l.length ≤ 1099511627776
  le : at' ≤ 8 * l.length

theorem PRd.frame {H H' : Heap} {m : Nat × Nat} {r : Nat} {l : List Nat} {at' : Nat} (h : PRd H m r l at') (hs : ∀ i, m.1 ≤ i → i < m.2 → H'.get i = H.get i) : PRd H' m r l at' := by
  obtain ⟨⟨bv, h1, h2, h3, h4⟩, h5, h6, h7, h8⟩ := h
  exact ⟨⟨bv, by rw [hs r h5.1 h5.2, h1], h2.to fun i hi => hs i (h4 i hi).1 (h4 i hi).2, h3, h4⟩, h5, h6, h7, h8⟩

theorem PLeft_ok {H : Heap} {m' : Nat × Nat} {r : Nat} {l : List Nat} {at' : Nat} (h : PRd H m' r l at') : Ok (sem T fn_bits_Reader_Left [.ptr r 0]) H fun v H' => v = .int .i64 ((8 * l.length - at' : Nat) : Int) ∧ H' = H := by
  obtain ⟨⟨bv, h1, h2, h3, h4⟩, h5, h6, h7, h8⟩ := h
  refine ok_bits_Reader_Left ?_
  unfold f_bits_Reader_Left
  simp (disch := first | omega | decide) only [↓RD, RC, RH, RO, RN, RL, RX, RS, eq_self, Int.reduceToNat, Int.reduceAdd, Int.reduceSub, Int.reduceMul, Nat.reduceAdd, Nat.reduceSub, Nat.reduceMul, Nat.reduceDiv, Nat.reduceMod, Nat.reduceBEq, Nat.reduceLeDiff, h1, h2.vlen]
  congr 1; omega

def tkE (l : List Nat) (at' : Nat) (n : Int) : Int := if n < 0 ∨ 64 < n then 1 else if ((8 * l.length - at' : Nat) : Int) < n then 3 else 0
def tkV (l : List Nat) (at' : Nat) (n : Int) : Nat := if tkE l at' n = 0 then val (((ub l).drop at').take n.toNat) else 0
def tkA (l : List Nat) (at' : Nat) (n : Int) : Nat := if tkE l at' n = 0 then at' + n.toNat else at'

theorem or_bit (a : Nat) (b : Bool) : 2 * a ||| b.toNat = 2 * a + b.toNat := by
  have := Nat.shiftLeft_add_eq_or_of_lt (i := 1) (b := b.toNat) (by cases b <;> decide) a
  simp only [Nat.shiftLeft_eq, Nat.pow_one] at this
  rw [Nat.mul_comm 2 a]; exact this.symm

theorem or_bit' (a : Nat) (b : Bool) : a * 2 ||| b.toNat = 2 * a + b.toNat := by rw [Nat.mul_comm]; exact or_bit a b

theorem val_take_lt (l : List Bool) (k : Nat) (h : k ≤ 63) : val (l.take k) < 9223372036854775808 := by
  have h1 := val_lt (l.take k)
  have h2 : 2 ^ (l.take k).length ≤ 2 ^ 63 := Nat.pow_le_pow_right (by decide) (by rw [List.length_take]; omega)
  have h3 : (2 : Nat) ^ 63 = 9223372036854775808 := by decide
  omega

/-- What taking changes: the reader's own place alone. -/
def RStep (H H' : Heap) (r : Nat) : Prop := H'.next = H.next ∧ ∀ i, i ≠ r → H'.get i = H.get i

theorem RStep.refl (H : Heap) (r : Nat) : RStep H H r := ⟨rfl, fun _ _ => rfl⟩
theorem RStep.trans {H H1 H2 : Heap} {r : Nat} (h : RStep H H1 r) (k : RStep H1 H2 r) : RStep H H2 r := ⟨k.1.trans h.1, fun i hi => (k.2 i hi).trans (h.2 i hi)⟩
theorem RStep.set (H : Heap) (r : Nat) (b : Option Blk) : RStep H (H.set r b) r := ⟨rfl, fun i hi => get_set_ne _ _ hi⟩

theorem PRd.moved {H H' : Heap} {m' : Nat × Nat} {r : Nat} {l : List Nat} {a b : Nat} {bv : V} (h : PRd H m' r l a) (h1 : H.get r = some ⟨ty_bits_Reader, [bv, .int .i64 (a : Nat)], none⟩) (hs : RStep H H' r) (hg : H'.get r = some ⟨ty_bits_Reader, [bv, .int .i64 (b : Nat)], none⟩) (hb : b ≤ 8 * l.length) : PRd H' m' r l b := by
  obtain ⟨⟨bv', k1, k2, k3, k4⟩, k5, k6, k7, k8⟩ := h
  rw [k1] at h1
  simp only [Option.some.injEq, Blk.mk.injEq, List.cons.injEq, and_true, true_and] at h1
  subst h1
  exact ⟨⟨bv', hg, k2.to fun i hi => hs.2 i fun e => k3 (e ▸ hi), k3, k4⟩, k5, k6, k7, hb⟩

theorem PTake_ok {H : Heap} {m' : Nat × Nat} {r : Nat} {l : List Nat} {at' : Nat} (h : PRd H m' r l at') (n : Int) (hn : -9223372036854775808 ≤ n ∧ n ≤ 9223372036854775807) :
    Ok (sem T fn_bits_Reader_Take [.ptr r 0, .int .i64 n]) H fun v H' => v = .tup [.int .u64 (tkV l at' n : Nat), .int .i64 (tkE l at' n)] ∧ PRd H' m' r l (tkA l at' n) ∧ RStep H H' r := by
  refine ok_bits_Reader_Take ?_
  unfold f_bits_Reader_Take
  unfold tkV tkA
  have hle := h.le
  have hln := h.len
  simp (disch := first | omega | decide) only [↓RD, RC, RH, RO, RN, RL, RX, RS, eq_self, Int.reduceToNat, Int.reduceAdd, Int.reduceSub, Int.reduceMul, Nat.reduceAdd, Nat.reduceSub, Nat.reduceMul, Nat.reduceDiv, Nat.reduceMod, Nat.reduceBEq, Nat.reduceLeDiff]
  refine ok_gdp (fun h1 => ?_) fun h1 => ?_
  · have e : tkE l at' n = 1 := by unfold tkE; rw [if_pos (.inl h1)]
    rw [e]
    simp (disch := first | omega | decide) only [↓RD, RC, RH, RO, RN, RL, RX, RS, eq_self, Int.reduceToNat, Int.reduceAdd, Int.reduceSub, Int.reduceMul, Nat.reduceAdd, Nat.reduceSub, Nat.reduceMul, Nat.reduceDiv, Nat.reduceMod, Nat.reduceBEq, Nat.reduceLeDiff]
    exact ⟨by simp, by simpa using h, RStep.refl _ _⟩
  · simp (disch := first | omega | decide) only [↓RD, RC, RH, RO, RN, RL, RX, RS, eq_self, Int.reduceToNat, Int.reduceAdd, Int.reduceSub, Int.reduceMul, Nat.reduceAdd, Nat.reduceSub, Nat.reduceMul, Nat.reduceDiv, Nat.reduceMod, Nat.reduceBEq, Nat.reduceLeDiff]
    refine ok_itep (fun h2 => ?_) fun h2 => ?_
    · have e : tkE l at' n = 1 := by unfold tkE; rw [if_pos (.inr h2)]
      rw [e]
      simp (disch := first | omega | decide) only [↓RD, RC, RH, RO, RN, RL, RX, RS, eq_self, Int.reduceToNat, Int.reduceAdd, Int.reduceSub, Int.reduceMul, Nat.reduceAdd, Nat.reduceSub, Nat.reduceMul, Nat.reduceDiv, Nat.reduceMod, Nat.reduceBEq, Nat.reduceLeDiff]
      exact ⟨by simp, by simpa using h, RStep.refl _ _⟩
    · refine ok_bind' (PLeft_ok h) ?_
      rintro _ H ⟨rfl, rfl⟩
      simp (disch := first | omega | decide) only [↓RD, RC, RH, RO, RN, RL, RX, RS, eq_self, Int.reduceToNat, Int.reduceAdd, Int.reduceSub, Int.reduceMul, Nat.reduceAdd, Nat.reduceSub, Nat.reduceMul, Nat.reduceDiv, Nat.reduceMod, Nat.reduceBEq, Nat.reduceLeDiff]
      refine ok_itep (fun h3 => ?_) fun h3 => ?_
      · have e : tkE l at' n = 3 := by unfold tkE; rw [if_neg (by omega), if_pos h3]
        rw [e]
        simp (disch := first | omega | decide) only [↓RD, RC, RH, RO, RN, RL, RX, RS, eq_self, Int.reduceToNat, Int.reduceAdd, Int.reduceSub, Int.reduceMul, Nat.reduceAdd, Nat.reduceSub, Nat.reduceMul, Nat.reduceDiv, Nat.reduceMod, Nat.reduceBEq, Nat.reduceLeDiff]
        exact ⟨by simp, by simpa using h, RStep.refl _ _⟩
      · have e : tkE l at' n = 0 := by unfold tkE; rw [if_neg (by omega), if_neg h3]
        rw [e]
        obtain ⟨m, rfl⟩ := Int.eq_ofNat_of_zero_le (show 0 ≤ n by omega)
        simp (disch := first | omega | decide) only [↓RD, RC, RH, RO, RN, RL, RX, RS, eq_self, Int.reduceToNat, Int.reduceAdd, Int.reduceSub, Int.reduceMul, Nat.reduceAdd, Nat.reduceSub, Nat.reduceMul, Nat.reduceDiv, Nat.reduceMod, Nat.reduceBEq, Nat.reduceLeDiff]
        refine ok_loop (fun k L H' => L = [.int .u64 (val (((ub l).drop at').take k) : Nat), .int .i64 (k : Nat)] ∧ PRd H' m' r l (at' + k) ∧ RStep H H' r) m ?_ ?_ ?_
        · exact ⟨by simp [val], h, RStep.refl _ _⟩
        · rintro k L H1 hk ⟨rfl, g, s⟩
          obtain ⟨⟨bv, h1, h2, h3, h4⟩, h5, h6, h7, h8⟩ := id g
          obtain ⟨id, rfl, hg, hia⟩ := h2.at (k := .i64) (i := ((at' + k) / 8 : Nat)) (by omega) (by omega)
          have hlt : (at' + k) / 8 < l.length := by omega
          have hx : l[(at' + k) / 8] < 256 := h6 _ hlt
          have e8 : (((at' + k : Nat) : Int) / 8).toNat = (at' + k) / 8 := by omega
          have e9 : ((7 : Int) - ((at' + k : Nat) : Int) % 8).toNat = 7 - (at' + k) % 8 := by omega
          have hsh := shr_le l[(at' + k) / 8] (7 - (at' + k) % 8)
          have hbit := Bool.toNat_le (l[(at' + k) / 8].testBit (7 - (at' + k) % 8))
          have hv := val_take_lt ((ub l).drop at') k (by omega)
          have hm : val (((ub l).drop at').take k) * 2 % 18446744073709551616 = val (((ub l).drop at').take k) * 2 := Nat.mod_eq_of_lt (by omega)
          have hgd : l.getD ((at' + k) / 8) 0 = l[(at' + k) / 8] := by rw [List.getD_eq_getElem?_getD, List.getElem?_eq_getElem hlt]; rfl
          unfold f_bits_Reader_Take_0
          simp (disch := first | omega | decide) only [↓RD, RC, RH, RO, RN, RL, RX, RS, eq_self, Int.reduceToNat, Int.reduceAdd, Int.reduceSub, Int.reduceMul, Nat.reduceAdd, Nat.reduceSub, Nat.reduceMul, Nat.reduceDiv, Nat.reduceMod, Nat.reduceBEq, Nat.reduceLeDiff, h1, hg, e8, e9, List.getElem?_map, List.getElem?_eq_getElem hlt, by8, shr1', hm, or_bit']
          refine ⟨?_, ?_, s.trans (RStep.set _ _ _)⟩
          · rw [take_bit (by omega), val_snoc, hgd]; rfl
          · refine g.moved h1 (RStep.set _ _ _) ?_ (by omega)
            rw [get_set_self]; congr 4
        · rintro L H1 ⟨rfl, g, s⟩
          unfold f_bits_Reader_Take_0
          simp (disch := first | omega | decide) only [↓RD, RC, RH, RO, RN, RL, RX, RS, eq_self, Int.reduceToNat, Int.reduceAdd, Int.reduceSub, Int.reduceMul, Nat.reduceAdd, Nat.reduceSub, Nat.reduceMul, Nat.reduceDiv, Nat.reduceMod, Nat.reduceBEq, Nat.reduceLeDiff]
          exact ⟨g, s⟩

def tnE (l : List Nat) (at' : Nat) (n : Nat) : Int :=
  if n < 1 ∨ 4294967296 < n then 1 else if tkE l at' (bl n - 1 : Int) ≠ 0 then tkE l at' (bl n - 1 : Int) else if tkV l at' (bl n - 1 : Int) < 2 ^ bl n - n then 0 else tkE l (at' + (bl n - 1)) 1
def tnV (l : List Nat) (at' : Nat) (n : Nat) : Nat :=
  if tnE l at' n ≠ 0 then 0 else if tkV l at' (bl n - 1 : Int) < 2 ^ bl n - n then tkV l at' (bl n - 1 : Int) else 2 * tkV l at' (bl n - 1 : Int) + tkV l (at' + (bl n - 1)) 1 - (2 ^ bl n - n)
def tnA (l : List Nat) (at' : Nat) (n : Nat) : Nat :=
  if tnE l at' n ≠ 0 then at' else if tkV l at' (bl n - 1 : Int) < 2 ^ bl n - n then at' + (bl n - 1) else at' + bl n

theorem tkV_lt (l : List Nat) (a : Nat) (n : Int) : tkV l a n < 2 ^ n.toNat := by
  unfold tkV
  split
  · have h1 := val_lt (((ub l).drop a).take n.toNat)
    have h2 : 2 ^ (((ub l).drop a).take n.toNat).length ≤ 2 ^ n.toNat := Nat.pow_le_pow_right (by decide) (by rw [List.length_take]; omega)
    omega
  · exact Nat.two_pow_pos _

theorem tkA_le {l : List Nat} {a : Nat} {n : Int} (h : a ≤ 8 * l.length) : tkA l a n ≤ 8 * l.length ∧ (tkE l a n = 0 → tkA l a n = a + n.toNat) ∧ (tkE l a n ≠ 0 → tkA l a n = a ∧ tkV l a n = 0) := by
  refine ⟨?_, fun e => by unfold tkA; rw [if_pos e], fun e => by unfold tkA tkV; rw [if_neg e, if_neg e]; exact ⟨rfl, rfl⟩⟩
  unfold tkA
  split
  · rename_i e
    unfold tkE at e
    split at e
    · cases e
    · split at e
      · cases e
      · omega
  · exact h

theorem tn_m (n : Nat) (h0 : 1 ≤ n) (h1 : n ≤ 4294967296) : 1 ≤ bl n ∧ bl n ≤ 33 ∧ 2 ^ bl n ≤ 8589934592 ∧ n < 2 ^ bl n ∧ 2 ^ bl n = 2 * 2 ^ (bl n - 1) ∧ 2 ^ (bl n - 1) ≤ n := by
  obtain ⟨a1, a2, a3, a4, a5, -, -⟩ := addNS_lt (v := 0) (n := n) h0 h1 (by omega)
  refine ⟨a4, a5, a1, a2, ?_, bl_le n h0⟩
  obtain ⟨m, hm⟩ : ∃ m, bl n = m + 1 := ⟨bl n - 1, by omega⟩
  rw [hm, Nat.pow_succ, Nat.mul_comm]; rfl

theorem PTakeNS_ok {H : Heap} {m' : Nat × Nat} {r : Nat} {l : List Nat} {at' : Nat} (h : PRd H m' r l at') (n : Nat) (hn : n < 18446744073709551616) :
    Ok (sem T fn_bits_Reader_TakeNS [.ptr r 0, .int .u64 n]) H fun v H' => v = .tup [.int .u64 (tnV l at' n : Nat), .int .i64 (tnE l at' n)] ∧ PRd H' m' r l (tnA l at' n) ∧ RStep H H' r := by
  refine ok_bits_Reader_TakeNS ?_
  unfold f_bits_Reader_TakeNS
  unfold tnV tnA
  simp (disch := first | omega | decide) only [↓RD, RC, RH, RO, RN, RL, RX, RS, eq_self, Int.reduceToNat, Int.reduceAdd, Int.reduceSub, Int.reduceMul, Nat.reduceAdd, Nat.reduceSub, Nat.reduceMul, Nat.reduceDiv, Nat.reduceMod, Nat.reduceBEq, Nat.reduceLeDiff]
  refine ok_gdp (fun h1 => ?_) fun h1 => ?_
  · have e : tnE l at' n = 1 := by unfold tnE; rw [if_pos (by omega)]
    rw [e]
    simp (disch := first | omega | decide) only [↓RD, RC, RH, RO, RN, RL, RX, RS, eq_self, Int.reduceToNat, Int.reduceAdd, Int.reduceSub, Int.reduceMul, Nat.reduceAdd, Nat.reduceSub, Nat.reduceMul, Nat.reduceDiv, Nat.reduceMod, Nat.reduceBEq, Nat.reduceLeDiff]
    exact ⟨by simp, by simpa using h, RStep.refl _ _⟩
  · simp (disch := first | omega | decide) only [↓RD, RC, RH, RO, RN, RL, RX, RS, eq_self, Int.reduceToNat, Int.reduceAdd, Int.reduceSub, Int.reduceMul, Nat.reduceAdd, Nat.reduceSub, Nat.reduceMul, Nat.reduceDiv, Nat.reduceMod, Nat.reduceBEq, Nat.reduceLeDiff]
    refine ok_itep (fun h2 => ?_) fun h2 => ?_
    · have e : tnE l at' n = 1 := by unfold tnE; rw [if_pos (by omega)]
      rw [e]
      simp (disch := first | omega | decide) only [↓RD, RC, RH, RO, RN, RL, RX, RS, eq_self, Int.reduceToNat, Int.reduceAdd, Int.reduceSub, Int.reduceMul, Nat.reduceAdd, Nat.reduceSub, Nat.reduceMul, Nat.reduceDiv, Nat.reduceMod, Nat.reduceBEq, Nat.reduceLeDiff]
      exact ⟨by simp, by simpa using h, RStep.refl _ _⟩
    · obtain ⟨m1, m2, m3, m4, m5, m6⟩ := tn_m n (by omega) (by omega)
      obtain ⟨⟨bv, k1, k2, k3, k4⟩, -⟩ := id h
      have hE : tnE l at' n = if tkE l at' (bl n - 1 : Int) ≠ 0 then tkE l at' (bl n - 1 : Int) else if tkV l at' (bl n - 1 : Int) < 2 ^ bl n - n then 0 else tkE l (at' + (bl n - 1)) 1 := by unfold tnE; rw [if_neg (by omega)]
      have hT : ((bl n : Int) - 1).toNat = bl n - 1 := by omega
      have hv1 := tkV_lt l at' (bl n - 1 : Int)
      rw [hT] at hv1
      obtain ⟨t1, t2, t3⟩ := tkA_le (l := l) (a := at') (n := (bl n - 1 : Int)) h.le
      rw [hT] at t2
      simp (disch := first | omega | decide) only [↓RD, RC, RH, RO, RN, RL, RX, RS, eq_self, Int.reduceToNat, Int.reduceAdd, Int.reduceSub, Int.reduceMul, Nat.reduceAdd, Nat.reduceSub, Nat.reduceMul, Nat.reduceDiv, Nat.reduceMod, Nat.reduceBEq, Nat.reduceLeDiff, k1, short_eq]
      refine ok_bind' (PTake_ok h (bl n - 1 : Int) ⟨by omega, by omega⟩) ?_
      rintro _ H1 ⟨rfl, g1, s1⟩
      by_cases e1 : tkE l at' (bl n - 1 : Int) = 0
      · rw [if_neg (by simpa using e1)] at hE
        simp (disch := first | omega | decide) only [↓RD, RC, RH, RO, RN, RL, RX, RS, eq_self, Int.reduceToNat, Int.reduceAdd, Int.reduceSub, Int.reduceMul, Nat.reduceAdd, Nat.reduceSub, Nat.reduceMul, Nat.reduceDiv, Nat.reduceMod, Nat.reduceBEq, Nat.reduceLeDiff, e1]
        by_cases e2 : tkV l at' (bl n - 1 : Int) < 2 ^ bl n - n
        · rw [if_pos e2] at hE
          simp (disch := first | omega | decide) only [↓RD, RC, RH, RO, RN, RL, RX, RS, eq_self, Int.reduceToNat, Int.reduceAdd, Int.reduceSub, Int.reduceMul, Nat.reduceAdd, Nat.reduceSub, Nat.reduceMul, Nat.reduceDiv, Nat.reduceMod, Nat.reduceBEq, Nat.reduceLeDiff, hE, e2]
          rw [t2 e1] at g1
          exact ⟨by simp, by simpa using g1, s1⟩
        · rw [if_neg e2] at hE
          simp (disch := first | omega | decide) only [↓RD, RC, RH, RO, RN, RL, RX, RS, eq_self, Int.reduceToNat, Int.reduceAdd, Int.reduceSub, Int.reduceMul, Nat.reduceAdd, Nat.reduceSub, Nat.reduceMul, Nat.reduceDiv, Nat.reduceMod, Nat.reduceBEq, Nat.reduceLeDiff]
          rw [t2 e1] at g1
          refine ok_bind' (PTake_ok g1 1 (by decide)) ?_
          rintro _ H2 ⟨rfl, g2, s2⟩
          have hv2 := tkV_lt l (at' + (bl n - 1)) 1
          have hT1 : (1 : Int).toNat = 1 := rfl
          rw [hT1] at hv2
          obtain ⟨u1, u2, u3⟩ := tkA_le (l := l) (a := at' + (bl n - 1)) (n := 1) g1.le
          rw [hT1] at u2
          by_cases e3 : tkE l (at' + (bl n - 1)) 1 = 0
          · simp (disch := first | omega | decide) only [↓RD, RC, RH, RO, RN, RL, RX, RS, eq_self, Int.reduceToNat, Int.reduceAdd, Int.reduceSub, Int.reduceMul, Nat.reduceAdd, Nat.reduceSub, Nat.reduceMul, Nat.reduceDiv, Nat.reduceMod, Nat.reduceBEq, Nat.reduceLeDiff, e3]
            have hm : tkV l at' (bl n - 1 : Int) * 2 % 18446744073709551616 = tkV l at' (bl n - 1 : Int) * 2 := Nat.mod_eq_of_lt (by omega)
            simp (disch := first | omega | decide) only [↓RD, RC, RH, RO, RN, RL, RX, RS, eq_self, Int.reduceToNat, Int.reduceAdd, Int.reduceSub, Int.reduceMul, Nat.reduceAdd, Nat.reduceSub, Nat.reduceMul, Nat.reduceDiv, Nat.reduceMod, Nat.reduceBEq, Nat.reduceLeDiff, hm, hE, e3, e2]
            rw [u2 e3] at g2
            refine ⟨?_, ?_, s1.trans s2⟩
            · simp; omega
            · have : at' + (bl n - 1) + 1 = at' + bl n := by omega
              rw [this] at g2; simpa using g2
          · obtain ⟨⟨bv2, q1, -⟩, -⟩ := id g2
            simp (disch := first | omega | decide) only [↓RD, RC, RH, RO, RN, RL, RX, RS, eq_self, Int.reduceToNat, Int.reduceAdd, Int.reduceSub, Int.reduceMul, Nat.reduceAdd, Nat.reduceSub, Nat.reduceMul, Nat.reduceDiv, Nat.reduceMod, Nat.reduceBEq, Nat.reduceLeDiff, q1]
            rw [hE]
            rw [(u3 e3).1] at q1 g2
            refine ⟨by simp [e3], ?_, (s1.trans s2).trans (RStep.set _ _ _)⟩
            rw [if_pos e3]
            refine g2.moved q1 (RStep.set _ _ _) ?_ h.le
            rw [get_set_self]
      · rw [if_pos e1] at hE
        simp (disch := first | omega | decide) only [↓RD, RC, RH, RO, RN, RL, RX, RS, eq_self, Int.reduceToNat, Int.reduceAdd, Int.reduceSub, Int.reduceMul, Nat.reduceAdd, Nat.reduceSub, Nat.reduceMul, Nat.reduceDiv, Nat.reduceMod, Nat.reduceBEq, Nat.reduceLeDiff]
        rw [(t3 e1).1] at g1
        rw [hE]
        refine ⟨by simp [e1, (t3 e1).2], by simpa [e1] using g1, s1⟩

/-- The document's reader: over bytes that it only reads. -/
structure RRd (H : Heap) (r : Nat) (l : List Nat) (at' : Nat) : Prop where
  mk' ::
  ex : ∃ bv, H.get r = some ⟨ty_palanquinref6_Reader, [bv, .int .i64 (at' : Nat)], none⟩ ∧ ((bv = .nils ∧ l = []) ∨ bv = .rs (l.map by8) l.length)
  low : r < H.next
  lt : ∀ i (h : i < l.length), l[i] < 256
  len : l.length ≤ 1099511627776
  le : at' ≤ 8 * l.length

theorem RRd.frame {H H' : Heap} {r : Nat} {l : List Nat} {at' : Nat} (h : RRd H r l at') (hs : H'.get r = H.get r) (hn : H.next ≤ H'.next) : RRd H' r l at' := by
  obtain ⟨⟨bv, h1, h2⟩, h5, h6, h7, h8⟩ := h
  exact ⟨⟨bv, by rw [hs, h1], h2⟩, Nat.lt_of_lt_of_le h5 hn, h6, h7, h8⟩

theorem RRd.moved {H H' : Heap} {r : Nat} {l : List Nat} {a b : Nat} {bv : V} (h : RRd H r l a) (h1 : H.get r = some ⟨ty_palanquinref6_Reader, [bv, .int .i64 (a : Nat)], none⟩) (hn : H'.next = H.next) (hg : H'.get r = some ⟨ty_palanquinref6_Reader, [bv, .int .i64 (b : Nat)], none⟩) (hb : b ≤ 8 * l.length) : RRd H' r l b := by
  obtain ⟨⟨bv', k1, k2⟩, k5, k6, k7, k8⟩ := h
  rw [k1] at h1
  simp only [Option.some.injEq, Blk.mk.injEq, List.cons.injEq, and_true, true_and] at h1
  subst h1
  exact ⟨⟨bv', hg, k2⟩, hn ▸ k5, k6, k7, hb⟩

end Go.Ax.B6
/- DepW1 -/
set_option maxRecDepth 100000
set_option linter.unusedVariables false
set_option linter.unusedSimpArgs false
namespace Go.Ax.D9
open Go.Ax B6
/-- A writer: what it is hangs on its own blocks alone. -/
structure Kp (R : Heap → List Bool → List Nat → Prop) : Prop where
  to : ∀ {H H' : Heap} {bits : List Bool} {F : List Nat}, R H bits F → (∀ i ∈ F, H'.get i = H.get i) → H.next ≤ H'.next → R H' bits F
  low : ∀ {H : Heap} {bits : List Bool} {F : List Nat}, R H bits F → Below F H

abbrev WR (w : Nat) (H : Heap) (bits : List Bool) (F : List Nat) : Prop := WRep H w bits F
theorem kpW (w : Nat) : Kp (WR w) := ⟨fun h => h.to, fun h => h.low⟩
/-- A writer that was made behind B; boxes ks beside it. -/
structure Wk (R : Heap → List Bool → List Nat → Prop) (B : Heap) (ks : List (Nat × Blk)) (H : Heap) (bits : List Bool) : Prop where
  kp : Kp R
  ex : ∃ F, R H bits F ∧ (∀ i ∈ F, B.next ≤ i) ∧ ∀ k ∈ ks, k.1 ∉ F
  gr : Grow B H
  kk : ∀ k ∈ ks, k.1 < H.next ∧ H.get k.1 = some k.2

section
variable {R : Heap → List Bool → List Nat → Prop} {B H H' : Heap} {ks : List (Nat × Blk)} {bits bits' : List Bool}
theorem Wk.step {x : M V} {P : V → Prop} (h : Wk R B ks H bits) (hop : ∀ F, R H bits F → Ok x H fun r H' => ∃ F', P r ∧ R H' bits' F' ∧ Step H H' F F') : Ok x H fun r H' => P r ∧ Wk R B ks H' bits' := by
  obtain ⟨hR, ⟨F, hF, hlo, hks⟩, gr, kk⟩ := h
  refine ok_mono (hop F hF) ?_
  rintro r H' ⟨F', hp, hF', s⟩
  have gn := gr.next
  refine ⟨hp, hR, ⟨F', hF', fun i hi => ?_, fun k hk => s.ne (kk k hk).1 (hks k hk)⟩, ⟨Nat.le_trans gr.next s.next, fun i hi => ?_⟩, fun k hk => ⟨Nat.lt_of_lt_of_le (kk k hk).1 s.next, ?_⟩⟩
  · rcases s.own i hi with h | h
    · exact hlo i h
    · omega
  · rw [s.same i (by omega) (fun h => by have := hlo i h; omega), gr.same i hi]
  · rw [s.same _ (kk k hk).1 (hks k hk)]; exact (kk k hk).2

theorem Wk.add (h : Wk R B ks H bits) (s : Grow H H') {id : Nat} {b : Blk} (h0 : H.next ≤ id) (h1 : id < H'.next) (hg : H'.get id = some b) : Wk R B ((id, b) :: ks) H' bits := by
  obtain ⟨hR, ⟨F, hF, hlo, hks⟩, gr, kk⟩ := h
  have hb := hR.low hF
  refine ⟨hR, ⟨F, hR.to hF (fun i hi => s.same i (hb i hi)) s.next, hlo, fun k hk => ?_⟩, gr.trans s, fun k hk => ?_⟩
  · rcases List.mem_cons.1 hk with rfl | hk
    · exact fun hi => by have := hb _ hi; omega
    · exact hks k hk
  · rcases List.mem_cons.1 hk with rfl | hk
    · exact ⟨h1, hg⟩
    · exact ⟨Nat.lt_of_lt_of_le (kk k hk).1 s.next, (s.same _ (kk k hk).1).trans (kk k hk).2⟩
theorem Wk.grow (h : Wk R B ks H bits) (s : Grow H H') : Wk R B ks H' bits := by
  obtain ⟨hR, ⟨F, hF, hlo, hks⟩, gr, kk⟩ := h
  have hb := hR.low hF
  exact ⟨hR, ⟨F, hR.to hF (fun i hi => s.same i (hb i hi)) s.next, hlo, hks⟩, gr.trans s, fun k hk => ⟨Nat.lt_of_lt_of_le (kk k hk).1 s.next, (s.same _ (kk k hk).1).trans (kk k hk).2⟩⟩
theorem Wk.new (h : Wk R B ks H bits) (b : Blk) : Wk R B ((H.next, b) :: ks) (H.new b) bits := h.add (Grow.new H b) (Nat.le_refl _) (by rw [next_new]; omega) (get_new_self _ _)
theorem Wk.drop {k : Nat × Blk} (h : Wk R B (k :: ks) H bits) : Wk R B ks H bits := by
  obtain ⟨hR, ⟨F, hF, hlo, hks⟩, gr, kk⟩ := h
  exact ⟨hR, ⟨F, hF, hlo, fun k hk => hks k (List.mem_cons_of_mem _ hk)⟩, gr, fun k hk => kk k (List.mem_cons_of_mem _ hk)⟩
theorem Wk.get {id : Nat} {b : Blk} (h : Wk R B ((id, b) :: ks) H bits) : H.get id = some b := (h.kk _ (List.mem_cons_self ..)).2
theorem Wk.lt {id : Nat} {b : Blk} (h : Wk R B ((id, b) :: ks) H bits) : id < H.next := (h.kk _ (List.mem_cons_self ..)).1
end
theorem addB_eq {bits : List Bool} {v n : Nat} (h : v < 2 ^ n) (hn : n ≤ 64) : addB bits v (n : Nat) = bits ++ nb v n := by
  unfold addB
  have := (bl_le_iff v n).2 h
  rw [if_neg (by omega)]; simp

theorem pow64 {v n : Nat} (h : v < 2 ^ n) (hn : n ≤ 63) : v < 9223372036854775808 := by
  have : 2 ^ n ≤ 2 ^ 63 := Nat.pow_le_pow_right (by decide) hn
  omega

/-- A number is written. -/
theorem num_ok {B H : Heap} {ks : List (Nat × Blk)} {w : Nat} {bits : List Bool} (h : Wk (WR w) B ks H bits) (v : Int) (n : Nat) (h0 : 0 ≤ v) (hv : v.toNat < 2 ^ n) (hn : n ≤ 63) (hl : bits.length < 549755813888) :
    Ok (sem T fn_depend_writer_num [.agg [.ptr w 0], .int .i64 v, .int .i64 (n : Nat)]) H fun r H' => Wk (WR w) B ks H' (bits ++ nb v.toNat n) := by
  have hv63 := pow64 hv hn
  obtain ⟨m, rfl⟩ := Int.eq_ofNat_of_zero_le h0
  rw [Int.toNat_natCast] at hv hv63 ⊢
  have em : m % 18446744073709551616 = m := Nat.mod_eq_of_lt (by omega)
  refine ok_depend_writer_num ?_
  unfold f_depend_writer_num
  simp (maxSteps := 1000000) (disch := first | omega | (simp only [RY] <;> omega) | decide) only [↓RD, RZ, eq_self, Int.reduceToNat, Int.reduceAdd, Int.reduceSub, Int.reduceMul, Nat.reduceAdd, Nat.reduceSub, Nat.reduceMul, Nat.reduceDiv, Nat.reduceMod, Nat.reduceBEq, Nat.reduceLeDiff, em]
  have h1 := h.new ⟨ty_depend_writer, [.ptr w 0], none⟩
  refine ok_bind' (h1.step (P := fun r => True) (bits' := bits ++ nb m n) fun F hF => ok_mono (Add_ok hF m (n : Nat) (by omega) hl (by omega)) ?_) ?_
  · rintro r H' ⟨F', -, h2, s⟩
    rw [addB_eq hv (by omega)] at h2
    exact ⟨F', trivial, h2, s⟩
  · rintro r H' ⟨-, h2⟩
    simp (maxSteps := 1000000) (disch := first | omega | (simp only [RY] <;> omega) | decide) only [↓RD, RZ, eq_self, Int.reduceToNat, Int.reduceAdd, Int.reduceSub, Int.reduceMul, Nat.reduceAdd, Nat.reduceSub, Nat.reduceMul, Nat.reduceDiv, Nat.reduceMod, Nat.reduceBEq, Nat.reduceLeDiff]
    exact h2.drop

theorem bit_ok {B H : Heap} {ks : List (Nat × Blk)} {w : Nat} {bits : List Bool} (h : Wk (WR w) B ks H bits) (b : Bool) (hl : bits.length < 549755813888) :
    Ok (sem T fn_depend_writer_bit [.agg [.ptr w 0], .bool b]) H fun r H' => Wk (WR w) B ks H' (bits ++ [b]) := by
  refine ok_depend_writer_bit ?_
  unfold f_depend_writer_bit
  have h1 := h.new ⟨ty_depend_writer, [.ptr w 0], none⟩
  cases b with
  | true =>
    simp (maxSteps := 1000000) (disch := first | omega | (simp only [RY] <;> omega) | decide) only [↓RD, RZ, eq_self, Int.reduceToNat, Int.reduceAdd, Int.reduceSub, Int.reduceMul, Nat.reduceAdd, Nat.reduceSub, Nat.reduceMul, Nat.reduceDiv, Nat.reduceMod, Nat.reduceBEq, Nat.reduceLeDiff]
    refine ok_bind' (num_ok h1 1 1 (by omega) (by decide) (by omega) hl) ?_
    rintro r H' h2
    simp (maxSteps := 1000000) (disch := first | omega | (simp only [RY] <;> omega) | decide) only [↓RD, RZ, eq_self, Int.reduceToNat, Int.reduceAdd, Int.reduceSub, Int.reduceMul, Nat.reduceAdd, Nat.reduceSub, Nat.reduceMul, Nat.reduceDiv, Nat.reduceMod, Nat.reduceBEq, Nat.reduceLeDiff]
    exact h2.drop
  | false =>
    simp (maxSteps := 1000000) (disch := first | omega | (simp only [RY] <;> omega) | decide) only [↓RD, RZ, eq_self, Int.reduceToNat, Int.reduceAdd, Int.reduceSub, Int.reduceMul, Nat.reduceAdd, Nat.reduceSub, Nat.reduceMul, Nat.reduceDiv, Nat.reduceMod, Nat.reduceBEq, Nat.reduceLeDiff]
    refine ok_bind' (num_ok h1 0 1 (by omega) (by decide) (by omega) hl) ?_
    rintro r H' h2
    simp (maxSteps := 1000000) (disch := first | omega | (simp only [RY] <;> omega) | decide) only [↓RD, RZ, eq_self, Int.reduceToNat, Int.reduceAdd, Int.reduceSub, Int.reduceMul, Nat.reduceAdd, Nat.reduceSub, Nat.reduceMul, Nat.reduceDiv, Nat.reduceMod, Nat.reduceBEq, Nat.reduceLeDiff]
    exact h2.drop

theorem wk_new {H : Heap} : Ok (sem T fn_bits_New []) H fun r H' => r = .ptr H.next 0 ∧ Wk (WR H.next) H [] H' [] := by
  refine ok_mono New_ok ?_
  rintro r H' ⟨h1, h2, s⟩
  refine ⟨h1, kpW _, ⟨[H.next], h2, fun i hi => ?_, fun k hk => by cases hk⟩, s.ext, fun k hk => by cases hk⟩
  simp only [List.mem_singleton] at hi
  omega

abbrev By (lo : Nat) (H : Heap) (v : V) (l : List Nat) : Prop := Lc 1 lo H v (l.map by8) l.length

theorem wk_bytes {B H : Heap} {ks : List (Nat × Blk)} {w : Nat} {bits : List Bool} (h : Wk (WR w) B ks H bits) (hl : bits.length < 549755813888) :
    Ok (sem T fn_bits_Writer_Bytes [.ptr w 0]) H fun r H' => (∃ l, Pk bits.length l bits ∧ By 0 H' r l) ∧ Grow H H' := by
  obtain ⟨hR, ⟨F, hF, hlo, hks⟩, gr, kk⟩ := h
  refine ok_mono (Bytes_ok hF hl) ?_
  rintro r H' ⟨l, hp, ho, s⟩
  refine ⟨⟨l, hp, ?_⟩, s.ext⟩
  refine ho.lc fun i hi => ⟨Nat.zero_le _, ?_⟩
  have := s.own i (by simp [hi])
  simp only [List.not_mem_nil, false_or] at this
  exact this.2

/-- The bits of a descriptor's head. -/
def headB (f : Fr) : List Bool := [f.st, f.en] ++ nb f.id.toNat 6 ++ nb f.num 16
theorem good_id {f : Fr} {k : Sr} (h : good f k = true) : 0 ≤ f.id ∧ f.id ≤ 63 := by
  obtain ⟨t, h1, -⟩ := dec_iff.1 h
  unfold tmOf tmPl at h1
  split at h1
  · split at h1
    · assumption
    · cases h1
  · cases h1

theorem Bytes_short {H : Heap} {v w : V} {f : Fr} {k : Sr} (hf : FrR 0 H v f) (hk : SrR 0 H w k) (fo : FrO f) (ko : SrO k) (hg : good f k = true) (h1 : f.new = false) (h2 : f.has = false) (h3 : f.od = false) (h4 : f.of' = false) (h5 : f.oc = false) :
    Ok (sem T fn_depend_Bytes [v, w]) H fun r H' => (∃ x l, r = .tup [x, .int .i64 0] ∧ Pk (headB f).length l (headB f) ∧ By 0 H' x l) ∧ Grow H H' := by
  have hid := good_id hg
  have hnum := fo.num
  obtain ⟨a, b, c, d, e, g, rfl, hf⟩ := hf
  obtain ⟨p, q, r, rfl, hk⟩ := hk
  obtain ⟨ca, cb, cc, cd, ce, cg⟩ := fr_dti hf
  have kts := hk.ts.cel
  have kpr := hk.pro.cel
  have ksi := hk.siz.cel
  refine ok_depend_Bytes ?_
  unfold f_depend_Bytes
  unfold fcells scells
  simp (maxSteps := 1000000) (disch := first | omega | (simp only [RY] <;> omega) | decide) only [↓RD, RZ, eq_self, Int.reduceToNat, Int.reduceAdd, Int.reduceSub, Int.reduceMul, Nat.reduceAdd, Nat.reduceSub, Nat.reduceMul, Nat.reduceDiv, Nat.reduceMod, Nat.reduceBEq, Nat.reduceLeDiff, ca.1, ca.2, cb.1, cb.2, cc.1, cc.2, cd.1, cd.2, ce.1, ce.2, cg.1, cg.2, kts.1, kts.2, kpr.1, kpr.2, ksi.1, ksi.2]
  generalize hH1 : Heap.new (Heap.new H _) _ = H1
  have s1 : Grow H H1 := by rw [← hH1]; exact (Grow.new _ _).trans (Grow.new _ _)
  have n1 : H1.next = H.next + 2 := by rw [← hH1]; rfl
  have f1 : H1.get H.next = some ⟨ty_depend_Frame, fcells f a b c d e g, none⟩ := by rw [← hH1]; unfold fcells; simp (maxSteps := 1000000) (disch := first | omega | (simp only [RY] <;> omega) | decide) only [↓RD, RZ, eq_self, Int.reduceToNat, Int.reduceAdd, Int.reduceSub, Int.reduceMul, Nat.reduceAdd, Nat.reduceSub, Nat.reduceMul, Nat.reduceDiv, Nat.reduceMod, Nat.reduceBEq, Nat.reduceLeDiff]
  clear hH1
  unfold fcells at f1
  refine ok_bind' (Good_ok (hf.ext s1).val (hk.ext s1).val fo ko) ?_
  rintro _ H2 ⟨rfl, s2⟩
  have n2 := s2.next
  have f2 : H2.get H.next = _ := (s2.same _ (by omega)).trans f1
  rw [hg]
  simp (maxSteps := 1000000) (disch := first | omega | (simp only [RY] <;> omega) | decide) only [↓RD, RZ, eq_self, Int.reduceToNat, Int.reduceAdd, Int.reduceSub, Int.reduceMul, Nat.reduceAdd, Nat.reduceSub, Nat.reduceMul, Nat.reduceDiv, Nat.reduceMod, Nat.reduceBEq, Nat.reduceLeDiff]
  refine ok_bind' wk_new ?_
  rintro _ H3 ⟨rfl, k3⟩
  have s3 := k3.gr
  have n3 := s3.next
  have f3 : H3.get H.next = _ := (s3.same _ (by omega)).trans f2
  simp (maxSteps := 1000000) (disch := first | omega | (simp only [RY] <;> omega) | decide) only [↓RD, RZ, eq_self, Int.reduceToNat, Int.reduceAdd, Int.reduceSub, Int.reduceMul, Nat.reduceAdd, Nat.reduceSub, Nat.reduceMul, Nat.reduceDiv, Nat.reduceMod, Nat.reduceBEq, Nat.reduceLeDiff, f3]
  generalize hH4 : Heap.set _ _ _ = H4
  have s4 : Grow H3 H4 := by rw [← hH4]; exact (Grow.new _ _).set (by omega) _
  have n4 : H4.next = H3.next + 1 := by rw [← hH4]; rfl
  have g4 : H4.get H3.next = some ⟨ty_depend_writer, [.ptr H2.next 0], none⟩ := by rw [← hH4]; simp (maxSteps := 1000000) (disch := first | omega | (simp only [RY] <;> omega) | decide) only [↓RD, RZ, eq_self, Int.reduceToNat, Int.reduceAdd, Int.reduceSub, Int.reduceMul, Nat.reduceAdd, Nat.reduceSub, Nat.reduceMul, Nat.reduceDiv, Nat.reduceMod, Nat.reduceBEq, Nat.reduceLeDiff]
  clear hH4
  have k4 := k3.add s4 (Nat.le_refl _) (by omega) g4
  have em : f.num % 9223372036854775808 = f.num := by omega
  have get : ∀ {H' : Heap} {bits : List Bool}, Wk (WR H2.next) H2 [(H3.next, ⟨ty_depend_writer, [.ptr H2.next 0], none⟩)] H' bits → H'.get H.next = some ⟨ty_depend_Frame, [.bool f.st, .bool f.en, .int .i64 f.id, .int .u16 f.num, .bool f.new, .int .i64 f.s.off, .int .i64 f.s.tar, a, .int .i64 f.s.cha, b, c, .bool f.has, .int .u32 f.act, .bool f.od, .bool f.of', .bool f.oc, d, e, g], none⟩ := fun k => (k.gr.same _ (by omega)).trans f2
  refine ok_bind' (bit_ok k4 f.st (by simp)) ?_
  rintro _ H5 k5
  simp (maxSteps := 1000000) (disch := first | omega | (simp only [RY] <;> omega) | decide) only [↓RD, RZ, eq_self, Int.reduceToNat, Int.reduceAdd, Int.reduceSub, Int.reduceMul, Nat.reduceAdd, Nat.reduceSub, Nat.reduceMul, Nat.reduceDiv, Nat.reduceMod, Nat.reduceBEq, Nat.reduceLeDiff, get k5, k5.get]
  refine ok_bind' (bit_ok k5 f.en (by simp)) ?_
  rintro _ H6 k6
  simp (maxSteps := 1000000) (disch := first | omega | (simp only [RY] <;> omega) | decide) only [↓RD, RZ, eq_self, Int.reduceToNat, Int.reduceAdd, Int.reduceSub, Int.reduceMul, Nat.reduceAdd, Nat.reduceSub, Nat.reduceMul, Nat.reduceDiv, Nat.reduceMod, Nat.reduceBEq, Nat.reduceLeDiff, get k6, k6.get]
  refine ok_bind' (num_ok k6 f.id 6 (by omega) (by omega) (by omega) (by simp)) ?_
  rintro _ H7 k7
  simp (maxSteps := 1000000) (disch := first | omega | (simp only [RY] <;> omega) | decide) only [↓RD, RZ, eq_self, Int.reduceToNat, Int.reduceAdd, Int.reduceSub, Int.reduceMul, Nat.reduceAdd, Nat.reduceSub, Nat.reduceMul, Nat.reduceDiv, Nat.reduceMod, Nat.reduceBEq, Nat.reduceLeDiff, get k7, k7.get]
  refine ok_bind' (num_ok k7 (f.num : Nat) 16 (by omega) (by omega) (by omega) (by simp [nb_length])) ?_
  rintro _ H8 k8
  simp (maxSteps := 1000000) (disch := first | omega | (simp only [RY] <;> omega) | decide) only [↓RD, RZ, eq_self, Int.reduceToNat, Int.reduceAdd, Int.reduceSub, Int.reduceMul, Nat.reduceAdd, Nat.reduceSub, Nat.reduceMul, Nat.reduceDiv, Nat.reduceMod, Nat.reduceBEq, Nat.reduceLeDiff, get k8, k8.get, h1, h2, h3, h4, h5]
  refine ok_bind' (wk_bytes k8 (by simp [nb_length])) ?_
  rintro x H9 ⟨⟨l, hp, hb⟩, s9⟩
  simp (maxSteps := 1000000) (disch := first | omega | (simp only [RY] <;> omega) | decide) only [↓RD, RZ, eq_self, Int.reduceToNat, Int.reduceAdd, Int.reduceSub, Int.reduceMul, Nat.reduceAdd, Nat.reduceSub, Nat.reduceMul, Nat.reduceDiv, Nat.reduceMod, Nat.reduceBEq, Nat.reduceLeDiff]
  refine ⟨⟨x, l, rfl, ?_, hb⟩, ((s1.trans s2).trans k8.gr).trans s9⟩
  have e1 : [] ++ [f.st] ++ [f.en] ++ nb f.id.toNat 6 ++ nb ((f.num : Nat) : Int).toNat 16 = headB f := by
    unfold headB; rw [Int.toNat_natCast]; rfl
  rw [e1] at hp
  exact hp

end Go.Ax.D9
/- DepR4 -/
set_option maxRecDepth 100000
set_option linter.unusedVariables false
set_option linter.unusedSimpArgs false
namespace Go.Ax
/-- Outside [a, m) nothing that was there is turned. -/
structure Ko (a m : Nat) (H H' : Heap) : Prop where
  next : H.next ≤ H'.next
  same : ∀ i, i < H.next → (i < a ∨ m ≤ i) → H'.get i = H.get i
theorem Ko.refl (a m : Nat) (H : Heap) : Ko a m H H := ⟨Nat.le_refl _, fun _ _ _ => rfl⟩
theorem Ko.trans {a m : Nat} {H H1 H2 : Heap} (h : Ko a m H H1) (k : Ko a m H1 H2) : Ko a m H H2 := ⟨Nat.le_trans h.next k.next, fun i hi ho => by rw [k.same i (Nat.lt_of_lt_of_le hi h.next) ho, h.same i hi ho]⟩
theorem Grow.ko {H H' : Heap} (h : Grow H H') (a m : Nat) : Ko a m H H' := ⟨h.next, fun i hi _ => h.same i hi⟩
theorem Ko.keep {a m lo : Nat} {H H' : Heap} (h : Ko a m H H') (hl : m ≤ lo) : Keep lo H H' := ⟨h.next, fun i hl' hi => h.same i hi (.inr (by omega))⟩
theorem Ko.grow {a m : Nat} {B H H' : Heap} (g : Grow B H) (hb : B.next ≤ a) (h : Ko a m H H') : Grow B H' := ⟨Nat.le_trans g.next h.next, fun i hi => by rw [h.same i (by have := g.next; omega) (.inl (by omega)), g.same i hi]⟩
theorem Step.ko {H H' : Heap} {F F' : List Nat} (h : Step H H' F F') {a m : Nat} {B : Heap} (k : Ko a m B H) (hF : ∀ i ∈ F, B.next ≤ i) : Ko a m B H' :=
  ⟨Nat.le_trans k.next h.next, fun i hi ho => by rw [h.same i (by have := k.next; omega) (fun hm => by have := hF i hm; omega), k.same i hi ho]⟩
theorem Ko.set {a m : Nat} {B H : Heap} (h : Ko a m B H) {w : Nat} (hw : B.next ≤ w) (b : Option Blk) : Ko a m B (H.set w b) := ⟨by rw [next_set]; exact h.next, fun i hi ho => by rw [get_set_ne _ _ (by omega), h.same i hi ho]⟩
theorem Ko.new {a m : Nat} {B H : Heap} (h : Ko a m B H) (b : Blk) : Ko a m B (H.new b) := h.trans ((Grow.new H b).ko a m)

/-- A slice that may be appended to, or that is full. -/
inductive Af (ty e lo : Nat) (H : Heap) : V → List V → Nat → Prop
  | opn {v : V} {cells : List V} {n : Nat} (h : Opn ty e H v cells n) (ho : ∀ id, v.pid = some id → lo ≤ id ∧ id < H.next) : Af ty e lo H v cells n
  | full {id n : Nat} {cells : List V} (h : H.get id = some ⟨ty, cells, none⟩) (hl : cells.length = n * e) (h0 : lo ≤ id) (h1 : id < H.next) : Af ty e lo H (.sl id 0 n (.fix n)) cells n

section
variable {ty e lo n : Nat} {H H' : Heap} {v : V} {cells : List V}
theorem Af.lc (h : Af ty e lo H v cells n) : Lc e lo H v cells n := by
  cases h with
  | opn h ho => exact h.lc ho
  | full h hl h0 h1 =>
    refine ⟨?_, fun id hi => by simp only [V.pid, Option.some.injEq] at hi; subst hi; exact ⟨h0, h1⟩, Nat.le_refl _⟩
    simp only [rcells, h, Option.bind_some]
    rw [if_pos (by simp [hl]), List.drop_zero, ← hl, List.take_length]
theorem Af.nil : Af ty e lo H .nils [] 0 := .opn .nil fun _ h => by cases h
theorem Af.keep (h : Af ty e lo H v cells n) (k : Keep lo H H') : Af ty e lo H' v cells n := by
  cases h with
  | opn h ho => exact .opn (h.to fun i hi => k.same i (ho i hi).1 (ho i hi).2) fun i hi => ⟨(ho i hi).1, Nat.lt_of_lt_of_le (ho i hi).2 k.next⟩
  | full h hl h0 h1 => exact .full (by rw [k.same _ h0 h1, h]) hl h0 (Nat.lt_of_lt_of_le h1 k.next)
theorem Af.to (h : Af ty e lo H v cells n) (hn : H.next ≤ H'.next) (hs : ∀ i, v.pid = some i → H'.get i = H.get i) : Af ty e lo H' v cells n := by
  cases h with
  | opn h ho => exact .opn (h.to hs) fun i hi => ⟨(ho i hi).1, Nat.lt_of_lt_of_le (ho i hi).2 hn⟩
  | full h hl h0 h1 => exact .full (by rw [hs _ rfl, h]) hl h0 (Nat.lt_of_lt_of_le h1 hn)
theorem Af.own (h : Af ty e lo H v cells n) : ∀ i ∈ v.pid.toList, lo ≤ i := fun i hi => (h.lc.own i (mem_pid.1 hi)).1
/-- Its block. -/
theorem Af.blk (h : Af ty e lo H v cells n) (hn : 0 < n) : ∃ id cap o, v = .sl id 0 n cap ∧ H.get id = some ⟨ty, cells, o⟩ ∧ lo ≤ id ∧ id < H.next ∧ cells.length = n * e ∧ V.capOk e v := by
  cases h with
  | opn h ho =>
    rcases h with ⟨rfl, _, rfl⟩ | ⟨id, rfl, hg, hl⟩
    · omega
    · exact ⟨id, _, _, rfl, hg, (ho id rfl).1, (ho id rfl).2, hl, rfl⟩
  | full h hl h0 h1 => exact ⟨_, _, _, rfl, h, h0, h1, hl, Nat.le_refl _⟩

/-- append(x, y): one more element, from a block of one. -/
theorem okb_snoc {β : Type} {bytes : Nat} {xs : List V} {f : V → M β} {Q : β → Heap → Prop} (hv : Af ty e lo H v cells n) (hlo : lo ≤ H.next) (hx : xs.length = e) (hb : bytes ≤ 1000) (hn : n ≤ 1048576)
    (k : ∀ v' H', Af ty e lo H' v' (cells ++ xs) (n + 1) → Step H H' v.pid.toList v'.pid.toList → Ok (f v') H' Q) : Ok ((mappend ty e bytes v (.sl H.next 0 1 (.fix 1))).bind f) (H.new ⟨ty, xs, none⟩) Q := by
  have hB : (n + 1) * bytes ≤ 140737488355328 := Nat.le_trans (Nat.mul_le_mul_left _ hb) (by omega)
  have hy : acells e (H.new ⟨ty, xs, none⟩) (.sl H.next 0 1 (.fix 1)) = some (xs, 1) := acells_fresh (by omega)
  have s0 := Step.new H ⟨ty, xs, none⟩ v.pid.toList
  cases hv with
  | opn h ho =>
    have h' : Opn ty e (H.new ⟨ty, xs, none⟩) v cells n := h.to fun i hi => get_new_ne _ _ (by have := (ho i hi).2; omega)
    refine okb_append h' hy (by omega) hB (by omega) fun x' H' h1 hs _ => k x' H' (.opn h1 fun i hi => ?_) (s0.trans hs)
    rcases hs.own i (by simp [hi]) with h2 | h2
    · obtain ⟨h3, h4⟩ := ho i (by simpa [mem_pid] using h2)
      exact ⟨h3, Nat.lt_of_lt_of_le h4 (s0.trans hs).next⟩
    · rw [next_new] at h2
      exact ⟨by omega, h2.2⟩
  | full h hl h0 h1 =>
    rename_i id
    have hml : n + 1 ≤ maxLen := Nat.le_trans (by omega : n + 1 ≤ 140737488355328) byte_bound
    have hg : (H.new ⟨ty, xs, none⟩).get id = some ⟨ty, cells, none⟩ := by rw [get_new_ne _ _ (by omega), h]
    refine ok_bind ⟨.sl (H.next + 1) 0 (n + 1) (.opn e), (H.new ⟨ty, xs, none⟩).new ⟨ty, cells ++ xs, some e⟩, ?_, ?_⟩
    · simp only [mappend, hy, Option.bind_some, mappendq, hg]
      rw [if_pos ⟨by omega, trivial⟩, if_neg (by omega), if_pos ⟨hB, hml⟩]
      simp only [List.drop_zero, next_new]
      rw [← hl, List.take_length]
    · refine k _ _ (.opn (.inr ⟨H.next + 1, rfl, get_new_self _ _, ?_⟩) fun i hi => ?_) ⟨by rw [next_new, next_new]; omega, fun i hi _ => ?_, fun i hi => .inr ?_⟩
      · rw [List.length_append, hl, hx, Nat.succ_mul]
      · simp only [V.pid, Option.some.injEq] at hi
        subst hi
        rw [next_new, next_new]; omega
      · rw [get_new_ne _ _ (by rw [next_new]; omega), get_new_ne _ _ (by omega)]
      · simp only [V.pid, Option.toList_some, List.mem_singleton] at hi
        subst hi
        rw [next_new, next_new]; omega
end
end Go.Ax
namespace Go.Ax.D9
open Go.Ax B6
/-- A reader's error and what is left. -/
def Sg (e : Int) (l : List Nat) (at' : Nat) : St → Prop
  | .ok bs => e = 0 ∧ bs = (ub l).drop at'
  | .error c => e = c ∧ c ≠ 0 ∧ -9223372036854775808 ≤ c ∧ c ≤ 9223372036854775807

theorem tk_rd {l : List Nat} {at' : Nat} (h : at' ≤ 8 * l.length) (n : Nat) (hn : n ≤ 63) : ((tkV l at' (n : Nat) : Nat) : Int) = (rd n (.ok ((ub l).drop at'))).1 ∧ Sg (tkE l at' (n : Nat)) l (tkA l at' (n : Nat)) (rd n (.ok ((ub l).drop at'))).2 := by
  have hlen : ((ub l).drop at').length = 8 * l.length - at' := by rw [List.length_drop, ub_length]
  unfold rd
  dsimp only
  rw [hlen]
  by_cases hs : 8 * l.length - at' < n
  · have e : tkE l at' (n : Nat) = 3 := by unfold tkE; rw [if_neg (by omega), if_pos (by omega)]
    unfold tkV
    rw [if_pos hs, e]
    exact ⟨rfl, rfl, by decide, by decide, by decide⟩
  · have e : tkE l at' (n : Nat) = 0 := by unfold tkE; rw [if_neg (by omega), if_neg (by omega)]
    unfold tkV tkA
    rw [if_neg hs, e, if_pos rfl, if_pos rfl, Int.toNat_natCast]
    exact ⟨rfl, rfl, by rw [List.drop_drop]⟩

theorem tn_rns {l : List Nat} {at' : Nat} (h : at' ≤ 8 * l.length) (n : Nat) (h1 : 1 ≤ n) (hn : n ≤ 4294967296) : ((tnV l at' n : Nat) : Int) = (rns n (.ok ((ub l).drop at'))).1 ∧ Sg (tnE l at' n) l (tnA l at' n) (rns n (.ok ((ub l).drop at'))).2 := by
  obtain ⟨m1, m2, m3, m4, m5, m6⟩ := tn_m n h1 hn
  have eb : (bl n : Int) - 1 = ((bl n - 1 : Nat) : Int) := by omega
  have hlen : ((ub l).drop at').length = 8 * l.length - at' := by rw [List.length_drop, ub_length]
  have hE : tnE l at' n = if tkE l at' (bl n - 1 : Int) ≠ 0 then tkE l at' (bl n - 1 : Int) else if tkV l at' (bl n - 1 : Int) < 2 ^ bl n - n then 0 else tkE l (at' + (bl n - 1)) 1 := by unfold tnE; rw [if_neg (by omega)]
  unfold rns tnV tnA
  rw [eb] at hE ⊢
  dsimp only
  rw [hlen]
  by_cases hs : 8 * l.length - at' < bl n - 1
  · have e : tkE l at' ((bl n - 1 : Nat) : Int) = 3 := by unfold tkE; rw [if_neg (by omega), if_pos (by omega)]
    rw [e, if_pos (by decide)] at hE
    rw [if_pos hs, hE]
    exact ⟨rfl, rfl, by decide, by decide, by decide⟩
  · have e : tkE l at' ((bl n - 1 : Nat) : Int) = 0 := by unfold tkE; rw [if_neg (by omega), if_neg (by omega)]
    have ev : tkV l at' ((bl n - 1 : Nat) : Int) = val (((ub l).drop at').take (bl n - 1)) := by unfold tkV; rw [e, if_pos rfl, Int.toNat_natCast]
    rw [e, ev, if_neg (by decide)] at hE
    rw [if_neg hs, ev]
    by_cases hv : val (((ub l).drop at').take (bl n - 1)) < 2 ^ bl n - n
    · rw [if_pos hv] at hE
      rw [hE, if_neg (by decide), if_pos hv, if_pos hv, if_neg (by decide), if_pos hv]
      exact ⟨rfl, rfl, by rw [List.drop_drop]⟩
    · rw [if_neg hv] at hE
      by_cases hs2 : 8 * l.length - at' < bl n
      · have e2 : tkE l (at' + (bl n - 1)) 1 = 3 := by unfold tkE; rw [if_neg (by omega), if_pos (by omega)]
        rw [e2] at hE
        rw [hE, if_pos (by decide), if_neg hv, if_pos hs2]
        exact ⟨rfl, rfl, by decide, by decide, by decide⟩
      · have e2 : tkE l (at' + (bl n - 1)) 1 = 0 := by unfold tkE; rw [if_neg (by omega), if_neg (by omega)]
        have ev2 : tkV l (at' + (bl n - 1)) 1 = val ((((ub l).drop at').drop (bl n - 1)).take 1) := by
          unfold tkV; rw [e2, if_pos rfl, List.drop_drop]; rfl
        rw [e2] at hE
        rw [hE, if_neg (by decide), if_neg hv, if_neg hv, if_neg hs2, if_neg (by decide), if_neg hv, ev2]
        exact ⟨rfl, rfl, by rw [List.drop_drop]⟩

/-- The program's reader, its blocks from a on, below m. -/
structure PR (a m rb : Nat) (σ : St) (H : Heap) : Prop where
  ex : ∃ rk e at' l, H.get rb = some ⟨ty_depend_reader, [.ptr rk 0, .int .i64 e], none⟩ ∧ PRd H (a, rb) rk l at' ∧ Sg e l at' σ
  low : a ≤ rb ∧ rb < m ∧ m ≤ H.next

section
variable {a m rb : Nat} {σ : St} {H H' : Heap}
theorem PR.keep (h : PR a m rb σ H) (hs : ∀ i, a ≤ i → i < m → H'.get i = H.get i) (hn : H.next ≤ H'.next) : PR a m rb σ H' := by
  obtain ⟨⟨rk, e, at', l, h1, h3, h6⟩, h7, h8, h9⟩ := h
  exact ⟨⟨rk, e, at', l, (hs rb h7 h8).trans h1, h3.frame fun i h1 h2 => hs i h1 (Nat.lt_trans h2 h8), h6⟩, h7, h8, by omega⟩

theorem PR.ko {B : Heap} (h : PR a m rb σ H) (hs : ∀ i, i < m → H'.get i = H.get i) (hn : H.next ≤ H'.next) : PR a m rb σ H' := h.keep (fun i _ hi => hs i hi) hn
theorem PR.grow (h : PR a m rb σ H) (g : Grow H H') : PR a m rb σ H' := h.keep (fun i _ hi => g.same i (by have := h.low; omega)) g.next
theorem PR.set (h : PR a m rb σ H) {w : Nat} (hw : w < a ∨ m ≤ w) (b : Option Blk) : PR a m rb σ (H.set w b) := h.keep (fun i _ hi => get_set_ne _ _ (by omega)) (Nat.le_refl _)
theorem PR.step {F F' : List Nat} (h : PR a m rb σ H) (s : Step H H' F F') (hF : ∀ i ∈ F, m ≤ i) : PR a m rb σ H' := h.keep (fun i _ hi => s.same i (by have := h.low; omega) fun k => by have := hF i k; omega) s.next

/-- Is there an error? -/
def St.err : St → Int
  | .ok _ => 0
  | .error c => c
theorem PR.get (h : PR a m rb σ H) : ∃ rk, H.get rb = some ⟨ty_depend_reader, [.ptr rk 0, .int .i64 (St.err σ)], none⟩ := by
  obtain ⟨⟨rk, e, at', l, h1, h3, h6⟩, h7⟩ := h
  refine ⟨rk, ?_⟩
  cases σ with
  | ok bs => rw [h1, h6.1]; rfl
  | error c => rw [h1, h6.1]; rfl
theorem PR.rng (h : PR a m rb σ H) : -9223372036854775808 ≤ St.err σ ∧ St.err σ ≤ 9223372036854775807 ∧ (St.err σ = 0 ↔ ∃ bs, σ = .ok bs) := by
  obtain ⟨⟨rk, e, at', l, h1, h3, h6⟩, h7⟩ := h
  cases σ with
  | ok bs => exact ⟨(by decide : (-9223372036854775808 : Int) ≤ 0), (by decide : (0 : Int) ≤ 9223372036854775807), ⟨fun _ => ⟨bs, rfl⟩, fun _ => rfl⟩⟩
  | error c => exact ⟨h6.2.2.1, h6.2.2.2, ⟨fun h => absurd h h6.2.1, fun ⟨bs, h⟩ => by cases h⟩⟩

theorem fail_ok (h : PR a m rb σ H) (c : Int) (hc : c ≠ 0 ∧ -9223372036854775808 ≤ c ∧ c ≤ 9223372036854775807) : Ok (sem T fn_depend_reader_fail [.ptr rb 0, .int .i64 c]) H fun r H' => PR a m rb (fail c σ).2 H' ∧ Ko a m H H' := by
  obtain ⟨⟨rk, e, at', l, h1, h3, h6⟩, h7, h8, h9⟩ := id h
  refine ok_depend_reader_fail ?_
  unfold f_depend_reader_fail
  by_cases he : e = 0
  · subst he
    simp (maxSteps := 1000000) (disch := first | omega | (simp only [RY] <;> omega) | decide) only [↓RD, RZ, eq_self, Int.reduceToNat, Int.reduceAdd, Int.reduceSub, Int.reduceMul, Nat.reduceAdd, Nat.reduceSub, Nat.reduceMul, Nat.reduceDiv, Nat.reduceMod, Nat.reduceBEq, Nat.reduceLeDiff, h1]
    have hσ : (fail c σ).2 = .error c := by
      cases σ with
      | ok bs => rfl
      | error c' => exact absurd h6.1.symm h6.2.1
    rw [hσ]
    exact ⟨⟨⟨rk, c, at', l, get_set_self _ _ _, h3.frame fun i _ (hi : i < rb) => get_set_ne _ _ (by omega), rfl, hc⟩, h7, h8, h9⟩, Nat.le_refl _, fun i hi ho => get_set_ne _ _ (by omega)⟩
  · simp (maxSteps := 1000000) (disch := first | omega | (simp only [RY] <;> omega) | decide) only [↓RD, RZ, eq_self, Int.reduceToNat, Int.reduceAdd, Int.reduceSub, Int.reduceMul, Nat.reduceAdd, Nat.reduceSub, Nat.reduceMul, Nat.reduceDiv, Nat.reduceMod, Nat.reduceBEq, Nat.reduceLeDiff, h1]
    have hσ : (fail c σ).2 = σ := by
      cases σ with
      | ok bs => exact absurd h6.1 he
      | error c' => rfl
    rw [hσ]
    exact ⟨h, Ko.refl _ _ _⟩

theorem rnum_ok (h : PR a m rb σ H) (n : Nat) (hn : n ≤ 63) : Ok (sem T fn_depend_reader_num [.ptr rb 0, .int .i64 (n : Nat)]) H fun r H' => r = .int .i64 (rd n σ).1 ∧ PR a m rb (rd n σ).2 H' ∧ Ko a m H H' := by
  obtain ⟨⟨rk, e, at', l, h1, h3, h6⟩, h7, h8, h9⟩ := id h
  obtain ⟨hlow1, hlow2⟩ := h3.low
  dsimp only at hlow1 hlow2
  refine ok_depend_reader_num ?_
  unfold f_depend_reader_num
  cases σ with
  | error c =>
    obtain ⟨rfl, h6, -⟩ := h6
    simp (maxSteps := 1000000) (disch := first | omega | (simp only [RY] <;> omega) | decide) only [↓RD, RZ, eq_self, Int.reduceToNat, Int.reduceAdd, Int.reduceSub, Int.reduceMul, Nat.reduceAdd, Nat.reduceSub, Nat.reduceMul, Nat.reduceDiv, Nat.reduceMod, Nat.reduceBEq, Nat.reduceLeDiff, h1]
    exact ⟨rfl, h, Ko.refl _ _ _⟩
  | ok bs =>
    obtain ⟨rfl, rfl⟩ := h6
    simp (maxSteps := 1000000) (disch := first | omega | (simp only [RY] <;> omega) | decide) only [↓RD, RZ, eq_self, Int.reduceToNat, Int.reduceAdd, Int.reduceSub, Int.reduceMul, Nat.reduceAdd, Nat.reduceSub, Nat.reduceMul, Nat.reduceDiv, Nat.reduceMod, Nat.reduceBEq, Nat.reduceLeDiff, h1]
    refine ok_bind' (PTake_ok h3 (n : Nat) (by omega)) ?_
    rintro _ H1 ⟨rfl, k1, k2⟩
    obtain ⟨t1, t2⟩ := tk_rd h3.le n hn
    obtain ⟨q, q1, q2⟩ := rd_nat n (.ok ((ub l).drop at'))
    have q3 := pow64 q2 hn
    rw [q1] at t1
    have t3 : tkV l at' (n : Nat) = q := by omega
    have b1 : H1.get rb = _ := (k2.2 rb (by omega)).trans h1
    rw [t3, q1]
    have hm2 : IntKind.i64.wrap (q : Int) = q := wrap_i64 (by omega) (by omega)
    simp (maxSteps := 1000000) (disch := first | omega | (simp only [RY] <;> omega) | decide) only [↓RD, RZ, eq_self, Int.reduceToNat, Int.reduceAdd, Int.reduceSub, Int.reduceMul, Nat.reduceAdd, Nat.reduceSub, Nat.reduceMul, Nat.reduceDiv, Nat.reduceMod, Nat.reduceBEq, Nat.reduceLeDiff, b1, hm2]
    have := k2.1
    refine ⟨⟨⟨rk, _, _, l, get_set_self _ _ _, k1.frame fun i _ (hi : i < rb) => get_set_ne _ _ (by omega), t2⟩, h7, h8, by rw [next_set]; omega⟩, by rw [next_set]; omega, fun i hi ho => ?_⟩
    rw [get_set_ne _ _ (by omega), k2.2 i (by omega)]

theorem rns_ok (h : PR a m rb σ H) (n : Nat) (h0 : 1 ≤ n) (hn : n ≤ 4294967296) : Ok (sem T fn_depend_reader_ns [.ptr rb 0, .int .i64 (n : Nat)]) H fun r H' => r = .int .i64 (rns n σ).1 ∧ PR a m rb (rns n σ).2 H' ∧ Ko a m H H' := by
  obtain ⟨⟨rk, e, at', l, h1, h3, h6⟩, h7, h8, h9⟩ := id h
  obtain ⟨hlow1, hlow2⟩ := h3.low
  dsimp only at hlow1 hlow2
  refine ok_depend_reader_ns ?_
  unfold f_depend_reader_ns
  cases σ with
  | error c =>
    obtain ⟨rfl, h6, -⟩ := h6
    simp (maxSteps := 1000000) (disch := first | omega | (simp only [RY] <;> omega) | decide) only [↓RD, RZ, eq_self, Int.reduceToNat, Int.reduceAdd, Int.reduceSub, Int.reduceMul, Nat.reduceAdd, Nat.reduceSub, Nat.reduceMul, Nat.reduceDiv, Nat.reduceMod, Nat.reduceBEq, Nat.reduceLeDiff, h1]
    exact ⟨rfl, h, Ko.refl _ _ _⟩
  | ok bs =>
    obtain ⟨rfl, rfl⟩ := h6
    have en : n % 18446744073709551616 = n := by omega
    simp (maxSteps := 1000000) (disch := first | omega | (simp only [RY] <;> omega) | decide) only [↓RD, RZ, eq_self, Int.reduceToNat, Int.reduceAdd, Int.reduceSub, Int.reduceMul, Nat.reduceAdd, Nat.reduceSub, Nat.reduceMul, Nat.reduceDiv, Nat.reduceMod, Nat.reduceBEq, Nat.reduceLeDiff, h1, en]
    refine ok_bind' (PTakeNS_ok h3 n (by omega)) ?_
    rintro _ H1 ⟨rfl, k1, k2⟩
    obtain ⟨t1, t2⟩ := tn_rns h3.le n h0 hn
    have q3 := rns_rng h0 (.ok ((ub l).drop at'))
    obtain ⟨q, q1⟩ := Int.eq_ofNat_of_zero_le q3.1
    rw [q1] at t1 q3
    have t3 : tnV l at' n = q := by omega
    have b1 : H1.get rb = _ := (k2.2 rb (by omega)).trans h1
    rw [t3, q1]
    have hm2 : IntKind.i64.wrap (q : Int) = q := wrap_i64 (by omega) (by omega)
    simp (maxSteps := 1000000) (disch := first | omega | (simp only [RY] <;> omega) | decide) only [↓RD, RZ, eq_self, Int.reduceToNat, Int.reduceAdd, Int.reduceSub, Int.reduceMul, Nat.reduceAdd, Nat.reduceSub, Nat.reduceMul, Nat.reduceDiv, Nat.reduceMod, Nat.reduceBEq, Nat.reduceLeDiff, b1, hm2]
    have := k2.1
    refine ⟨⟨⟨rk, _, _, l, get_set_self _ _ _, k1.frame fun i _ (hi : i < rb) => get_set_ne _ _ (by omega), t2⟩, h7, h8, by rw [next_set]; omega⟩, by rw [next_set]; omega, fun i hi ho => ?_⟩
    rw [get_set_ne _ _ (by omega), k2.2 i (by omega)]

theorem rbit_ok (h : PR a m rb σ H) : Ok (sem T fn_depend_reader_bit [.ptr rb 0]) H fun r H' => r = .bool (decide ((rd 1 σ).1 = 1)) ∧ PR a m rb (rd 1 σ).2 H' ∧ Ko a m H H' := by
  refine ok_depend_reader_bit ?_
  unfold f_depend_reader_bit
  refine ok_bind' (rnum_ok h 1 (by decide)) ?_
  rintro _ H1 ⟨rfl, h1, k1⟩
  simp (maxSteps := 1000000) (disch := first | omega | (simp only [RY] <;> omega) | decide) only [↓RD, RZ, eq_self, Int.reduceToNat, Int.reduceAdd, Int.reduceSub, Int.reduceMul, Nat.reduceAdd, Nat.reduceSub, Nat.reduceMul, Nat.reduceDiv, Nat.reduceMod, Nat.reduceBEq, Nat.reduceLeDiff]
  exact ⟨by rw [Bool.beq_eq_decide_eq], h1, k1⟩

theorem rleft_ok {bs : List Bool} (h : PR a m rb (.ok bs) H) : ∃ rk, H.get rb = some ⟨ty_depend_reader, [.ptr rk 0, .int .i64 0], none⟩ ∧ Ok (sem T fn_bits_Reader_Left [.ptr rk 0]) H fun r H' => r = .int .i64 (bs.length : Nat) ∧ H' = H := by
  obtain ⟨⟨rk, e, at', l, h1, h3, rfl, rfl⟩, h7⟩ := h
  refine ⟨rk, h1, ?_⟩
  rw [List.length_drop, ub_length]
  exact PLeft_ok h3

/-- Numbers, one by one. -/
theorem rnums_ok (h : PR a m rb σ H) (many n : Nat) (hm : many ≤ 1048576) (hn : n ≤ 63) : Ok (sem T fn_depend_reader_nums [.ptr rb 0, .int .i64 (many : Nat), .int .i64 (n : Nat)]) H fun r H' => Il H.next H' r (nums many n σ).1 ∧ PR a m rb (nums many n σ).2 H' ∧ Ko a m H H' := by
  have hlow := h.low
  refine ok_depend_reader_nums ?_
  unfold f_depend_reader_nums
  simp (maxSteps := 1000000) (disch := first | omega | (simp only [RY] <;> omega) | decide) only [↓RD, RZ, eq_self, Int.reduceToNat, Int.reduceAdd, Int.reduceSub, Int.reduceMul, Nat.reduceAdd, Nat.reduceSub, Nat.reduceMul, Nat.reduceDiv, Nat.reduceMod, Nat.reduceBEq, Nat.reduceLeDiff]
  refine ok_loop (fun k L H' => ∃ v, L = [v, .int .i64 (k : Nat)] ∧ Af ty_int 1 H.next H' v ((numsN (rd n) k σ).1.map byi) k ∧ PR a m rb (numsN (rd n) k σ).2 H' ∧ Ko a m H H') many ?_ ?_ ?_
  · exact ⟨_, rfl, Af.nil, h, Ko.refl _ _ _⟩
  · rintro k L H1 hk ⟨v, rfl, hv, h1, k1⟩
    unfold f_depend_reader_nums_0
    simp (maxSteps := 1000000) (disch := first | omega | (simp only [RY] <;> omega) | decide) only [↓RD, RZ, eq_self, Int.reduceToNat, Int.reduceAdd, Int.reduceSub, Int.reduceMul, Nat.reduceAdd, Nat.reduceSub, Nat.reduceMul, Nat.reduceDiv, Nat.reduceMod, Nat.reduceBEq, Nat.reduceLeDiff]
    refine ok_bind' (rnum_ok h1 n hn) ?_
    rintro _ H2 ⟨rfl, h2, k2⟩
    have n1 := k1.next
    have n2 := k2.next
    have hv2 := hv.keep (k2.keep (by omega))
    simp (maxSteps := 1000000) (disch := first | omega | (simp only [RY] <;> omega) | decide) only [↓RD, RZ, eq_self, Int.reduceToNat, Int.reduceAdd, Int.reduceSub, Int.reduceMul, Nat.reduceAdd, Nat.reduceSub, Nat.reduceMul, Nat.reduceDiv, Nat.reduceMod, Nat.reduceBEq, Nat.reduceLeDiff]
    refine okb_snoc hv2 (by omega) rfl (by decide) (by omega) fun v' H3 hv3 s3 => ?_
    simp (maxSteps := 1000000) (disch := first | omega | (simp only [RY] <;> omega) | decide) only [↓RD, RZ, eq_self, Int.reduceToNat, Int.reduceAdd, Int.reduceSub, Int.reduceMul, Nat.reduceAdd, Nat.reduceSub, Nat.reduceMul, Nat.reduceDiv, Nat.reduceMod, Nat.reduceBEq, Nat.reduceLeDiff]
    refine ⟨v', rfl, ?_, h2.step s3 fun i hi => by have := hv2.own i hi; omega, s3.ko (k1.trans k2) fun i hi => hv2.own i hi⟩
    simpa [numsN, sb, sp, byi] using hv3
  · rintro L H1 ⟨v, rfl, hv, h1, k1⟩
    unfold f_depend_reader_nums_0
    simp (maxSteps := 1000000) (disch := first | omega | (simp only [RY] <;> omega) | decide) only [↓RD, RZ, eq_self, Int.reduceToNat, Int.reduceAdd, Int.reduceSub, Int.reduceMul, Nat.reduceAdd, Nat.reduceSub, Nat.reduceMul, Nat.reduceDiv, Nat.reduceMod, Nat.reduceBEq, Nat.reduceLeDiff]
    refine ⟨?_, h1, k1⟩
    show Lc 1 _ _ _ ((numsN (rd n) many σ).1.map byi) (numsN (rd n) many σ).1.length
    rw [numsN_len]
    simpa using hv.lc

theorem dfP_1 {n : Nat} {l : List Int} {σ : St} (h : (rd 1 σ).1 = 1) (h8 : 8 ≤ l.length) : dfP (n + 1) l σ = ([], (fail 4 (rd 1 σ).2).2) := by unfold dfP; dsimp only; rw [if_pos h, if_pos h8]
theorem dfP_2 {n : Nat} {l : List Int} {σ : St} (h : (rd 1 σ).1 = 1) (h8 : ¬ 8 ≤ l.length) : dfP (n + 1) l σ = dfP n (l ++ [(rd 4 (rd 1 σ).2).1 + 1]) (rd 4 (rd 1 σ).2).2 := by rw [dfP]; dsimp only; rw [if_pos h, if_neg h8]
theorem dfP_3 {n : Nat} {l : List Int} {σ : St} (h : ¬ (rd 1 σ).1 = 1) : dfP (n + 1) l σ = (l, (rd 1 σ).2) := by unfold dfP; dsimp only; rw [if_neg h]
theorem ogP_1 {n : Nat} {l : List Int} {σ : St} (h : 0 < (rd 2 σ).1) (h8 : 16 ≤ l.length) : ogP (n + 1) l σ = ([], (fail 4 (rd 2 σ).2).2) := by unfold ogP; dsimp only; rw [if_pos h, if_pos h8]
theorem ogP_2 {n : Nat} {l : List Int} {σ : St} (h : 0 < (rd 2 σ).1) (h8 : ¬ 16 ≤ l.length) : ogP (n + 1) l σ = ogP n (l ++ [(rd (4 * (rd 2 σ).1.toNat) (rd 2 σ).2).1 + 1]) (rd (4 * (rd 2 σ).1.toNat) (rd 2 σ).2).2 := by rw [ogP]; dsimp only; rw [if_pos h, if_neg h8]
theorem ogP_3 {n : Nat} {l : List Int} {σ : St} (h : ¬ 0 < (rd 2 σ).1) : ogP (n + 1) l σ = (l, (rd 2 σ).2) := by unfold ogP; dsimp only; rw [if_neg h]

theorem rdiffs_ok (h : PR a m rb σ H) : Ok (sem T fn_depend_reader_diffs [.ptr rb 0]) H fun r H' => Il H.next H' r (dfP 9 [] σ).1 ∧ PR a m rb (dfP 9 [] σ).2 H' ∧ Ko a m H H' := by
  have hlow := h.low
  refine ok_depend_reader_diffs ?_
  unfold f_depend_reader_diffs
  simp (maxSteps := 1000000) (disch := first | omega | (simp only [RY] <;> omega) | decide) only [↓RD, RZ, eq_self, Int.reduceToNat, Int.reduceAdd, Int.reduceSub, Int.reduceMul, Nat.reduceAdd, Nat.reduceSub, Nat.reduceMul, Nat.reduceDiv, Nat.reduceMod, Nat.reduceBEq, Nat.reduceLeDiff]
  refine ok_while (fun L H' n => ∃ v l σ', L = [v] ∧ n + l.length = 9 ∧ l.length ≤ 8 ∧ Af ty_int 1 H.next H' v (l.map byi) l.length ∧ PR a m rb σ' H' ∧ Ko a m H H' ∧ dfP n l σ' = dfP 9 [] σ) 9 ?_ ?_
  · exact ⟨_, [], σ, rfl, rfl, by simp, Af.nil, h, Ko.refl _ _ _, rfl⟩
  · rintro L H1 n ⟨v, l, σ', rfl, hn, hl, hv, h1, k1, he⟩
    obtain ⟨n', rfl⟩ : ∃ n', n = n' + 1 := ⟨n - 1, by omega⟩
    unfold f_depend_reader_diffs_0
    refine ok_bind' (rbit_ok h1) ?_
    rintro _ H2 ⟨rfl, h2, k2⟩
    have n1 := k1.next
    have n2 := k2.next
    have hv2 := hv.keep (k2.keep (by omega))
    by_cases hb : (rd 1 σ').1 = 1
    · rw [decide_eq_true hb]
      by_cases h8 : 8 ≤ l.length
      · simp (maxSteps := 1000000) (disch := first | omega | (simp only [RY] <;> omega) | decide) only [↓RD, RZ, eq_self, Int.reduceToNat, Int.reduceAdd, Int.reduceSub, Int.reduceMul, Nat.reduceAdd, Nat.reduceSub, Nat.reduceMul, Nat.reduceDiv, Nat.reduceMod, Nat.reduceBEq, Nat.reduceLeDiff, hv.lc.vlen]
        refine ok_bind' (fail_ok h2 4 (by decide)) ?_
        rintro _ H3 ⟨h3, k3⟩
        simp (maxSteps := 1000000) (disch := first | omega | (simp only [RY] <;> omega) | decide) only [↓RD, RZ, eq_self, Int.reduceToNat, Int.reduceAdd, Int.reduceSub, Int.reduceMul, Nat.reduceAdd, Nat.reduceSub, Nat.reduceMul, Nat.reduceDiv, Nat.reduceMod, Nat.reduceBEq, Nat.reduceLeDiff]
        rw [← he, dfP_1 hb h8]
        exact ⟨Lc.nil, h3, (k1.trans k2).trans k3⟩
      · simp (maxSteps := 1000000) (disch := first | omega | (simp only [RY] <;> omega) | decide) only [↓RD, RZ, eq_self, Int.reduceToNat, Int.reduceAdd, Int.reduceSub, Int.reduceMul, Nat.reduceAdd, Nat.reduceSub, Nat.reduceMul, Nat.reduceDiv, Nat.reduceMod, Nat.reduceBEq, Nat.reduceLeDiff, hv.lc.vlen]
        refine ok_bind' (rnum_ok h2 4 (by decide)) ?_
        rintro _ H3 ⟨rfl, h3, k3⟩
        have n3 := k3.next
        have hv3 := hv2.keep (k3.keep (by omega))
        have hr := rd_hi (n := 4) (hi := 15) (by decide) (rd 1 σ').2
        simp (maxSteps := 1000000) (disch := first | omega | (simp only [RY] <;> omega) | decide) only [↓RD, RZ, eq_self, Int.reduceToNat, Int.reduceAdd, Int.reduceSub, Int.reduceMul, Nat.reduceAdd, Nat.reduceSub, Nat.reduceMul, Nat.reduceDiv, Nat.reduceMod, Nat.reduceBEq, Nat.reduceLeDiff]
        refine okb_snoc hv3 (by omega) rfl (by decide) (by omega) fun v' H4 hv4 s4 => ?_
        simp (maxSteps := 1000000) (disch := first | omega | (simp only [RY] <;> omega) | decide) only [↓RD, RZ, eq_self, Int.reduceToNat, Int.reduceAdd, Int.reduceSub, Int.reduceMul, Nat.reduceAdd, Nat.reduceSub, Nat.reduceMul, Nat.reduceDiv, Nat.reduceMod, Nat.reduceBEq, Nat.reduceLeDiff]
        refine ⟨n', by omega, v', l ++ [(rd 4 (rd 1 σ').2).1 + 1], _, rfl, by rw [List.length_append, List.length_singleton]; omega, by rw [List.length_append, List.length_singleton]; omega, ?_, h3.step s4 fun i hi => by have := hv3.own i hi; omega, s4.ko ((k1.trans k2).trans k3) fun i hi => hv3.own i hi, ?_⟩
        · simpa [byi] using hv4
        · rw [← he, dfP_2 hb h8]
    · rw [decide_eq_false hb]
      simp (maxSteps := 1000000) (disch := first | omega | (simp only [RY] <;> omega) | decide) only [↓RD, RZ, eq_self, Int.reduceToNat, Int.reduceAdd, Int.reduceSub, Int.reduceMul, Nat.reduceAdd, Nat.reduceSub, Nat.reduceMul, Nat.reduceDiv, Nat.reduceMod, Nat.reduceBEq, Nat.reduceLeDiff]
      rw [← he, dfP_3 hb]
      exact ⟨hv2.lc, h2, k1.trans k2⟩

theorem rown_ok (h : PR a m rb σ H) : Ok (sem T fn_depend_reader_own [.ptr rb 0]) H fun r H' => Il H.next H' r (ogP 17 [] σ).1 ∧ PR a m rb (ogP 17 [] σ).2 H' ∧ Ko a m H H' := by
  have hlow := h.low
  refine ok_depend_reader_own ?_
  unfold f_depend_reader_own
  refine ok_bind' (rnum_ok h 2 (by decide)) ?_
  rintro _ H0' ⟨rfl, h0, k0⟩
  have n0 := k0.next
  simp (maxSteps := 1000000) (disch := first | omega | (simp only [RY] <;> omega) | decide) only [↓RD, RZ, eq_self, Int.reduceToNat, Int.reduceAdd, Int.reduceSub, Int.reduceMul, Nat.reduceAdd, Nat.reduceSub, Nat.reduceMul, Nat.reduceDiv, Nat.reduceMod, Nat.reduceBEq, Nat.reduceLeDiff]
  refine ok_while (fun L H' n => ∃ v l σ', L = [v, .int .i64 (rd 2 σ').1] ∧ n + l.length = 17 ∧ l.length ≤ 16 ∧ Af ty_int 1 H.next H' v (l.map byi) l.length ∧ PR a m rb (rd 2 σ').2 H' ∧ Ko a m H H' ∧ ogP n l σ' = ogP 17 [] σ) 17 ?_ ?_
  · exact ⟨_, [], σ, rfl, rfl, by simp, Af.nil, h0, k0, rfl⟩
  · rintro L H1 n ⟨v, l, σ', rfl, hn, hl, hv, h1, k1, he⟩
    obtain ⟨n', rfl⟩ : ∃ n', n = n' + 1 := ⟨n - 1, by omega⟩
    unfold f_depend_reader_own_0
    have n1 := k1.next
    obtain ⟨b, hb, hb4⟩ := rd_nat 2 σ'
    by_cases hp : 0 < (rd 2 σ').1
    · skip
      by_cases h8 : 16 ≤ l.length
      · simp (maxSteps := 1000000) (disch := first | omega | (simp only [RY] <;> omega) | decide) only [↓RD, RZ, eq_self, Int.reduceToNat, Int.reduceAdd, Int.reduceSub, Int.reduceMul, Nat.reduceAdd, Nat.reduceSub, Nat.reduceMul, Nat.reduceDiv, Nat.reduceMod, Nat.reduceBEq, Nat.reduceLeDiff, hv.lc.vlen]
        refine ok_bind' (fail_ok h1 4 (by decide)) ?_
        rintro _ H3 ⟨h3, k3⟩
        simp (maxSteps := 1000000) (disch := first | omega | (simp only [RY] <;> omega) | decide) only [↓RD, RZ, eq_self, Int.reduceToNat, Int.reduceAdd, Int.reduceSub, Int.reduceMul, Nat.reduceAdd, Nat.reduceSub, Nat.reduceMul, Nat.reduceDiv, Nat.reduceMod, Nat.reduceBEq, Nat.reduceLeDiff]
        rw [← he, ogP_1 hp h8]
        exact ⟨Lc.nil, h3, k1.trans k3⟩
      · have e4 : 4 * (rd 2 σ').1 = ((4 * (rd 2 σ').1.toNat : Nat) : Int) := by omega
        simp (maxSteps := 1000000) (disch := first | omega | (simp only [RY] <;> omega) | decide) only [↓RD, RZ, eq_self, Int.reduceToNat, Int.reduceAdd, Int.reduceSub, Int.reduceMul, Nat.reduceAdd, Nat.reduceSub, Nat.reduceMul, Nat.reduceDiv, Nat.reduceMod, Nat.reduceBEq, Nat.reduceLeDiff, hv.lc.vlen, e4]
        refine ok_bind' (rnum_ok h1 (4 * (rd 2 σ').1.toNat) (by omega)) ?_
        rintro _ H3 ⟨rfl, h3, k3⟩
        have n3 := k3.next
        have hv3 := hv.keep (k3.keep (by omega))
        obtain ⟨q, q1, q2⟩ := rd_nat (4 * (rd 2 σ').1.toNat) (rd 2 σ').2
        have q3 : 2 ^ (4 * (rd 2 σ').1.toNat) ≤ 2 ^ 12 := Nat.pow_le_pow_right (by decide) (by omega)
        simp (maxSteps := 1000000) (disch := first | omega | (simp only [RY] <;> omega) | decide) only [↓RD, RZ, eq_self, Int.reduceToNat, Int.reduceAdd, Int.reduceSub, Int.reduceMul, Nat.reduceAdd, Nat.reduceSub, Nat.reduceMul, Nat.reduceDiv, Nat.reduceMod, Nat.reduceBEq, Nat.reduceLeDiff]
        refine okb_snoc hv3 (by omega) rfl (by decide) (by omega) fun v' H4 hv4 s4 => ?_
        have s4k := s4.ko (k1.trans k3) fun i hi => hv3.own i hi
        simp (maxSteps := 1000000) (disch := first | omega | (simp only [RY] <;> omega) | decide) only [↓RD, RZ, eq_self, Int.reduceToNat, Int.reduceAdd, Int.reduceSub, Int.reduceMul, Nat.reduceAdd, Nat.reduceSub, Nat.reduceMul, Nat.reduceDiv, Nat.reduceMod, Nat.reduceBEq, Nat.reduceLeDiff]
        refine ok_bind' (rnum_ok (h3.step s4 fun i hi => by have := hv3.own i hi; omega) 2 (by decide)) ?_
        rintro _ H5 ⟨rfl, h5, k5⟩
        simp (maxSteps := 1000000) (disch := first | omega | (simp only [RY] <;> omega) | decide) only [↓RD, RZ, eq_self, Int.reduceToNat, Int.reduceAdd, Int.reduceSub, Int.reduceMul, Nat.reduceAdd, Nat.reduceSub, Nat.reduceMul, Nat.reduceDiv, Nat.reduceMod, Nat.reduceBEq, Nat.reduceLeDiff]
        have n4 := s4.next
        refine ⟨n', by omega, v', l ++ [(rd (4 * (rd 2 σ').1.toNat) (rd 2 σ').2).1 + 1], _, rfl, by rw [List.length_append, List.length_singleton]; omega, by rw [List.length_append, List.length_singleton]; omega, ?_, h5, s4k.trans k5, ?_⟩
        · have := hv4.keep (k5.keep (by omega))
          simpa [byi] using this
        · rw [← he, ogP_2 hp h8]
    · simp (maxSteps := 1000000) (disch := first | omega | (simp only [RY] <;> omega) | decide) only [↓RD, RZ, eq_self, Int.reduceToNat, Int.reduceAdd, Int.reduceSub, Int.reduceMul, Nat.reduceAdd, Nat.reduceSub, Nat.reduceMul, Nat.reduceDiv, Nat.reduceMod, Nat.reduceBEq, Nat.reduceLeDiff]
      rw [← he, ogP_3 hp]
      exact ⟨hv.lc, h1, k1⟩

end
end Go.Ax.D9
/- DepR5 -/
set_option maxRecDepth 100000
set_option linter.unusedVariables false
set_option linter.unusedSimpArgs false
namespace Go.Ax.D9
open Go.Ax B6
theorem splice_flat {k : Nat} : ∀ {es : List (List V)}, (∀ x ∈ es, x.length = k) → ∀ {i j : Nat} (hi : i < es.length), j < k → ∀ (x : V), splice es.flatten (i * k + j) [x] = (es.set i (es[i].set j x)).flatten := by
  intro es
  induction es with
  | nil => intro _ i j hi; simp at hi
  | cons y es ih =>
    intro h i j hi hj x
    have hy := h y (List.mem_cons_self ..)
    have hl := flat_len es (k := k) fun z hz => h z (List.mem_cons_of_mem _ hz)
    cases i with
    | zero =>
      simp only [Nat.zero_mul, Nat.zero_add, List.flatten_cons, List.getElem_cons_zero, List.set_cons_zero]
      rw [sp_set _ _ _ (by rw [List.length_append]; omega), List.set_append, if_pos (by omega)]
    | succ i =>
      have hi' : i < es.length := by simpa using hi
      have := ih (fun z hz => h z (List.mem_cons_of_mem _ hz)) hi' hj x
      have hik : i * k + k ≤ es.length * k := by rw [← Nat.succ_mul]; exact Nat.mul_le_mul_right k hi'
      rw [sp_set _ _ _ (by rw [hl]; omega)] at this
      simp only [List.flatten_cons, List.getElem_cons_succ, List.set_cons_succ]
      have e : (i + 1) * k + j = y.length + (i * k + j) := by rw [Nat.succ_mul]; omega
      rw [sp_set _ _ _ (by rw [List.length_append, hl, e]; omega), e, List.set_append_right _ _ (by omega), Nat.add_sub_cancel_left, this]

/-- Templates that may be written. -/
structure TsW (ty lo : Nat) (H : Heap) (v : V) (id : Nat) (cap : Cap) (o : Option Nat) (ws : List Tw) : Prop where
  v : v = .sl id 0 ws.length cap
  g : H.get id = some ⟨ty, (ws.map tc).flatten, o⟩
  lo : lo ≤ id ∧ id < H.next
  cap : V.capOk 5 (.sl id 0 ws.length cap)
  ls : ∀ w ∈ ws, TmR (id + 1) H w.1 w.2.1 w.2.2.1 w.2.2.2

section
variable {ty lo id : Nat} {H H' : Heap} {v : V} {cap : Cap} {o : Option Nat} {ws : List Tw}
theorem TsW.keep (h : TsW ty lo H v id cap o ws) (k : Keep lo H H') : TsW ty lo H' v id cap o ws :=
  ⟨h.v, (k.same id h.lo.1 h.lo.2).trans h.g, ⟨h.lo.1, Nat.lt_of_lt_of_le h.lo.2 k.next⟩, h.cap, fun w hw => (h.ls w hw).keep ⟨k.next, fun i hi hl => k.same i (by have := h.lo; omega) hl⟩⟩
theorem TsW.ko {a m : Nat} (h : TsW ty lo H v id cap o ws) (k : Ko a m H H') (hm : m ≤ lo) : TsW ty lo H' v id cap o ws := h.keep (k.keep hm)
theorem TsW.set {w : Nat} (h : TsW ty lo H v id cap o ws) (hw : w < lo) (b : Option Blk) : TsW ty lo (H.set w b) v id cap o ws := h.keep (Keep.set H hw b)
theorem TsW.len (h : TsW ty lo H v id cap o ws) : ((ws.map tc).flatten).length = ws.length * 5 := by
  have := flat_len (ws.map tc) (tc_len ws); rwa [List.length_map] at this
theorem TsW.lc (h : TsW ty lo H v id cap o ws) : Lc 5 lo H v (ws.map tc).flatten ws.length := by
  have hl := h.len
  obtain ⟨rfl, hg, hlo, hc, -⟩ := h
  refine ⟨?_, fun i hi => by simp only [V.pid, Option.some.injEq] at hi; subst hi; exact hlo, hc⟩
  simp only [rcells, hg, Option.bind_some]
  rw [if_pos (by omega), List.drop_zero, ← hl, List.take_length]
theorem TsW.tms (h : TsW ty lo H v id cap o ws) : Tms lo H v (ws.map (·.1)) := ⟨ws, rfl, h.lc, fun w hw => (h.ls w hw).low (by have := h.lo; omega)⟩
theorem TsW.vlen (h : TsW ty lo H v id cap o ws) : Ax.vlen v = some (.int .i64 (ws.length : Nat)) := h.lc.vlen
theorem TsW.at (h : TsW ty lo H v id cap o ws) {i : Nat} (hi : i < ws.length) {k : IntKind} : Ax.iaddr none 5 v (.int k (i : Nat)) = some (.ptr id (i * 5)) := by
  rw [h.v, iaddr_sl (by omega) (by omega)]; simp
theorem TsW.cel (h : TsW ty lo H v id cap o ws) : Cel v := h.lc.cel
theorem TsW.put (h : TsW ty lo H v id cap o ws) {i j : Nat} (hi : i < ws.length) {w' : Tw} {x : V} (hj : j < 5) (hw : tc w' = (tc ws[i]).set j x) (hr : TmR (id + 1) H w'.1 w'.2.1 w'.2.2.1 w'.2.2.2) :
    TsW ty lo (H.set id (some ⟨ty, splice (ws.map tc).flatten (i * 5 + j) [x], o⟩)) v id cap o (ws.set i w') := by
  have k : Keep (id + 1) H (H.set id (some ⟨ty, splice (ws.map tc).flatten (i * 5 + j) [x], o⟩)) := Keep.set H (by omega) _
  refine ⟨by rw [List.length_set]; exact h.v, ?_, h.lo, by rw [List.length_set]; exact h.cap, fun w hw' => ?_⟩
  · rw [get_set_self, splice_flat (tc_len ws) (by rw [List.length_map]; exact hi) hj, List.getElem_map, ← hw, List.map_set]
  · rcases List.mem_or_eq_of_mem_set hw' with hw' | rfl
    · exact (h.ls w hw').keep k
    · exact hr.keep k
/-- Before anything is written. -/
theorem TsW.mk0 {ts : List Tm} (h : Af ty 5 lo H v ((ts.map fun t => (tc (t, .nils, .nils, .nils))).flatten) ts.length) (h0 : 0 < ts.length) (he : ∀ t ∈ ts, t.dti = [] ∧ t.dif = [] ∧ t.cha = []) :
    ∃ id cap o, TsW ty lo H v id cap o (ts.map fun t => (t, .nils, .nils, .nils)) := by
  obtain ⟨id, cap, o, hv, hg, hlo, hlt, hl, hc⟩ := h.blk h0
  refine ⟨id, cap, o, by rw [List.length_map]; exact hv, by rw [List.map_map]; exact hg, ⟨hlo, hlt⟩, by rw [List.length_map, ← hv]; exact hc, fun w hw => ?_⟩
  obtain ⟨t, ht, rfl⟩ := List.mem_map.1 hw
  obtain ⟨e1, e2, e3⟩ := he t ht
  refine ⟨?_, ?_, ?_⟩
  · show Il _ _ _ t.dti; rw [e1]; exact Lc.nil
  · show Il _ _ _ t.dif; rw [e2]; exact Lc.nil
  · show Il _ _ _ t.cha; rw [e3]; exact Lc.nil
end
/-- The templates' cells, no lists yet. -/
abbrev tc0 (l : List Tm) : List V := (l.map fun t => tc (t, .nils, .nils, .nils)).flatten

theorem nxt_rng {t : Tm} (h : 0 ≤ t.sp ∧ t.sp ≤ 3 ∧ 0 ≤ t.te ∧ t.te ≤ 7) (k : Int) : 0 ≤ (nxt t k).sp ∧ (nxt t k).sp ≤ 4 ∧ 0 ≤ (nxt t k).te ∧ (nxt t k).te ≤ 8 := by
  unfold nxt
  split
  · dsimp only; omega
  · split <;> (dsimp only; omega)
theorem nxt_emp (t : Tm) (k : Int) : (nxt t k).dti = [] ∧ (nxt t k).dif = [] ∧ (nxt t k).cha = [] := by
  unfold nxt
  split
  · exact ⟨rfl, rfl, rfl⟩
  · split <;> exact ⟨rfl, rfl, rfl⟩
theorem nxt_1 {t : Tm} : nxt t 1 = ⟨t.sp, t.te + 1, [], [], []⟩ := rfl
theorem nxt_2 {t : Tm} : nxt t 2 = ⟨t.sp + 1, 0, [], [], []⟩ := rfl
theorem nxt_0 {t : Tm} : nxt t 0 = ⟨t.sp, t.te, [], [], []⟩ := rfl

/-- What is read so far: fine, or there is an error. -/
structure TmE (σ : St) (l : List Tm) : Prop where
  ok : (∃ bs, σ = .ok bs) → TmL l
  len : 1 ≤ l.length ∧ l.length ≤ 65
  rng : ∀ t ∈ l, 0 ≤ t.sp ∧ t.sp ≤ 4 ∧ 0 ≤ t.te ∧ t.te ≤ 8
  emp : ∀ t ∈ l, t.dti = [] ∧ t.dif = [] ∧ t.cha = []

theorem tmP_e (n : Nat) (l : List Tm) (c : Int) : tmP n l (.error c) = (l, .error c) := by cases n <;> rfl
theorem tmP_3 {n : Nat} {l : List Tm} {bs : List Bool} (h : (rd 2 (.ok bs)).1 = 3) : tmP (n + 1) l (.ok bs) = (l, (rd 2 (.ok bs)).2) := by
  rw [tmP]; dsimp only; rw [if_pos h]
theorem tmP_b {n : Nat} {l : List Tm} {bs : List Bool} (h : ¬ (rd 2 (.ok bs)).1 = 3) (hb : tbad l (nxt (last l) (rd 2 (.ok bs)).1)) : tmP (n + 1) l (.ok bs) = tmP n (l ++ [nxt (last l) (rd 2 (.ok bs)).1]) (fail 2 (rd 2 (.ok bs)).2).2 := by
  rw [tmP]; dsimp only; rw [if_neg h, if_pos hb]
theorem tmP_g {n : Nat} {l : List Tm} {bs : List Bool} (h : ¬ (rd 2 (.ok bs)).1 = 3) (hb : ¬ tbad l (nxt (last l) (rd 2 (.ok bs)).1)) : tmP (n + 1) l (.ok bs) = tmP n (l ++ [nxt (last l) (rd 2 (.ok bs)).1]) (rd 2 (.ok bs)).2 := by
  rw [tmP]; dsimp only; rw [if_neg h, if_neg hb]

theorem TmE.snoc {l : List Tm} (h : TmL l) {k : Int} {σ : St} (hs : ∀ bs, σ = .ok bs → ¬ tbad l (nxt (last l) k)) : TmE σ (l ++ [nxt (last l) k]) := by
  have hl := h.len
  have hr := nxt_rng (layAt_rng (h.lay (l.length - 1) (by omega))) k
  refine ⟨fun ⟨bs, e⟩ => h.snoc (hs bs e), by rw [List.length_append, List.length_singleton]; omega, fun t ht => ?_, fun t ht => ?_⟩
  · rcases List.mem_append.1 ht with ht | ht
    · have := forall_getD (l := l) (P := fun t => 0 ≤ t.sp ∧ t.sp ≤ 3 ∧ 0 ≤ t.te ∧ t.te ≤ 7) (fun i hi => layAt_rng (h.lay i hi)) t ht
      omega
    · simp only [List.mem_singleton] at ht
      subst ht
      exact hr
  · rcases List.mem_append.1 ht with ht | ht
    · exact h.emp t ht
    · simp only [List.mem_singleton] at ht
      subst ht
      exact nxt_emp _ _

section
variable {a m rb : Nat} {σ : St} {H H' : Heap}
theorem rtemplates_ok (h : PR a m rb σ H) : Ok (sem T fn_depend_reader_templates [.ptr rb 0]) H fun r H' => Af ty_depend_Template 5 H.next H' r (tc0 (tmP 65 [Tm0] σ).1) (tmP 65 [Tm0] σ).1.length ∧ TmE (tmP 65 [Tm0] σ).2 (tmP 65 [Tm0] σ).1 ∧ PR a m rb (tmP 65 [Tm0] σ).2 H' ∧ Ko a m H H' := by
  have hlow := h.low
  refine ok_depend_reader_templates ?_
  unfold f_depend_reader_templates
  simp (maxSteps := 1000000) (disch := first | omega | (simp only [RY] <;> omega) | decide) only [↓RD, RZ, eq_self, Int.reduceToNat, Int.reduceAdd, Int.reduceSub, Int.reduceMul, Nat.reduceAdd, Nat.reduceSub, Nat.reduceMul, Nat.reduceDiv, Nat.reduceMod, Nat.reduceBEq, Nat.reduceLeDiff]
  generalize hH1 : H.new _ = H1
  have s1 : Grow H H1 := by rw [← hH1]; exact Grow.new _ _
  have m1 : H1.next = H.next + 1 := by rw [← hH1]; rfl
  have g1 : H1.get H.next = some ⟨ty_depend_Template, tc0 [Tm0], none⟩ := by rw [← hH1]; exact get_new_self _ _
  clear hH1
  refine ok_while (fun L H' n => ∃ v l σ', L = [v] ∧ n + l.length = 66 ∧ Af ty_depend_Template 5 H.next H' v (tc0 l) l.length ∧ TmE σ' l ∧ PR a m rb σ' H' ∧ Ko a m H H' ∧ tmP n l σ' = tmP 65 [Tm0] σ) 65 ?_ ?_
  · refine ⟨_, [Tm0], σ, rfl, rfl, .full g1 rfl (Nat.le_refl _) (by omega), ⟨fun _ => TmL.one, by simp, fun t ht => ?_, TmL.one.emp⟩, h.grow s1, s1.ko a m, rfl⟩
    simp only [List.mem_singleton] at ht
    subst ht
    decide
  · rintro L H2 n ⟨v, l, σ', rfl, hn, hv, ht, h2, k2, he⟩
    have hl := ht.len
    obtain ⟨rk, g2⟩ := h2.get
    obtain ⟨r1, r2, r3⟩ := h2.rng
    unfold f_depend_reader_templates_0
    have n2 := k2.next
    cases σ' with
    | error c =>
      have hc : St.err (.error c) ≠ 0 := fun e => by obtain ⟨bs, hb⟩ := r3.1 e; cases hb
      simp (maxSteps := 1000000) (disch := first | omega | (simp only [RY] <;> omega) | decide) only [↓RD, RZ, eq_self, Int.reduceToNat, Int.reduceAdd, Int.reduceSub, Int.reduceMul, Nat.reduceAdd, Nat.reduceSub, Nat.reduceMul, Nat.reduceDiv, Nat.reduceMod, Nat.reduceBEq, Nat.reduceLeDiff, g2]
      rw [tmP_e] at he
      rw [← he]
      exact ⟨hv, ht, h2, k2⟩
    | ok bs =>
      have hL := ht.ok ⟨bs, rfl⟩
      have hl4 := hL.len
      obtain ⟨n', rfl⟩ : ∃ n', n = n' + 1 := ⟨n - 1, by omega⟩
      have hc : St.err (.ok bs) = 0 := rfl
      rw [hc] at g2
      obtain ⟨id, cap, o, rfl, hg, hlo, hlt, hlen, hcap⟩ := hv.blk (by omega)
      have hlast : 0 ≤ (last l).sp ∧ (last l).sp ≤ 3 ∧ 0 ≤ (last l).te ∧ (last l).te ≤ 7 := layAt_rng (hL.lay (l.length - 1) (by omega))
      have hpc : (tc0 l).drop ((l.length - 1) * 5) = tc (last l, .nils, .nils, .nils) := by
        have e := flat_piece (k := 5) (l.map fun t => tc (t, .nils, .nils, .nils)) (fun x hx => by obtain ⟨t, _, rfl⟩ := List.mem_map.1 hx; rfl) (l.length - 1) (by rw [List.length_map]; omega)
        rw [List.getElem_map] at e
        have e2 : l[l.length - 1]'(by omega) = last l := by unfold last; rw [getD_get]
        rw [e2] at e
        rw [← e, List.take_of_length_le]
        rw [List.length_drop, hlen]; omega
      have c0 : (tc0 l)[(l.length - 1) * 5]? = some (.int .i64 (last l).sp) := by
        have := congrArg (fun x => x[0]?) hpc
        simpa [tc, List.getElem?_drop] using this
      have c1 : (tc0 l)[(l.length - 1) * 5 + 1]? = some (.int .i64 (last l).te) := by
        have := congrArg (fun x => x[1]?) hpc
        simpa [tc, List.getElem?_drop] using this
      have ei : ((l.length : Int) - 1).toNat = l.length - 1 := by omega
      simp (maxSteps := 1000000) (disch := first | omega | (simp only [RY] <;> omega) | decide) only [↓RD, RZ, eq_self, Int.reduceToNat, Int.reduceAdd, Int.reduceSub, Int.reduceMul, Nat.reduceAdd, Nat.reduceSub, Nat.reduceMul, Nat.reduceDiv, Nat.reduceMod, Nat.reduceBEq, Nat.reduceLeDiff, g2, hg, ei, c0, c1]
      generalize hH3 : Heap.set _ _ _ = H3
      have s3 : Grow H2 H3 := by rw [← hH3]; exact (Grow.new _ _).set (Nat.le_refl _) _
      have n3 : H3.next = H2.next + 1 := by rw [← hH3]; rfl
      have t3 : H3.get H2.next = some ⟨ty_depend_Template, [.int .i64 (last l).sp, .int .i64 (last l).te, .nils, .nils, .nils], none⟩ := by rw [← hH3]; simp (maxSteps := 1000000) (disch := first | omega | (simp only [RY] <;> omega) | decide) only [↓RD, RZ, eq_self, Int.reduceToNat, Int.reduceAdd, Int.reduceSub, Int.reduceMul, Nat.reduceAdd, Nat.reduceSub, Nat.reduceMul, Nat.reduceDiv, Nat.reduceMod, Nat.reduceBEq, Nat.reduceLeDiff]
      clear hH3
      refine ok_bind' (rnum_ok (h2.grow s3) 2 (by decide)) ?_
      rintro _ H4 ⟨rfl, h4, k4⟩
      have n4 := k4.next
      have t4 : H4.get H2.next = _ := (k4.same _ (by omega) (by omega)).trans t3
      have hv4 := (hv.keep (s3.keep _)).keep (k4.keep (by omega))
      obtain ⟨q, hq, hq4⟩ := rd_nat 2 (.ok bs)
      by_cases e3 : (rd 2 (.ok bs)).1 = 3
      · rw [e3]
        simp (maxSteps := 1000000) (disch := first | omega | (simp only [RY] <;> omega) | decide) only [↓RD, RZ, eq_self, Int.reduceToNat, Int.reduceAdd, Int.reduceSub, Int.reduceMul, Nat.reduceAdd, Nat.reduceSub, Nat.reduceMul, Nat.reduceDiv, Nat.reduceMod, Nat.reduceBEq, Nat.reduceLeDiff]
        rw [← he, tmP_3 e3]
        refine ⟨hv4, ⟨fun _ => hL, ht.len, ht.rng, ht.emp⟩, h4, (k2.trans (s3.ko a m)).trans k4⟩
      · have hnx : ∃ t4c : List V, t4c = [.int .i64 (nxt (last l) (rd 2 (.ok bs)).1).sp, .int .i64 (nxt (last l) (rd 2 (.ok bs)).1).te, .nils, .nils, .nils] := ⟨_, rfl⟩
        obtain ⟨t4c, ht4c⟩ := hnx
        have hk : (rd 2 (.ok bs)).1 = 0 ∨ (rd 2 (.ok bs)).1 = 1 ∨ (rd 2 (.ok bs)).1 = 2 := by omega
        have hnr := nxt_rng hlast (rd 2 (.ok bs)).1
        have hsn := fun {σ : St} hs => TmE.snoc (σ := σ) hL (k := (rd 2 (.ok bs)).1) hs
        have hbd := tmP_b (n := n') (l := l) e3
        have hgd := tmP_g (n := n') (l := l) e3
        have hv4' := hv4
        generalize hT : nxt (last l) (rd 2 (.ok bs)).1 = t at *
        have kk4 : Ko a m H H4 := (k2.trans (s3.ko a m)).trans k4
        have nH : H4.next ≥ H2.next + 1 := by omega
        have fin : ∀ (H5 : Heap) (σ5 : St), PR a m rb σ5 H5 → Ko a m H H5 → TmE σ5 (l ++ [t]) → tmP n' (l ++ [t]) σ5 = tmP 65 [Tm0] σ → Af ty_depend_Template 5 H.next H5 (.sl id 0 l.length cap) (tc0 l) l.length →
            ∀ v' H6, Af ty_depend_Template 5 H.next H6 v' (tc0 l ++ [.int .i64 t.sp, .int .i64 t.te, .nils, .nils, .nils]) (l.length + 1) → Step H5 H6 (V.sl id 0 l.length cap).pid.toList v'.pid.toList →
            ∃ n'', n'' < n' + 1 ∧ ∃ v l σ', [v'] = [v] ∧ n'' + l.length = 66 ∧ Af ty_depend_Template 5 H.next H6 v (tc0 l) l.length ∧ TmE σ' l ∧ PR a m rb σ' H6 ∧ Ko a m H H6 ∧ tmP n'' l σ' = tmP 65 [Tm0] σ := by
          intro H5 σ5 p5 q5 te5 e5 a5 v' H6 hv6 s6
          refine ⟨n', by omega, v', l ++ [t], σ5, rfl, by rw [List.length_append, List.length_singleton]; omega, ?_, te5, p5.step s6 fun i hi => by have := a5.own i hi; omega, s6.ko q5 fun i hi => a5.own i hi, e5⟩
          rw [List.length_append, List.length_singleton]
          have : tc0 (l ++ [t]) = tc0 l ++ [.int .i64 t.sp, .int .i64 t.te, .nils, .nils, .nils] := by simp [tc0, tc]
          rw [this]; exact hv6
        have nH' := h4.low
        rcases hk with hk | hk | hk
        · have esp : (last l).sp = t.sp := by rw [← hT, hk, nxt_0]
          have ete : (last l).te = t.te := by rw [← hT, hk, nxt_0]
          rw [hk]
          simp (maxSteps := 1000000) (disch := first | omega | (simp only [RY] <;> omega) | decide) only [↓RD, RZ, eq_self, Int.reduceToNat, Int.reduceAdd, Int.reduceSub, Int.reduceMul, Nat.reduceAdd, Nat.reduceSub, Nat.reduceMul, Nat.reduceDiv, Nat.reduceMod, Nat.reduceBEq, Nat.reduceLeDiff, t4, esp, ete]
          have g5 : H4.get H2.next = some ⟨ty_depend_Template, [.int .i64 t.sp, .int .i64 t.te, .nils, .nils, .nils], none⟩ := by rw [t4, esp, ete]
          have p5 : PR a m rb (rd 2 (.ok bs)).2 H4 := h4
          generalize hH5 : H4 = H5 at *
          have c1 : ¬ (3 < t.sp ∨ 7 < t.te) := by omega
          by_cases c3 : 64 ≤ l.length
          · simp (maxSteps := 1000000) (disch := first | omega | (simp only [RY] <;> omega) | decide) only [↓RD, RZ, eq_self, Int.reduceToNat, Int.reduceAdd, Int.reduceSub, Int.reduceMul, Nat.reduceAdd, Nat.reduceSub, Nat.reduceMul, Nat.reduceDiv, Nat.reduceMod, Nat.reduceBEq, Nat.reduceLeDiff]
            refine ok_bind' (fail_ok p5 2 (by decide)) ?_
            rintro _ H6 ⟨p6, k6⟩
            have n6 := k6.next
            have g6 : H6.get H2.next = _ := (k6.same _ (by omega) (by omega)).trans g5
            have hv6 := hv4.keep (k6.keep (by omega))
            simp (maxSteps := 1000000) (disch := first | omega | (simp only [RY] <;> omega) | decide) only [↓RD, RZ, eq_self, Int.reduceToNat, Int.reduceAdd, Int.reduceSub, Int.reduceMul, Nat.reduceAdd, Nat.reduceSub, Nat.reduceMul, Nat.reduceDiv, Nat.reduceMod, Nat.reduceBEq, Nat.reduceLeDiff, g6]
            refine okb_snoc hv6 (by omega) rfl (by decide) (by omega) fun v' H7 hv7 s7 => ?_
            simp (maxSteps := 1000000) (disch := first | omega | (simp only [RY] <;> omega) | decide) only [↓RD, RZ, eq_self, Int.reduceToNat, Int.reduceAdd, Int.reduceSub, Int.reduceMul, Nat.reduceAdd, Nat.reduceSub, Nat.reduceMul, Nat.reduceDiv, Nat.reduceMod, Nat.reduceBEq, Nat.reduceLeDiff]
            exact fin H6 _ p6 (kk4.trans k6) (hsn fun bs' e => by obtain ⟨c, hc⟩ := fail_err 2 (rd 2 (.ok bs)).2; rw [hc] at e; cases e) (by rw [← he]; exact (hbd (by unfold tbad; omega)).symm) hv6 v' H7 hv7 s7
          · simp (maxSteps := 1000000) (disch := first | omega | (simp only [RY] <;> omega) | decide) only [↓RD, RZ, eq_self, Int.reduceToNat, Int.reduceAdd, Int.reduceSub, Int.reduceMul, Nat.reduceAdd, Nat.reduceSub, Nat.reduceMul, Nat.reduceDiv, Nat.reduceMod, Nat.reduceBEq, Nat.reduceLeDiff, g5]
            refine okb_snoc hv4 (by omega) rfl (by decide) (by omega) fun v' H7 hv7 s7 => ?_
            simp (maxSteps := 1000000) (disch := first | omega | (simp only [RY] <;> omega) | decide) only [↓RD, RZ, eq_self, Int.reduceToNat, Int.reduceAdd, Int.reduceSub, Int.reduceMul, Nat.reduceAdd, Nat.reduceSub, Nat.reduceMul, Nat.reduceDiv, Nat.reduceMod, Nat.reduceBEq, Nat.reduceLeDiff]
            exact fin H5 _ p5 kk4 (hsn fun bs' e => (fun hb => by unfold tbad at hb; omega)) (by rw [← he]; exact (hgd (fun hb => by unfold tbad at hb; omega)).symm) hv4 v' H7 hv7 s7
        · have esp : (last l).sp = t.sp := by rw [← hT, hk, nxt_1]
          have ete : (last l).te + 1 = t.te := by rw [← hT, hk, nxt_1]
          rw [hk]
          simp (maxSteps := 1000000) (disch := first | omega | (simp only [RY] <;> omega) | decide) only [↓RD, RZ, eq_self, Int.reduceToNat, Int.reduceAdd, Int.reduceSub, Int.reduceMul, Nat.reduceAdd, Nat.reduceSub, Nat.reduceMul, Nat.reduceDiv, Nat.reduceMod, Nat.reduceBEq, Nat.reduceLeDiff, t4, esp, ete]
          generalize hH5 : Heap.set H4 _ _ = H5
          have g5 : H5.get H2.next = some ⟨ty_depend_Template, [.int .i64 t.sp, .int .i64 t.te, .nils, .nils, .nils], none⟩ := by rw [← hH5, get_set_self]
          have p5 : PR a m rb (rd 2 (.ok bs)).2 H5 := by rw [← hH5]; exact h4.set (.inr (by omega)) _
          replace hv4 : Af ty_depend_Template 5 H.next H5 (.sl id 0 l.length cap) (tc0 l) l.length := by rw [← hH5]; exact hv4.to (Nat.le_refl _) fun i hi => get_set_ne _ _ (by simp only [V.pid, Option.some.injEq] at hi; omega)
          replace kk4 : Ko a m H H5 := by rw [← hH5]; exact kk4.set (by omega) _
          replace nH : H2.next + 1 ≤ H5.next := by rw [← hH5, next_set]; omega
          by_cases c1 : 3 < t.sp ∨ 7 < t.te
          · have c2 : 7 < t.te := by omega
            simp (maxSteps := 1000000) (disch := first | omega | (simp only [RY] <;> omega) | decide) only [↓RD, RZ, eq_self, Int.reduceToNat, Int.reduceAdd, Int.reduceSub, Int.reduceMul, Nat.reduceAdd, Nat.reduceSub, Nat.reduceMul, Nat.reduceDiv, Nat.reduceMod, Nat.reduceBEq, Nat.reduceLeDiff, g5]
            refine ok_bind' (fail_ok p5 2 (by decide)) ?_
            rintro _ H6 ⟨p6, k6⟩
            have n6 := k6.next
            have g6 : H6.get H2.next = _ := (k6.same _ (by omega) (by omega)).trans g5
            have hv6 := hv4.keep (k6.keep (by omega))
            simp (maxSteps := 1000000) (disch := first | omega | (simp only [RY] <;> omega) | decide) only [↓RD, RZ, eq_self, Int.reduceToNat, Int.reduceAdd, Int.reduceSub, Int.reduceMul, Nat.reduceAdd, Nat.reduceSub, Nat.reduceMul, Nat.reduceDiv, Nat.reduceMod, Nat.reduceBEq, Nat.reduceLeDiff, g6]
            refine okb_snoc hv6 (by omega) rfl (by decide) (by omega) fun v' H7 hv7 s7 => ?_
            simp (maxSteps := 1000000) (disch := first | omega | (simp only [RY] <;> omega) | decide) only [↓RD, RZ, eq_self, Int.reduceToNat, Int.reduceAdd, Int.reduceSub, Int.reduceMul, Nat.reduceAdd, Nat.reduceSub, Nat.reduceMul, Nat.reduceDiv, Nat.reduceMod, Nat.reduceBEq, Nat.reduceLeDiff]
            exact fin H6 _ p6 (kk4.trans k6) (hsn fun bs' e => by obtain ⟨c, hc⟩ := fail_err 2 (rd 2 (.ok bs)).2; rw [hc] at e; cases e) (by rw [← he]; exact (hbd (by unfold tbad; omega)).symm) hv6 v' H7 hv7 s7
          · by_cases c3 : 64 ≤ l.length
            · simp (maxSteps := 1000000) (disch := first | omega | (simp only [RY] <;> omega) | decide) only [↓RD, RZ, eq_self, Int.reduceToNat, Int.reduceAdd, Int.reduceSub, Int.reduceMul, Nat.reduceAdd, Nat.reduceSub, Nat.reduceMul, Nat.reduceDiv, Nat.reduceMod, Nat.reduceBEq, Nat.reduceLeDiff, g5]
              refine ok_bind' (fail_ok p5 2 (by decide)) ?_
              rintro _ H6 ⟨p6, k6⟩
              have n6 := k6.next
              have g6 : H6.get H2.next = _ := (k6.same _ (by omega) (by omega)).trans g5
              have hv6 := hv4.keep (k6.keep (by omega))
              simp (maxSteps := 1000000) (disch := first | omega | (simp only [RY] <;> omega) | decide) only [↓RD, RZ, eq_self, Int.reduceToNat, Int.reduceAdd, Int.reduceSub, Int.reduceMul, Nat.reduceAdd, Nat.reduceSub, Nat.reduceMul, Nat.reduceDiv, Nat.reduceMod, Nat.reduceBEq, Nat.reduceLeDiff, g6]
              refine okb_snoc hv6 (by omega) rfl (by decide) (by omega) fun v' H7 hv7 s7 => ?_
              simp (maxSteps := 1000000) (disch := first | omega | (simp only [RY] <;> omega) | decide) only [↓RD, RZ, eq_self, Int.reduceToNat, Int.reduceAdd, Int.reduceSub, Int.reduceMul, Nat.reduceAdd, Nat.reduceSub, Nat.reduceMul, Nat.reduceDiv, Nat.reduceMod, Nat.reduceBEq, Nat.reduceLeDiff]
              exact fin H6 _ p6 (kk4.trans k6) (hsn fun bs' e => by obtain ⟨c, hc⟩ := fail_err 2 (rd 2 (.ok bs)).2; rw [hc] at e; cases e) (by rw [← he]; exact (hbd (by unfold tbad; omega)).symm) hv6 v' H7 hv7 s7
            · simp (maxSteps := 1000000) (disch := first | omega | (simp only [RY] <;> omega) | decide) only [↓RD, RZ, eq_self, Int.reduceToNat, Int.reduceAdd, Int.reduceSub, Int.reduceMul, Nat.reduceAdd, Nat.reduceSub, Nat.reduceMul, Nat.reduceDiv, Nat.reduceMod, Nat.reduceBEq, Nat.reduceLeDiff, g5]
              refine okb_snoc hv4 (by omega) rfl (by decide) (by omega) fun v' H7 hv7 s7 => ?_
              simp (maxSteps := 1000000) (disch := first | omega | (simp only [RY] <;> omega) | decide) only [↓RD, RZ, eq_self, Int.reduceToNat, Int.reduceAdd, Int.reduceSub, Int.reduceMul, Nat.reduceAdd, Nat.reduceSub, Nat.reduceMul, Nat.reduceDiv, Nat.reduceMod, Nat.reduceBEq, Nat.reduceLeDiff]
              exact fin H5 _ p5 kk4 (hsn fun bs' e => (fun hb => by unfold tbad at hb; omega)) (by rw [← he]; exact (hgd (fun hb => by unfold tbad at hb; omega)).symm) hv4 v' H7 hv7 s7
        · have esp : (last l).sp + 1 = t.sp := by rw [← hT, hk, nxt_2]
          have ete : t.te = 0 := by rw [← hT, hk, nxt_2]
          rw [hk]
          simp (maxSteps := 1000000) (disch := first | omega | (simp only [RY] <;> omega) | decide) only [↓RD, RZ, eq_self, Int.reduceToNat, Int.reduceAdd, Int.reduceSub, Int.reduceMul, Nat.reduceAdd, Nat.reduceSub, Nat.reduceMul, Nat.reduceDiv, Nat.reduceMod, Nat.reduceBEq, Nat.reduceLeDiff, t4, esp]
          generalize hH5 : Heap.set (Heap.set H4 _ _) _ _ = H5
          have g5 : H5.get H2.next = some ⟨ty_depend_Template, [.int .i64 t.sp, .int .i64 t.te, .nils, .nils, .nils], none⟩ := by rw [← hH5, get_set_self, ete]
          have p5 : PR a m rb (rd 2 (.ok bs)).2 H5 := by rw [← hH5]; exact (h4.set (.inr (by omega)) _).set (.inr (by omega)) _
          replace hv4 : Af ty_depend_Template 5 H.next H5 (.sl id 0 l.length cap) (tc0 l) l.length := by rw [← hH5]; exact hv4.to (Nat.le_refl _) fun i hi => by simp only [V.pid, Option.some.injEq] at hi; rw [get_set_ne _ _ (by omega), get_set_ne _ _ (by omega)]
          replace kk4 : Ko a m H H5 := by rw [← hH5]; exact (kk4.set (by omega) _).set (by omega) _
          replace nH : H2.next + 1 ≤ H5.next := by rw [← hH5, next_set, next_set]; omega
          by_cases c1 : 3 < t.sp ∨ 7 < t.te
          · have c2 : 3 < t.sp := by omega
            simp (maxSteps := 1000000) (disch := first | omega | (simp only [RY] <;> omega) | decide) only [↓RD, RZ, eq_self, Int.reduceToNat, Int.reduceAdd, Int.reduceSub, Int.reduceMul, Nat.reduceAdd, Nat.reduceSub, Nat.reduceMul, Nat.reduceDiv, Nat.reduceMod, Nat.reduceBEq, Nat.reduceLeDiff, g5]
            refine ok_bind' (fail_ok p5 2 (by decide)) ?_
            rintro _ H6 ⟨p6, k6⟩
            have n6 := k6.next
            have g6 : H6.get H2.next = _ := (k6.same _ (by omega) (by omega)).trans g5
            have hv6 := hv4.keep (k6.keep (by omega))
            simp (maxSteps := 1000000) (disch := first | omega | (simp only [RY] <;> omega) | decide) only [↓RD, RZ, eq_self, Int.reduceToNat, Int.reduceAdd, Int.reduceSub, Int.reduceMul, Nat.reduceAdd, Nat.reduceSub, Nat.reduceMul, Nat.reduceDiv, Nat.reduceMod, Nat.reduceBEq, Nat.reduceLeDiff, g6]
            refine okb_snoc hv6 (by omega) rfl (by decide) (by omega) fun v' H7 hv7 s7 => ?_
            simp (maxSteps := 1000000) (disch := first | omega | (simp only [RY] <;> omega) | decide) only [↓RD, RZ, eq_self, Int.reduceToNat, Int.reduceAdd, Int.reduceSub, Int.reduceMul, Nat.reduceAdd, Nat.reduceSub, Nat.reduceMul, Nat.reduceDiv, Nat.reduceMod, Nat.reduceBEq, Nat.reduceLeDiff]
            exact fin H6 _ p6 (kk4.trans k6) (hsn fun bs' e => by obtain ⟨c, hc⟩ := fail_err 2 (rd 2 (.ok bs)).2; rw [hc] at e; cases e) (by rw [← he]; exact (hbd (by unfold tbad; omega)).symm) hv6 v' H7 hv7 s7
          · by_cases c3 : 64 ≤ l.length
            · simp (maxSteps := 1000000) (disch := first | omega | (simp only [RY] <;> omega) | decide) only [↓RD, RZ, eq_self, Int.reduceToNat, Int.reduceAdd, Int.reduceSub, Int.reduceMul, Nat.reduceAdd, Nat.reduceSub, Nat.reduceMul, Nat.reduceDiv, Nat.reduceMod, Nat.reduceBEq, Nat.reduceLeDiff, g5]
              refine ok_bind' (fail_ok p5 2 (by decide)) ?_
              rintro _ H6 ⟨p6, k6⟩
              have n6 := k6.next
              have g6 : H6.get H2.next = _ := (k6.same _ (by omega) (by omega)).trans g5
              have hv6 := hv4.keep (k6.keep (by omega))
              simp (maxSteps := 1000000) (disch := first | omega | (simp only [RY] <;> omega) | decide) only [↓RD, RZ, eq_self, Int.reduceToNat, Int.reduceAdd, Int.reduceSub, Int.reduceMul, Nat.reduceAdd, Nat.reduceSub, Nat.reduceMul, Nat.reduceDiv, Nat.reduceMod, Nat.reduceBEq, Nat.reduceLeDiff, g6]
              refine okb_snoc hv6 (by omega) rfl (by decide) (by omega) fun v' H7 hv7 s7 => ?_
              simp (maxSteps := 1000000) (disch := first | omega | (simp only [RY] <;> omega) | decide) only [↓RD, RZ, eq_self, Int.reduceToNat, Int.reduceAdd, Int.reduceSub, Int.reduceMul, Nat.reduceAdd, Nat.reduceSub, Nat.reduceMul, Nat.reduceDiv, Nat.reduceMod, Nat.reduceBEq, Nat.reduceLeDiff]
              exact fin H6 _ p6 (kk4.trans k6) (hsn fun bs' e => by obtain ⟨c, hc⟩ := fail_err 2 (rd 2 (.ok bs)).2; rw [hc] at e; cases e) (by rw [← he]; exact (hbd (by unfold tbad; omega)).symm) hv6 v' H7 hv7 s7
            · simp (maxSteps := 1000000) (disch := first | omega | (simp only [RY] <;> omega) | decide) only [↓RD, RZ, eq_self, Int.reduceToNat, Int.reduceAdd, Int.reduceSub, Int.reduceMul, Nat.reduceAdd, Nat.reduceSub, Nat.reduceMul, Nat.reduceDiv, Nat.reduceMod, Nat.reduceBEq, Nat.reduceLeDiff, g5]
              refine okb_snoc hv4 (by omega) rfl (by decide) (by omega) fun v' H7 hv7 s7 => ?_
              simp (maxSteps := 1000000) (disch := first | omega | (simp only [RY] <;> omega) | decide) only [↓RD, RZ, eq_self, Int.reduceToNat, Int.reduceAdd, Int.reduceSub, Int.reduceMul, Nat.reduceAdd, Nat.reduceSub, Nat.reduceMul, Nat.reduceDiv, Nat.reduceMod, Nat.reduceBEq, Nat.reduceLeDiff]
              exact fin H5 _ p5 kk4 (hsn fun bs' e => (fun hb => by unfold tbad at hb; omega)) (by rw [← he]; exact (hgd (fun hb => by unfold tbad at hb; omega)).symm) hv4 v' H7 hv7 s7

end
end Go.Ax.D9
/- DepR6 -/
set_option maxRecDepth 100000
set_option linter.unusedVariables false
set_option linter.unusedSimpArgs false
namespace Go.Ax
/-- Outside P nothing that was there is turned. -/
structure Kx (P : Nat → Prop) (H H' : Heap) : Prop where
  next : H.next ≤ H'.next
  same : ∀ i, i < H.next → ¬ P i → H'.get i = H.get i
theorem Kx.refl (P : Nat → Prop) (H : Heap) : Kx P H H := ⟨Nat.le_refl _, fun _ _ _ => rfl⟩
theorem Kx.trans {P : Nat → Prop} {H H1 H2 : Heap} (h : Kx P H H1) (k : Kx P H1 H2) : Kx P H H2 := ⟨Nat.le_trans h.next k.next, fun i hi ho => by rw [k.same i (Nat.lt_of_lt_of_le hi h.next) ho, h.same i hi ho]⟩
theorem Kx.mono {P P' : Nat → Prop} {H H' : Heap} (h : Kx P H H') (hp : ∀ i, i < H.next → P i → P' i) : Kx P' H H' := ⟨h.next, fun i hi ho => h.same i hi fun k => ho (hp i hi k)⟩
theorem Ko.kx {a m : Nat} {H H' : Heap} (h : Ko a m H H') {P : Nat → Prop} (hp : ∀ i, a ≤ i → i < m → P i) : Kx P H H' := ⟨h.next, fun i hi ho => h.same i hi (by by_cases h1 : i < a; exact .inl h1; by_cases h2 : i < m; exact absurd (hp i (by omega) h2) ho; exact .inr (by omega))⟩
theorem Kx.keep {P : Nat → Prop} {lo : Nat} {H H' : Heap} (h : Kx P H H') (hp : ∀ i, lo ≤ i → ¬ P i) : Keep lo H H' := ⟨h.next, fun i hl hi => h.same i hi (hp i hl)⟩
theorem Kx.set {P : Nat → Prop} {B H : Heap} (h : Kx P B H) {w : Nat} (hw : B.next ≤ w ∨ P w) (b : Option Blk) : Kx P B (H.set w b) := ⟨by rw [next_set]; exact h.next, fun i hi ho => by
  rw [get_set_ne _ _ (fun e => by subst e; rcases hw with hw | hw; omega; exact ho hw), h.same i hi ho]⟩
theorem Step.kx {P : Nat → Prop} {B H H' : Heap} {F F' : List Nat} (s : Step H H' F F') (h : Kx P B H) (hF : ∀ i ∈ F, B.next ≤ i) : Kx P B H' := ⟨Nat.le_trans h.next s.next, fun i hi ho => by rw [s.same i (by have := h.next; omega) (fun hm => by have := hF i hm; omega), h.same i hi ho]⟩
theorem Keep.step {lo : Nat} {G H H' : Heap} {F F' : List Nat} (k : Keep lo G H) (s : Step H H' F F') (hF : ∀ i ∈ F, G.next ≤ i) : Keep lo G H' := ⟨Nat.le_trans k.next s.next, fun i hl hi => by rw [s.same i (by have := k.next; omega) (fun hm => by have := hF i hm; omega), k.same i hl hi]⟩
theorem Keep.ko {lo a m : Nat} {G H H' : Heap} (k : Keep lo G H) (h : Ko a m H H') (hm : m ≤ lo) : Keep lo G H' := k.trans (h.keep hm)
end Go.Ax
namespace Go.Ax.D9
open Go.Ax B6
/-- The first k are read, the others not yet. -/
def mixN (f : Tm → S Tm) (ts : List Tm) (k : Nat) (σ : St) : List Tm := (eachN f ts k σ).1 ++ ts.drop k
theorem mixN_0 (f : Tm → S Tm) (ts : List Tm) (σ : St) : mixN f ts 0 σ = ts := by simp [mixN, eachN, sp]
theorem mixN_all (f : Tm → S Tm) (ts : List Tm) (σ : St) : mixN f ts ts.length σ = (each f ts σ).1 := by simp [mixN, each]
theorem mixN_succ {f : Tm → S Tm} {ts : List Tm} {k : Nat} (hk : k < ts.length) (σ : St) : mixN f ts (k + 1) σ = (mixN f ts k σ).set k (f (ts.getD k Tm0) (eachN f ts k σ).2).1 := by
  have hl : (eachN f ts k σ).1.length = k := eachN_len k σ
  unfold mixN
  rw [List.set_append_right _ _ (by omega), hl, Nat.sub_self, List.drop_eq_getElem_cons hk, List.set_cons_zero]
  simp [eachN, sb, sp]
theorem mixN_at {f : Tm → S Tm} {ts : List Tm} {k : Nat} (hk : k < ts.length) (σ : St) : (mixN f ts k σ)[k]? = some (ts.getD k Tm0) := by
  have hl : (eachN f ts k σ).1.length = k := eachN_len k σ
  unfold mixN
  rw [List.getElem?_append_right (by omega), hl, Nat.sub_self, List.getElem?_drop, Nat.add_zero, List.getElem?_eq_getElem hk, getD_get hk]
theorem mixN_len {f : Tm → S Tm} {ts : List Tm} {k : Nat} (hk : k ≤ ts.length) (σ : St) : (mixN f ts k σ).length = ts.length := by
  have hl : (eachN f ts k σ).1.length = k := eachN_len k σ
  unfold mixN
  rw [List.length_append, List.length_drop, hl]; omega

section
variable {a m rb b3 lo id tn cn : Nat} {cap : Cap} {o : Option Nat} {H : Heap} {σ : St} {off tar c : Int} {v x4 x5 : V} {ws : List Tw} {ts : List Tm}
theorem rpass0_ok (h : PR a m rb σ H) (g3 : H.get b3 = some ⟨ty_depend_Structure, [.int .i64 off, .int .i64 (tn : Nat), v, .int .i64 c, x4, x5], none⟩) (hb : b3 < H.next ∧ b3 < lo ∧ m ≤ b3) (hw : TsW ty_depend_Template lo H v id cap o ws) (hts : ws.map (·.1) = ts) (hl : ts.length ≤ 1048576) (ht : tn ≤ 1048576) (t2 : V)
    {Q : Res → Heap → Prop} (k : ∀ H' ws', ws'.map (·.1) = (each (fun x => sb (nums tn 2) fun l => sp { x with dti := l }) ts σ).1 → TsW ty_depend_Template lo H' v id cap o ws' → PR a m rb (each (fun x => sb (nums tn 2) fun l => sp { x with dti := l }) ts σ).2 H' → Kx (fun i => i = id ∨ (a ≤ i ∧ i < m)) H H' → Q (.ex 0 []) H') :
    Ok (M.iter (f_depend_reader_structure_0 (sem T) (.int .i64 (ts.length : Nat)) (.ptr rb 0) (.ptr b3 0) t2) [.int .i64 0]) H Q := by
  have hlow := h.low
  have hwl : ws.length = ts.length := by rw [← hts, List.length_map]
  have hid := hw.lo
  refine ok_loop (fun j L H' => L = [.int .i64 (j : Nat)] ∧ ∃ ws', ws'.map (·.1) = mixN (fun x => sb (nums tn 2) fun l => sp { x with dti := l }) ts j σ ∧ TsW ty_depend_Template lo H' v id cap o ws' ∧ PR a m rb (eachN (fun x => sb (nums tn 2) fun l => sp { x with dti := l }) ts j σ).2 H' ∧ Kx (fun i => i = id ∨ (a ≤ i ∧ i < m)) H H') ts.length ?_ ?_ ?_
  · exact ⟨rfl, ws, by rw [hts, mixN_0], hw, h, Kx.refl _ _⟩
  · rintro j L H1 hj ⟨rfl, ws', e1, w1, p1, k1⟩
    have n1 := k1.next
    have hl1 : ws'.length = ts.length := by rw [← List.length_map (f := (·.1)), e1, mixN_len (by omega)]
    have hj' : j < ws'.length := by omega
    have ej : ws'[j].1 = ts.getD j Tm0 := by
      have := congrArg (fun l => l[j]?) e1
      rw [mixN_at hj, List.getElem?_map, List.getElem?_eq_getElem hj'] at this
      simpa using this
    have g1 : H1.get b3 = _ := (k1.same _ (by omega) (by omega)).trans g3
    have hlj := w1.ls _ (List.getElem_mem hj')
    unfold f_depend_reader_structure_0
    simp (maxSteps := 1000000) (disch := first | omega | (simp only [RY] <;> omega) | decide) only [↓RD, RZ, eq_self, Int.reduceToNat, Int.reduceAdd, Int.reduceSub, Int.reduceMul, Nat.reduceAdd, Nat.reduceSub, Nat.reduceMul, Nat.reduceDiv, Nat.reduceMod, Nat.reduceBEq, Nat.reduceLeDiff, g1]
    refine ok_bind' (rnums_ok p1 tn 2 ht (by decide)) ?_
    rintro x H2 ⟨hx, p2, k2⟩
    have n2 := k2.next
    have g2 : H2.get b3 = _ := (k2.same _ (by omega) (by omega)).trans g1
    have w2 := w1.ko k2 (by omega)
    have h5 := w2.len
    simp (maxSteps := 1000000) (disch := first | omega | (simp only [RY] <;> omega) | decide) only [↓RD, RZ, eq_self, Int.reduceToNat, Int.reduceAdd, Int.reduceSub, Int.reduceMul, Nat.reduceAdd, Nat.reduceSub, Nat.reduceMul, Nat.reduceDiv, Nat.reduceMod, Nat.reduceBEq, Nat.reduceLeDiff, g1, g2, w2.at hj', w2.g, hx.cells1, hx.okc]
    refine ⟨by omega, by rfl, ws'.set j (({ ws'[j].1 with dti := (nums tn 2 (eachN (fun x => sb (nums tn 2) fun l => sp { x with dti := l }) ts j σ).2).1 }, x, ws'[j].2.2.1, ws'[j].2.2.2)), ?_, w2.put hj' (by decide) rfl ⟨hx.low (by omega), (hlj.dif).keep (k2.keep (by omega)), (hlj.cha).keep (k2.keep (by omega))⟩, ?_, ?_⟩
    · rw [List.map_set, e1, mixN_succ hj, ← ej]; rfl
    · refine PR.set ?_ (.inr (by omega)) _
      have : (eachN (fun x => sb (nums tn 2) fun l => sp { x with dti := l }) ts (j + 1) σ).2 = (nums tn 2 (eachN (fun x => sb (nums tn 2) fun l => sp { x with dti := l }) ts j σ).2).2 := rfl
      rw [this]; exact p2
    · exact (k1.trans (k2.kx fun i h1 h2 => .inr ⟨h1, h2⟩)).set (.inr (.inl rfl)) _
  · rintro L H1 ⟨rfl, ws', e1, w1, p1, k1⟩
    unfold f_depend_reader_structure_0
    simp (maxSteps := 1000000) (disch := first | omega | (simp only [RY] <;> omega) | decide) only [↓RD, RZ, eq_self, Int.reduceToNat, Int.reduceAdd, Int.reduceSub, Int.reduceMul, Nat.reduceAdd, Nat.reduceSub, Nat.reduceMul, Nat.reduceDiv, Nat.reduceMod, Nat.reduceBEq, Nat.reduceLeDiff]
    exact k H1 ws' (by rw [e1, mixN_all]) w1 p1 k1

theorem rpass1_ok (h : PR a m rb σ H) (g3 : H.get b3 = some ⟨ty_depend_Structure, [.int .i64 off, .int .i64 tar, v, .int .i64 c, x4, x5], none⟩) (hb : b3 < H.next ∧ b3 < lo ∧ m ≤ b3) (hw : TsW ty_depend_Template lo H v id cap o ws) (hts : ws.map (·.1) = ts) (hl : ts.length ≤ 1048576)  (t2 : V)
    {Q : Res → Heap → Prop} (k : ∀ H' ws', ws'.map (·.1) = (each (fun x => sb (dfP 9 []) fun l => sp { x with dif := l }) ts σ).1 → TsW ty_depend_Template lo H' v id cap o ws' → PR a m rb (each (fun x => sb (dfP 9 []) fun l => sp { x with dif := l }) ts σ).2 H' → Kx (fun i => i = id ∨ (a ≤ i ∧ i < m)) H H' → Q (.ex 2 []) H') :
    Ok (M.iter (f_depend_reader_structure_1 (sem T) (.int .i64 (ts.length : Nat)) (.ptr b3 0) (.ptr rb 0) t2) [.int .i64 0]) H Q := by
  have hlow := h.low
  have hwl : ws.length = ts.length := by rw [← hts, List.length_map]
  have hid := hw.lo
  refine ok_loop (fun j L H' => L = [.int .i64 (j : Nat)] ∧ ∃ ws', ws'.map (·.1) = mixN (fun x => sb (dfP 9 []) fun l => sp { x with dif := l }) ts j σ ∧ TsW ty_depend_Template lo H' v id cap o ws' ∧ PR a m rb (eachN (fun x => sb (dfP 9 []) fun l => sp { x with dif := l }) ts j σ).2 H' ∧ Kx (fun i => i = id ∨ (a ≤ i ∧ i < m)) H H') ts.length ?_ ?_ ?_
  · exact ⟨rfl, ws, by rw [hts, mixN_0], hw, h, Kx.refl _ _⟩
  · rintro j L H1 hj ⟨rfl, ws', e1, w1, p1, k1⟩
    have n1 := k1.next
    have hl1 : ws'.length = ts.length := by rw [← List.length_map (f := (·.1)), e1, mixN_len (by omega)]
    have hj' : j < ws'.length := by omega
    have ej : ws'[j].1 = ts.getD j Tm0 := by
      have := congrArg (fun l => l[j]?) e1
      rw [mixN_at hj, List.getElem?_map, List.getElem?_eq_getElem hj'] at this
      simpa using this
    have g1 : H1.get b3 = _ := (k1.same _ (by omega) (by omega)).trans g3
    have hlj := w1.ls _ (List.getElem_mem hj')
    unfold f_depend_reader_structure_1
    simp (maxSteps := 1000000) (disch := first | omega | (simp only [RY] <;> omega) | decide) only [↓RD, RZ, eq_self, Int.reduceToNat, Int.reduceAdd, Int.reduceSub, Int.reduceMul, Nat.reduceAdd, Nat.reduceSub, Nat.reduceMul, Nat.reduceDiv, Nat.reduceMod, Nat.reduceBEq, Nat.reduceLeDiff, g1]
    refine ok_bind' (rdiffs_ok p1) ?_
    rintro x H2 ⟨hx, p2, k2⟩
    have n2 := k2.next
    have g2 : H2.get b3 = _ := (k2.same _ (by omega) (by omega)).trans g1
    have w2 := w1.ko k2 (by omega)
    have h5 := w2.len
    simp (maxSteps := 1000000) (disch := first | omega | (simp only [RY] <;> omega) | decide) only [↓RD, RZ, eq_self, Int.reduceToNat, Int.reduceAdd, Int.reduceSub, Int.reduceMul, Nat.reduceAdd, Nat.reduceSub, Nat.reduceMul, Nat.reduceDiv, Nat.reduceMod, Nat.reduceBEq, Nat.reduceLeDiff, g1, g2, w2.at hj', w2.g, hx.cells1, hx.okc]
    refine ⟨by omega, by rfl, ws'.set j (({ ws'[j].1 with dif := (dfP 9 [] (eachN (fun x => sb (dfP 9 []) fun l => sp { x with dif := l }) ts j σ).2).1 }, ws'[j].2.1, x, ws'[j].2.2.2)), ?_, w2.put hj' (by decide) rfl ⟨(hlj.dti).keep (k2.keep (by omega)), hx.low (by omega), (hlj.cha).keep (k2.keep (by omega))⟩, ?_, ?_⟩
    · rw [List.map_set, e1, mixN_succ hj, ← ej]; rfl
    · refine PR.set ?_ (.inr (by omega)) _
      have : (eachN (fun x => sb (dfP 9 []) fun l => sp { x with dif := l }) ts (j + 1) σ).2 = (dfP 9 [] (eachN (fun x => sb (dfP 9 []) fun l => sp { x with dif := l }) ts j σ).2).2 := rfl
      rw [this]; exact p2
    · exact (k1.trans (k2.kx fun i h1 h2 => .inr ⟨h1, h2⟩)).set (.inr (.inl rfl)) _
  · rintro L H1 ⟨rfl, ws', e1, w1, p1, k1⟩
    unfold f_depend_reader_structure_1
    simp (maxSteps := 1000000) (disch := first | omega | (simp only [RY] <;> omega) | decide) only [↓RD, RZ, eq_self, Int.reduceToNat, Int.reduceAdd, Int.reduceSub, Int.reduceMul, Nat.reduceAdd, Nat.reduceSub, Nat.reduceMul, Nat.reduceDiv, Nat.reduceMod, Nat.reduceBEq, Nat.reduceLeDiff]
    exact k H1 ws' (by rw [e1, mixN_all]) w1 p1 k1

theorem rpass3_ok (h : PR a m rb σ H) (g3 : H.get b3 = some ⟨ty_depend_Structure, [.int .i64 off, .int .i64 tar, v, .int .i64 (cn : Nat), x4, x5], none⟩) (hb : b3 < H.next ∧ b3 < lo ∧ m ≤ b3) (hw : TsW ty_depend_Template lo H v id cap o ws) (hts : ws.map (·.1) = ts) (hl : ts.length ≤ 1048576) (hc : cn ≤ 1048576) (t2 : V)
    {Q : Res → Heap → Prop} (k : ∀ H' ws', ws'.map (·.1) = (each (fun x => sb (nums cn 4) fun l => sp { x with cha := l }) ts σ).1 → TsW ty_depend_Template lo H' v id cap o ws' → PR a m rb (each (fun x => sb (nums cn 4) fun l => sp { x with cha := l }) ts σ).2 H' → Kx (fun i => i = id ∨ (a ≤ i ∧ i < m)) H H' → Q (.ex 6 []) H') :
    Ok (M.iter (f_depend_reader_structure_3 (sem T) (.int .i64 (ts.length : Nat)) (.ptr rb 0) (.ptr b3 0) t2) [.int .i64 0]) H Q := by
  have hlow := h.low
  have hwl : ws.length = ts.length := by rw [← hts, List.length_map]
  have hid := hw.lo
  refine ok_loop (fun j L H' => L = [.int .i64 (j : Nat)] ∧ ∃ ws', ws'.map (·.1) = mixN (fun x => sb (nums cn 4) fun l => sp { x with cha := l }) ts j σ ∧ TsW ty_depend_Template lo H' v id cap o ws' ∧ PR a m rb (eachN (fun x => sb (nums cn 4) fun l => sp { x with cha := l }) ts j σ).2 H' ∧ Kx (fun i => i = id ∨ (a ≤ i ∧ i < m)) H H') ts.length ?_ ?_ ?_
  · exact ⟨rfl, ws, by rw [hts, mixN_0], hw, h, Kx.refl _ _⟩
  · rintro j L H1 hj ⟨rfl, ws', e1, w1, p1, k1⟩
    have n1 := k1.next
    have hl1 : ws'.length = ts.length := by rw [← List.length_map (f := (·.1)), e1, mixN_len (by omega)]
    have hj' : j < ws'.length := by omega
    have ej : ws'[j].1 = ts.getD j Tm0 := by
      have := congrArg (fun l => l[j]?) e1
      rw [mixN_at hj, List.getElem?_map, List.getElem?_eq_getElem hj'] at this
      simpa using this
    have g1 : H1.get b3 = _ := (k1.same _ (by omega) (by omega)).trans g3
    have hlj := w1.ls _ (List.getElem_mem hj')
    unfold f_depend_reader_structure_3
    simp (maxSteps := 1000000) (disch := first | omega | (simp only [RY] <;> omega) | decide) only [↓RD, RZ, eq_self, Int.reduceToNat, Int.reduceAdd, Int.reduceSub, Int.reduceMul, Nat.reduceAdd, Nat.reduceSub, Nat.reduceMul, Nat.reduceDiv, Nat.reduceMod, Nat.reduceBEq, Nat.reduceLeDiff, g1]
    refine ok_bind' (rnums_ok p1 cn 4 hc (by decide)) ?_
    rintro x H2 ⟨hx, p2, k2⟩
    have n2 := k2.next
    have g2 : H2.get b3 = _ := (k2.same _ (by omega) (by omega)).trans g1
    have w2 := w1.ko k2 (by omega)
    have h5 := w2.len
    simp (maxSteps := 1000000) (disch := first | omega | (simp only [RY] <;> omega) | decide) only [↓RD, RZ, eq_self, Int.reduceToNat, Int.reduceAdd, Int.reduceSub, Int.reduceMul, Nat.reduceAdd, Nat.reduceSub, Nat.reduceMul, Nat.reduceDiv, Nat.reduceMod, Nat.reduceBEq, Nat.reduceLeDiff, g1, g2, w2.at hj', w2.g, hx.cells1, hx.okc]
    refine ⟨by omega, by rfl, ws'.set j (({ ws'[j].1 with cha := (nums cn 4 (eachN (fun x => sb (nums cn 4) fun l => sp { x with cha := l }) ts j σ).2).1 }, ws'[j].2.1, ws'[j].2.2.1, x)), ?_, w2.put hj' (by decide) rfl ⟨(hlj.dti).keep (k2.keep (by omega)), (hlj.dif).keep (k2.keep (by omega)), hx.low (by omega)⟩, ?_, ?_⟩
    · rw [List.map_set, e1, mixN_succ hj, ← ej]; rfl
    · refine PR.set ?_ (.inr (by omega)) _
      have : (eachN (fun x => sb (nums cn 4) fun l => sp { x with cha := l }) ts (j + 1) σ).2 = (nums cn 4 (eachN (fun x => sb (nums cn 4) fun l => sp { x with cha := l }) ts j σ).2).2 := rfl
      rw [this]; exact p2
    · exact (k1.trans (k2.kx fun i h1 h2 => .inr ⟨h1, h2⟩)).set (.inr (.inl rfl)) _
  · rintro L H1 ⟨rfl, ws', e1, w1, p1, k1⟩
    unfold f_depend_reader_structure_3
    simp (maxSteps := 1000000) (disch := first | omega | (simp only [RY] <;> omega) | decide) only [↓RD, RZ, eq_self, Int.reduceToNat, Int.reduceAdd, Int.reduceSub, Int.reduceMul, Nat.reduceAdd, Nat.reduceSub, Nat.reduceMul, Nat.reduceDiv, Nat.reduceMod, Nat.reduceBEq, Nat.reduceLeDiff]
    exact k H1 ws' (by rw [e1, mixN_all]) w1 p1 k1

end
end Go.Ax.D9
/- DepR7 -/
set_option maxRecDepth 100000
set_option linter.unusedVariables false
set_option linter.unusedSimpArgs false
namespace Go.Ax
theorem Keep.keepL {lo lo' : Nat} {H H' : Heap} (k : Keep lo H H') (h : lo ≤ lo') : Keep lo' H H' := ⟨k.next, fun i hl hi => k.same i (by omega) hi⟩
end Go.Ax
namespace Go.Ax.D9
open Go.Ax B6
theorem sb_eq {α β : Type} {x : S α} {f : α → S β} {σ σ' : St} {v : α} (h : x σ = (v, σ')) : sb x f σ = f v σ' := by unfold sb; rw [h]
theorem pr_ex {α β : Type} (x : α × β) : ∃ p q, x = (p, q) := ⟨_, _, rfl⟩

section
variable {a m rb b3 lo id tn cn : Nat} {cap : Cap} {o : Option Nat} {H : Heap} {σ : St} {off tar c : Int} {v x4 x5 : V} {ws : List Tw} {ts : List Tm}
theorem rprot_ok (h : PR a m rb σ H) (g3 : H.get b3 = some ⟨ty_depend_Structure, [.int .i64 off, .int .i64 tar, v, .int .i64 (cn : Nat), .nils, x5], none⟩) (hb : b3 < H.next ∧ m ≤ b3) (hc : 1 ≤ cn ∧ cn ≤ 1048576) (ht : tn ≤ 1048576) (hv : Cel v) (h5 : Cel x5) (t2 : V)
    {Q : Res → Heap → Prop} (k : ∀ H' p, H'.get b3 = some ⟨ty_depend_Structure, [.int .i64 off, .int .i64 tar, v, .int .i64 (cn : Nat), p, x5], none⟩ → Il H.next H' p (numsN (rns cn) tn σ).1 → PR a m rb (numsN (rns cn) tn σ).2 H' → Kx (fun i => i = b3 ∨ (a ≤ i ∧ i < m)) H H' → Q (.ex 4 []) H') :
    Ok (M.iter (f_depend_reader_structure_2 (sem T) (.int .i64 (tn : Nat)) (.ptr rb 0) (.ptr b3 0) t2) [.int .i64 0]) H Q := by
  have hlow := h.low
  refine ok_loop (fun j L H' => L = [.int .i64 (j : Nat)] ∧ ∃ p, H'.get b3 = some ⟨ty_depend_Structure, [.int .i64 off, .int .i64 tar, v, .int .i64 (cn : Nat), p, x5], none⟩ ∧ Af ty_int 1 H.next H' p ((numsN (rns cn) j σ).1.map byi) j ∧ PR a m rb (numsN (rns cn) j σ).2 H' ∧ Kx (fun i => i = b3 ∨ (a ≤ i ∧ i < m)) H H') tn ?_ ?_ ?_
  · exact ⟨rfl, _, g3, Af.nil, h, Kx.refl _ _⟩
  · rintro j L H1 hj ⟨rfl, p, g1, hp, p1, k1⟩
    have n1 := k1.next
    unfold f_depend_reader_structure_2
    simp (maxSteps := 1000000) (disch := first | omega | (simp only [RY] <;> omega) | decide) only [↓RD, RZ, eq_self, Int.reduceToNat, Int.reduceAdd, Int.reduceSub, Int.reduceMul, Nat.reduceAdd, Nat.reduceSub, Nat.reduceMul, Nat.reduceDiv, Nat.reduceMod, Nat.reduceBEq, Nat.reduceLeDiff, g1]
    refine ok_bind' (rns_ok p1 cn hc.1 (by omega)) ?_
    rintro x H2 ⟨rfl, p2, k2⟩
    have n2 := k2.next
    have g2 : H2.get b3 = _ := (k2.same _ (by omega) (by omega)).trans g1
    have hp2 := hp.keep (k2.keep (by omega))
    simp (maxSteps := 1000000) (disch := first | omega | (simp only [RY] <;> omega) | decide) only [↓RD, RZ, eq_self, Int.reduceToNat, Int.reduceAdd, Int.reduceSub, Int.reduceMul, Nat.reduceAdd, Nat.reduceSub, Nat.reduceMul, Nat.reduceDiv, Nat.reduceMod, Nat.reduceBEq, Nat.reduceLeDiff, g1, g2]
    refine okb_snoc hp2 (by omega) rfl (by decide) (by omega) fun p' H3 hp3 s3 => ?_
    have g3' : H3.get b3 = _ := (s3.same _ (by omega) (fun hm => by have := hp2.own _ hm; omega)).trans g2
    have n3 := s3.next
    have c3 := hp3.lc.cel
    simp (maxSteps := 1000000) (disch := first | omega | (simp only [RY] <;> omega) | decide) only [↓RD, RZ, eq_self, Int.reduceToNat, Int.reduceAdd, Int.reduceSub, Int.reduceMul, Nat.reduceAdd, Nat.reduceSub, Nat.reduceMul, Nat.reduceDiv, Nat.reduceMod, Nat.reduceBEq, Nat.reduceLeDiff, g3', c3.1, c3.2]
    refine ⟨by rfl, p', rfl, ?_, (p2.step s3 fun i hi => by have := hp2.own i hi; omega).set (.inr (by omega)) _, ?_⟩
    · have := hp3.to (H' := H3.set b3 (some ⟨ty_depend_Structure, [.int .i64 off, .int .i64 tar, v, .int .i64 (cn : Nat), p', x5], none⟩)) (Nat.le_refl _) fun i hi => get_set_ne _ _ (by have := (hp3.lc.own i hi).1; omega)
      simpa [numsN, sb, sp, byi] using this
    · exact (s3.kx (k1.trans (k2.kx fun i h1 h2 => .inr ⟨h1, h2⟩)) fun i hi => hp2.own i hi).set (.inr (.inl rfl)) _
  · rintro L H1 ⟨rfl, p, g1, hp, p1, k1⟩
    unfold f_depend_reader_structure_2
    simp (maxSteps := 1000000) (disch := first | omega | (simp only [RY] <;> omega) | decide) only [↓RD, RZ, eq_self, Int.reduceToNat, Int.reduceAdd, Int.reduceSub, Int.reduceMul, Nat.reduceAdd, Nat.reduceSub, Nat.reduceMul, Nat.reduceDiv, Nat.reduceMod, Nat.reduceBEq, Nat.reduceLeDiff]
    refine k H1 p g1 ?_ p1 k1
    show Lc 1 _ _ _ ((numsN (rns cn) tn σ).1.map byi) (numsN (rns cn) tn σ).1.length
    rw [numsN_len]
    exact hp.lc

theorem rsizes_ok (h : PR a m rb σ H) (g3 : H.get b3 = some ⟨ty_depend_Structure, [.int .i64 off, .int .i64 tar, v, .int .i64 c, x4, .nils], none⟩) (hb : b3 < H.next ∧ m ≤ b3) (ht : tn ≤ 1048576) (hv : Cel v) (h4 : Cel x4) (t2 : V)
    {Q : Res → Heap → Prop} (k : ∀ H' p, H'.get b3 = some ⟨ty_depend_Structure, [.int .i64 off, .int .i64 tar, v, .int .i64 c, x4, p], none⟩ → Szs H.next H' p (szN wh tn σ).1 → PR a m rb (szN wh tn σ).2 H' → Kx (fun i => i = b3 ∨ (a ≤ i ∧ i < m)) H H' → Q (.ex 8 []) H') :
    Ok (M.iter (f_depend_reader_structure_4 (sem T) (.int .i64 (tn : Nat)) (.ptr rb 0) (.ptr b3 0) t2) [.int .i64 0]) H Q := by
  have hlow := h.low
  refine ok_loop (fun j L H' => L = [.int .i64 (j : Nat)] ∧ ∃ p, H'.get b3 = some ⟨ty_depend_Structure, [.int .i64 off, .int .i64 tar, v, .int .i64 c, x4, p], none⟩ ∧ Af ty_2_int 2 H.next H' p ((szN wh j σ).1.map sc).flatten j ∧ PR a m rb (szN wh j σ).2 H' ∧ Kx (fun i => i = b3 ∨ (a ≤ i ∧ i < m)) H H') tn ?_ ?_ ?_
  · exact ⟨rfl, _, g3, Af.nil, h, Kx.refl _ _⟩
  · rintro j L H1 hj ⟨rfl, p, g1, hp, p1, k1⟩
    have n1 := k1.next
    unfold f_depend_reader_structure_4
    simp (maxSteps := 1000000) (disch := first | omega | (simp only [RY] <;> omega) | decide) only [↓RD, RZ, eq_self, Int.reduceToNat, Int.reduceAdd, Int.reduceSub, Int.reduceMul, Nat.reduceAdd, Nat.reduceSub, Nat.reduceMul, Nat.reduceDiv, Nat.reduceMod, Nat.reduceBEq, Nat.reduceLeDiff, g1]
    refine ok_bind' (rnum_ok p1 16 (by decide)) ?_
    rintro x H2 ⟨rfl, p2, k2⟩
    have n2 := k2.next
    have g2 : H2.get b3 = _ := (k2.same _ (by omega) (by omega)).trans g1
    have r1 := rd_hi (n := 16) (hi := 65535) (by decide) (szN wh j σ).2
    simp (maxSteps := 1000000) (disch := first | omega | (simp only [RY] <;> omega) | decide) only [↓RD, RZ, eq_self, Int.reduceToNat, Int.reduceAdd, Int.reduceSub, Int.reduceMul, Nat.reduceAdd, Nat.reduceSub, Nat.reduceMul, Nat.reduceDiv, Nat.reduceMod, Nat.reduceBEq, Nat.reduceLeDiff, g1, g2]
    refine ok_bind' (rnum_ok p2 16 (by decide)) ?_
    rintro x H3 ⟨rfl, p3, k3⟩
    have n3 := k3.next
    have g3' : H3.get b3 = _ := (k3.same _ (by omega) (by omega)).trans g2
    have r2 := rd_hi (n := 16) (hi := 65535) (by decide) (rd 16 (szN wh j σ).2).2
    have hp3 := (hp.keep (k2.keep (by omega))).keep (k3.keep (by omega))
    simp (maxSteps := 1000000) (disch := first | omega | (simp only [RY] <;> omega) | decide) only [↓RD, RZ, eq_self, Int.reduceToNat, Int.reduceAdd, Int.reduceSub, Int.reduceMul, Nat.reduceAdd, Nat.reduceSub, Nat.reduceMul, Nat.reduceDiv, Nat.reduceMod, Nat.reduceBEq, Nat.reduceLeDiff, g2, g3']
    refine okb_snoc hp3 (by omega) rfl (by decide) (by omega) fun p' H4 hp4 s4 => ?_
    have g4 : H4.get b3 = _ := (s4.same _ (by omega) (fun hm => by have := hp3.own _ hm; omega)).trans g3'
    have n4 := s4.next
    have c4 := hp4.lc.cel
    simp (maxSteps := 1000000) (disch := first | omega | (simp only [RY] <;> omega) | decide) only [↓RD, RZ, eq_self, Int.reduceToNat, Int.reduceAdd, Int.reduceSub, Int.reduceMul, Nat.reduceAdd, Nat.reduceSub, Nat.reduceMul, Nat.reduceDiv, Nat.reduceMod, Nat.reduceBEq, Nat.reduceLeDiff, g4, c4.1, c4.2]
    refine ⟨by rfl, p', rfl, ?_, (p3.step s4 fun i hi => by have := hp3.own i hi; omega).set (.inr (by omega)) _, ?_⟩
    · have := hp4.to (H' := H4.set b3 (some ⟨ty_depend_Structure, [.int .i64 off, .int .i64 tar, v, .int .i64 c, x4, p'], none⟩)) (Nat.le_refl _) fun i hi => get_set_ne _ _ (by have := (hp4.lc.own i hi).1; omega)
      simpa [szN, wh, sb, sp, sc] using this
    · exact (s4.kx ((k1.trans (k2.kx fun i h1 h2 => .inr ⟨h1, h2⟩)).trans (k3.kx fun i h1 h2 => .inr ⟨h1, h2⟩)) fun i hi => hp3.own i hi).set (.inr (.inl rfl)) _
  · rintro L H1 ⟨rfl, p, g1, hp, p1, k1⟩
    unfold f_depend_reader_structure_4
    simp (maxSteps := 1000000) (disch := first | omega | (simp only [RY] <;> omega) | decide) only [↓RD, RZ, eq_self, Int.reduceToNat, Int.reduceAdd, Int.reduceSub, Int.reduceMul, Nat.reduceAdd, Nat.reduceSub, Nat.reduceMul, Nat.reduceDiv, Nat.reduceMod, Nat.reduceBEq, Nat.reduceLeDiff]
    refine k H1 p g1 ?_ p1 k1
    show Lc 2 _ _ _ ((szN wh tn σ).1.map sc).flatten (szN wh tn σ).1.length
    rw [szN_len]
    exact hp.lc

theorem nums_o {f : S Int} {n : Nat} {hi : Int} (h : ∀ σ, 0 ≤ (f σ).1 ∧ (f σ).1 ≤ hi) (hh : hi ≤ 9223372036854775807) (hn : n ≤ 1048576) (σ : St) : I64 (numsN f n σ).1 ∧ (numsN f n σ).1.length ≤ 1048576 :=
  ⟨fun x hx => by have := numsN_all (P := fun x => 0 ≤ x ∧ x ≤ hi) h n σ x hx; exact ⟨by omega, by omega⟩, by rw [numsN_len]; exact hn⟩
theorem i64_nil : I64 [] ∧ ([] : List Int).length ≤ 1048576 := ⟨(fun x hx => by cases hx), by simp⟩

theorem each_o {f : Tm → S Tm} {ts : List Tm} {P Q : Tm → Prop} (h : ∀ t σ, P t → Q (f t σ).1) (hp : ∀ t ∈ ts, P t) (σ : St) : ∀ t ∈ (each f ts σ).1, Q t := by
  have hl : (each f ts σ).1.length = ts.length := eachN_len _ _
  refine forall_getD fun i hi => ?_
  rw [hl] at hi
  exact eachN_all (P := fun i t => Q t) (fun k σ hk => h _ σ (hp _ (by rw [getD_get hk]; exact List.getElem_mem hk))) _ (Nat.le_refl _) σ i hi

theorem top_max' {ts : List Tm} {b : Int} (hb : 0 ≤ b) (h : ∀ t ∈ ts, 0 ≤ t.sp ∧ t.sp ≤ b) : 0 ≤ top ts ∧ top ts ≤ b := by
  have : ∀ (l : List Tm) (x : Int), 0 ≤ x → x ≤ b → (∀ t ∈ l, 0 ≤ t.sp ∧ t.sp ≤ b) → 0 ≤ l.foldl (fun n t => max n t.sp) x ∧ l.foldl (fun n t => max n t.sp) x ≤ b := by
    intro l
    induction l with
    | nil => intro x h1 h2 _; exact ⟨h1, h2⟩
    | cons t l ih =>
      intro x h1 h2 h3
      have := h3 t (List.mem_cons_self ..)
      exact ih _ (show 0 ≤ max x t.sp by omega) (show max x t.sp ≤ b by omega) fun u hu => h3 u (List.mem_cons_of_mem _ hu)
  exact this ts 0 (by decide) hb h

set_option maxHeartbeats 1600000 in
theorem rstructure_ok (h : PR a m rb σ H) : Ok (sem T fn_depend_reader_structure [.ptr rb 0]) H fun r H' => SrR H.next H' r (strS wayP σ).1 ∧ SrO (strS wayP σ).1 ∧ 0 ≤ (strS wayP σ).1.off ∧ (strS wayP σ).1.off ≤ 63 ∧ (1 ≤ (strS wayP σ).1.tar ∧ (strS wayP σ).1.tar ≤ 32) ∧ (0 ≤ (strS wayP σ).1.cha ∧ (strS wayP σ).1.cha ≤ 32) ∧ PR a m rb (strS wayP σ).2 H' ∧ Ko a m H H' := by
  have hlow := h.low
  refine ok_depend_reader_structure ?_
  unfold f_depend_reader_structure
  simp (maxSteps := 1000000) (disch := first | omega | (simp only [RY] <;> omega) | decide) only [↓RD, RZ, eq_self, Int.reduceToNat, Int.reduceAdd, Int.reduceSub, Int.reduceMul, Nat.reduceAdd, Nat.reduceSub, Nat.reduceMul, Nat.reduceDiv, Nat.reduceMod, Nat.reduceBEq, Nat.reduceLeDiff]
  generalize hH1 : H.new _ = H1
  have s1 : Grow H H1 := by rw [← hH1]; exact Grow.new _ _
  have n1 : H1.next = H.next + 1 := by rw [← hH1]; rfl
  have z1 : H1.get H.next = some ⟨ty_depend_Structure, [.int .i64 0, .int .i64 0, .nils, .int .i64 0, .nils, .nils], none⟩ := by rw [← hH1]; exact get_new_self _ _
  clear hH1
  have p1 := h.grow s1
  have o1 := s1.ko a m
  refine ok_bind' (rnum_ok p1 6 (by decide)) ?_
  rintro _ H2 ⟨rfl, p2, k2⟩
  have r1 := rd_hi (n := 6) (hi := 63) (by decide) σ
  obtain ⟨off, σ1, e1⟩ := pr_ex (rd 6 σ)
  rw [e1] at p2 r1 ⊢
  have n2 := k2.next
  have z2 : H2.get H.next = _ := (k2.same _ (by omega) (by omega)).trans z1
  refine ok_bind' (rnum_ok p2 5 (by decide)) ?_
  rintro _ H3 ⟨rfl, p3, k3⟩
  have r2 := rd_hi (n := 5) (hi := 31) (by decide) σ1
  obtain ⟨tn, σ2, e2⟩ := pr_ex (rd 5 σ1)
  dsimp only at p3 r1 r2 ⊢
  rw [e2] at p3 r2 ⊢
  dsimp only at p3 r2 ⊢
  obtain ⟨tn, rfl⟩ := Int.eq_ofNat_of_zero_le r2.1
  have n3 := k3.next
  have z3 : H3.get H.next = _ := (k3.same _ (by omega) (by omega)).trans z2
  have o3 := (o1.trans k2).trans k3
  have et : (tn : Int) + 1 = ((tn + 1 : Nat) : Int) := rfl
  have et2 : ((tn + 1 : Nat) : Int) + 1 = ((tn + 2 : Nat) : Int) := rfl
  simp (maxSteps := 1000000) (disch := first | omega | (simp only [RY] <;> omega) | decide) only [↓RD, RZ, eq_self, Int.reduceToNat, Int.reduceAdd, Int.reduceSub, Int.reduceMul, Nat.reduceAdd, Nat.reduceSub, Nat.reduceMul, Nat.reduceDiv, Nat.reduceMod, Nat.reduceBEq, Nat.reduceLeDiff, et]
  generalize hH4 : Heap.set _ _ _ = H4
  have s4 : Grow H3 H4 := by rw [← hH4]; exact (Grow.new _ _).set (Nat.le_refl _) _
  have n4 : H4.next = H3.next + 1 := by rw [← hH4]; rfl
  have g4 : H4.get H3.next = some ⟨ty_depend_Structure, [.int .i64 off, .int .i64 ((tn + 1 : Nat) : Int), .nils, .int .i64 0, .nils, .nils], none⟩ := by rw [← hH4]; simp (maxSteps := 1000000) (disch := first | omega | (simp only [RY] <;> omega) | decide) only [↓RD, RZ, eq_self, Int.reduceToNat, Int.reduceAdd, Int.reduceSub, Int.reduceMul, Nat.reduceAdd, Nat.reduceSub, Nat.reduceMul, Nat.reduceDiv, Nat.reduceMod, Nat.reduceBEq, Nat.reduceLeDiff]
  clear hH4
  have z4 : H4.get H.next = _ := (s4.same _ (by omega)).trans z3
  have p4 := p3.grow s4
  have o4 := o3.trans (s4.ko a m)
  refine ok_bind' (rtemplates_ok p4) ?_
  rintro v H5 ⟨hv, hE, p5, k5⟩
  obtain ⟨ts0, σ3, e3⟩ := pr_ex (tmP 65 [Tm0] σ2)
  rw [e3] at hv hE p5
  dsimp only at hv hE p5
  have n5 := k5.next
  have g5 : H5.get H3.next = _ := (k5.same _ (by omega) (by omega)).trans g4
  have z5 : H5.get H.next = _ := (k5.same _ (by omega) (by omega)).trans z4
  have hlen := hE.len
  obtain ⟨id, cap, o, w5⟩ := TsW.mk0 hv (by omega) hE.emp
  have hv5 := w5.cel
  have hid := w5.lo
  simp (maxSteps := 1000000) (disch := first | omega | (simp only [RY] <;> omega) | decide) only [↓RD, RZ, eq_self, Int.reduceToNat, Int.reduceAdd, Int.reduceSub, Int.reduceMul, Nat.reduceAdd, Nat.reduceSub, Nat.reduceMul, Nat.reduceDiv, Nat.reduceMod, Nat.reduceBEq, Nat.reduceLeDiff, g5, hv5.1, hv5.2]
  generalize hH6 : Heap.set H5 _ _ = H6
  have g6 : H6.get H3.next = some ⟨ty_depend_Structure, [.int .i64 off, .int .i64 ((tn + 1 : Nat) : Int), v, .int .i64 0, .nils, .nils], none⟩ := by rw [← hH6]; exact get_set_self _ _ _
  have z6 : H6.get H.next = _ := (by rw [← hH6, get_set_ne _ _ (by omega)] : H6.get H.next = H5.get H.next).trans z5
  have n6 : H6.next = H5.next := by rw [← hH6]; rfl
  have w6 := w5.set (w := H3.next) (by omega) (some ⟨ty_depend_Structure, [.int .i64 off, .int .i64 ((tn + 1 : Nat) : Int), v, .int .i64 0, .nils, .nils], none⟩)
  have p6 := p5.set (w := H3.next) (.inr (by omega)) (some ⟨ty_depend_Structure, [.int .i64 off, .int .i64 ((tn + 1 : Nat) : Int), v, .int .i64 0, .nils, .nils], none⟩)
  have o6 := (o4.trans k5).set (w := H3.next) (by omega) (some ⟨ty_depend_Structure, [.int .i64 off, .int .i64 ((tn + 1 : Nat) : Int), v, .int .i64 0, .nils, .nils], none⟩)
  rw [hH6] at w6 p6 o6
  clear hH6
  have m0 : (ts0.map fun t => ((t, .nils, .nils, .nils) : Tw)).map (·.1) = ts0 := by rw [List.map_map]; exact (List.map_congr_left fun t _ => rfl).trans (List.map_id _)
  have vl : Ax.vlen v = some (.int .i64 (ts0.length : Nat)) := by have := w6.vlen; rwa [List.length_map] at this
  simp (maxSteps := 1000000) (disch := first | omega | (simp only [RY] <;> omega) | decide) only [↓RD, RZ, eq_self, Int.reduceToNat, Int.reduceAdd, Int.reduceSub, Int.reduceMul, Nat.reduceAdd, Nat.reduceSub, Nat.reduceMul, Nat.reduceDiv, Nat.reduceMod, Nat.reduceBEq, Nat.reduceLeDiff, vl]
  refine rpass0_ok p6 g6 ⟨by omega, by omega, by omega⟩ w6 m0 (by omega) (by omega) _ fun H7 ws1 m1 w7 p7 k7 => ?_
  have A1 : ∀ t ∈ (each (fun x => sb (nums (tn + 1) 2) fun l => sp { x with dti := l }) ts0 σ3).1, (0 ≤ t.sp ∧ t.sp ≤ 4 ∧ 0 ≤ t.te ∧ t.te ≤ 8) ∧ (I64 t.dti ∧ t.dti.length ≤ 1048576) ∧ t.cha = [] := by
    refine each_o (P := fun t => (0 ≤ t.sp ∧ t.sp ≤ 4 ∧ 0 ≤ t.te ∧ t.te ≤ 8) ∧ t.cha = []) (fun t σ ht => ⟨ht.1, nums_o (fun σ => rd_hi (n := 2) (hi := 3) (by decide) σ) (by decide) (by omega) _, ht.2⟩) (fun t ht => ⟨hE.rng t ht, (hE.emp t ht).2.2⟩) _
  have L1 : (each (fun x => sb (nums (tn + 1) 2) fun l => sp { x with dti := l }) ts0 σ3).1.length = ts0.length := eachN_len _ _
  obtain ⟨ts1, σ4, e4⟩ := pr_ex (each (fun x => sb (nums (tn + 1) 2) fun l => sp { x with dti := l }) ts0 σ3)
  rw [e4] at m1 p7 A1 L1
  dsimp only at m1 p7 A1 L1
  have n7 := k7.next
  have g7 : H7.get H3.next = _ := (k7.same _ (by omega) (by omega)).trans g6
  have z7 : H7.get H.next = _ := (k7.same _ (by omega) (by omega)).trans z6
  have o7 : Ko a m H H7 := ⟨by have := o6.next; omega, fun i hi ho => by rw [k7.same i (by have := o6.next; omega) (by omega), o6.same i hi ho]⟩
  have vl7 : Ax.vlen v = some (.int .i64 (ts1.length : Nat)) := by rw [L1]; exact vl
  simp (maxSteps := 1000000) (disch := first | omega | (simp only [RY] <;> omega) | decide) only [↓RD, RZ, eq_self, Int.reduceToNat, Int.reduceAdd, Int.reduceSub, Int.reduceMul, Nat.reduceAdd, Nat.reduceSub, Nat.reduceMul, Nat.reduceDiv, Nat.reduceMod, Nat.reduceBEq, Nat.reduceLeDiff, g7, vl7]
  refine rpass1_ok p7 g7 ⟨by omega, by omega, by omega⟩ w7 m1 (by omega) _ fun H8 ws2 m2 w8 p8 k8 => ?_
  have A2 : ∀ t ∈ (each (fun x => sb (dfP 9 []) fun l => sp { x with dif := l }) ts1 σ4).1, (0 ≤ t.sp ∧ t.sp ≤ 4 ∧ 0 ≤ t.te ∧ t.te ≤ 8) ∧ (I64 t.dti ∧ t.dti.length ≤ 1048576) ∧ (I64 t.dif ∧ t.dif.length ≤ 1048576) ∧ t.cha = [] := by
    refine each_o (P := fun t => (0 ≤ t.sp ∧ t.sp ≤ 4 ∧ 0 ≤ t.te ∧ t.te ≤ 8) ∧ (I64 t.dti ∧ t.dti.length ≤ 1048576) ∧ t.cha = []) (fun t σ ht => ⟨ht.1, ht.2.1, ?_, ht.2.2⟩) A1 _
    have := dfP_rng 9 [] (by simp) (fun x hx => by cases hx) σ
    exact ⟨fun x hx => by have := this.2 x hx; exact ⟨by omega, by omega⟩, by have := this.1; exact Nat.le_trans this (by decide)⟩
  have L2 : (each (fun x => sb (dfP 9 []) fun l => sp { x with dif := l }) ts1 σ4).1.length = ts1.length := eachN_len _ _
  obtain ⟨ts2, σ5, e5⟩ := pr_ex (each (fun x => sb (dfP 9 []) fun l => sp { x with dif := l }) ts1 σ4)
  rw [e5] at m2 p8 A2 L2
  dsimp only at m2 p8 A2 L2
  have n8 := k8.next
  have g8 : H8.get H3.next = _ := (k8.same _ (by omega) (by omega)).trans g7
  have z8 : H8.get H.next = _ := (k8.same _ (by omega) (by omega)).trans z7
  have o8 : Ko a m H H8 := ⟨by have := o7.next; omega, fun i hi ho => by rw [k8.same i (by have := o7.next; omega) (by omega), o7.same i hi ho]⟩
  simp (maxSteps := 1000000) (disch := first | omega | (simp only [RY] <;> omega) | decide) only [↓RD, RZ, eq_self, Int.reduceToNat, Int.reduceAdd, Int.reduceSub, Int.reduceMul, Nat.reduceAdd, Nat.reduceSub, Nat.reduceMul, Nat.reduceDiv, Nat.reduceMod, Nat.reduceBEq, Nat.reduceLeDiff, g8, et2]
  refine ok_bind' (rns_ok p8 (tn + 2) (by omega) (by omega)) ?_
  rintro _ H9 ⟨rfl, p9, k9⟩
  have r3 := rns_rng (n := tn + 2) (by omega) σ5
  obtain ⟨cn, σ6, e6⟩ := pr_ex (rns (tn + 2) σ5)
  rw [e6] at p9 r3 ⊢
  dsimp only at p9 r3 ⊢
  obtain ⟨cn, rfl⟩ := Int.eq_ofNat_of_zero_le r3.1
  have n9 := k9.next
  have g9 : H9.get H3.next = _ := (k9.same _ (by omega) (by omega)).trans g8
  have z9 : H9.get H.next = _ := (k9.same _ (by omega) (by omega)).trans z8
  have o9 := o8.trans k9
  have w9 := w8.ko k9 (by omega)
  simp (maxSteps := 1000000) (disch := first | omega | (simp only [RY] <;> omega) | decide) only [↓RD, RZ, eq_self, Int.reduceToNat, Int.reduceAdd, Int.reduceSub, Int.reduceMul, Nat.reduceAdd, Nat.reduceSub, Nat.reduceMul, Nat.reduceDiv, Nat.reduceMod, Nat.reduceBEq, Nat.reduceLeDiff, g9, hv5.1, hv5.2]
  generalize hHa : Heap.set H9 _ _ = Ha
  have ga : Ha.get H3.next = some ⟨ty_depend_Structure, [.int .i64 off, .int .i64 ((tn + 1 : Nat) : Int), v, .int .i64 (cn : Nat), .nils, .nils], none⟩ := by rw [← hHa]; exact get_set_self _ _ _
  have za : Ha.get H.next = _ := (by rw [← hHa, get_set_ne _ _ (by omega)] : Ha.get H.next = H9.get H.next).trans z9
  have na : Ha.next = H9.next := by rw [← hHa]; rfl
  have wa := w9.set (w := H3.next) (by omega) (some ⟨ty_depend_Structure, [.int .i64 off, .int .i64 ((tn + 1 : Nat) : Int), v, .int .i64 (cn : Nat), .nils, .nils], none⟩)
  have pa := p9.set (w := H3.next) (.inr (by omega)) (some ⟨ty_depend_Structure, [.int .i64 off, .int .i64 ((tn + 1 : Nat) : Int), v, .int .i64 (cn : Nat), .nils, .nils], none⟩)
  have oa := o9.set (w := H3.next) (by omega) (some ⟨ty_depend_Structure, [.int .i64 off, .int .i64 ((tn + 1 : Nat) : Int), v, .int .i64 (cn : Nat), .nils, .nils], none⟩)
  rw [hHa] at wa pa oa
  clear hHa
  obtain ⟨pro, σ7, e7⟩ := pr_ex ((if (0 : Int) < (cn : Nat) then numsN (rns cn) (tn + 1) else sp []) σ6)
  obtain ⟨ts3, σ8, e8⟩ := pr_ex ((if (0 : Int) < (cn : Nat) then each (fun x => sb (nums cn 4) fun l => sp { x with cha := l }) ts2 else sp ts2) σ7)
  have A3 : (I64 pro ∧ pro.length ≤ 1048576) ∧ ts3.length = ts2.length ∧ ∀ t ∈ ts3, (0 ≤ t.sp ∧ t.sp ≤ 4 ∧ 0 ≤ t.te ∧ t.te ≤ 8) ∧ TmO t := by
    have f7 := congrArg Prod.fst e7
    have f8 := congrArg Prod.fst e8
    dsimp only at f7 f8
    by_cases c0 : (0 : Int) < (cn : Nat)
    · rw [if_pos c0] at f7 f8
      subst f7 f8
      refine ⟨nums_o (hi := 33) (fun σ => by have := rns_rng (n := cn) (by omega) σ; omega) (by decide) (by omega) _, eachN_len _ _, each_o (fun t σ ht => ?_) A2 _⟩
      exact ⟨ht.1, ⟨⟨show (-9223372036854775808 : Int) ≤ t.sp by omega, show t.sp ≤ 9223372036854775807 by omega⟩, ⟨show (-9223372036854775808 : Int) ≤ t.te by omega, show t.te ≤ 9223372036854775807 by omega⟩, ht.2.1, ht.2.2.1, nums_o (fun σ => rd_hi (n := 4) (hi := 15) (by decide) σ) (by decide) (by omega) _⟩⟩
    · rw [if_neg c0] at f7 f8
      subst f7 f8
      refine ⟨i64_nil, rfl, fun t ht => ?_⟩
      obtain ⟨h1, h2, h3, h4⟩ := A2 t ht
      exact ⟨h1, ⟨⟨by omega, by omega⟩, ⟨by omega, by omega⟩, h2, h3, by rw [h4]; exact i64_nil⟩⟩
  refine ok_mono (Q := fun r H' => r = .nrm [] ∧ ∃ p ws3, H'.get H3.next = some ⟨ty_depend_Structure, [.int .i64 off, .int .i64 ((tn + 1 : Nat) : Int), v, .int .i64 (cn : Nat), p, .nils], none⟩ ∧ Il Ha.next H' p pro ∧ ws3.map (·.1) = ts3 ∧ TsW ty_depend_Template H4.next H' v id cap o ws3 ∧ PR a m rb σ8 H' ∧ Kx (fun i => i = H3.next ∨ i = id ∨ (a ≤ i ∧ i < m)) Ha H') ?_ ?_
  · by_cases c0 : (0 : Int) < (cn : Nat)
    · rw [if_pos c0] at e7 e8
      have c0' : 1 ≤ cn := by omega
      simp (maxSteps := 1000000) (disch := first | omega | (simp only [RY] <;> omega) | decide) only [↓RD, RZ, eq_self, Int.reduceToNat, Int.reduceAdd, Int.reduceSub, Int.reduceMul, Nat.reduceAdd, Nat.reduceSub, Nat.reduceMul, Nat.reduceDiv, Nat.reduceMod, Nat.reduceBEq, Nat.reduceLeDiff, ga]
      refine rprot_ok pa ga ⟨by omega, by omega⟩ ⟨c0', by omega⟩ (by omega) hv5 cel_nils _ fun Hb p gb hp pb kb => ?_
      rw [e7] at hp pb
      dsimp only at hp pb
      have nb := kb.next
      have wb := wa.keep (kb.keep fun i hi hc => by omega)
      have vlb : Ax.vlen v = some (.int .i64 (ts2.length : Nat)) := by rw [L2]; exact vl7
      have cp := hp.cel
      simp (maxSteps := 1000000) (disch := first | omega | (simp only [RY] <;> omega) | decide) only [↓RD, RZ, eq_self, Int.reduceToNat, Int.reduceAdd, Int.reduceSub, Int.reduceMul, Nat.reduceAdd, Nat.reduceSub, Nat.reduceMul, Nat.reduceDiv, Nat.reduceMod, Nat.reduceBEq, Nat.reduceLeDiff, gb, vlb]
      refine rpass3_ok pb gb ⟨by omega, by omega, by omega⟩ wb m2 (by omega) (by omega) _ fun Hc ws3 m3 wc pc kc => ?_
      rw [e8] at m3 pc
      dsimp only at m3 pc
      simp (maxSteps := 1000000) (disch := first | omega | (simp only [RY] <;> omega) | decide) only [↓RD, RZ, eq_self, Int.reduceToNat, Int.reduceAdd, Int.reduceSub, Int.reduceMul, Nat.reduceAdd, Nat.reduceSub, Nat.reduceMul, Nat.reduceDiv, Nat.reduceMod, Nat.reduceBEq, Nat.reduceLeDiff]
      refine ⟨p, ws3, (kc.same _ (by omega) (by omega)).trans gb, hp.keep (kc.keep fun i hi hc => by omega), m3, wc, pc, ?_⟩
      exact (kb.mono fun i _ h => by omega).trans (kc.mono fun i _ h => by omega)
    · rw [if_neg c0] at e7 e8
      obtain ⟨rfl, rfl⟩ := Prod.mk.inj e7
      obtain ⟨rfl, rfl⟩ := Prod.mk.inj e8
      simp (maxSteps := 1000000) (disch := first | omega | (simp only [RY] <;> omega) | decide) only [↓RD, RZ, eq_self, Int.reduceToNat, Int.reduceAdd, Int.reduceSub, Int.reduceMul, Nat.reduceAdd, Nat.reduceSub, Nat.reduceMul, Nat.reduceDiv, Nat.reduceMod, Nat.reduceBEq, Nat.reduceLeDiff]
      exact ⟨_, ws2, ga, Lc.nil, m2, wa, pa, Kx.refl _ _⟩
  · rintro _ Hb ⟨rfl, p, ws3, gb, hp, m3, wb, pb, kb⟩
    have nb := kb.next
    have zb : Hb.get H.next = _ := (kb.same _ (by omega) (by omega)).trans za
    have cp := hp.cel
    simp (maxSteps := 1000000) (disch := first | omega | (simp only [RY] <;> omega) | decide) only [↓RD, RZ, eq_self, Int.reduceToNat, Int.reduceAdd, Int.reduceSub, Int.reduceMul, Nat.reduceAdd, Nat.reduceSub, Nat.reduceMul, Nat.reduceDiv, Nat.reduceMod, Nat.reduceBEq, Nat.reduceLeDiff]
    refine ok_bind' (rbit_ok pb) ?_
    rintro _ Hc ⟨rfl, pc, kc⟩
    obtain ⟨b, σ9, e9⟩ := pr_ex (rd 1 σ8)
    rw [e9] at pc ⊢
    dsimp only at pc ⊢
    simp (maxSteps := 1000000) (disch := first | omega | (simp only [RY] <;> omega) | decide) only [↓RD, RZ, eq_self, Int.reduceToNat, Int.reduceAdd, Int.reduceSub, Int.reduceMul, Nat.reduceAdd, Nat.reduceSub, Nat.reduceMul, Nat.reduceDiv, Nat.reduceMod, Nat.reduceBEq, Nat.reduceLeDiff]
    have nc := kc.next
    have gc : Hc.get H3.next = _ := (kc.same _ (by omega) (by omega)).trans gb
    have zc : Hc.get H.next = _ := (kc.same _ (by omega) (by omega)).trans zb
    have wc := wb.ko kc (by omega)
    have hpc := hp.keep (kc.keep (by omega))
    have tmx := top_max' (b := 4) (by decide) fun t ht => ⟨(A3.2.2 t ht).1.1, (A3.2.2 t ht).1.2.1⟩
    obtain ⟨siz, σa, ea⟩ := pr_ex ((if b = 1 then szN wh (top ts3 + 1).toNat else sp []) σ9)
    have A4 : siz.length ≤ 1048576 ∧ ∀ x ∈ siz, R64 x.1 ∧ R64 x.2 := by
      have f := congrArg Prod.fst ea
      dsimp only at f
      subst f
      split
      · rw [szN_len]
        refine ⟨by omega, fun x hx => ?_⟩
        have := szN_rng _ _ x hx
        exact ⟨⟨by omega, by omega⟩, ⟨by omega, by omega⟩⟩
      · exact ⟨by simp [sp], fun x hx => by cases hx⟩
    have oc : Ko a m H Hc := (show Ko a m H Hb from ⟨by have := oa.next; omega, fun i hi ho => by rw [kb.same i (by have := oa.next; omega) (by omega), oa.same i hi ho]⟩).trans kc
    have tl3 : ts3.length = ts0.length := by omega
    refine ok_mono (Q := fun r H' => r = .nrm [] ∧ ∃ q, H'.get H3.next = some ⟨ty_depend_Structure, [.int .i64 off, .int .i64 ((tn + 1 : Nat) : Int), v, .int .i64 (cn : Nat), p, q], none⟩ ∧ Szs Hc.next H' q siz ∧ PR a m rb σa H' ∧ Kx (fun i => i = H3.next ∨ (a ≤ i ∧ i < m)) Hc H') ?_ ?_
    · by_cases b1 : b = 1
      · rw [if_pos b1] at ea
        rw [decide_eq_true b1]
        simp (maxSteps := 1000000) (disch := first | omega | (simp only [RY] <;> omega) | decide) only [↓RD, RZ, eq_self, Int.reduceToNat, Int.reduceAdd, Int.reduceSub, Int.reduceMul, Nat.reduceAdd, Nat.reduceSub, Nat.reduceMul, Nat.reduceDiv, Nat.reduceMod, Nat.reduceBEq, Nat.reduceLeDiff, gc]
        have hC : SrC 0 Hc ⟨off, ((tn + 1 : Nat) : Int), ts3, (cn : Nat), pro, []⟩ v p .nils := ⟨by rw [← m3]; exact wc.tms.low (by omega), hpc.low (by omega), Lc.nil⟩
        refine ok_bind' (spatial_ok hC (by dsimp only; omega) (fun t ht => ⟨(A3.2.2 t ht).1.1, (A3.2.2 t ht).1.2.1⟩)) ?_
        rintro _ Hd ⟨rfl, kd⟩
        dsimp only
        rw [if_neg (by omega)]
        have nd := kd.next
        have gd : Hd.get H3.next = _ := (kd.same _ (by omega)).trans gc
        have en : top ts3 + 1 = (((top ts3 + 1).toNat : Nat) : Int) := by omega
        rw [en]
        simp (maxSteps := 1000000) (disch := first | omega | (simp only [RY] <;> omega) | decide) only [↓RD, RZ, eq_self, Int.reduceToNat, Int.reduceAdd, Int.reduceSub, Int.reduceMul, Nat.reduceAdd, Nat.reduceSub, Nat.reduceMul, Nat.reduceDiv, Nat.reduceMod, Nat.reduceBEq, Nat.reduceLeDiff]
        refine rsizes_ok (pc.grow kd) gd ⟨by omega, by omega⟩ (by omega) hv5 cp _ fun He q ge hq pe ke => ?_
        rw [ea] at hq pe
        dsimp only at hq pe
        simp (maxSteps := 1000000) (disch := first | omega | (simp only [RY] <;> omega) | decide) only [↓RD, RZ, eq_self, Int.reduceToNat, Int.reduceAdd, Int.reduceSub, Int.reduceMul, Nat.reduceAdd, Nat.reduceSub, Nat.reduceMul, Nat.reduceDiv, Nat.reduceMod, Nat.reduceBEq, Nat.reduceLeDiff]
        have ne := ke.next
        exact ⟨q, ge, hq.low (by omega), pe, ⟨by omega, fun i hi ho => by rw [ke.same i (by omega) ho, kd.same i hi]⟩⟩
      · rw [if_neg b1] at ea
        obtain ⟨rfl, rfl⟩ := Prod.mk.inj ea
        rw [decide_eq_false b1]
        simp (maxSteps := 1000000) (disch := first | omega | (simp only [RY] <;> omega) | decide) only [↓RD, RZ, eq_self, Int.reduceToNat, Int.reduceAdd, Int.reduceSub, Int.reduceMul, Nat.reduceAdd, Nat.reduceSub, Nat.reduceMul, Nat.reduceDiv, Nat.reduceMod, Nat.reduceBEq, Nat.reduceLeDiff]
        exact ⟨_, gc, Lc.nil, pc, Kx.refl _ _⟩
    · rintro _ Hd ⟨rfl, q, gd, hq, pd, kd⟩
      have nd := kd.next
      have zd : Hd.get H.next = _ := (kd.same _ (by omega) (by omega)).trans zc
      have cq := hq.cel
      simp (maxSteps := 1000000) (disch := first | omega | (simp only [RY] <;> omega) | decide) only [↓RD, RZ, eq_self, Int.reduceToNat, Int.reduceAdd, Int.reduceSub, Int.reduceMul, Nat.reduceAdd, Nat.reduceSub, Nat.reduceMul, Nat.reduceDiv, Nat.reduceMod, Nat.reduceBEq, Nat.reduceLeDiff, gd, zd, hv5.1, hv5.2, cp.1, cp.2, cq.1, cq.2]
      have hF : strS wayP σ = (⟨off, ((tn + 1 : Nat) : Int), ts3, (cn : Nat), pro, siz⟩, σa) := by
        unfold strS wayP
        dsimp only
        rw [sb_eq e1, sb_eq e2, sb_eq e3]
        have et' : ((tn : Int) + 1).toNat = tn + 1 := by omega
        have et2' : ((tn : Int) + 2).toNat = tn + 2 := by omega
        rw [et', et2', sb_eq e4, sb_eq e5, sb_eq e6, Int.toNat_natCast, sb_eq e7, sb_eq e8, sb_eq e9, sb_eq ea]
        rfl
      rw [hF]
      have wd := wc.keep (kd.keep fun i hi hc => by omega)
      have hK : ∀ b', Keep H4.next Hd (Hd.set H.next b') := fun b' => Keep.set Hd (by omega) b'
      refine ⟨⟨v, p, q, rfl, ⟨?_, ?_, ?_⟩⟩, ⟨⟨by dsimp only; omega, by dsimp only; omega⟩, ⟨by dsimp only; omega, by dsimp only; omega⟩, by dsimp only; omega, fun t ht => (A3.2.2 t ht).2, ⟨by dsimp only; omega, by dsimp only; omega⟩, A3.1, A4⟩, r1.1, r1.2, ⟨by dsimp only; omega, by dsimp only; omega⟩, ⟨by dsimp only; omega, by dsimp only; omega⟩, pd.set (.inr (by omega)) _, ?_⟩
      · dsimp only; rw [← m3]; exact ((wd.keep (hK _)).tms).low (by omega)
      · exact ((hpc.keep (kd.keep fun i hi hc => by omega)).keep ((hK _).keepL (by omega))).low (by omega)
      · exact (hq.keep ((hK _).keepL (by omega))).low (by omega)
      · exact (show Ko a m H Hd from ⟨by have := oc.next; omega, fun i hi ho => by rw [kd.same i (by have := oc.next; omega) (by omega), oc.same i hi ho]⟩).set (by omega) _

end
end Go.Ax.D9
/- DepR8 -/
set_option maxRecDepth 100000
set_option linter.unusedVariables false
set_option linter.unusedSimpArgs false
namespace Go.Ax.D9
open Go.Ax B6
theorem Over_ok {H : Heap} {v : V} {l : List Nat} (hv : rcells 1 H v = some (l.map by8, l.length)) (hlt : ∀ i (h : i < l.length), l[i] < 256) (hl : l.length ≤ 1099511627776) :
    Ok (sem T fn_bits_Over [v]) H fun r H' => ∃ k, r = .ptr k 0 ∧ PRd H' (H.next, H'.next) k l 0 ∧ Grow H H' := by
  refine ok_bits_Over ?_
  unfold f_bits_Over
  refine okb_append0 (acells_rc hv) (by simp) (by omega) (by omega) fun x' H1 ho1 hs hf => ?_
  simp (maxSteps := 1000000) (disch := first | omega | (simp only [RY] <;> omega) | decide) only [↓RD, RZ, eq_self, Int.reduceToNat, Int.reduceAdd, Int.reduceSub, Int.reduceMul, Nat.reduceAdd, Nat.reduceSub, Nat.reduceMul, Nat.reduceDiv, Nat.reduceMod, Nat.reduceBEq, Nat.reduceLeDiff, ho1.cells1, ho1.okc]
  have hn := hs.next
  refine ⟨H1.next, rfl, ⟨⟨x', get_new_self _ _, ?_, fun e => ?_, fun i hi => ?_⟩, ?_, hlt, hl, Nat.zero_le _⟩, ?_, fun i hi => ?_⟩
  · exact ho1.to fun i hi => get_new_ne _ _ (by have := hf i hi; omega)
  · have := hf _ e; omega
  · have := hf i hi; dsimp only; omega
  · dsimp only; omega
  · rw [next_new]; omega
  · rw [get_new_ne _ _ (by omega), hs.same i hi (by simp)]

/-- Where Parse stands: its boxes, its reader. -/
structure PS (tS tF : TypeId) (R : St → Heap → Prop) (a m : Nat) (B : Heap) (bf : Nat) (c3 cf : List V) (σ : St) (H : Heap) : Prop where
  pr : R σ H
  gr : Grow B H
  g3 : H.get B.next = some ⟨tS, c3, none⟩
  g4 : H.get (B.next + 1) = some ⟨tF, fcells Fr0 .nils .nils .nils .nils .nils .nils, none⟩
  gf : H.get bf = some ⟨tF, cf, none⟩
  bs : a = B.next + 2 ∧ m ≤ bf ∧ bf < H.next ∧ a ≤ m

/-- What a reader hangs on. -/
structure Rl (a m : Nat) (R : St → Heap → Prop) : Prop where
  keep : ∀ {σ : St} {H H' : Heap}, R σ H → (∀ i, a ≤ i → i < m → H'.get i = H.get i) → H.next ≤ H'.next → R σ H'
theorem rlP (a m rb : Nat) : Rl a m (PR a m rb) := ⟨fun h hs hn => h.keep hs hn⟩

section
variable {tS tF : TypeId} {R : St → Heap → Prop} {a m bf : Nat} {B H H' : Heap} {c3 cf cf' : List V} {σ σ' : St}
theorem PS.ko (h : PS tS tF R a m B bf c3 cf σ H) (p : R σ' H') (k : Ko a m H H') : PS tS tF R a m B bf c3 cf σ' H' := by
  obtain ⟨h1, h2, h3, h4, h5, h6⟩ := h
  exact ⟨p, Ko.grow h2 (by omega) k, (k.same _ (by omega) (by omega)).trans h3, (k.same _ (by omega) (by omega)).trans h4, (k.same _ (by omega) (by omega)).trans h5, by have := k.next; omega⟩
theorem PS.grow (hR : Rl a m R) (h : PS tS tF R a m B bf c3 cf σ H) (g : Grow H H') : PS tS tF R a m B bf c3 cf σ H' := by
  obtain ⟨h1, h2, h3, h4, h5, h6⟩ := h
  exact ⟨hR.keep h1 (fun i _ hi => g.same i (by omega)) g.next, h2.trans g, (g.same _ (by omega)).trans h3, (g.same _ (by omega)).trans h4, (g.same _ (by omega)).trans h5, by have := g.next; omega⟩
theorem PS.setf (hR : Rl a m R) (h : PS tS tF R a m B bf c3 cf σ H) (cf' : List V) : PS tS tF R a m B bf c3 cf' σ (H.set bf (some ⟨tF, cf', none⟩)) := by
  obtain ⟨h1, h2, h3, h4, h5, h6⟩ := h
  exact ⟨hR.keep h1 (fun i _ hi => get_set_ne _ _ (by omega)) (Nat.le_refl _), h2.set (by omega) _, by rw [get_set_ne _ _ (by omega), h3], by rw [get_set_ne _ _ (by omega), h4], get_set_self _ _ _, h6⟩
end
theorem zeros_1 {b : Bool} {bs : List Bool} (hb : b = true) : (zeros (.ok (b :: bs))).2 = .error 2 := by subst hb; rfl
theorem zeros_0 {b : Bool} {bs : List Bool} (hb : b = false) : (zeros (.ok (b :: bs))).2 = (zeros (.ok bs)).2 := by
  subst hb; unfold zeros; simp only [List.all_cons, Bool.not_false, Bool.true_and]
theorem rd1_c (b : Bool) (bs : List Bool) : rd 1 (.ok (b :: bs)) = ((if b then 1 else 0), .ok bs) := by
  unfold rd
  dsimp only
  rw [if_neg (by simp)]
  cases b <;> rfl

/-- All bits behind. -/
theorem rzeros_ok {a m bf rb : Nat} {B H : Heap} {c3 cf : List V} {σ : St} (h : PS ty_depend_Structure ty_depend_Frame (PR a m rb) a m B bf c3 cf σ H) (t4 : V)
    {Q : Res → Heap → Prop} (k : ∀ H', PS ty_depend_Structure ty_depend_Frame (PR a m rb) a m B bf c3 cf (zeros σ).2 H' → Ko a m H H' → Q (.ex 1 []) H') :
    Ok (M.iter (f_depend_Parse_0 (sem T) (.ptr rb 0) t4) []) H Q := by
  refine ok_while (fun L H' n => L = [] ∧ ∃ σ', (zeros σ').2 = (zeros σ).2 ∧ PS ty_depend_Structure ty_depend_Frame (PR a m rb) a m B bf c3 cf σ' H' ∧ Ko a m H H' ∧ ∀ bs, σ' = .ok bs → bs.length < n) ((match σ with | .ok bs => bs.length | .error _ => 0) + 1) ?_ ?_
  · refine ⟨rfl, σ, rfl, h, Ko.refl _ _ _, fun bs e => ?_⟩
    subst e; exact Nat.lt_succ_self _
  · rintro L H1 n ⟨rfl, σ', e, s1, k1, hn⟩
    obtain ⟨rk, g⟩ := s1.pr.get
    obtain ⟨r1, r2, r3⟩ := s1.pr.rng
    unfold f_depend_Parse_0
    cases σ' with
    | error c =>
      have hc : St.err (.error c) ≠ 0 := fun e => by obtain ⟨bs, hb⟩ := r3.1 e; cases hb
      simp (maxSteps := 1000000) (disch := first | omega | (simp only [RY] <;> omega) | decide) only [↓RD, RZ, eq_self, Int.reduceToNat, Int.reduceAdd, Int.reduceSub, Int.reduceMul, Nat.reduceAdd, Nat.reduceSub, Nat.reduceMul, Nat.reduceDiv, Nat.reduceMod, Nat.reduceBEq, Nat.reduceLeDiff, g]
      refine k H1 ?_ k1
      rw [← e]; exact s1
    | ok bs =>
      have hc : St.err (.ok bs) = 0 := rfl
      obtain ⟨rk', g', hl⟩ := rleft_ok s1.pr
      have hlx := fun f Q => okb_of (f := f) (Q := Q) (show Ok (sem T fn_bits_Reader_Left [.ptr rk' 0]) H1 (fun v H' => v = _ ∧ H' = H1) from hl)
      cases bs with
      | nil =>
        simp (maxSteps := 1000000) (disch := first | omega | (simp only [RY] <;> omega) | decide) only [↓RD, RZ, eq_self, Int.reduceToNat, Int.reduceAdd, Int.reduceSub, Int.reduceMul, Nat.reduceAdd, Nat.reduceSub, Nat.reduceMul, Nat.reduceDiv, Nat.reduceMod, Nat.reduceBEq, Nat.reduceLeDiff, g', hlx, List.length_nil]
        refine k H1 ?_ k1
        rw [← e]; exact s1
      | cons b bs =>
        have hb0 : (0 : Int) < ((b :: bs).length : Nat) := by rw [List.length_cons]; omega
        simp (maxSteps := 1000000) (disch := first | omega | (simp only [RY] <;> omega) | decide) only [↓RD, RZ, eq_self, Int.reduceToNat, Int.reduceAdd, Int.reduceSub, Int.reduceMul, Nat.reduceAdd, Nat.reduceSub, Nat.reduceMul, Nat.reduceDiv, Nat.reduceMod, Nat.reduceBEq, Nat.reduceLeDiff, g', hlx, dec_lt_t hb0]
        refine ok_bind' (rbit_ok s1.pr) ?_
        rintro _ H2 ⟨rfl, p2, k2⟩
        rw [rd1_c] at p2 ⊢
        dsimp only at p2 ⊢
        have s2 := s1.ko p2 k2
        have hlen := hn _ rfl
        rw [List.length_cons] at hlen
        cases b with
        | false =>
          simp (maxSteps := 1000000) (disch := first | omega | (simp only [RY] <;> omega) | decide) only [↓RD, RZ, eq_self, Int.reduceToNat, Int.reduceAdd, Int.reduceSub, Int.reduceMul, Nat.reduceAdd, Nat.reduceSub, Nat.reduceMul, Nat.reduceDiv, Nat.reduceMod, Nat.reduceBEq, Nat.reduceLeDiff, show decide ((if false = true then (1 : Int) else 0) = 1) = false from rfl, show decide ((0 : Int) = 1) = false from rfl]
          exact ⟨n - 1, by omega, .ok bs, by rw [← e, zeros_0 rfl], s2, k1.trans k2, fun bs' hb => by cases hb; omega⟩
        | true =>
          simp (maxSteps := 1000000) (disch := first | omega | (simp only [RY] <;> omega) | decide) only [↓RD, RZ, eq_self, Int.reduceToNat, Int.reduceAdd, Int.reduceSub, Int.reduceMul, Nat.reduceAdd, Nat.reduceSub, Nat.reduceMul, Nat.reduceDiv, Nat.reduceMod, Nat.reduceBEq, Nat.reduceLeDiff]
          refine ok_bind' (fail_ok p2 2 (by decide)) ?_
          rintro _ H3 ⟨p3, k3⟩
          simp (maxSteps := 1000000) (disch := first | omega | (simp only [RY] <;> omega) | decide) only [↓RD, RZ, eq_self, Int.reduceToNat, Int.reduceAdd, Int.reduceSub, Int.reduceMul, Nat.reduceAdd, Nat.reduceSub, Nat.reduceMul, Nat.reduceDiv, Nat.reduceMod, Nat.reduceBEq, Nat.reduceLeDiff]
          exact ⟨n - 1, by omega, _, by rw [← e, zeros_1 rfl]; rfl, s2.ko p3 k3, (k1.trans k2).trans k3, fun bs' hb => by cases hb⟩

end Go.Ax.D9
/- DepR9 -/
set_option maxRecDepth 100000
set_option linter.unusedVariables false
set_option linter.unusedSimpArgs false
namespace Go.Ax.D9
open Go.Ax B6
/-- What Parse answers. -/
def PRes (lo : Nat) (x : Fr × St) (v : V) (H : Heap) : Prop := (∀ c, x.2 = .error c → c ≠ 0) ∧ ∃ a b c d e g, v = .tup [.agg (fcells x.1 a b c d e g), .int .i64 (St.err x.2)] ∧ FrC lo H x.1 a b c d e g

theorem PRes.err {lo : Nat} {x : Fr × St} {c : Int} {H : Heap} (hc : c ≠ 0) (h : x = (Fr0, .error c)) : PRes lo x (.tup [.agg (fcells Fr0 .nils .nils .nils .nils .nils .nils), .int .i64 c]) H := by
  subst h; exact ⟨(fun c' h => by cases h; exact hc), _, _, _, _, _, _, rfl, FrC.zero⟩

/-- The head of a descriptor, in the frame's box. -/
abbrev hcells (f : Fr) : List V := fcells f .nils .nils .nils .nils .nils .nils

/-- Where Parse stands behind the head: the frame's lists, boxes beside it. -/
structure PT (tS tF : TypeId) (R : St → Heap → Prop) (am : Nat × Nat) (B : Heap) (bf : Nat) (c3 : List V) (ks : List (Nat × Blk)) (f : Fr) (a b c d e g : V) (σ : St) (H : Heap) : Prop where
  s : PS tS tF R am.1 am.2 B bf c3 (fcells f a b c d e g) σ H
  f : FrC (bf + 1) H f a b c d e g
  k : ∀ k ∈ ks, bf < k.1 ∧ k.1 < H.next ∧ H.get k.1 = some k.2

section
variable {tS tF : TypeId} {R : St → Heap → Prop} {am : Nat × Nat} {bf : Nat} {B H H' : Heap} {c3 : List V} {ks : List (Nat × Blk)} {f f' : Fr} {a b c d e g a' b' c' d' e' g' : V} {σ σ' : St}
theorem PT.ko (h : PT tS tF R am B bf c3 ks f a b c d e g σ H) (p : R σ' H') (k : Ko am.1 am.2 H H') : PT tS tF R am B bf c3 ks f a b c d e g σ' H' :=
  ⟨h.s.ko p k, h.f.keep (k.keep (by have := h.s.bs; omega)), fun x hx => by obtain ⟨h1, h2, h3⟩ := h.k x hx; exact ⟨h1, by have := k.next; omega, (k.same _ h2 (by have := h.s.bs; omega)).trans h3⟩⟩
theorem PT.grow (hR : Rl am.1 am.2 R) (h : PT tS tF R am B bf c3 ks f a b c d e g σ H) (k : Grow H H') : PT tS tF R am B bf c3 ks f a b c d e g σ H' :=
  ⟨h.s.grow hR k, h.f.ext k, fun x hx => by obtain ⟨h1, h2, h3⟩ := h.k x hx; exact ⟨h1, by have := k.next; omega, (k.same _ h2).trans h3⟩⟩
theorem PT.set (hR : Rl am.1 am.2 R) (h : PT tS tF R am B bf c3 ks f a b c d e g σ H) (hf : FrC (bf + 1) H f' a' b' c' d' e' g') : PT tS tF R am B bf c3 ks f' a' b' c' d' e' g' σ (H.set bf (some ⟨tF, fcells f' a' b' c' d' e' g', none⟩)) :=
  ⟨h.s.setf hR _, hf.keep (Keep.set H (by omega) _), fun x hx => by obtain ⟨h1, h2, h3⟩ := h.k x hx; exact ⟨h1, h2, by rw [get_set_ne _ _ (by omega), h3]⟩⟩
theorem PT.add (h : PT tS tF R am B bf c3 ks f a b c d e g σ H) {id : Nat} {x : Blk} (h1 : bf < id) (h2 : id < H.next) (h3 : H.get id = some x) : PT tS tF R am B bf c3 ((id, x) :: ks) f a b c d e g σ H :=
  ⟨h.s, h.f, fun y hy => by rcases List.mem_cons.1 hy with rfl | hy; exact ⟨h1, h2, h3⟩; exact h.k y hy⟩
theorem PT.get {id : Nat} {x : Blk} (h : PT tS tF R am B bf c3 ((id, x) :: ks) f a b c d e g σ H) : H.get id = some x ∧ bf < id ∧ id < H.next := ⟨(h.k _ (List.mem_cons_self ..)).2.2, (h.k _ (List.mem_cons_self ..)).1, (h.k _ (List.mem_cons_self ..)).2.1⟩
theorem PT.drop {x : Nat × Blk} (h : PT tS tF R am B bf c3 (x :: ks) f a b c d e g σ H) : PT tS tF R am B bf c3 ks f a b c d e g σ H := ⟨h.s, h.f, fun y hy => h.k y (List.mem_cons_of_mem _ hy)⟩
end
theorem act0 {f : Fr} (h : f.act = 0) : ({ f with act := (0 : Int).toNat } : Fr) = f := by cases f; simp only at h; subst h; rfl
theorem heap_set_set (H : Heap) (w : Nat) (b b' : Option Blk) : (H.set w b).set w b' = H.set w b' := by
  unfold Heap.set
  congr 1
  funext i
  by_cases h : i = w <;> simp [h]

theorem bind_join {x : M V} {f : V → M Res} {K : List V → M Res} : (x.bind fun v => M.join (f v) K) = M.join (x.bind f) K := by unfold M.join; rw [M.bind_assoc]
theorem okB_def {α β : Type} {x : M α} {H : Heap} {f : α → M β} {Q : β → Heap → Prop} : @OkB α β x H ⟨f⟩ ⟨Q⟩ = Ok (x.bind f) H Q := rfl

def tmS (o : Option Tm) : S Tm := match o with | some t => sp t | none => sb (fail 2) fun _ => sp Tm0
theorem tailS_eq (f : Fr) (s : Sr) (o : Option Tm) (og : S (List Int)) : tailS f s o og = sb (if f.has then rd s.tar.toNat else sp 0) fun act => sb (tmS o) fun t =>
    sb (if f.od then nums s.tar.toNat 2 else sp t.dti) fun d => sb (if f.of' then og else sp t.dif) fun e => sb (if f.oc then nums s.cha.toNat 8 else sp t.cha) fun c => sb zeros fun _ => sp { f with act := act.toNat, dti := d, dif := e, cha := c } := by
  cases o <;> rfl

/-- Behind the head. -/
noncomputable def aftH (body : Fr → Sr → St → Fr × St) (f0 : Fr) (k : Sr) (σ : St) : Fr × St := match σ with
  | .error e => (Fr0, .error e)
  | .ok bs => body f0 k (.ok bs)
theorem parseB_aft {body : Fr → Sr → St → Fr × St} {more : Bool} {bits : List Bool} {k : Sr} {f0 : Fr} {σh : St} (h : headS more (.ok bits) = (f0, σh)) : parseB body more bits k = aftH body f0 k σh := by
  unfold parseB aftH; rw [h]; cases σh <;> rfl

set_option maxHeartbeats 3200000 in
theorem Parse_ok {H : Heap} {v w : V} {l : List Nat} {k : Sr} (hv : rcells 1 H v = some (l.map by8, l.length)) (hvl : Ax.vlen v = some (.int .i64 (l.length : Nat))) (hvp : ∀ i, v.pid = some i → i < H.next) (hlt : ∀ i (h : i < l.length), l[i] < 256) (hl : l.length ≤ 1048576) (hk : SrR 0 H w k) (ko : SrO k) :
    Ok (sem T fn_depend_Parse [v, w]) H fun r H' => PRes H.next (parseB bodyP (decide (3 < l.length)) (ub l) k) r H' ∧ Grow H H' := by
  obtain ⟨kp, kq, kr, rfl, hk⟩ := hk
  have kts := hk.ts.cel
  have kpr := hk.pro.cel
  have ksi := hk.siz.cel
  refine ok_depend_Parse ?_
  unfold f_depend_Parse
  unfold scells
  simp (maxSteps := 1000000) (disch := first | omega | (simp only [RY] <;> omega) | decide) only [↓RD, RZ, eq_self, Int.reduceToNat, Int.reduceAdd, Int.reduceSub, Int.reduceMul, Nat.reduceAdd, Nat.reduceSub, Nat.reduceMul, Nat.reduceDiv, Nat.reduceMod, Nat.reduceBEq, Nat.reduceLeDiff, kts.1, kts.2, kpr.1, kpr.2, ksi.1, ksi.2]
  generalize hH1 : Heap.new (Heap.new H _) _ = H1
  have s1 : Grow H H1 := by rw [← hH1]; exact (Grow.new _ _).trans (Grow.new _ _)
  have n1 : H1.next = H.next + 2 := by rw [← hH1]; rfl
  have k1 : H1.get H.next = some ⟨ty_depend_Structure, [.int .i64 k.off, .int .i64 k.tar, kp, .int .i64 k.cha, kq, kr], none⟩ := by rw [← hH1]; simp (maxSteps := 1000000) (disch := first | omega | (simp only [RY] <;> omega) | decide) only [↓RD, RZ, eq_self, Int.reduceToNat, Int.reduceAdd, Int.reduceSub, Int.reduceMul, Nat.reduceAdd, Nat.reduceSub, Nat.reduceMul, Nat.reduceDiv, Nat.reduceMod, Nat.reduceBEq, Nat.reduceLeDiff]
  have z1 : H1.get (H.next + 1) = some ⟨ty_depend_Frame, hcells Fr0, none⟩ := by rw [← hH1]; unfold hcells fcells; simp (maxSteps := 1000000) (disch := first | omega | (simp only [RY] <;> omega) | decide) only [↓RD, RZ, eq_self, Int.reduceToNat, Int.reduceAdd, Int.reduceSub, Int.reduceMul, Nat.reduceAdd, Nat.reduceSub, Nat.reduceMul, Nat.reduceDiv, Nat.reduceMod, Nat.reduceBEq, Nat.reduceLeDiff]; rfl
  clear hH1
  refine ok_bind' (Over_ok ((rcells_to fun i hi => s1.same i (hvp i hi)).trans hv) hlt (by omega)) ?_
  rintro _ H2 ⟨rk, rfl, hr, s2⟩
  have n2 := s2.next
  have k2 : H2.get H.next = _ := (s2.same _ (by omega)).trans k1
  have z2 : H2.get (H.next + 1) = _ := (s2.same _ (by omega)).trans z1
  have hrl := hr.low
  dsimp only at hrl
  simp (maxSteps := 1000000) (disch := first | omega | (simp only [RY] <;> omega) | decide) only [↓RD, RZ, eq_self, Int.reduceToNat, Int.reduceAdd, Int.reduceSub, Int.reduceMul, Nat.reduceAdd, Nat.reduceSub, Nat.reduceMul, Nat.reduceDiv, Nat.reduceMod, Nat.reduceBEq, Nat.reduceLeDiff]
  generalize hH3 : Heap.new H2 _ = H3
  have s3 : Grow H2 H3 := by rw [← hH3]; exact Grow.new _ _
  have n3 : H3.next = H2.next + 1 := by rw [← hH3]; rfl
  have g3 : H3.get H2.next = some ⟨ty_depend_reader, [.ptr rk 0, .int .i64 0], none⟩ := by rw [← hH3]; exact get_new_self _ _
  clear hH3
  have k3 : H3.get H.next = _ := (s3.same _ (by omega)).trans k2
  have z3 : H3.get (H.next + 1) = _ := (s3.same _ (by omega)).trans z2
  have p3 : PR (H.next + 2) (H2.next + 1) H2.next (.ok (ub l)) H3 := by
    refine ⟨⟨rk, 0, 0, l, g3, ?_, rfl, by rw [List.drop_zero]⟩, by omega, by omega, by omega⟩
    rw [← n1]
    exact hr.frame fun i h1 (h2 : i < H2.next) => s3.same i h2
  have s13 := (s1.trans s2).trans s3
  refine ok_bind' (rbit_ok p3) ?_
  rintro _ H4 ⟨rfl, p4, q4⟩
  obtain ⟨v1, σ1, e1⟩ := pr_ex (rd 1 (.ok (ub l)))
  rw [e1] at p4 ⊢
  refine ok_bind' (rbit_ok p4) ?_
  rintro _ H5 ⟨rfl, p5, q5⟩
  obtain ⟨v2, σ2, e2⟩ := pr_ex (rd 1 σ1)
  dsimp only at p4 p5 ⊢
  rw [e2] at p5 ⊢
  refine ok_bind' (rnum_ok p5 6 (by decide)) ?_
  rintro _ H6 ⟨rfl, p6, q6⟩
  have r3 := rd_hi (n := 6) (hi := 63) (by decide) σ2
  obtain ⟨v3, σ3, e3⟩ := pr_ex (rd 6 σ2)
  dsimp only at p5 p6 ⊢
  rw [e3] at p6 r3 ⊢
  refine ok_bind' (rnum_ok p6 16 (by decide)) ?_
  rintro _ H7 ⟨rfl, p7, q7⟩
  have r4 := rd_hi (n := 16) (hi := 65535) (by decide) σ3
  obtain ⟨v4, σ4, e4⟩ := pr_ex (rd 16 σ3)
  dsimp only at p6 p7 r3 ⊢
  rw [e4] at p7 r4 ⊢
  dsimp only at p7 r4 ⊢
  obtain ⟨v4, rfl⟩ := Int.eq_ofNat_of_zero_le r4.1
  have q37 := ((q4.trans q5).trans q6).trans q7
  have n7 := q37.next
  have k7 : H7.get H.next = _ := (q37.same _ (by omega) (by omega)).trans k3
  have z7 : H7.get (H.next + 1) = _ := (q37.same _ (by omega) (by omega)).trans z3
  have s17 : Grow H H7 := Ko.grow s13 (by omega) q37
  have hw4 : IntKind.u16.wrap (v4 : Int) = (v4 : Nat) := wrapin_u16 (by omega) (by omega)
  simp (maxSteps := 1000000) (disch := first | omega | (simp only [RY] <;> omega) | decide) only [↓RD, RZ, eq_self, Int.reduceToNat, Int.reduceAdd, Int.reduceSub, Int.reduceMul, Nat.reduceAdd, Nat.reduceSub, Nat.reduceMul, Nat.reduceDiv, Nat.reduceMod, Nat.reduceBEq, Nat.reduceLeDiff, hvl, hw4]
  generalize hH8 : Heap.set (Heap.new H7 _) _ _ = H8
  have s8 : Grow H7 H8 := by rw [← hH8]; exact (Grow.new _ _).set (Nat.le_refl _) _
  have n8 : H8.next = H7.next + 1 := by rw [← hH8]; rfl
  have f8 : H8.get H7.next = some ⟨ty_depend_Frame, [.bool (decide (v1 = 1)), .bool (decide (v2 = 1)), .int .i64 v3, .int .u16 (v4 : Nat), .bool false, .int .i64 0, .int .i64 0, .nils, .int .i64 0, .nils, .nils, .bool false, .int .u32 0, .bool false, .bool false, .bool false, .nils, .nils, .nils], none⟩ := by rw [← hH8]; simp (maxSteps := 1000000) (disch := first | omega | (simp only [RY] <;> omega) | decide) only [↓RD, RZ, eq_self, Int.reduceToNat, Int.reduceAdd, Int.reduceSub, Int.reduceMul, Nat.reduceAdd, Nat.reduceSub, Nat.reduceMul, Nat.reduceDiv, Nat.reduceMod, Nat.reduceBEq, Nat.reduceLeDiff]
  clear hH8
  have S8 : PS ty_depend_Structure ty_depend_Frame (PR (H.next + 2) (H2.next + 1) H2.next) (H.next + 2) (H2.next + 1) H H7.next [.int .i64 k.off, .int .i64 k.tar, kp, .int .i64 k.cha, kq, kr] [.bool (decide (v1 = 1)), .bool (decide (v2 = 1)), .int .i64 v3, .int .u16 (v4 : Nat), .bool false, .int .i64 0, .int .i64 0, .nils, .int .i64 0, .nils, .nils, .bool false, .int .u32 0, .bool false, .bool false, .bool false, .nils, .nils, .nils] σ4 H8 :=
    ⟨p7.grow s8, s17.trans s8, (s8.same _ (by omega)).trans k7, (s8.same _ (by omega)).trans z7, f8, by omega⟩
  have hR := rlP (H.next + 2) (H2.next + 1) H2.next
  obtain ⟨f0, σh, eh⟩ := pr_ex (headS (decide (3 < l.length)) (.ok (ub l)))
  rw [parseB_aft eh]
  refine ok_mono (Q := fun r H' => r = .nrm [] ∧ PS ty_depend_Structure ty_depend_Frame (PR (H.next + 2) (H2.next + 1) H2.next) (H.next + 2) (H2.next + 1) H H7.next [.int .i64 k.off, .int .i64 k.tar, kp, .int .i64 k.cha, kq, kr] (hcells f0) σh H' ∧ (0 ≤ f0.id ∧ f0.id ≤ 63 ∧ f0.num < 65536 ∧ f0.s = Sr0 ∧ f0.act = 0 ∧ f0.dti = [] ∧ f0.dif = [] ∧ f0.cha = [])) ?_ ?_
  · unfold headS at eh
    rw [sb_eq e1, sb_eq e2, sb_eq e3, sb_eq e4] at eh
    by_cases hm : 3 < l.length
    · rw [decide_eq_true hm] at eh
      simp only [if_true] at eh
      simp (maxSteps := 1000000) (disch := first | omega | (simp only [RY] <;> omega) | decide) only [↓RD, RZ, eq_self, Int.reduceToNat, Int.reduceAdd, Int.reduceSub, Int.reduceMul, Nat.reduceAdd, Nat.reduceSub, Nat.reduceMul, Nat.reduceDiv, Nat.reduceMod, Nat.reduceBEq, Nat.reduceLeDiff, hvl]
      refine ok_bind' (rbit_ok S8.pr) ?_
      rintro _ Ha ⟨rfl, pa, qa⟩
      have Sa := S8.ko pa qa
      obtain ⟨w1, τ1, d1⟩ := pr_ex (rd 1 σ4)
      rw [d1] at pa Sa ⊢
      dsimp only at pa Sa ⊢
      refine ok_bind' (rbit_ok pa) ?_
      rintro _ Hb ⟨rfl, pb, qb⟩
      have Sb := Sa.ko pb qb
      obtain ⟨w2, τ2, d2⟩ := pr_ex (rd 1 τ1)
      rw [d2] at pb Sb ⊢
      dsimp only at pb Sb ⊢
      simp (maxSteps := 1000000) (disch := first | omega | (simp only [RY] <;> omega) | decide) only [↓RD, RZ, eq_self, Int.reduceToNat, Int.reduceAdd, Int.reduceSub, Int.reduceMul, Nat.reduceAdd, Nat.reduceSub, Nat.reduceMul, Nat.reduceDiv, Nat.reduceMod, Nat.reduceBEq, Nat.reduceLeDiff, Sb.gf]
      generalize hHc : Heap.set _ H7.next _ = Hc
      have Sc := (Sb.setf hR [.bool (decide (v1 = 1)), .bool (decide (v2 = 1)), .int .i64 v3, .int .u16 (v4 : Nat), .bool (decide (w1 = 1)), .int .i64 0, .int .i64 0, .nils, .int .i64 0, .nils, .nils, .bool false, .int .u32 0, .bool false, .bool false, .bool false, .nils, .nils, .nils]).setf hR [.bool (decide (v1 = 1)), .bool (decide (v2 = 1)), .int .i64 v3, .int .u16 (v4 : Nat), .bool (decide (w1 = 1)), .int .i64 0, .int .i64 0, .nils, .int .i64 0, .nils, .nils, .bool (decide (w2 = 1)), .int .u32 0, .bool false, .bool false, .bool false, .nils, .nils, .nils]
      rw [hHc] at Sc
      clear hHc
      refine ok_bind' (rbit_ok Sc.pr) ?_
      rintro _ Hd ⟨rfl, pd, qd⟩
      have Sd := Sc.ko pd qd
      obtain ⟨w3, τ3, d3⟩ := pr_ex (rd 1 τ2)
      rw [d3] at pd Sd ⊢
      dsimp only at pd Sd ⊢
      refine ok_bind' (rbit_ok pd) ?_
      rintro _ He ⟨rfl, pe, qe⟩
      have Se := Sd.ko pe qe
      obtain ⟨w4, τ4, d4⟩ := pr_ex (rd 1 τ3)
      rw [d4] at pe Se ⊢
      dsimp only at pe Se ⊢
      refine ok_bind' (rbit_ok pe) ?_
      rintro _ Hf ⟨rfl, pf, qf⟩
      have Sf := Se.ko pf qf
      obtain ⟨w5, τ5, d5⟩ := pr_ex (rd 1 τ4)
      rw [d5] at pf Sf ⊢
      dsimp only at pf Sf ⊢
      simp (maxSteps := 1000000) (disch := first | omega | (simp only [RY] <;> omega) | decide) only [↓RD, RZ, eq_self, Int.reduceToNat, Int.reduceAdd, Int.reduceSub, Int.reduceMul, Nat.reduceAdd, Nat.reduceSub, Nat.reduceMul, Nat.reduceDiv, Nat.reduceMod, Nat.reduceBEq, Nat.reduceLeDiff, Sf.gf]
      rw [sb_eq d1, sb_eq d2, sb_eq d3, sb_eq d4, sb_eq d5] at eh
      obtain ⟨rfl, rfl⟩ := Prod.mk.inj eh
      have Sg := ((Sf.setf hR [.bool (decide (v1 = 1)), .bool (decide (v2 = 1)), .int .i64 v3, .int .u16 (v4 : Nat), .bool (decide (w1 = 1)), .int .i64 0, .int .i64 0, .nils, .int .i64 0, .nils, .nils, .bool (decide (w2 = 1)), .int .u32 0, .bool (decide (w3 = 1)), .bool false, .bool false, .nils, .nils, .nils]).setf hR [.bool (decide (v1 = 1)), .bool (decide (v2 = 1)), .int .i64 v3, .int .u16 (v4 : Nat), .bool (decide (w1 = 1)), .int .i64 0, .int .i64 0, .nils, .int .i64 0, .nils, .nils, .bool (decide (w2 = 1)), .int .u32 0, .bool (decide (w3 = 1)), .bool (decide (w4 = 1)), .bool false, .nils, .nils, .nils]).setf hR [.bool (decide (v1 = 1)), .bool (decide (v2 = 1)), .int .i64 v3, .int .u16 (v4 : Nat), .bool (decide (w1 = 1)), .int .i64 0, .int .i64 0, .nils, .int .i64 0, .nils, .nils, .bool (decide (w2 = 1)), .int .u32 0, .bool (decide (w3 = 1)), .bool (decide (w4 = 1)), .bool (decide (w5 = 1)), .nils, .nils, .nils]
      exact ⟨Sg, r3.1, r3.2, by show v4 < 65536; omega, rfl, rfl, rfl, rfl, rfl⟩
    · rw [decide_eq_false hm] at eh
      simp only [Bool.false_eq_true, if_false] at eh
      obtain ⟨rfl, rfl⟩ := Prod.mk.inj eh
      simp (maxSteps := 1000000) (disch := first | omega | (simp only [RY] <;> omega) | decide) only [↓RD, RZ, eq_self, Int.reduceToNat, Int.reduceAdd, Int.reduceSub, Int.reduceMul, Nat.reduceAdd, Nat.reduceSub, Nat.reduceMul, Nat.reduceDiv, Nat.reduceMod, Nat.reduceBEq, Nat.reduceLeDiff, hvl]
      exact ⟨S8, r3.1, r3.2, by show v4 < 65536; omega, rfl, rfl, rfl, rfl, rfl⟩
  · rintro _ H9 ⟨rfl, S9, i0, i1, num0, fs0, fa0, fd0, fe0, fc0⟩
    obtain ⟨rk9, g9⟩ := S9.pr.get
    obtain ⟨c1, c2, c3⟩ := S9.pr.rng
    have b9 := S9.bs
    cases σh with
    | error c =>
      have hc : St.err (.error c) ≠ 0 := fun e => by obtain ⟨bs, hb⟩ := c3.1 e; cases hb
      have z9 := S9.g4
      unfold fcells at z9
      simp (maxSteps := 1000000) (disch := first | omega | (simp only [RY] <;> omega) | decide) only [↓RD, RZ, eq_self, Int.reduceToNat, Int.reduceAdd, Int.reduceSub, Int.reduceMul, Nat.reduceAdd, Nat.reduceSub, Nat.reduceMul, Nat.reduceDiv, Nat.reduceMod, Nat.reduceBEq, Nat.reduceLeDiff, g9, z9]
      exact ⟨PRes.err hc rfl, S9.gr.set (by omega) _⟩
    | ok bs =>
      have hc : St.err (.ok bs) = 0 := rfl
      rw [hc] at g9
      have T9 : PT ty_depend_Structure ty_depend_Frame (PR (H.next + 2) (H2.next + 1) H2.next) (H.next + 2, H2.next + 1) H H7.next [.int .i64 k.off, .int .i64 k.tar, kp, .int .i64 k.cha, kq, kr] [] f0 .nils .nils .nils .nils .nils .nils (.ok bs) H9 :=
        ⟨S9, by refine ⟨by rw [fs0]; exact SrC.zero, by rw [fd0]; exact Lc.nil, by rw [fe0]; exact Lc.nil, by rw [fc0]; exact Lc.nil⟩, fun k hk => by cases hk⟩
      have f9 := S9.gf
      unfold hcells fcells at f9
      simp (maxSteps := 1000000) (disch := first | omega | (simp only [RY] <;> omega) | decide) only [↓RD, RZ, eq_self, Int.reduceToNat, Int.reduceAdd, Int.reduceSub, Int.reduceMul, Nat.reduceAdd, Nat.reduceSub, Nat.reduceMul, Nat.reduceDiv, Nat.reduceMod, Nat.reduceBEq, Nat.reduceLeDiff, g9, f9]
      -- the structure that is told, or the one that was known
      refine ok_mono (Q := fun r H' => (r = .nrm [] ∧ ∃ f1 a b c σ', PT ty_depend_Structure ty_depend_Frame (PR (H.next + 2) (H2.next + 1) H2.next) (H.next + 2, H2.next + 1) H H7.next [.int .i64 k.off, .int .i64 k.tar, kp, .int .i64 k.cha, kq, kr] [] f1 a b c .nils .nils .nils σ' H' ∧ f1.act = 0 ∧
          bodyP f0 k (.ok bs) = cut (tailS f1 (hold f1 k) (tmPl (hold f1 k) f1.id) (ogP 17 []) σ') ∧ SrO (hold f1 k) ∧ (0 ≤ (hold f1 k).off ∧ (hold f1 k).off ≤ 63) ∧ (1 ≤ (hold f1 k).tar ∧ (hold f1 k).tar ≤ 32) ∧ (0 ≤ (hold f1 k).cha ∧ (hold f1 k).cha ≤ 32)) ∨
          ∃ L, r = .ret L ∧ PRes H.next (bodyP f0 k (.ok bs)) (tupled L) H' ∧ Grow H H') ?_ ?_
      · cases hn : f0.new with
        | true =>
          simp (maxSteps := 1000000) (disch := first | omega | (simp only [RY] <;> omega) | decide) only [↓RD, RZ, eq_self, Int.reduceToNat, Int.reduceAdd, Int.reduceSub, Int.reduceMul, Nat.reduceAdd, Nat.reduceSub, Nat.reduceMul, Nat.reduceDiv, Nat.reduceMod, Nat.reduceBEq, Nat.reduceLeDiff]
          refine ok_bind' (rstructure_ok S9.pr) ?_
          rintro _ Ha ⟨⟨x, y, z, rfl, hs⟩, so, sa, sb', sc', sd, pa, qa⟩
          have Ta := T9.ko pa qa
          have na := qa.next
          have fa' := Ta.s.gf
          have cx := hs.ts.cel
          have cy := hs.pro.cel
          have cz := hs.siz.cel
          unfold fcells at fa'
          unfold scells
          rw [hn] at fa'
          simp (maxSteps := 1000000) (disch := first | omega | (simp only [RY] <;> omega) | decide) only [↓RD, RZ, eq_self, Int.reduceToNat, Int.reduceAdd, Int.reduceSub, Int.reduceMul, Nat.reduceAdd, Nat.reduceSub, Nat.reduceMul, Nat.reduceDiv, Nat.reduceMod, Nat.reduceBEq, Nat.reduceLeDiff, fa', cx.1, cx.2, cy.1, cy.2, cz.1, cz.2]
          have hb : bodyP f0 k (.ok bs) = cut (tailS { f0 with s := (strS wayP (.ok bs)).1 } (strS wayP (.ok bs)).1 (tmPl (strS wayP (.ok bs)).1 f0.id) (ogP 17 []) (strS wayP (.ok bs)).2) := by
            unfold bodyP; rw [if_pos hn]
          generalize strS wayP (.ok bs) = X at *
          obtain ⟨s, σ'⟩ := X
          have hh : hold { f0 with s := s } k = s := by unfold hold; rw [if_pos hn]
          refine .inl ⟨{ f0 with s := s }, x, y, z, σ', ?_, fa0, ?_, ?_⟩
          · have := Ta.set hR (f' := { f0 with s := s }) (a' := x) (b' := y) (c' := z) ⟨hs.low (by omega), Ta.f.dti, Ta.f.dif, Ta.f.cha⟩
            have e : fcells { f0 with s := s } x y z .nils .nils .nils = [.bool f0.st, .bool f0.en, .int .i64 f0.id, .int .u16 f0.num, .bool true, .int .i64 s.off, .int .i64 s.tar, x, .int .i64 s.cha, y, z, .bool f0.has, .int .u32 f0.act, .bool f0.od, .bool f0.of', .bool f0.oc, .nils, .nils, .nils] := by
              unfold fcells; dsimp only; rw [hn]
            rw [e] at this
            exact this
          · rw [hh]; exact hb
          · rw [hh]; exact ⟨so, ⟨sa, sb'⟩, sc', sd⟩
        | false =>
          have k9 := S9.g3
          simp (maxSteps := 1000000) (disch := first | omega | (simp only [RY] <;> omega) | decide) only [↓RD, RZ, eq_self, Int.reduceToNat, Int.reduceAdd, Int.reduceSub, Int.reduceMul, Nat.reduceAdd, Nat.reduceSub, Nat.reduceMul, Nat.reduceDiv, Nat.reduceMod, Nat.reduceBEq, Nat.reduceLeDiff, k9]
          refine ok_bind' (Fine_ok (hk.ext S9.gr).val ko) ?_
          rintro _ Ha ⟨rfl, sa⟩
          have Ta := T9.grow hR sa
          cases hfi : fine k with
          | false =>
            have za := Ta.s.g4
            unfold fcells at za
            simp (maxSteps := 1000000) (disch := first | omega | (simp only [RY] <;> omega) | decide) only [↓RD, RZ, eq_self, Int.reduceToNat, Int.reduceAdd, Int.reduceSub, Int.reduceMul, Nat.reduceAdd, Nat.reduceSub, Nat.reduceMul, Nat.reduceDiv, Nat.reduceMod, Nat.reduceBEq, Nat.reduceLeDiff, za]
            exact .inr ⟨PRes.err (by decide) (by unfold bodyP; rw [if_neg (by rw [hn]; decide), if_neg (by rw [hfi]; decide)]), Ta.s.gr.set (by omega) _⟩
          | true =>
            simp (maxSteps := 1000000) (disch := first | omega | (simp only [RY] <;> omega) | decide) only [↓RD, RZ, eq_self, Int.reduceToNat, Int.reduceAdd, Int.reduceSub, Int.reduceMul, Nat.reduceAdd, Nat.reduceSub, Nat.reduceMul, Nat.reduceDiv, Nat.reduceMod, Nat.reduceBEq, Nat.reduceLeDiff]
            have hh : hold f0 k = k := by unfold hold; rw [if_neg (by rw [hn]; decide)]
            have hF := fine_iff.1 hfi
            refine .inl ⟨f0, _, _, _, _, Ta, fa0, ?_, ?_⟩
            · rw [hh]; unfold bodyP; rw [if_neg (by rw [hn]; decide), if_pos hfi]
            · rw [hh]; have := hF.off; have := hF.tar; have := hF.cha; exact ⟨ko, by omega, by omega, by omega⟩
      · rintro r Ha (⟨rfl, f1, a, b, c, σ', T, hact, hb, so, ho, ht, hc'⟩ | ⟨L, rfl, h1, h2⟩)
        rotate_left
        · simp (maxSteps := 1000000) (disch := first | omega | (simp only [RY] <;> omega) | decide) only [↓RD, RZ, eq_self, Int.reduceToNat, Int.reduceAdd, Int.reduceSub, Int.reduceMul, Nat.reduceAdd, Nat.reduceSub, Nat.reduceMul, Nat.reduceDiv, Nat.reduceMod, Nat.reduceBEq, Nat.reduceLeDiff]
          exact ⟨h1, h2⟩
        have eF : aftH bodyP f0 k (.ok bs) = cut (tailS f1 (hold f1 k) (tmPl (hold f1 k) f1.id) (ogP 17 []) σ') := hb
        rw [eF]
        clear eF hb S9 T9 g9 c1 c2 c3 f9
        have ba := T.s.bs
        have fa := T.s.gf
        have ka := T.s.g3
        unfold fcells at fa
        simp (maxSteps := 1000000) (disch := first | omega | (simp only [RY] <;> omega) | decide) only [↓RD, RZ, eq_self, Int.reduceToNat, Int.reduceAdd, Int.reduceSub, Int.reduceMul, Nat.reduceAdd, Nat.reduceSub, Nat.reduceMul, Nat.reduceDiv, Nat.reduceMod, Nat.reduceBEq, Nat.reduceLeDiff, fa, ka]
        refine ok_bind' (hold_ok (f := f1) (k := k) (T.f.low (Nat.zero_le _)) (hk.ext T.s.gr)) ?_
        rintro _ Hb ⟨⟨x, y, z, rfl, hoc⟩, gb⟩
        have hh := (hoc.src (T.f.low (Nat.zero_le _)) (hk.ext T.s.gr)).ext gb
        generalize hsk : hold f1 k = s at *
        have cx := hh.ts.cel
        have cy := hh.pro.cel
        have cz := hh.siz.cel
        unfold scells
        have Tb := T.grow hR gb
        have nb := gb.next
        have fb := Tb.s.gf
        unfold fcells at fb
        simp (maxSteps := 1000000) (disch := first | omega | (simp only [RY] <;> omega) | decide) only [↓RD, RZ, eq_self, Int.reduceToNat, Int.reduceAdd, Int.reduceSub, Int.reduceMul, Nat.reduceAdd, Nat.reduceSub, Nat.reduceMul, Nat.reduceDiv, Nat.reduceMod, Nat.reduceBEq, Nat.reduceLeDiff, cx.1, cx.2, cy.1, cy.2, cz.1, cz.2, fb]
        generalize hHc : Heap.set (Heap.new Hb _) _ _ = Hc
        rw [okB_def]
        simp only [bind_join]
        rw [ok_join_iff]
        have sc : Grow Hb Hc := by rw [← hHc]; exact (Grow.new _ _).set (Nat.le_refl _) _
        have nc : Hc.next = Hb.next + 1 := by rw [← hHc]; rfl
        have g8 : Hc.get Hb.next = some ⟨ty_depend_Structure, [.int .i64 s.off, .int .i64 s.tar, x, .int .i64 s.cha, y, z], none⟩ := by rw [← hHc]; simp (maxSteps := 1000000) (disch := first | omega | (simp only [RY] <;> omega) | decide) only [↓RD, RZ, eq_self, Int.reduceToNat, Int.reduceAdd, Int.reduceSub, Int.reduceMul, Nat.reduceAdd, Nat.reduceSub, Nat.reduceMul, Nat.reduceDiv, Nat.reduceMod, Nat.reduceBEq, Nat.reduceLeDiff]
        clear hHc
        have Tc := (Tb.grow hR sc).add (id := Hb.next) (by omega) (by omega) g8
        replace hh := hh.ext sc
        have fc := Tc.s.gf
        unfold fcells at fc
        obtain ⟨rkc, gc⟩ := Tc.s.pr.get
        obtain ⟨act, σ2, ea⟩ := pr_ex ((if f1.has = true then rd s.tar.toNat else sp 0) σ')
        obtain ⟨f2, hf2⟩ : ∃ f2 : Fr, f2 = { f1 with act := act.toNat } := ⟨_, rfl⟩
        obtain ⟨tn, htn⟩ := Int.eq_ofNat_of_zero_le (show 0 ≤ s.tar by omega)
        obtain ⟨cn, hcn⟩ := Int.eq_ofNat_of_zero_le (show 0 ≤ s.cha by omega)
        have bcc := Tc.s.bs
        refine ok_mono (Q := fun r H' => r = .nrm [] ∧ PT ty_depend_Structure ty_depend_Frame (PR (H.next + 2) (H2.next + 1) H2.next) (H.next + 2, H2.next + 1) H H7.next [.int .i64 k.off, .int .i64 k.tar, kp, .int .i64 k.cha, kq, kr] [(Hb.next, ⟨ty_depend_Structure, [.int .i64 s.off, .int .i64 s.tar, x, .int .i64 s.cha, y, z], none⟩)] f2 a b c .nils .nils .nils σ2 H') ?_ ?_
        · rcases Bool.eq_false_or_eq_true f1.has with hhas | hhas
          · rw [if_pos hhas] at ea
            cases σ' with
            | error c =>
              obtain ⟨-, -, c3⟩ := Tc.s.pr.rng
              have hc : St.err (.error c) ≠ 0 := fun e => by obtain ⟨bs, hb⟩ := c3.1 e; cases hb
              cases ea
              simp (maxSteps := 1000000) (disch := first | omega | (simp only [RY] <;> omega) | decide) only [↓RD, RZ, eq_self, Int.reduceToNat, Int.reduceAdd, Int.reduceSub, Int.reduceMul, Nat.reduceAdd, Nat.reduceSub, Nat.reduceMul, Nat.reduceDiv, Nat.reduceMod, Nat.reduceBEq, Nat.reduceLeDiff, fc, hhas, gc]
              rw [hf2, act0 hact]
              exact Tc
            | ok bs' =>
              have hc : St.err (.ok bs') = 0 := rfl
              rw [hc] at gc
              simp (maxSteps := 1000000) (disch := first | omega | (simp only [RY] <;> omega) | decide) only [↓RD, RZ, eq_self, Int.reduceToNat, Int.reduceAdd, Int.reduceSub, Int.reduceMul, Nat.reduceAdd, Nat.reduceSub, Nat.reduceMul, Nat.reduceDiv, Nat.reduceMod, Nat.reduceBEq, Nat.reduceLeDiff, fc, hhas, gc, g8, htn]
              rw [htn, Int.toNat_natCast] at ea
              refine ok_bind' (rnum_ok Tc.s.pr tn (by omega)) ?_
              rintro _ Hd ⟨rfl, pd, qd⟩
              have Td := Tc.ko pd qd
              have fd := Td.s.gf
              unfold fcells at fd
              obtain ⟨q, q1, q2⟩ := rd_nat tn (.ok bs')
              have q3 : 2 ^ tn ≤ 2 ^ 32 := Nat.pow_le_pow_right (by decide) (by omega)
              rw [ea] at q1 Td ⊢
              dsimp only at q1 Td
              subst q1
              have hw : IntKind.u32.wrap (q : Int) = (q : Nat) := wrapin_u32 (by omega) (by omega)
              simp (maxSteps := 1000000) (disch := first | omega | (simp only [RY] <;> omega) | decide) only [↓RD, RZ, eq_self, Int.reduceToNat, Int.reduceAdd, Int.reduceSub, Int.reduceMul, Nat.reduceAdd, Nat.reduceSub, Nat.reduceMul, Nat.reduceDiv, Nat.reduceMod, Nat.reduceBEq, Nat.reduceLeDiff, fd, hw]
              have := Td.set hR (f' := { f1 with act := (q : Int).toNat }) ⟨Td.f.s, Td.f.dti, Td.f.dif, Td.f.cha⟩
              rw [← hf2] at this
              unfold fcells at this
              rw [hf2] at this ⊢
              dsimp only at this
              rw [Int.toNat_natCast] at this ⊢
              exact this
          · rw [if_neg (by rw [hhas]; decide)] at ea
            cases ea
            simp (maxSteps := 1000000) (disch := first | omega | (simp only [RY] <;> omega) | decide) only [↓RD, RZ, eq_self, Int.reduceToNat, Int.reduceAdd, Int.reduceSub, Int.reduceMul, Nat.reduceAdd, Nat.reduceSub, Nat.reduceMul, Nat.reduceDiv, Nat.reduceMod, Nat.reduceBEq, Nat.reduceLeDiff, fc, hhas]
            rw [hf2, act0 hact]
            exact Tc
        · rintro _ Hd ⟨rfl, Td⟩
          have hs : SrC 0 Hd s x y z := by
            have h1 := Td.f
            rw [hf2] at h1
            have := hoc.src (H := Hd) (f := f1) (k := k) ⟨h1.s.low (Nat.zero_le _), h1.dti.low (Nat.zero_le _), h1.dif.low (Nat.zero_le _), h1.cha.low (Nat.zero_le _)⟩ (hk.ext Td.s.gr)
            rwa [hsk] at this
          have g8d := Td.get
          have fd := Td.s.gf
          unfold fcells at fd
          simp (maxSteps := 1000000) (disch := first | omega | (simp only [RY] <;> omega) | decide) only [↓RD, RZ, eq_self, Int.reduceToNat, Int.reduceAdd, Int.reduceSub, Int.reduceMul, Nat.reduceAdd, Nat.reduceSub, Nat.reduceMul, Nat.reduceDiv, Nat.reduceMod, Nat.reduceBEq, Nat.reduceLeDiff, g8d.1, fd]
          refine ok_bind' (template_ok (lo := 0) hs.val so ho f2.id) ?_
          rintro _ He ⟨hq, se⟩
          obtain ⟨u1, u2, u3, rfl, wt⟩ := hq.get
          have eid : f2.id = f1.id := by rw [hf2]
          rw [eid] at wt ⊢
          generalize htm : tmPl s f1.id = tm at *
          have ne := se.next
          have Te := Td.grow hR se
          have bd := Td.s.bs
          simp (maxSteps := 1000000) (disch := first | omega | (simp only [RY] <;> omega) | decide) only [↓RD, RZ, eq_self, Int.reduceToNat, Int.reduceAdd, Int.reduceSub, Int.reduceMul, Nat.reduceAdd, Nat.reduceSub, Nat.reduceMul, Nat.reduceDiv, Nat.reduceMod, Nat.reduceBEq, Nat.reduceLeDiff, wt.dti.cells1, wt.dti.okc, wt.dif.cells1, wt.dif.okc, wt.cha.cells1, wt.cha.okc]
          generalize hHf : Heap.set (Heap.new He _) _ _ = Hf
          have sf : Grow He Hf := by rw [← hHf]; exact (Grow.new _ _).set (Nat.le_refl _) _
          have nf : Hf.next = He.next + 1 := by rw [← hHf]; rfl
          have g9 : Hf.get He.next = some ⟨ty_depend_Template, [.int .i64 (tm.getD Tm0).sp, .int .i64 (tm.getD Tm0).te, u1, u2, u3], none⟩ := by rw [← hHf]; simp (maxSteps := 1000000) (disch := first | omega | (simp only [RY] <;> omega) | decide) only [↓RD, RZ, eq_self, Int.reduceToNat, Int.reduceAdd, Int.reduceSub, Int.reduceMul, Nat.reduceAdd, Nat.reduceSub, Nat.reduceMul, Nat.reduceDiv, Nat.reduceMod, Nat.reduceBEq, Nat.reduceLeDiff]
          clear hHf
          have Tf := (Te.grow hR sf).add (id := He.next) (by omega) (by omega) g9
          replace wt := wt.ext sf
          obtain ⟨t, σ3, et⟩ := pr_ex (tmS tm σ2)
          have ett : t = tm.getD Tm0 := by
            have := congrArg Prod.fst et
            cases tm <;> exact this.symm
          rw [← ett] at Tf wt
          refine ok_mono (Q := fun r H' => r = .nrm [] ∧ PT ty_depend_Structure ty_depend_Frame (PR (H.next + 2) (H2.next + 1) H2.next) (H.next + 2, H2.next + 1) H H7.next [.int .i64 k.off, .int .i64 k.tar, kp, .int .i64 k.cha, kq, kr] [(He.next, ⟨ty_depend_Template, [.int .i64 t.sp, .int .i64 t.te, u1, u2, u3], none⟩), (Hb.next, ⟨ty_depend_Structure, [.int .i64 s.off, .int .i64 s.tar, x, .int .i64 s.cha, y, z], none⟩)] f2 a b c .nils .nils .nils σ3 H' ∧ TmR (H7.next + 1) H' t u1 u2 u3) ?_ ?_
          · cases tm with
            | none =>
              simp (maxSteps := 1000000) (disch := first | omega | (simp only [RY] <;> omega) | decide) only [↓RD, RZ, eq_self, Int.reduceToNat, Int.reduceAdd, Int.reduceSub, Int.reduceMul, Nat.reduceAdd, Nat.reduceSub, Nat.reduceMul, Nat.reduceDiv, Nat.reduceMod, Nat.reduceBEq, Nat.reduceLeDiff, Option.isSome_none]
              refine ok_bind' (fail_ok Tf.s.pr 2 (by decide)) ?_
              rintro _ Hg ⟨pg, qg⟩
              have e3 : σ3 = (fail 2 σ2).2 := (congrArg Prod.snd et).symm
              rw [← e3] at pg
              simp (maxSteps := 1000000) (disch := first | omega | (simp only [RY] <;> omega) | decide) only [↓RD, RZ, eq_self, Int.reduceToNat, Int.reduceAdd, Int.reduceSub, Int.reduceMul, Nat.reduceAdd, Nat.reduceSub, Nat.reduceMul, Nat.reduceDiv, Nat.reduceMod, Nat.reduceBEq, Nat.reduceLeDiff]
              exact ⟨Tf.ko pg qg, (wt.keep (qg.keep (by omega))).low (by omega)⟩
            | some t' =>
              have e3 : σ3 = σ2 := (congrArg Prod.snd et).symm
              simp (maxSteps := 1000000) (disch := first | omega | (simp only [RY] <;> omega) | decide) only [↓RD, RZ, eq_self, Int.reduceToNat, Int.reduceAdd, Int.reduceSub, Int.reduceMul, Nat.reduceAdd, Nat.reduceSub, Nat.reduceMul, Nat.reduceDiv, Nat.reduceMod, Nat.reduceBEq, Nat.reduceLeDiff, Option.isSome_some]
              rw [e3]
              exact ⟨Tf, wt.low (by omega)⟩
          · rintro _ Hg ⟨rfl, Tg, wg⟩
            have g9 := Tg.get
            have fg := Tg.s.gf
            unfold fcells at fg
            have c1 := wg.dti.cel
            have c2 := wg.dif.cel
            have c3 := wg.cha.cel
            simp (maxSteps := 1000000) (disch := first | omega | (simp only [RY] <;> omega) | decide) only [↓RD, RZ, eq_self, Int.reduceToNat, Int.reduceAdd, Int.reduceSub, Int.reduceMul, Nat.reduceAdd, Nat.reduceSub, Nat.reduceMul, Nat.reduceDiv, Nat.reduceMod, Nat.reduceBEq, Nat.reduceLeDiff, g9.1, fg, c1.1, c1.2, c2.1, c2.2, c3.1, c3.2, heap_set_set]
            generalize hHh : Heap.set Hg _ _ = Hh
            have Th : PT ty_depend_Structure ty_depend_Frame (PR (H.next + 2) (H2.next + 1) H2.next) (H.next + 2, H2.next + 1) H H7.next [.int .i64 k.off, .int .i64 k.tar, kp, .int .i64 k.cha, kq, kr] [(He.next, ⟨ty_depend_Template, [.int .i64 t.sp, .int .i64 t.te, u1, u2, u3], none⟩), (Hb.next, ⟨ty_depend_Structure, [.int .i64 s.off, .int .i64 s.tar, x, .int .i64 s.cha, y, z], none⟩)] { f2 with dti := t.dti, dif := t.dif, cha := t.cha } a b c u1 u2 u3 σ3 Hh := by
              rw [← hHh]
              exact Tg.set hR (f' := { f2 with dti := t.dti, dif := t.dif, cha := t.cha }) ⟨Tg.f.s, wg.dti, wg.dif, wg.cha⟩
            clear hHh
            have eod : f2.od = f1.od := by rw [hf2]
            have eof : f2.of' = f1.of' := by rw [hf2]
            have eoc : f2.oc = f1.oc := by rw [hf2]
            -- decode targets of its own
            obtain ⟨ld, σ4, ed⟩ := pr_ex ((if f1.od = true then nums s.tar.toNat 2 else sp t.dti) σ3)
            refine ok_mono (Q := fun r H' => r = .nrm [] ∧ ∃ d, PT ty_depend_Structure ty_depend_Frame (PR (H.next + 2) (H2.next + 1) H2.next) (H.next + 2, H2.next + 1) H H7.next [.int .i64 k.off, .int .i64 k.tar, kp, .int .i64 k.cha, kq, kr] [(He.next, ⟨ty_depend_Template, [.int .i64 t.sp, .int .i64 t.te, u1, u2, u3], none⟩), (Hb.next, ⟨ty_depend_Structure, [.int .i64 s.off, .int .i64 s.tar, x, .int .i64 s.cha, y, z], none⟩)] { f2 with dti := ld, dif := t.dif, cha := t.cha } a b c d u2 u3 σ4 H') ?_ ?_
            · refine ok_ite (fun hd => ?_) fun hd => ?_
              · rw [if_pos (eod ▸ hd), htn, Int.toNat_natCast] at ed
                have g8 := Th.drop.get
                simp (maxSteps := 1000000) (disch := first | omega | (simp only [RY] <;> omega) | decide) only [↓RD, RZ, eq_self, Int.reduceToNat, Int.reduceAdd, Int.reduceSub, Int.reduceMul, Nat.reduceAdd, Nat.reduceSub, Nat.reduceMul, Nat.reduceDiv, Nat.reduceMod, Nat.reduceBEq, Nat.reduceLeDiff, g8.1, htn]
                refine ok_bind' (rnums_ok Th.s.pr tn 2 (by omega) (by decide)) ?_
                rintro d Hi ⟨hl', pi, qi⟩
                have bh := Th.s.bs
                rw [ed] at hl' pi
                dsimp only at hl' pi
                have Ti := Th.ko pi qi
                have fi := Ti.s.gf
                unfold fcells at fi
                simp (maxSteps := 1000000) (disch := first | omega | (simp only [RY] <;> omega) | decide) only [↓RD, RZ, eq_self, Int.reduceToNat, Int.reduceAdd, Int.reduceSub, Int.reduceMul, Nat.reduceAdd, Nat.reduceSub, Nat.reduceMul, Nat.reduceDiv, Nat.reduceMod, Nat.reduceBEq, Nat.reduceLeDiff, fi, hl'.cells1, hl'.okc]
                rw [htn] at Ti
                exact ⟨d, Ti.set hR (f' := { f2 with dti := ld, dif := t.dif, cha := t.cha }) ⟨Ti.f.s, hl'.low (by omega), Ti.f.dif, Ti.f.cha⟩⟩
              · rw [if_neg (by rw [← eod, hd]; decide)] at ed
                cases ed
                simp (maxSteps := 1000000) (disch := first | omega | (simp only [RY] <;> omega) | decide) only [↓RD, RZ, eq_self, Int.reduceToNat, Int.reduceAdd, Int.reduceSub, Int.reduceMul, Nat.reduceAdd, Nat.reduceSub, Nat.reduceMul, Nat.reduceDiv, Nat.reduceMod, Nat.reduceBEq, Nat.reduceLeDiff]
                exact ⟨u1, Th⟩
            · rintro _ Hi ⟨rfl, d, Ti⟩
              have fi := Ti.s.gf
              unfold fcells at fi
              simp (maxSteps := 1000000) (disch := first | omega | (simp only [RY] <;> omega) | decide) only [↓RD, RZ, eq_self, Int.reduceToNat, Int.reduceAdd, Int.reduceSub, Int.reduceMul, Nat.reduceAdd, Nat.reduceSub, Nat.reduceMul, Nat.reduceDiv, Nat.reduceMod, Nat.reduceBEq, Nat.reduceLeDiff, fi]
              obtain ⟨le, σ5, ee⟩ := pr_ex ((if f1.of' = true then ogP 17 [] else sp t.dif) σ4)
              refine ok_mono (Q := fun r H' => r = .nrm [] ∧ ∃ e, PT ty_depend_Structure ty_depend_Frame (PR (H.next + 2) (H2.next + 1) H2.next) (H.next + 2, H2.next + 1) H H7.next [.int .i64 k.off, .int .i64 k.tar, kp, .int .i64 k.cha, kq, kr] [(He.next, ⟨ty_depend_Template, [.int .i64 t.sp, .int .i64 t.te, u1, u2, u3], none⟩), (Hb.next, ⟨ty_depend_Structure, [.int .i64 s.off, .int .i64 s.tar, x, .int .i64 s.cha, y, z], none⟩)] { f2 with dti := ld, dif := le, cha := t.cha } a b c d e u3 σ5 H') ?_ ?_
              · refine ok_ite (fun hd => ?_) fun hd => ?_
                · rw [if_pos (eof ▸ hd)] at ee
                  refine ok_bind' (rown_ok Ti.s.pr) ?_
                  rintro e Hj ⟨hl', pj, qj⟩
                  have bh := Ti.s.bs
                  rw [ee] at hl' pj
                  dsimp only at hl' pj
                  have Tj := Ti.ko pj qj
                  have fj := Tj.s.gf
                  unfold fcells at fj
                  simp (maxSteps := 1000000) (disch := first | omega | (simp only [RY] <;> omega) | decide) only [↓RD, RZ, eq_self, Int.reduceToNat, Int.reduceAdd, Int.reduceSub, Int.reduceMul, Nat.reduceAdd, Nat.reduceSub, Nat.reduceMul, Nat.reduceDiv, Nat.reduceMod, Nat.reduceBEq, Nat.reduceLeDiff, fj, hl'.cells1, hl'.okc]
                  exact ⟨e, Tj.set hR (f' := { f2 with dti := ld, dif := le, cha := t.cha }) ⟨Tj.f.s, Tj.f.dti, hl'.low (by omega), Tj.f.cha⟩⟩
                · rw [if_neg (by rw [← eof, hd]; decide)] at ee
                  cases ee
                  simp (maxSteps := 1000000) (disch := first | omega | (simp only [RY] <;> omega) | decide) only [↓RD, RZ, eq_self, Int.reduceToNat, Int.reduceAdd, Int.reduceSub, Int.reduceMul, Nat.reduceAdd, Nat.reduceSub, Nat.reduceMul, Nat.reduceDiv, Nat.reduceMod, Nat.reduceBEq, Nat.reduceLeDiff]
                  exact ⟨u2, Ti⟩
              · rintro _ Hj ⟨rfl, e, Tj⟩
                have fj := Tj.s.gf
                unfold fcells at fj
                simp (maxSteps := 1000000) (disch := first | omega | (simp only [RY] <;> omega) | decide) only [↓RD, RZ, eq_self, Int.reduceToNat, Int.reduceAdd, Int.reduceSub, Int.reduceMul, Nat.reduceAdd, Nat.reduceSub, Nat.reduceMul, Nat.reduceDiv, Nat.reduceMod, Nat.reduceBEq, Nat.reduceLeDiff, fj]
                obtain ⟨lc, σ6, ec⟩ := pr_ex ((if f1.oc = true then nums s.cha.toNat 8 else sp t.cha) σ5)
                refine ok_mono (Q := fun r H' => r = .nrm [] ∧ ∃ g, PT ty_depend_Structure ty_depend_Frame (PR (H.next + 2) (H2.next + 1) H2.next) (H.next + 2, H2.next + 1) H H7.next [.int .i64 k.off, .int .i64 k.tar, kp, .int .i64 k.cha, kq, kr] [(He.next, ⟨ty_depend_Template, [.int .i64 t.sp, .int .i64 t.te, u1, u2, u3], none⟩), (Hb.next, ⟨ty_depend_Structure, [.int .i64 s.off, .int .i64 s.tar, x, .int .i64 s.cha, y, z], none⟩)] { f2 with dti := ld, dif := le, cha := lc } a b c d e g σ6 H') ?_ ?_
                · refine ok_ite (fun hd => ?_) fun hd => ?_
                  · rw [if_pos (eoc ▸ hd), hcn, Int.toNat_natCast] at ec
                    have g8 := Tj.drop.get
                    simp (maxSteps := 1000000) (disch := first | omega | (simp only [RY] <;> omega) | decide) only [↓RD, RZ, eq_self, Int.reduceToNat, Int.reduceAdd, Int.reduceSub, Int.reduceMul, Nat.reduceAdd, Nat.reduceSub, Nat.reduceMul, Nat.reduceDiv, Nat.reduceMod, Nat.reduceBEq, Nat.reduceLeDiff, g8.1, hcn]
                    refine ok_bind' (rnums_ok Tj.s.pr cn 8 (by omega) (by decide)) ?_
                    rintro g Hk ⟨hl', pk, qk⟩
                    have bh := Tj.s.bs
                    rw [ec] at hl' pk
                    dsimp only at hl' pk
                    have Tk := Tj.ko pk qk
                    have fk := Tk.s.gf
                    unfold fcells at fk
                    simp (maxSteps := 1000000) (disch := first | omega | (simp only [RY] <;> omega) | decide) only [↓RD, RZ, eq_self, Int.reduceToNat, Int.reduceAdd, Int.reduceSub, Int.reduceMul, Nat.reduceAdd, Nat.reduceSub, Nat.reduceMul, Nat.reduceDiv, Nat.reduceMod, Nat.reduceBEq, Nat.reduceLeDiff, fk, hl'.cells1, hl'.okc]
                    rw [hcn] at Tk
                    exact ⟨g, Tk.set hR (f' := { f2 with dti := ld, dif := le, cha := lc }) ⟨Tk.f.s, Tk.f.dti, Tk.f.dif, hl'.low (by omega)⟩⟩
                  · rw [if_neg (by rw [← eoc, hd]; decide)] at ec
                    cases ec
                    simp (maxSteps := 1000000) (disch := first | omega | (simp only [RY] <;> omega) | decide) only [↓RD, RZ, eq_self, Int.reduceToNat, Int.reduceAdd, Int.reduceSub, Int.reduceMul, Nat.reduceAdd, Nat.reduceSub, Nat.reduceMul, Nat.reduceDiv, Nat.reduceMod, Nat.reduceBEq, Nat.reduceLeDiff]
                    exact ⟨u3, Tj⟩
                · rintro _ Hk ⟨rfl, g, Tk⟩
                  simp (maxSteps := 1000000) (disch := first | omega | (simp only [RY] <;> omega) | decide) only [↓RD, RZ, eq_self, Int.reduceToNat, Int.reduceAdd, Int.reduceSub, Int.reduceMul, Nat.reduceAdd, Nat.reduceSub, Nat.reduceMul, Nat.reduceDiv, Nat.reduceMod, Nat.reduceBEq, Nat.reduceLeDiff]
                  refine rzeros_ok Tk.s _ fun Hl Sl kl => ?_
                  obtain ⟨uu, σ7, ez⟩ := pr_ex (zeros σ6)
                  have eT : tailS f1 s tm (ogP 17 []) σ' = ({ f2 with dti := ld, dif := le, cha := lc }, σ7) := by
                    rw [tailS_eq, sb_eq ea, sb_eq et, sb_eq ed, sb_eq ee, sb_eq ec, sb_eq ez, hf2]
                    rfl
                  rw [eT]
                  have e7 : (zeros σ6).2 = σ7 := congrArg Prod.snd ez
                  rw [e7] at Sl
                  have Tl := Tk.ko Sl.pr kl
                  obtain ⟨rkl, gl⟩ := Tl.s.pr.get
                  obtain ⟨c1', c2', c3'⟩ := Tl.s.pr.rng
                  have fl := Tl.s.gf
                  have zl := Tl.s.g4
                  have bl := Tl.s.bs
                  unfold fcells at fl zl
                  cases σ7 with
                  | error c =>
                    have hc : St.err (.error c) ≠ 0 := fun e => by obtain ⟨bs, hb⟩ := c3'.1 e; cases hb
                    simp (maxSteps := 1000000) (disch := first | omega | (simp only [RY] <;> omega) | decide) only [↓RD, RZ, eq_self, Int.reduceToNat, Int.reduceAdd, Int.reduceSub, Int.reduceMul, Nat.reduceAdd, Nat.reduceSub, Nat.reduceMul, Nat.reduceDiv, Nat.reduceMod, Nat.reduceBEq, Nat.reduceLeDiff, gl, zl]
                    exact ⟨PRes.err hc rfl, Tl.s.gr.set (by omega) _⟩
                  | ok bs' =>
                    have hc : St.err (.ok bs') = 0 := rfl
                    rw [hc] at gl
                    simp (maxSteps := 1000000) (disch := first | omega | (simp only [RY] <;> omega) | decide) only [↓RD, RZ, eq_self, Int.reduceToNat, Int.reduceAdd, Int.reduceSub, Int.reduceMul, Nat.reduceAdd, Nat.reduceSub, Nat.reduceMul, Nat.reduceDiv, Nat.reduceMod, Nat.reduceBEq, Nat.reduceLeDiff, gl, fl, zl]
                    exact ⟨⟨(fun c h => by cases h), a, b, c, d, e, g, rfl, (Tl.f.keep (Keep.set _ (by omega) _)).low (by omega)⟩, Tl.s.gr.set (by omega) _⟩

end Go.Ax.D9
/- DepS4 -/
set_option maxRecDepth 100000
set_option linter.unusedVariables false
set_option linter.unusedSimpArgs false
namespace Go.Ax.D9
open Go.Ax
end Go.Ax.D9
/- DepRa -/
set_option maxRecDepth 100000
set_option linter.unusedVariables false
set_option linter.unusedSimpArgs false
namespace Go.Ax.D9
open Go.Ax B6
/-- The document's reader, its blocks from a on, below m. -/
structure Dr (a m rb : Nat) (σ : St) (H : Heap) : Prop where
  ex : ∃ rk e at' l, H.get rb = some ⟨ty_palanquinref9_reader, [.ptr rk 0, .int .i64 e], none⟩ ∧ RRd H rk l at' ∧ a ≤ rk ∧ rk < rb ∧ Sg e l at' σ
  low : a ≤ rb ∧ rb < m ∧ m ≤ H.next

section
variable {a m rb : Nat} {σ : St} {H H' : Heap}
theorem Dr.keep (h : Dr a m rb σ H) (hs : ∀ i, a ≤ i → i < m → H'.get i = H.get i) (hn : H.next ≤ H'.next) : Dr a m rb σ H' := by
  obtain ⟨⟨rk, e, at', l, h1, h3, h4, h5, h6⟩, h7, h8, h9⟩ := h
  exact ⟨⟨rk, e, at', l, (hs rb h7 h8).trans h1, h3.frame (hs rk h4 (by omega)) hn, h4, h5, h6⟩, h7, h8, by omega⟩
theorem Dr.grow (h : Dr a m rb σ H) (g : Grow H H') : Dr a m rb σ H' := h.keep (fun i _ hi => g.same i (by have := h.low; omega)) g.next
theorem Dr.set (h : Dr a m rb σ H) {w : Nat} (hw : w < a ∨ m ≤ w) (b : Option Blk) : Dr a m rb σ (H.set w b) := h.keep (fun i _ hi => get_set_ne _ _ (by omega)) (Nat.le_refl _)
theorem Dr.step {F F' : List Nat} (h : Dr a m rb σ H) (s : Step H H' F F') (hF : ∀ i ∈ F, m ≤ i) : Dr a m rb σ H' := h.keep (fun i _ hi => s.same i (by have := h.low; omega) fun k => by have := hF i k; omega) s.next
theorem Dr.get (h : Dr a m rb σ H) : ∃ rk, H.get rb = some ⟨ty_palanquinref9_reader, [.ptr rk 0, .int .i64 (St.err σ)], none⟩ := by
  obtain ⟨⟨rk, e, at', l, h1, h3, hak, hkb, h6⟩, h7⟩ := h
  refine ⟨rk, ?_⟩
  cases σ with
  | ok bs => rw [h1, h6.1]; rfl
  | error c => rw [h1, h6.1]; rfl
theorem Dr.rng (h : Dr a m rb σ H) : -9223372036854775808 ≤ St.err σ ∧ St.err σ ≤ 9223372036854775807 ∧ (St.err σ = 0 ↔ ∃ bs, σ = .ok bs) := by
  obtain ⟨⟨rk, e, at', l, h1, h3, hak, hkb, h6⟩, h7⟩ := h
  cases σ with
  | ok bs => exact ⟨(by decide : (-9223372036854775808 : Int) ≤ 0), (by decide : (0 : Int) ≤ 9223372036854775807), ⟨fun _ => ⟨bs, rfl⟩, fun _ => rfl⟩⟩
  | error c => exact ⟨h6.2.2.1, h6.2.2.2, ⟨fun h => absurd h h6.2.1, fun ⟨bs, h⟩ => by cases h⟩⟩

end
end Go.Ax.D9
/- DepRb -/
set_option maxRecDepth 100000
set_option linter.unusedVariables false
set_option linter.unusedSimpArgs false
namespace Go.Ax.D9
open Go.Ax B6
section
variable {a m rb : Nat} {σ : St} {H H' : Heap}
end
end Go.Ax.D9
/- DepRc -/
set_option maxRecDepth 100000
set_option linter.unusedVariables false
set_option linter.unusedSimpArgs false
namespace Go.Ax.D9
open Go.Ax B6
section
variable {ws : List Tw} {w : Tw} {i j : Nat} {x x' : V}
end
section
variable {a m rb b3 lo id tn cn i : Nat} {cap : Cap} {o : Option Nat} {G : Heap} {σ : St} {off tar c : Int} {v x4 x5 : V} {ws : List Tw} {w : Tw} {ts : List Tm}
end
end Go.Ax.D9
/- DepRd -/
set_option maxRecDepth 100000
set_option linter.unusedVariables false
set_option linter.unusedSimpArgs false
namespace Go.Ax.D9
open Go.Ax B6
section
variable {a m rb b3 lo id tn cn : Nat} {cap : Cap} {o : Option Nat} {H : Heap} {σ : St} {off tar c : Int} {v x4 x5 : V} {ws : List Tw} {ts : List Tm}
end
end Go.Ax.D9
/- DepRe -/
set_option maxRecDepth 100000
set_option linter.unusedVariables false
set_option linter.unusedSimpArgs false
namespace Go.Ax.D9
open Go.Ax B6
section
variable {a m rb : Nat} {H : Heap} {σ : St}
end
theorem Fine.o {s : Sr} (h : Fine s) : SrO s := by
  have h1 := h.off
  have h2 := h.tar
  have h3 := h.cha
  have h4 := h.len
  have h5 := wi_iff.1 h.pro
  refine ⟨⟨by omega, by omega⟩, ⟨by omega, by omega⟩, by omega, fun t ht => ?_, ⟨by omega, by omega⟩, ⟨fun x hx => by have := h5.2 x hx; exact ⟨by omega, by omega⟩, ?_⟩, ?_, fun x hx => by have := h.szs x hx; exact ⟨⟨by omega, by omega⟩, ⟨by omega, by omega⟩⟩⟩
  · have r := h.rng ht
    have f := h.tms t ht
    unfold fineT at f
    rw [Bool.and_eq_true, Bool.and_eq_true] at f
    have d1 := wi_iff.1 f.1
    have d2 := di_iff.1 f.2.1
    have d3 := wi_iff.1 f.2.2
    exact ⟨⟨by omega, by omega⟩, ⟨by omega, by omega⟩, ⟨fun x hx => by have := d1.2 x hx; exact ⟨by omega, by omega⟩, by omega⟩, ⟨fun x hx => by have := d2.2 x hx; exact ⟨by omega, by omega⟩, by omega⟩, ⟨fun x hx => by have := d3.2 x hx; exact ⟨by omega, by omega⟩, by omega⟩⟩
  · have := h5.1
    split at this <;> omega
  · have t := top_max' (b := 3) (by decide) fun t ht => ⟨(h.rng ht).1, (h.rng ht).2.1⟩
    have := h.siz
    omega

end Go.Ax.D9
/- DepRf -/
set_option maxRecDepth 100000
set_option linter.unusedVariables false
set_option linter.unusedSimpArgs false
namespace Go.Ax.D9
open Go.Ax B6
section
variable {tS tF : TypeId} {R : St → Heap → Prop} {am : Nat × Nat} {rb bf b7 tn cn : Nat} {B G H H' : Heap} {c3 : List V} {ks : List (Nat × Blk)} {f f' : Fr} {a b c d e g a' b' c' d' e' g' x1 x2 x3 : V} {σ σ' : St} {off tar ch : Int}
theorem PS.step (hR : Rl am.1 am.2 R) {cf : List V} {F F' : List Nat} (h : PS tS tF R am.1 am.2 B bf c3 cf σ H) (s : Step H H' F F') (hF : ∀ i ∈ F, bf < i) : PS tS tF R am.1 am.2 B bf c3 cf σ H' := by
  obtain ⟨h1, h2, h3, h4, h5, h6⟩ := h
  have n := s.next
  have n2 := h2.next
  exact ⟨hR.keep h1 (fun i _ hi => s.same i (by omega) fun hm => by have := hF i hm; omega) n, ⟨by omega, fun i hi => by rw [s.same i (by omega) fun hm => by have := hF i hm; omega, h2.same i hi]⟩,
    (s.same _ (by omega) fun hm => by have := hF _ hm; omega).trans h3, (s.same _ (by omega) fun hm => by have := hF _ hm; omega).trans h4, (s.same _ (by omega) fun hm => by have := hF _ hm; omega).trans h5, by omega⟩

end
end Go.Ax.D9
/- DepRg -/
set_option maxRecDepth 100000
set_option linter.unusedVariables false
set_option linter.unusedSimpArgs false
namespace Go.Ax.D9
open Go.Ax B6
section
variable {am : Nat × Nat} {rb bf tn cn : Nat} {B H : Heap} {c3 : List V} {ks : List (Nat × Blk)} {f : Fr} {a b c : V} {σ : St} {off : Int} {x1 x2 x3 : V} {t : Tm} {u1 u2 u3 : V}
end
end Go.Ax.D9
/- DepRh -/
set_option maxRecDepth 100000
set_option linter.unusedVariables false
set_option linter.unusedSimpArgs false
namespace Go.Ax.D9
open Go.Ax B6
theorem sr0_o : SrO Sr0 := ⟨by decide, by decide, by decide, fun t h => (by cases h), by decide, ⟨by decide, by decide⟩, by decide, by decide⟩

end Go.Ax.D9
