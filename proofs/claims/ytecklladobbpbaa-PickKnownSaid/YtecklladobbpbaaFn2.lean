/-
  The functions of this seat as plain texts: printed by program (wip/gen/Emit.lean): part 2.
-/
import Derived.Test.YtecklladobbpbaaFn0
set_option maxRecDepth 100000
set_option linter.unusedVariables false
namespace Go.Ax
open Go.Proofs

/-- palanquin/depend.spatial. -/
def loop_depend_spatial_0 : C :=
  .ops [⟨(some 10), none, .bin .lss (.s 9) (.s 8)⟩]
  (.cond (.s 10)
  (.blk 1
   (.ops [⟨(some 11), none, .iaddr none 5 (.s 7) (.s 9)⟩,
      ⟨(some 12), none, .load (some 5) (.s 11)⟩,
      ⟨(some 5), none, .box ty_depend_Template (.c (V.agg [(V.int .i64 0), (V.int .i64 0), V.nils, V.nils, V.nils]))⟩,
      ⟨none, none, .store 5 (.s 5) (.s 12)⟩]
    (.ops [⟨(some 13), none, .mv (.s 3)⟩,
      ⟨(some 14), none, .faddr 0 (.s 5)⟩,
      ⟨(some 15), none, .load none (.s 14)⟩,
      ⟨(some 16), none, .bin .add (.s 15) (.c (V.int .i64 1))⟩,
      ⟨(some 17), none, .minmax true (.s 13) [(.s 16)]⟩,
      ⟨(some 3), none, .mv (.s 17)⟩]
    (.done))) [3] [11, 12, 5, 13, 14, 15, 16, 17, 3]
   (.ops [⟨(some 18), none, .bin .add (.s 9) (.c (V.int .i64 1))⟩,
     ⟨(some 9), none, .mv (.s 18)⟩]
   (.done)))
  (.exit 0))

def ir_depend_spatial : Fn' := ⟨20, [.tmp 2],
  .ops [⟨(some 1), none, .box ty_depend_Structure (.s 0)⟩,
    ⟨(some 2), none, .mv (.c (V.int .i64 0))⟩]
  (.ops [⟨(some 3), none, .mv (.c (V.int .i64 0))⟩]
  (.ops [⟨(some 6), none, .faddr 2 (.s 1)⟩,
    ⟨(some 7), none, .load none (.s 6)⟩,
    ⟨(some 8), none, .len (.s 7)⟩,
    ⟨(some 9), none, .mv (.c (V.int .i64 0))⟩]
  (.blk 0
  (.loop loop_depend_spatial_0 [3, 9] [10, 11, 12, 5, 13, 14, 15, 16, 17, 3, 18, 9]) [3] [10, 11, 12, 5, 13, 14, 15, 16, 17, 3, 18, 9]
  (.ops [⟨(some 19), none, .mv (.s 3)⟩,
    ⟨(some 2), none, .mv (.s 19)⟩]
  (.ret)))))⟩

noncomputable def f_depend_spatial_0 (G : Sem') (t8 t7 t2 : V) (L : List V) : M Res :=
  (M.lift (Ax.bin .lss (L.getD 1 .undef) t8)).bind fun t10 =>
  M.ite t10
    (M.blk 1 (
      (M.lift (Ax.iaddr none 5 t7 (L.getD 1 .undef))).bind fun t11 =>
      (mload (some 5) t11).bind fun t12 =>
      (mbox ty_depend_Template (V.agg [(V.int .i64 0), (V.int .i64 0), V.nils, V.nils, V.nils])).bind fun t5 =>
      (mstore 5 t5 t12).bind fun _ =>
      (M.lift (Ax.faddr 0 t5)).bind fun t14 =>
      (mload none t14).bind fun t15 =>
      (M.lift (Ax.bin .add t15 (V.int .i64 1))).bind fun t16 =>
      (M.lift (Ax.minmax true (L.getD 0 .undef) [t16])).bind fun t17 =>
      M.pure (.nrm [t17])) fun L0 =>
    (M.lift (Ax.bin .add (L.getD 1 .undef) (V.int .i64 1))).bind fun t18 =>
    M.pure (.nrm [(L0.getD 0 .undef), t18]))
    (M.pure (.ex 0 [(L.getD 0 .undef)]))

noncomputable def f_depend_spatial (G : Sem') (t0 : V) : M Res :=
  (mbox ty_depend_Structure t0).bind fun t1 =>
  (M.lift (Ax.faddr 2 t1)).bind fun t6 =>
  (mload none t6).bind fun t7 =>
  (M.lift (vlen t7)).bind fun t8 =>
  M.blk 0 (
    M.iter (f_depend_spatial_0 G t8 t7 (V.int .i64 0)) [(V.int .i64 0), (V.int .i64 0)]) fun L1 =>
  M.pure (.ret [(L1.getD 0 .undef)])

theorem eq_depend_spatial (G : Sem') (t0 : V) : execK G ir_depend_spatial.rv ir_depend_spatial.body [] [] (params 0 [t0]) = f_depend_spatial G t0 := by kernel_rfl

theorem tb_depend_spatial : T fn_depend_spatial = some ir_depend_spatial := by kernel_rfl

theorem ok_depend_spatial {t0 : V} {H : Heap} {Q : V → Heap → Prop} (h : Ok (f_depend_spatial (sem T) t0) H fun r H' => ∃ L, r = .ret L ∧ Q (tupled L) H') : Ok (sem T fn_depend_spatial [t0]) H Q :=
  ok_sem tb_depend_spatial (Nat.le_of_ble_eq_true rfl) (eq_depend_spatial (sem T) t0) h

/-- palanquin/depend.Fine$1. -/
def ir_depend_Fine_1 : Fn' := ⟨8, [.tmp 3],
  .ops [⟨(some 2), none, .box ty_depend_Template (.s 0)⟩,
    ⟨(some 3), none, .mv (.c (V.bool false))⟩]
  (.ops [⟨(some 4), none, .load (some 6) (.s 1)⟩,
    ⟨(some 5), none, .load (some 5) (.s 2)⟩,
    ⟨(some 6), none, .call fn_depend_Structure_fine [(.s 4), (.s 5)]⟩,
    ⟨(some 7), none, .un .not (.s 6)⟩,
    ⟨(some 3), none, .mv (.s 7)⟩]
  (.ret))⟩

noncomputable def f_depend_Fine_1 (G : Sem') (t0 t1 : V) : M Res :=
  (mbox ty_depend_Template t0).bind fun t2 =>
  (mload (some 6) t1).bind fun t4 =>
  (mload (some 5) t2).bind fun t5 =>
  (G fn_depend_Structure_fine [t4, t5]).bind fun t6 =>
  (M.lift (Ax.un .not t6)).bind fun t7 =>
  M.pure (.ret [t7])

theorem eq_depend_Fine_1 (G : Sem') (t0 t1 : V) : execK G ir_depend_Fine_1.rv ir_depend_Fine_1.body [] [] (params 0 [t0, t1]) = f_depend_Fine_1 G t0 t1 := by kernel_rfl

theorem tb_depend_Fine_1 : T fn_depend_Fine_1 = some ir_depend_Fine_1 := by kernel_rfl

theorem ok_depend_Fine_1 {t0 t1 : V} {H : Heap} {Q : V → Heap → Prop} (h : Ok (f_depend_Fine_1 (sem T) t0 t1) H fun r H' => ∃ L, r = .ret L ∧ Q (tupled L) H') : Ok (sem T fn_depend_Fine_1 [t0, t1]) H Q :=
  ok_sem tb_depend_Fine_1 (Nat.le_of_ble_eq_true rfl) (eq_depend_Fine_1 (sem T) t0 t1) h

/-- (palanquin/depend.Structure).fine. -/
def ir_depend_Structure_fine : Fn' := ⟨22, [.tmp 4],
  .ops [⟨(some 2), none, .box ty_depend_Structure (.s 0)⟩,
    ⟨(some 3), none, .box ty_depend_Template (.s 1)⟩,
    ⟨(some 4), none, .mv (.c (V.bool false))⟩]
  (.ops [⟨(some 5), none, .faddr 2 (.s 3)⟩,
    ⟨(some 6), none, .load none (.s 5)⟩,
    ⟨(some 7), none, .faddr 1 (.s 2)⟩,
    ⟨(some 8), none, .load none (.s 7)⟩,
    ⟨(some 9), none, .call fn_depend_within [(.s 6), (.s 8), (.c (V.int .i64 0)), (.c (V.int .i64 3))]⟩,
    ⟨(some 10), none, .mv (.s 9)⟩,
    ⟨(some 11), (some (10, true)), .faddr 3 (.s 3)⟩,
    ⟨(some 12), (some (10, true)), .load none (.s 11)⟩,
    ⟨(some 13), (some (10, true)), .call fn_depend_diffs [(.s 12), (.c (V.int .i64 8)), (.c (V.int .i64 16))]⟩,
    ⟨(some 14), none, .pick (.s 10) (.s 13) (.c (V.bool false))⟩,
    ⟨(some 15), none, .mv (.s 14)⟩,
    ⟨(some 16), (some (15, true)), .faddr 4 (.s 3)⟩,
    ⟨(some 17), (some (15, true)), .load none (.s 16)⟩,
    ⟨(some 18), (some (15, true)), .faddr 3 (.s 2)⟩,
    ⟨(some 19), (some (15, true)), .load none (.s 18)⟩,
    ⟨(some 20), (some (15, true)), .call fn_depend_within [(.s 17), (.s 19), (.c (V.int .i64 0)), (.c (V.int .i64 15))]⟩,
    ⟨(some 21), none, .pick (.s 15) (.s 20) (.c (V.bool false))⟩,
    ⟨(some 4), none, .mv (.s 21)⟩]
  (.ret))⟩

noncomputable def f_depend_Structure_fine (G : Sem') (t0 t1 : V) : M Res :=
  (mbox ty_depend_Structure t0).bind fun t2 =>
  (mbox ty_depend_Template t1).bind fun t3 =>
  (M.lift (Ax.faddr 2 t3)).bind fun t5 =>
  (mload none t5).bind fun t6 =>
  (M.lift (Ax.faddr 1 t2)).bind fun t7 =>
  (mload none t7).bind fun t8 =>
  (G fn_depend_within [t6, t8, (V.int .i64 0), (V.int .i64 3)]).bind fun t9 =>
  (guarded [(0, t9)] (some (0, true)) (M.lift (Ax.faddr 3 t3))).bind fun t11 =>
  (guarded [(0, t9)] (some (0, true)) (mload none t11)).bind fun t12 =>
  (guarded [(0, t9)] (some (0, true)) (G fn_depend_diffs [t12, (V.int .i64 8), (V.int .i64 16)])).bind fun t13 =>
  (M.lift (Ax.pick t9 t13 (V.bool false))).bind fun t14 =>
  (guarded [(0, t14)] (some (0, true)) (M.lift (Ax.faddr 4 t3))).bind fun t16 =>
  (guarded [(0, t14)] (some (0, true)) (mload none t16)).bind fun t17 =>
  (guarded [(0, t14)] (some (0, true)) (M.lift (Ax.faddr 3 t2))).bind fun t18 =>
  (guarded [(0, t14)] (some (0, true)) (mload none t18)).bind fun t19 =>
  (guarded [(0, t14)] (some (0, true)) (G fn_depend_within [t17, t19, (V.int .i64 0), (V.int .i64 15)])).bind fun t20 =>
  (M.lift (Ax.pick t14 t20 (V.bool false))).bind fun t21 =>
  M.pure (.ret [t21])

theorem eq_depend_Structure_fine (G : Sem') (t0 t1 : V) : execK G ir_depend_Structure_fine.rv ir_depend_Structure_fine.body [] [] (params 0 [t0, t1]) = f_depend_Structure_fine G t0 t1 := by kernel_rfl

theorem tb_depend_Structure_fine : T fn_depend_Structure_fine = some ir_depend_Structure_fine := by kernel_rfl

theorem ok_depend_Structure_fine {t0 t1 : V} {H : Heap} {Q : V → Heap → Prop} (h : Ok (f_depend_Structure_fine (sem T) t0 t1) H fun r H' => ∃ L, r = .ret L ∧ Q (tupled L) H') : Ok (sem T fn_depend_Structure_fine [t0, t1]) H Q :=
  ok_sem tb_depend_Structure_fine (Nat.le_of_ble_eq_true rfl) (eq_depend_Structure_fine (sem T) t0 t1) h

/-- palanquin/depend.diffs. -/
def ir_depend_diffs : Fn' := ⟨18, [.tmp 6],
  .ops [⟨(some 6), none, .mv (.c (V.bool false))⟩]
  (.ops [⟨(some 7), none, .mv (.s 0)⟩,
    ⟨(some 8), none, .len (.s 7)⟩,
    ⟨(some 9), none, .mv (.s 1)⟩,
    ⟨(some 10), none, .bin .leq (.s 8) (.s 9)⟩,
    ⟨(some 11), none, .mv (.s 10)⟩,
    ⟨(some 12), (some (11, true)), .mv (.s 0)⟩,
    ⟨(some 13), (some (11, true)), .mv (.s 0)⟩,
    ⟨(some 14), (some (11, true)), .len (.s 13)⟩,
    ⟨(some 15), (some (11, true)), .mv (.s 2)⟩,
    ⟨(some 16), (some (11, true)), .call fn_depend_within [(.s 12), (.s 14), (.c (V.int .i64 1)), (.s 15)]⟩,
    ⟨(some 17), none, .pick (.s 11) (.s 16) (.c (V.bool false))⟩,
    ⟨(some 6), none, .mv (.s 17)⟩]
  (.ret))⟩

noncomputable def f_depend_diffs (G : Sem') (t0 t1 t2 : V) : M Res :=
  (M.lift (vlen t0)).bind fun t8 =>
  (M.lift (Ax.bin .leq t8 t1)).bind fun t10 =>
  (guarded [(0, t10)] (some (0, true)) (M.pure t0)).bind fun t12 =>
  (guarded [(0, t10)] (some (0, true)) (M.pure t0)).bind fun t13 =>
  (guarded [(0, t10)] (some (0, true)) (M.lift (vlen t13))).bind fun t14 =>
  (guarded [(0, t10)] (some (0, true)) (M.pure t2)).bind fun t15 =>
  (guarded [(0, t10)] (some (0, true)) (G fn_depend_within [t12, t14, (V.int .i64 1), t15])).bind fun t16 =>
  (M.lift (Ax.pick t10 t16 (V.bool false))).bind fun t17 =>
  M.pure (.ret [t17])

theorem eq_depend_diffs (G : Sem') (t0 t1 t2 : V) : execK G ir_depend_diffs.rv ir_depend_diffs.body [] [] (params 0 [t0, t1, t2]) = f_depend_diffs G t0 t1 t2 := by kernel_rfl

theorem tb_depend_diffs : T fn_depend_diffs = some ir_depend_diffs := by kernel_rfl

theorem ok_depend_diffs {t0 t1 t2 : V} {H : Heap} {Q : V → Heap → Prop} (h : Ok (f_depend_diffs (sem T) t0 t1 t2) H fun r H' => ∃ L, r = .ret L ∧ Q (tupled L) H') : Ok (sem T fn_depend_diffs [t0, t1, t2]) H Q :=
  ok_sem tb_depend_diffs (Nat.le_of_ble_eq_true rfl) (eq_depend_diffs (sem T) t0 t1 t2) h

/-- slices.ContainsFunc[[]palanquin/depend.Template,palanquin/depend.Template]. -/
def ir_slices_ContainsFunc_depend_Template_depend_Template : Fn' := ⟨9, [.tmp 4],
  .ops [⟨(some 4), none, .mv (.c (V.bool false))⟩]
  (.ops [⟨(some 5), none, .mv (.s 0)⟩,
    ⟨(some 6), none, .mv (.s 1)⟩,
    ⟨(some 7), none, .call fn_slices_IndexFunc_depend_Template_depend_Template [(.s 5), (.s 6)]⟩,
    ⟨(some 8), none, .bin .geq (.s 7) (.c (V.int .i64 0))⟩,
    ⟨(some 4), none, .mv (.s 8)⟩]
  (.ret))⟩

noncomputable def f_slices_ContainsFunc_depend_Template_depend_Template (G : Sem') (t0 t1 : V) : M Res :=
  (G fn_slices_IndexFunc_depend_Template_depend_Template [t0, t1]).bind fun t7 =>
  (M.lift (Ax.bin .geq t7 (V.int .i64 0))).bind fun t8 =>
  M.pure (.ret [t8])

theorem eq_slices_ContainsFunc_depend_Template_depend_Template (G : Sem') (t0 t1 : V) : execK G ir_slices_ContainsFunc_depend_Template_depend_Template.rv ir_slices_ContainsFunc_depend_Template_depend_Template.body [] [] (params 0 [t0, t1]) = f_slices_ContainsFunc_depend_Template_depend_Template G t0 t1 := by kernel_rfl

theorem tb_slices_ContainsFunc_depend_Template_depend_Template : T fn_slices_ContainsFunc_depend_Template_depend_Template = some ir_slices_ContainsFunc_depend_Template_depend_Template := by kernel_rfl

theorem ok_slices_ContainsFunc_depend_Template_depend_Template {t0 t1 : V} {H : Heap} {Q : V → Heap → Prop} (h : Ok (f_slices_ContainsFunc_depend_Template_depend_Template (sem T) t0 t1) H fun r H' => ∃ L, r = .ret L ∧ Q (tupled L) H') : Ok (sem T fn_slices_ContainsFunc_depend_Template_depend_Template [t0, t1]) H Q :=
  ok_sem tb_slices_ContainsFunc_depend_Template_depend_Template (Nat.le_of_ble_eq_true rfl) (eq_slices_ContainsFunc_depend_Template_depend_Template (sem T) t0 t1) h

/-- slices.IndexFunc[[]palanquin/depend.Template,palanquin/depend.Template]. -/
def loop_slices_IndexFunc_depend_Template_depend_Template_0 : C :=
  .ops [⟨(some 9), none, .bin .lss (.s 8) (.s 7)⟩]
  (.cond (.s 9)
  (.blk 1
   (.ops [⟨(some 10), none, .mv (.s 8)⟩,
      ⟨(some 5), none, .mv (.s 10)⟩]
    (.ops [⟨(some 11), none, .mv (.s 1)⟩,
      ⟨(some 12), none, .mv (.s 0)⟩,
      ⟨(some 13), none, .mv (.s 5)⟩,
      ⟨(some 14), none, .iaddr none 5 (.s 12) (.s 13)⟩,
      ⟨(some 15), none, .load (some 5) (.s 14)⟩,
      ⟨(some 16), none, .callv (.s 11) [(.s 15)]⟩]
    (.cond (.s 16)
    (.ops [⟨(some 17), none, .mv (.s 5)⟩,
       ⟨(some 4), none, .mv (.s 17)⟩]
     (.ret))
    (.done)))) [] [10, 5, 11, 12, 13, 14, 15, 16, 17, 4]
   (.ops [⟨(some 18), none, .bin .add (.s 8) (.c (V.int .i64 1))⟩,
     ⟨(some 8), none, .mv (.s 18)⟩]
   (.done)))
  (.exit 0))

def ir_slices_IndexFunc_depend_Template_depend_Template : Fn' := ⟨19, [.tmp 4],
  .ops [⟨(some 4), none, .mv (.c (V.int .i64 0))⟩]
  (.ops [⟨(some 6), none, .mv (.s 0)⟩,
    ⟨(some 7), none, .len (.s 6)⟩,
    ⟨(some 8), none, .mv (.c (V.int .i64 0))⟩]
  (.blk 0
  (.loop loop_slices_IndexFunc_depend_Template_depend_Template_0 [8] [9, 10, 5, 11, 12, 13, 14, 15, 16, 17, 4, 18, 8]) [] [9, 10, 5, 11, 12, 13, 14, 15, 16, 17, 4, 18, 8]
  (.ops [⟨(some 4), none, .mv (.c (V.int .i64 (-1)))⟩]
  (.ret))))⟩

noncomputable def f_slices_IndexFunc_depend_Template_depend_Template_0 (G : Sem') (t7 t1 t0 : V) (L : List V) : M Res :=
  (M.lift (Ax.bin .lss (L.getD 0 .undef) t7)).bind fun t9 =>
  M.ite t9
    (M.blk 1 (
      (M.lift (Ax.iaddr none 5 t0 (L.getD 0 .undef))).bind fun t14 =>
      (mload (some 5) t14).bind fun t15 =>
      (callv G t1 [t15]).bind fun t16 =>
      M.ite t16
        (M.pure (.ret [(L.getD 0 .undef)]))
        (M.pure (.nrm []))) fun _ =>
    (M.lift (Ax.bin .add (L.getD 0 .undef) (V.int .i64 1))).bind fun t18 =>
    M.pure (.nrm [t18]))
    (M.pure (.ex 0 []))

noncomputable def f_slices_IndexFunc_depend_Template_depend_Template (G : Sem') (t0 t1 : V) : M Res :=
  (M.lift (vlen t0)).bind fun t7 =>
  M.blk 0 (
    M.iter (f_slices_IndexFunc_depend_Template_depend_Template_0 G t7 t1 t0) [(V.int .i64 0)]) fun _ =>
  M.pure (.ret [(V.int .i64 (-1))])

theorem eq_slices_IndexFunc_depend_Template_depend_Template (G : Sem') (t0 t1 : V) : execK G ir_slices_IndexFunc_depend_Template_depend_Template.rv ir_slices_IndexFunc_depend_Template_depend_Template.body [] [] (params 0 [t0, t1]) = f_slices_IndexFunc_depend_Template_depend_Template G t0 t1 := by kernel_rfl

theorem tb_slices_IndexFunc_depend_Template_depend_Template : T fn_slices_IndexFunc_depend_Template_depend_Template = some ir_slices_IndexFunc_depend_Template_depend_Template := by kernel_rfl

theorem ok_slices_IndexFunc_depend_Template_depend_Template {t0 t1 : V} {H : Heap} {Q : V → Heap → Prop} (h : Ok (f_slices_IndexFunc_depend_Template_depend_Template (sem T) t0 t1) H fun r H' => ∃ L, r = .ret L ∧ Q (tupled L) H') : Ok (sem T fn_slices_IndexFunc_depend_Template_depend_Template [t0, t1]) H Q :=
  ok_sem tb_slices_IndexFunc_depend_Template_depend_Template (Nat.le_of_ble_eq_true rfl) (eq_slices_IndexFunc_depend_Template_depend_Template (sem T) t0 t1) h

/-- palanquin/depend.Layers. -/
def loop_depend_Layers_0 : C :=
  .ops [⟨(some 26), none, .bin .lss (.s 25) (.s 24)⟩]
  (.cond (.s 26)
  (.blk 1
   (.ops [⟨(some 27), none, .iaddr none 5 (.s 23) (.s 25)⟩,
      ⟨(some 28), none, .load (some 5) (.s 27)⟩,
      ⟨(some 8), none, .box ty_depend_Template (.c (V.agg [(V.int .i64 0), (V.int .i64 0), V.nils, V.nils, V.nils]))⟩,
      ⟨none, none, .store 5 (.s 8) (.s 28)⟩]
    (.ops [⟨(some 29), none, .faddr 2 (.s 8)⟩,
      ⟨(some 30), none, .load none (.s 29)⟩,
      ⟨(some 31), none, .mv (.s 1)⟩,
      ⟨(some 32), none, .iaddr none 1 (.s 30) (.s 31)⟩,
      ⟨(some 33), none, .load none (.s 32)⟩,
      ⟨(some 34), none, .bin .neq (.s 33) (.c (V.int .i64 0))⟩]
    (.condJ (.s 34)
    (.draw [⟨(some 35), none, .mv (.s 4)⟩,
       ⟨(some 36), none, .faddr 0 (.s 8)⟩,
       ⟨(some 37), none, .load none (.s 36)⟩,
       ⟨(some 38), none, .minmax true (.s 35) [(.s 37)]⟩,
       ⟨(some 39), none, .mv (.s 5)⟩,
       ⟨(some 40), none, .faddr 1 (.s 8)⟩,
       ⟨(some 41), none, .load none (.s 40)⟩,
       ⟨(some 42), none, .minmax true (.s 39) [(.s 41)]⟩,
       ⟨(some 4), none, .mv (.s 38)⟩,
       ⟨(some 5), none, .mv (.s 42)⟩,
       ⟨(some 6), none, .mv (.c (V.bool true))⟩] []
     (.done))
    (.done) [4, 5, 6] [35, 36, 37, 38, 39, 40, 41, 42, 4, 5, 6]
    (.done)))) [4, 5, 6] [27, 28, 8, 29, 30, 31, 32, 33, 34, 35, 36, 37, 38, 39, 40, 41, 42, 4, 5, 6]
   (.ops [⟨(some 43), none, .bin .add (.s 25) (.c (V.int .i64 1))⟩,
     ⟨(some 25), none, .mv (.s 43)⟩]
   (.done)))
  (.exit 0))

def ir_depend_Layers : Fn' := ⟨47, [.tmp 4, .tmp 5, .tmp 6],
  .ops [⟨(some 2), none, .box ty_depend_Structure (.s 0)⟩,
    ⟨(some 4), none, .mv (.c (V.int .i64 0))⟩,
    ⟨(some 5), none, .mv (.c (V.int .i64 0))⟩,
    ⟨(some 6), none, .mv (.c (V.bool false))⟩]
  (.ops [⟨(some 9), none, .load (some 6) (.s 2)⟩,
    ⟨(some 10), none, .call fn_depend_Fine [(.s 9)]⟩,
    ⟨(some 11), none, .un .not (.s 10)⟩,
    ⟨(some 12), none, .mv (.s 11)⟩,
    ⟨(some 13), (some (12, false)), .mv (.s 1)⟩,
    ⟨(some 14), (some (12, false)), .bin .lss (.s 13) (.c (V.int .i64 0))⟩,
    ⟨(some 15), none, .pick (.s 12) (.c (V.bool true)) (.s 14)⟩,
    ⟨(some 16), none, .mv (.s 15)⟩,
    ⟨(some 17), (some (16, false)), .mv (.s 1)⟩,
    ⟨(some 18), (some (16, false)), .faddr 1 (.s 2)⟩,
    ⟨(some 19), (some (16, false)), .load none (.s 18)⟩,
    ⟨(some 20), (some (16, false)), .bin .geq (.s 17) (.s 19)⟩,
    ⟨(some 21), none, .pick (.s 16) (.c (V.bool true)) (.s 20)⟩]
  (.cond (.s 21)
  (.ops [⟨(some 4), none, .mv (.c (V.int .i64 0))⟩,
     ⟨(some 5), none, .mv (.c (V.int .i64 0))⟩,
     ⟨(some 6), none, .mv (.c (V.bool false))⟩]
   (.ret))
  (.ops [⟨(some 22), none, .faddr 2 (.s 2)⟩,
     ⟨(some 23), none, .load none (.s 22)⟩,
     ⟨(some 24), none, .len (.s 23)⟩,
     ⟨(some 25), none, .mv (.c (V.int .i64 0))⟩]
   (.blk 0
   (.loop loop_depend_Layers_0 [4, 5, 6, 25] [26, 27, 28, 8, 29, 30, 31, 32, 33, 34, 35, 36, 37, 38, 39, 40, 41, 42, 4, 5, 6, 43, 25]) [4, 5, 6] [26, 27, 28, 8, 29, 30, 31, 32, 33, 34, 35, 36, 37, 38, 39, 40, 41, 42, 4, 5, 6, 43, 25]
   (.ops [⟨(some 44), none, .mv (.s 4)⟩,
     ⟨(some 45), none, .mv (.s 5)⟩,
     ⟨(some 46), none, .mv (.s 6)⟩,
     ⟨(some 4), none, .mv (.s 44)⟩,
     ⟨(some 5), none, .mv (.s 45)⟩,
     ⟨(some 6), none, .mv (.s 46)⟩]
   (.ret))))))⟩

noncomputable def f_depend_Layers_0 (G : Sem') (t24 t23 t1 : V) (L : List V) : M Res :=
  (M.lift (Ax.bin .lss (L.getD 3 .undef) t24)).bind fun t26 =>
  M.ite t26
    (M.blk 1 (
      (M.lift (Ax.iaddr none 5 t23 (L.getD 3 .undef))).bind fun t27 =>
      (mload (some 5) t27).bind fun t28 =>
      (mbox ty_depend_Template (V.agg [(V.int .i64 0), (V.int .i64 0), V.nils, V.nils, V.nils])).bind fun t8 =>
      (mstore 5 t8 t28).bind fun _ =>
      (M.lift (Ax.faddr 2 t8)).bind fun t29 =>
      (mload none t29).bind fun t30 =>
      (M.lift (Ax.iaddr none 1 t30 t1)).bind fun t32 =>
      (mload none t32).bind fun t33 =>
      (M.lift (Ax.bin .neq t33 (V.int .i64 0))).bind fun t34 =>
      M.join (M.ite t34
        ((M.lift (Ax.faddr 0 t8)).bind fun t36 =>
        (mload none t36).bind fun t37 =>
        (M.lift (Ax.minmax true (L.getD 0 .undef) [t37])).bind fun t38 =>
        (M.lift (Ax.faddr 1 t8)).bind fun t40 =>
        (mload none t40).bind fun t41 =>
        (M.lift (Ax.minmax true (L.getD 1 .undef) [t41])).bind fun t42 =>
        M.pure (.nrm [t38, t42, (V.bool true)]))
        (M.pure (.nrm [(L.getD 0 .undef), (L.getD 1 .undef), (L.getD 2 .undef)]))) fun L0 =>
      M.pure (.nrm [(L0.getD 0 .undef), (L0.getD 1 .undef), (L0.getD 2 .undef)])) fun L1 =>
    (M.lift (Ax.bin .add (L.getD 3 .undef) (V.int .i64 1))).bind fun t43 =>
    M.pure (.nrm [(L1.getD 0 .undef), (L1.getD 1 .undef), (L1.getD 2 .undef), t43]))
    (M.pure (.ex 0 [(L.getD 0 .undef), (L.getD 1 .undef), (L.getD 2 .undef)]))

noncomputable def f_depend_Layers (G : Sem') (t0 t1 : V) : M Res :=
  (mbox ty_depend_Structure t0).bind fun t2 =>
  (mload (some 6) t2).bind fun t9 =>
  (G fn_depend_Fine [t9]).bind fun t10 =>
  (M.lift (Ax.un .not t10)).bind fun t11 =>
  (guarded [(0, t11)] (some (0, false)) (M.pure t1)).bind fun t13 =>
  (guarded [(0, t11)] (some (0, false)) (M.lift (Ax.bin .lss t13 (V.int .i64 0)))).bind fun t14 =>
  (M.lift (Ax.pick t11 (V.bool true) t14)).bind fun t15 =>
  (guarded [(0, t15)] (some (0, false)) (M.pure t1)).bind fun t17 =>
  (guarded [(0, t15)] (some (0, false)) (M.lift (Ax.faddr 1 t2))).bind fun t18 =>
  (guarded [(0, t15)] (some (0, false)) (mload none t18)).bind fun t19 =>
  (guarded [(0, t15)] (some (0, false)) (M.lift (Ax.bin .geq t17 t19))).bind fun t20 =>
  (M.lift (Ax.pick t15 (V.bool true) t20)).bind fun t21 =>
  M.ite t21
    (M.pure (.ret [(V.int .i64 0), (V.int .i64 0), (V.bool false)]))
    ((M.lift (Ax.faddr 2 t2)).bind fun t22 =>
    (mload none t22).bind fun t23 =>
    (M.lift (vlen t23)).bind fun t24 =>
    M.blk 0 (
      M.iter (f_depend_Layers_0 G t24 t23 t1) [(V.int .i64 0), (V.int .i64 0), (V.bool false), (V.int .i64 0)]) fun L2 =>
    M.pure (.ret [(L2.getD 0 .undef), (L2.getD 1 .undef), (L2.getD 2 .undef)]))

theorem eq_depend_Layers (G : Sem') (t0 t1 : V) : execK G ir_depend_Layers.rv ir_depend_Layers.body [] [] (params 0 [t0, t1]) = f_depend_Layers G t0 t1 := by kernel_rfl

theorem tb_depend_Layers : T fn_depend_Layers = some ir_depend_Layers := by kernel_rfl

theorem ok_depend_Layers {t0 t1 : V} {H : Heap} {Q : V → Heap → Prop} (h : Ok (f_depend_Layers (sem T) t0 t1) H fun r H' => ∃ L, r = .ret L ∧ Q (tupled L) H') : Ok (sem T fn_depend_Layers [t0, t1]) H Q :=
  ok_sem tb_depend_Layers (Nat.le_of_ble_eq_true rfl) (eq_depend_Layers (sem T) t0 t1) h

/-- palanquin/pick.Source. -/
def loop_pick_Source_0 : C :=
  .ops [⟨(some 12), none, .bin .lss (.s 11) (.s 10)⟩]
  (.cond (.s 12)
  (.blk 1
   (.ops [⟨(some 13), none, .mv (.s 11)⟩,
      ⟨(some 14), none, .iaddr none 1 (.s 9) (.s 11)⟩,
      ⟨(some 15), none, .load none (.s 14)⟩,
      ⟨(some 7), none, .mv (.s 13)⟩,
      ⟨(some 8), none, .mv (.s 15)⟩]
    (.ops [⟨(some 16), none, .mv (.s 8)⟩,
      ⟨(some 17), none, .bin .lss (.s 16) (.c (V.int .i64 0))⟩]
    (.cond (.s 17)
    (.exit 1)
    (.ops [⟨(some 18), none, .mv (.s 6)⟩,
       ⟨(some 19), none, .bin .lss (.s 18) (.c (V.int .i64 0))⟩]
     (.condJ (.s 19)
     (.ops [⟨(some 20), none, .mv (.s 7)⟩,
        ⟨(some 6), none, .mv (.s 20)⟩]
      (.done))
     (.done) [6] [20, 6]
     (.ops [⟨(some 21), none, .mv (.s 8)⟩,
       ⟨(some 22), none, .cint .u64 (.s 21)⟩,
       ⟨(some 23), none, .mv (.s 0)⟩,
       ⟨(some 24), none, .bin .quo (.s 23) (.c (V.int .u64 10000))⟩,
       ⟨(some 25), none, .bin .leq (.s 22) (.s 24)⟩]
     (.condJ (.s 25)
     (.ops [⟨(some 26), none, .mv (.s 7)⟩,
        ⟨(some 5), none, .mv (.s 26)⟩]
      (.done))
     (.done) [5] [26, 5]
     (.done)))))))) [5, 6] [13, 14, 15, 7, 8, 16, 17, 18, 19, 20, 6, 21, 22, 23, 24, 25, 26, 5]
   (.ops [⟨(some 27), none, .bin .add (.s 11) (.c (V.int .i64 1))⟩,
     ⟨(some 11), none, .mv (.s 27)⟩]
   (.done)))
  (.exit 0))

def ir_pick_Source : Fn' := ⟨31, [.tmp 4],
  .ops [⟨(some 4), none, .mv (.c (V.int .i64 0))⟩]
  (.ops [⟨(some 5), none, .mv (.c (V.int .i64 (-1)))⟩,
    ⟨(some 6), none, .mv (.c (V.int .i64 (-1)))⟩]
  (.ops [⟨(some 9), none, .mv (.s 1)⟩,
    ⟨(some 10), none, .len (.s 9)⟩,
    ⟨(some 11), none, .mv (.c (V.int .i64 0))⟩]
  (.blk 0
  (.loop loop_pick_Source_0 [5, 6, 11] [12, 13, 14, 15, 7, 8, 16, 17, 18, 19, 20, 6, 21, 22, 23, 24, 25, 26, 5, 27, 11]) [5, 6] [12, 13, 14, 15, 7, 8, 16, 17, 18, 19, 20, 6, 21, 22, 23, 24, 25, 26, 5, 27, 11]
  (.ops [⟨(some 28), none, .mv (.s 5)⟩,
    ⟨(some 29), none, .mv (.s 6)⟩,
    ⟨(some 30), none, .minmax true (.s 28) [(.s 29), (.c (V.int .i64 0))]⟩,
    ⟨(some 4), none, .mv (.s 30)⟩]
  (.ret)))))⟩

noncomputable def f_pick_Source_0 (G : Sem') (t10 t9 t0 t4 : V) (L : List V) : M Res :=
  (M.lift (Ax.bin .lss (L.getD 2 .undef) t10)).bind fun t12 =>
  M.ite t12
    (M.blk 1 (
      (M.lift (Ax.iaddr none 1 t9 (L.getD 2 .undef))).bind fun t14 =>
      (mload none t14).bind fun t15 =>
      (M.lift (Ax.bin .lss t15 (V.int .i64 0))).bind fun t17 =>
      M.ite t17
        (M.pure (.ex 1 [(L.getD 0 .undef), (L.getD 1 .undef)]))
        ((M.lift (Ax.bin .lss (L.getD 1 .undef) (V.int .i64 0))).bind fun t19 =>
        M.join (M.ite t19
          (M.pure (.nrm [(L.getD 2 .undef)]))
          (M.pure (.nrm [(L.getD 1 .undef)]))) fun L0 =>
        (M.lift (Ax.cint .u64 t15)).bind fun t22 =>
        (M.lift (Ax.bin .quo t0 (V.int .u64 10000))).bind fun t24 =>
        (M.lift (Ax.bin .leq t22 t24)).bind fun t25 =>
        M.join (M.ite t25
          (M.pure (.nrm [(L.getD 2 .undef)]))
          (M.pure (.nrm [(L.getD 0 .undef)]))) fun L1 =>
        M.pure (.nrm [(L1.getD 0 .undef), (L0.getD 0 .undef)]))) fun L2 =>
    (M.lift (Ax.bin .add (L.getD 2 .undef) (V.int .i64 1))).bind fun t27 =>
    M.pure (.nrm [(L2.getD 0 .undef), (L2.getD 1 .undef), t27]))
    (M.pure (.ex 0 [(L.getD 0 .undef), (L.getD 1 .undef)]))

noncomputable def f_pick_Source (G : Sem') (t0 t1 : V) : M Res :=
  (M.lift (vlen t1)).bind fun t10 =>
  M.blk 0 (
    M.iter (f_pick_Source_0 G t10 t1 t0 (V.int .i64 0)) [(V.int .i64 (-1)), (V.int .i64 (-1)), (V.int .i64 0)]) fun L3 =>
  (M.lift (Ax.minmax true (L3.getD 0 .undef) [(L3.getD 1 .undef), (V.int .i64 0)])).bind fun t30 =>
  M.pure (.ret [t30])

theorem eq_pick_Source (G : Sem') (t0 t1 : V) : execK G ir_pick_Source.rv ir_pick_Source.body [] [] (params 0 [t0, t1]) = f_pick_Source G t0 t1 := by kernel_rfl

theorem tb_pick_Source : T fn_pick_Source = some ir_pick_Source := by kernel_rfl

theorem ok_pick_Source {t0 t1 : V} {H : Heap} {Q : V → Heap → Prop} (h : Ok (f_pick_Source (sem T) t0 t1) H fun r H' => ∃ L, r = .ret L ∧ Q (tupled L) H') : Ok (sem T fn_pick_Source [t0, t1]) H Q :=
  ok_sem tb_pick_Source (Nat.le_of_ble_eq_true rfl) (eq_pick_Source (sem T) t0 t1) h

/-- palanquin/pick.In. -/
def ir_pick_In : Fn' := ⟨22, [.tmp 4],
  .ops [⟨(some 2), none, .box ty_depend_Frame (.s 0)⟩,
    ⟨(some 4), none, .mv (.c (V.bool false))⟩]
  (.ops [⟨(some 5), none, .mv (.s 1)⟩,
    ⟨(some 6), none, .bin .geq (.s 5) (.c (V.int .i64 0))⟩,
    ⟨(some 7), none, .mv (.s 6)⟩,
    ⟨(some 8), (some (7, true)), .mv (.s 1)⟩,
    ⟨(some 9), (some (7, true)), .faddr 16 (.s 2)⟩,
    ⟨(some 10), (some (7, true)), .load none (.s 9)⟩,
    ⟨(some 11), (some (7, true)), .len (.s 10)⟩,
    ⟨(some 12), (some (7, true)), .bin .lss (.s 8) (.s 11)⟩,
    ⟨(some 13), none, .pick (.s 7) (.s 12) (.c (V.bool false))⟩,
    ⟨(some 14), none, .mv (.s 13)⟩,
    ⟨(some 15), (some (14, true)), .faddr 16 (.s 2)⟩,
    ⟨(some 16), (some (14, true)), .load none (.s 15)⟩,
    ⟨(some 17), (some (14, true)), .mv (.s 1)⟩,
    ⟨(some 18), (some (14, true)), .iaddr none 1 (.s 16) (.s 17)⟩,
    ⟨(some 19), (some (14, true)), .load none (.s 18)⟩,
    ⟨(some 20), (some (14, true)), .bin .neq (.s 19) (.c (V.int .i64 0))⟩,
    ⟨(some 21), none, .pick (.s 14) (.s 20) (.c (V.bool false))⟩,
    ⟨(some 4), none, .mv (.s 21)⟩]
  (.ret))⟩

noncomputable def f_pick_In (G : Sem') (t0 t1 : V) : M Res :=
  (mbox ty_depend_Frame t0).bind fun t2 =>
  (M.lift (Ax.bin .geq t1 (V.int .i64 0))).bind fun t6 =>
  (guarded [(0, t6)] (some (0, true)) (M.pure t1)).bind fun t8 =>
  (guarded [(0, t6)] (some (0, true)) (M.lift (Ax.faddr 16 t2))).bind fun t9 =>
  (guarded [(0, t6)] (some (0, true)) (mload none t9)).bind fun t10 =>
  (guarded [(0, t6)] (some (0, true)) (M.lift (vlen t10))).bind fun t11 =>
  (guarded [(0, t6)] (some (0, true)) (M.lift (Ax.bin .lss t8 t11))).bind fun t12 =>
  (M.lift (Ax.pick t6 t12 (V.bool false))).bind fun t13 =>
  (guarded [(0, t13)] (some (0, true)) (M.lift (Ax.faddr 16 t2))).bind fun t15 =>
  (guarded [(0, t13)] (some (0, true)) (mload none t15)).bind fun t16 =>
  (guarded [(0, t13)] (some (0, true)) (M.pure t1)).bind fun t17 =>
  (guarded [(0, t13)] (some (0, true)) (M.lift (Ax.iaddr none 1 t16 t17))).bind fun t18 =>
  (guarded [(0, t13)] (some (0, true)) (mload none t18)).bind fun t19 =>
  (guarded [(0, t13)] (some (0, true)) (M.lift (Ax.bin .neq t19 (V.int .i64 0)))).bind fun t20 =>
  (M.lift (Ax.pick t13 t20 (V.bool false))).bind fun t21 =>
  M.pure (.ret [t21])

theorem eq_pick_In (G : Sem') (t0 t1 : V) : execK G ir_pick_In.rv ir_pick_In.body [] [] (params 0 [t0, t1]) = f_pick_In G t0 t1 := by kernel_rfl

theorem tb_pick_In : T fn_pick_In = some ir_pick_In := by kernel_rfl

theorem ok_pick_In {t0 t1 : V} {H : Heap} {Q : V → Heap → Prop} (h : Ok (f_pick_In (sem T) t0 t1) H fun r H' => ∃ L, r = .ret L ∧ Q (tupled L) H') : Ok (sem T fn_pick_In [t0, t1]) H Q :=
  ok_sem tb_pick_In (Nat.le_of_ble_eq_true rfl) (eq_pick_In (sem T) t0 t1) h

end Go.Ax
