/-
  Texts of mine, put together by program (wip/slim.py), for law_lockKnown: part 9.
-/
import Derived.Test.YtmmgnkjdppnboaaGreatZk8
set_option linter.unusedVariables false
set_option linter.unusedSimpArgs false
set_option linter.defProp false
set_option maxRecDepth 100000
/- CpS -/
namespace Go.Ax.Cp
open Go.Proofs
def f_palanquinref1_Times_0 (G : Sem') (t1 t4 : V) (L : List V) : M Res :=
 (M.lift (Ax.bin .lss (L.getD 2 .undef) (V.int .i64 8))).bind fun t11 =>
 M.ite t11
 (M.blk 1 (
 (M.lift (Ax.cint .u64 (L.getD 2 .undef))).bind fun t16 =>
 (M.lift (Ax.bin .shr t1 t16)).bind fun t17 =>
 (M.lift (Ax.bin .and t17 (V.int .u8 1))).bind fun t18 =>
 (M.lift (Ax.bin .eql t18 (V.int .u8 1))).bind fun t19 =>
 M.join (M.ite t19
 ((M.lift (Ax.bin .xor (L.getD 0 .undef) (L.getD 1 .undef))).bind fun t22 =>
 M.pure (.nrm [t22]))
 (M.pure (.nrm [(L.getD 0 .undef)]))) fun L0 =>
 (M.lift (Ax.bin .shr (L.getD 1 .undef) (V.int .u64 7))).bind fun t24 =>
 (M.lift (Ax.bin .shl (L.getD 1 .undef) (V.int .u64 1))).bind fun t26 =>
 (M.lift (Ax.bin .mul t24 (V.int .u8 27))).bind fun t28 =>
 (M.lift (Ax.bin .xor t26 t28)).bind fun t29 =>
 M.pure (.nrm [(L0.getD 0 .undef), t29])) fun L1 =>
 (M.lift (Ax.bin .add (L.getD 2 .undef) (V.int .i64 1))).bind fun t13 =>
 M.pure (.nrm [(L1.getD 0 .undef), (L1.getD 1 .undef), t13]))
 (M.pure (.ex 0 [(L.getD 0 .undef)]))
def f_palanquinref1_Times (G : Sem') (t0 t1 : V) : M Res :=
 M.blk 0 (
 M.iter (f_palanquinref1_Times_0 G t1 (V.int .u8 0)) [(V.int .u8 0), t0, (V.int .i64 0)]) fun L2 =>
 M.pure (.ret [(L2.getD 0 .undef)])
theorem eq_palanquinref1_Times (G : Sem') (t0 t1 : V) : execK G zaV.rv zaV.body [] [] (params 0 [t0, t1]) = f_palanquinref1_Times G t0 t1 := by kernel_rfl
def d_palanquinref1_Times (G : Sem') : List V → M V
 | [t0, t1] => fin (f_palanquinref1_Times G t0 t1)
 | _ => M.fail
theorem s_palanquinref1_Times {g : Sem'} (hg : Sims g (sem T)) (args : List V) : Sim (d_palanquinref1_Times g args) (sem T zaW args) := by
 unfold d_palanquinref1_Times
 split
 ·exact sim_fn tb_palanquinref1_Times (Nat.le_of_ble_eq_true rfl) hg (eq_palanquinref1_Times g _ _)
 ·exact sim_fail
def f_block_twice (G : Sem') (t0 : V) : M Res :=
 (M.lift (Ax.bin .geq t0 (V.int .u8 128))).bind fun t4 =>
 M.ite t4
 ((M.lift (Ax.bin .shl t0 (V.int .u64 1))).bind fun t6 =>
 (M.lift (Ax.bin .xor t6 (V.int .u8 27))).bind fun t7 =>
 M.pure (.ret [t7]))
 ((M.lift (Ax.bin .shl t0 (V.int .u64 1))).bind fun t9 =>
 M.pure (.ret [t9]))
theorem eq_block_twice (G : Sem') (t0 : V) : execK G zb2.rv zb2.body [] [] (params 0 [t0]) = f_block_twice G t0 := by kernel_rfl
def d_block_twice (G : Sem') : List V → M V
 | [t0] => fin (f_block_twice G t0)
 | _ => M.fail
theorem s_block_twice {g : Sem'} (hg : Sims g (sem T)) (args : List V) : Sim (d_block_twice g args) (sem T zaF args) := by
 unfold d_block_twice
 split
 ·exact sim_fn tb_block_twice (Nat.le_of_ble_eq_true rfl) hg (eq_block_twice g _)
 ·exact sim_fail
def f_block_Times_0 (G : Sem') (t4 : V) (L : List V) : M Res :=
 (M.lift (Ax.bin .gtr (L.getD 1 .undef) (V.int .u8 0))).bind fun t7 =>
 M.ite t7
 (M.blk 1 (
 (M.lift (Ax.bin .and (L.getD 1 .undef) (V.int .u8 1))).bind fun t11 =>
 (M.lift (Ax.bin .eql t11 (V.int .u8 1))).bind fun t12 =>
 M.join (M.ite t12
 ((M.lift (Ax.bin .xor (L.getD 2 .undef) (L.getD 0 .undef))).bind fun t15 =>
 M.pure (.nrm [t15]))
 (M.pure (.nrm [(L.getD 2 .undef)]))) fun L0 =>
 (G zaF [(L.getD 0 .undef)]).bind fun t17 =>
 M.pure (.nrm [t17, (L0.getD 0 .undef)])) fun L1 =>
 (M.lift (Ax.bin .shr (L.getD 1 .undef) (V.int .u64 1))).bind fun t9 =>
 M.pure (.nrm [(L1.getD 0 .undef), t9, (L1.getD 1 .undef)]))
 (M.pure (.ex 0 [(L.getD 2 .undef)]))
def f_block_Times (G : Sem') (t0 t1 : V) : M Res :=
 M.blk 0 (
 M.iter (f_block_Times_0 G (V.int .u8 0)) [t0, t1, (V.int .u8 0)]) fun L2 =>
 M.pure (.ret [(L2.getD 0 .undef)])
theorem eq_block_Times (G : Sem') (t0 t1 : V) : execK G zb3.rv zb3.body [] [] (params 0 [t0, t1]) = f_block_Times G t0 t1 := by kernel_rfl
def d_block_Times (G : Sem') : List V → M V
 | [t0, t1] => fin (f_block_Times G t0 t1)
 | _ => M.fail
theorem s_block_Times {g : Sem'} (hg : Sims g (sem T)) (args : List V) : Sim (d_block_Times g args) (sem T za9 args) := by
 unfold d_block_Times
 split
 ·exact sim_fn tb_block_Times (Nat.le_of_ble_eq_true rfl) hg (eq_block_Times g _ _)
 ·exact sim_fail
def f_block_box_0 (G : Sem') (t0 t2 : V) (L : List V) : M Res :=
 (M.lift (Ax.bin .leq (L.getD 1 .undef) (V.int .i64 4))).bind fun t7 =>
 M.ite t7
 (M.blk 1 (
 (G zaA [t0, (L.getD 1 .undef)]).bind fun t13 =>
 (M.lift (Ax.bin .xor (L.getD 0 .undef) t13)).bind fun t14 =>
 M.pure (.nrm [t14])) fun L0 =>
 (M.lift (Ax.bin .add (L.getD 1 .undef) (V.int .i64 1))).bind fun t9 =>
 M.pure (.nrm [(L0.getD 0 .undef), t9]))
 (M.pure (.ex 0 [(L.getD 0 .undef)]))
def f_block_box (G : Sem') (t0 : V) : M Res :=
 M.blk 0 (
 M.iter (f_block_box_0 G t0 (V.int .u8 0)) [t0, (V.int .i64 1)]) fun L1 =>
 (M.lift (Ax.bin .xor (L1.getD 0 .undef) (V.int .u8 99))).bind fun t16 =>
 M.pure (.ret [t16])
theorem eq_block_box (G : Sem') (t0 : V) : execK G zcC.rv zcC.body [] [] (params 0 [t0]) = f_block_box G t0 := by kernel_rfl
def d_block_box (G : Sem') : List V → M V
 | [t0] => fin (f_block_box G t0)
 | _ => M.fail
theorem s_block_box {g : Sem'} (hg : Sims g (sem T)) (args : List V) : Sim (d_block_box g args) (sem T za8 args) := by
 unfold d_block_box
 split
 ·exact sim_fn tb_block_box (Nat.le_of_ble_eq_true rfl) hg (eq_block_box g _)
 ·exact sim_fail
def f_math_bits_RotateLeft8 (G : Sem') (t0 t1 : V) : M Res :=
 (M.lift (Ax.cint .u64 t1)).bind fun t7 =>
 (M.lift (Ax.bin .and t7 (V.int .u64 7))).bind fun t8 =>
 (M.lift (Ax.bin .shl t0 t8)).bind fun t11 =>
 (M.lift (Ax.bin .sub (V.int .u64 8) t8)).bind fun t14 =>
 (M.lift (Ax.bin .shr t0 t14)).bind fun t15 =>
 (M.lift (Ax.bin .or t11 t15)).bind fun t16 =>
 M.pure (.ret [t16])
theorem eq_math_bits_RotateLeft8 (G : Sem') (t0 t1 : V) : execK G zaN.rv zaN.body [] [] (params 0 [t0, t1]) = f_math_bits_RotateLeft8 G t0 t1 := by kernel_rfl
def d_math_bits_RotateLeft8 (G : Sem') : List V → M V
 | [t0, t1] => fin (f_math_bits_RotateLeft8 G t0 t1)
 | _ => M.fail
theorem s_math_bits_RotateLeft8 {g : Sem'} (hg : Sims g (sem T)) (args : List V) : Sim (d_math_bits_RotateLeft8 g args) (sem T zaA args) := by
 unfold d_math_bits_RotateLeft8
 split
 ·exact sim_fn tb_math_bits_RotateLeft8 (Nat.le_of_ble_eq_true rfl) hg (eq_math_bits_RotateLeft8 g _ _)
 ·exact sim_fail
def f_digest_prime_0 (G : Sem') (t0 : V) (L : List V) : M Res :=
 (M.lift (Ax.bin .mul (L.getD 0 .undef) (L.getD 0 .undef))).bind fun t6 =>
 (M.lift (Ax.bin .leq t6 t0)).bind fun t8 =>
 M.ite t8
 (M.blk 1 (
 (M.lift (Ax.bin .rem t0 (L.getD 0 .undef))).bind fun t13 =>
 (M.lift (Ax.bin .eql t13 (V.int .i64 0))).bind fun t14 =>
 M.ite t14
 (M.pure (.ret [(V.bool false)]))
 (M.pure (.nrm []))) fun _ =>
 (M.lift (Ax.bin .add (L.getD 0 .undef) (V.int .i64 1))).bind fun t10 =>
 M.pure (.nrm [t10]))
 (M.pure (.ex 0 []))
def f_digest_prime (G : Sem') (t0 : V) : M Res :=
 M.blk 0 (
 M.iter (f_digest_prime_0 G t0) [(V.int .i64 2)]) fun _ =>
 (M.lift (Ax.bin .gtr t0 (V.int .i64 1))).bind fun t16 =>
 M.pure (.ret [t16])
theorem eq_digest_prime (G : Sem') (t0 : V) : execK G zbO.rv zbO.body [] [] (params 0 [t0]) = f_digest_prime G t0 := by kernel_rfl
def d_digest_prime (G : Sem') : List V → M V
 | [t0] => fin (f_digest_prime G t0)
 | _ => M.fail
theorem s_digest_prime {g : Sem'} (hg : Sims g (sem T)) (args : List V) : Sim (d_digest_prime g args) (sem T zaZ args) := by
 unfold d_digest_prime
 split
 ·exact sim_fn tb_digest_prime (Nat.le_of_ble_eq_true rfl) hg (eq_digest_prime g _)
 ·exact sim_fail
def f_digest_root_0 (G : Sem') (t0 t2 : V) (L : List V) : M Res :=
 (G zaR [(L.getD 0 .undef), t0]).bind fun t11 =>
 (M.lift (Ax.un .not t11)).bind fun t12 =>
 M.ite t12
 (M.blk 1 (
 (M.lift (Ax.bin .sub (L.getD 0 .undef) (V.int .u64 1))).bind fun t14 =>
 M.pure (.nrm [t14])) fun L0 =>
 M.pure (.nrm [(L0.getD 0 .undef)]))
 (M.pure (.ex 0 [(L.getD 0 .undef)]))
def f_digest_root_1 (G : Sem') (t0 t2 : V) (L : List V) : M Res :=
 (M.lift (Ax.bin .add (L.getD 0 .undef) (V.int .u64 1))).bind fun t16 =>
 (G zaR [t16, t0]).bind fun t18 =>
 M.ite t18
 (M.blk 3 (
 (M.lift (Ax.bin .add (L.getD 0 .undef) (V.int .u64 1))).bind fun t20 =>
 M.pure (.nrm [t20])) fun L2 =>
 M.pure (.nrm [(L2.getD 0 .undef)]))
 (M.pure (.ex 2 [(L.getD 0 .undef)]))
def f_digest_root (G : Sem') (t0 : V) : M Res :=
 (M.lift (Ax.op1 (.itof .f64) t0)).bind fun t5 =>
 (G zbR [t5]).bind fun t6 =>
 (M.lift (Ax.bin .mul t6 (V.lit (.float .f64 4751297606875873280)))).bind fun t7 =>
 (M.lift (Ax.cint .u64 t7)).bind fun t8 =>
 M.blk 0 (
 M.iter (f_digest_root_0 G t0 (V.int .u32 0)) [t8]) fun L1 =>
 M.blk 2 (
 M.iter (f_digest_root_1 G t0 (V.int .u32 0)) [(L1.getD 0 .undef)]) fun L3 =>
 (M.lift (Ax.cint .u32 (L3.getD 0 .undef))).bind fun t22 =>
 M.pure (.ret [t22])
theorem eq_digest_root (G : Sem') (t0 : V) : execK G zb1.rv zb1.body [] [] (params 0 [t0]) = f_digest_root G t0 := by kernel_rfl
def d_digest_root (G : Sem') : List V → M V
 | [t0] => fin (f_digest_root G t0)
 | _ => M.fail
theorem s_digest_root {g : Sem'} (hg : Sims g (sem T)) (args : List V) : Sim (d_digest_root g args) (sem T za7 args) := by
 unfold d_digest_root
 split
 ·exact sim_fn tb_digest_root (Nat.le_of_ble_eq_true rfl) hg (eq_digest_root g _)
 ·exact sim_fail
def f_math_Cbrt (G : Sem') (t0 : V) : M Res :=
 M.ite (V.bool false)
 ((G za0 [t0]).bind fun t4 =>
 M.pure (.ret [t4]))
 ((G zbQ [t0]).bind fun t6 =>
 M.pure (.ret [t6]))
theorem eq_math_Cbrt (G : Sem') (t0 : V) : execK G zcB.rv zcB.body [] [] (params 0 [t0]) = f_math_Cbrt G t0 := by kernel_rfl
def d_math_Cbrt (G : Sem') : List V → M V
 | [t0] => fin (f_math_Cbrt G t0)
 | _ => M.fail
theorem s_math_Cbrt {g : Sem'} (hg : Sims g (sem T)) (args : List V) : Sim (d_math_Cbrt g args) (sem T zbR args) := by
 unfold d_math_Cbrt
 split
 ·exact sim_fn tb_math_Cbrt (Nat.le_of_ble_eq_true rfl) hg (eq_math_Cbrt g _)
 ·exact sim_fail
def f_digest_below (G : Sem') (t0 t1 : V) : M Res :=
 (G zaC [t0, t0]).bind fun t12 =>
 (M.lift (Ax.ext 0 t12)).bind fun t13 =>
 (M.lift (Ax.ext 1 t12)).bind fun t14 =>
 (G zaC [t14, t0]).bind fun t18 =>
 (M.lift (Ax.ext 0 t18)).bind fun t19 =>
 (M.lift (Ax.ext 1 t18)).bind fun t20 =>
 (M.lift (Ax.bin .mul t13 t0)).bind fun t24 =>
 (M.lift (Ax.bin .add t19 t24)).bind fun t25 =>
 (M.lift (Ax.bin .shl t1 (V.int .u64 32))).bind fun t28 =>
 (M.lift (Ax.bin .lss t25 t28)).bind fun t29 =>
 (guarded [(0, t29)] (some (0, false)) (M.pure t25)).bind fun t31 =>
 (guarded [(0, t29)] (some (0, false)) (M.pure t1)).bind fun t32 =>
 (guarded [(0, t29)] (some (0, false)) (M.lift (Ax.bin .shl t32 (V.int .u64 32)))).bind fun t33 =>
 (guarded [(0, t29)] (some (0, false)) (M.lift (Ax.bin .eql t31 t33))).bind fun t34 =>
 (guarded [(0, t29)] (some (0, false)) (M.pure t34)).bind fun t35 =>
 (guarded [(0, t35)] (some (0, true)) (M.pure t20)).bind fun t36 =>
 (guarded [(0, t35)] (some (0, true)) (M.lift (Ax.bin .eql t36 (V.int .u64 0)))).bind fun t37 =>
 (guarded [(0, t29)] (some (0, false)) (M.lift (Ax.pick t35 t37 (V.bool false)))).bind fun t38 =>
 (M.lift (Ax.pick t29 (V.bool true) t38)).bind fun t39 =>
 M.pure (.ret [t39])
theorem eq_digest_below (G : Sem') (t0 t1 : V) : execK G zbP.rv zbP.body [] [] (params 0 [t0, t1]) = f_digest_below G t0 t1 := by kernel_rfl
def d_digest_below (G : Sem') : List V → M V
 | [t0, t1] => fin (f_digest_below G t0 t1)
 | _ => M.fail
theorem s_digest_below {g : Sem'} (hg : Sims g (sem T)) (args : List V) : Sim (d_digest_below g args) (sem T zaR args) := by
 unfold d_digest_below
 split
 ·exact sim_fn tb_digest_below (Nat.le_of_ble_eq_true rfl) hg (eq_digest_below g _ _)
 ·exact sim_fail
def f_math_archCbrt (G : Sem') (t0 : V) : M Res :=
 M.fail
theorem eq_math_archCbrt (G : Sem') (t0 : V) : execK G zbD.rv zbD.body [] [] (params 0 [t0]) = f_math_archCbrt G t0 := by kernel_rfl
def d_math_archCbrt (G : Sem') : List V → M V
 | [t0] => fin (f_math_archCbrt G t0)
 | _ => M.fail
theorem s_math_archCbrt {g : Sem'} (hg : Sims g (sem T)) (args : List V) : Sim (d_math_archCbrt g args) (sem T za0 args) := by
 unfold d_math_archCbrt
 split
 ·exact sim_fn tb_math_archCbrt (Nat.le_of_ble_eq_true rfl) hg (eq_math_archCbrt g _)
 ·exact sim_fail
def f_math_cbrt (G : Sem') (t0 : V) : M Res :=
 M.blk 0 (
 (M.lift (Ax.bin .eql t0 (V.lit (.float .f64 0)))).bind fun t10 =>
 (guarded [(0, t10)] (some (0, false)) (M.pure t0)).bind fun t12 =>
 (guarded [(0, t10)] (some (0, false)) (G zbA [t12])).bind fun t13 =>
 (M.lift (Ax.pick t10 (V.bool true) t13)).bind fun t14 =>
 (guarded [(0, t14)] (some (0, false)) (M.pure t0)).bind fun t16 =>
 (guarded [(0, t14)] (some (0, false)) (G zbB [t16, (V.int .i64 0)])).bind fun t17 =>
 (M.lift (Ax.pick t14 (V.bool true) t17)).bind fun t18 =>
 M.ite t18
 (M.pure (.ret [t0]))
 (M.pure (.nrm []))) fun _ =>
 (M.lift (Ax.bin .lss t0 (V.lit (.float .f64 0)))).bind fun t21 =>
 M.join (M.ite t21
 ((M.lift (Ax.un .neg t0)).bind fun t23 =>
 M.pure (.nrm [t23, (V.bool true)]))
 (M.pure (.nrm [t0, (V.bool false)]))) fun L1 =>
 (M.lift (Ax.op1 .fbits (L1.getD 0 .undef))).bind fun t25 =>
 (M.lift (Ax.bin .quo t25 (V.int .u64 3))).bind fun t26 =>
 (M.lift (Ax.bin .add t26 (V.int .u64 3071306043645493248))).bind fun t27 =>
 (M.lift (Ax.op1 .ffrom t27)).bind fun t28 =>
 (M.lift (Ax.bin .lss (L1.getD 0 .undef) (V.lit (.float .f64 4503599627370496)))).bind fun t30 =>
 M.join (M.ite t30
 ((M.lift (Ax.bin .mul (V.lit (.float .f64 4850376798678024192)) (L1.getD 0 .undef))).bind fun t33 =>
 (M.lift (Ax.op1 .fbits t33)).bind fun t35 =>
 (M.lift (Ax.bin .quo t35 (V.int .u64 3))).bind fun t36 =>
 (M.lift (Ax.bin .add t36 (V.int .u64 2990241250352824320))).bind fun t37 =>
 (M.lift (Ax.op1 .ffrom t37)).bind fun t38 =>
 M.pure (.nrm [t38]))
 (M.pure (.nrm [t28]))) fun L2 =>
 (M.lift (Ax.bin .mul (L2.getD 0 .undef) (L2.getD 0 .undef))).bind fun t41 =>
 (M.lift (Ax.bin .quo t41 (L1.getD 0 .undef))).bind fun t43 =>
 (M.lift (Ax.bin .mul t43 (L2.getD 0 .undef))).bind fun t46 =>
 (M.lift (Ax.bin .add (V.lit (.float .f64 4603064841997850097)) t46)).bind fun t47 =>
 (M.lift (Ax.bin .add t47 (V.lit (.float .f64 4609048195788499471)))).bind fun t50 =>
 (M.lift (Ax.bin .quo (V.lit (.float .f64 13827900089180538932)) t47)).bind fun t52 =>
 (M.lift (Ax.bin .add t50 t52)).bind fun t53 =>
 (M.lift (Ax.bin .quo (V.lit (.float .f64 4609916747145206638)) t53)).bind fun t54 =>
 (M.lift (Ax.bin .add (V.lit (.float .f64 4600105333671292343)) t54)).bind fun t55 =>
 (M.lift (Ax.bin .mul (L2.getD 0 .undef) t55)).bind fun t56 =>
 (M.lift (Ax.op1 .fbits t56)).bind fun t58 =>
 (M.lift (Ax.bin .and t58 (V.int .u64 18446744072635809792))).bind fun t59 =>
 (M.lift (Ax.bin .add t59 (V.int .u64 1073741824))).bind fun t60 =>
 (M.lift (Ax.op1 .ffrom t60)).bind fun t61 =>
 (M.lift (Ax.bin .mul t61 t61)).bind fun t64 =>
 (M.lift (Ax.bin .quo (L1.getD 0 .undef) t64)).bind fun t67 =>
 (M.lift (Ax.bin .add t61 t61)).bind fun t70 =>
 (M.lift (Ax.bin .sub t67 t61)).bind fun t73 =>
 (M.lift (Ax.bin .add t70 t67)).bind fun t76 =>
 (M.lift (Ax.bin .quo t73 t76)).bind fun t77 =>
 (M.lift (Ax.bin .mul t61 t77)).bind fun t81 =>
 (M.lift (Ax.bin .add t61 t81)).bind fun t82 =>
 M.join (M.ite (L1.getD 1 .undef)
 ((M.lift (Ax.un .neg t82)).bind fun t85 =>
 M.pure (.nrm [t85]))
 (M.pure (.nrm [t82]))) fun L3 =>
 M.pure (.ret [(L3.getD 0 .undef)])
theorem eq_math_cbrt (G : Sem') (t0 : V) : execK G zcA.rv zcA.body [] [] (params 0 [t0]) = f_math_cbrt G t0 := by kernel_rfl
def d_math_cbrt (G : Sem') : List V → M V
 | [t0] => fin (f_math_cbrt G t0)
 | _ => M.fail
theorem s_math_cbrt {g : Sem'} (hg : Sims g (sem T)) (args : List V) : Sim (d_math_cbrt g args) (sem T zbQ args) := by
 unfold d_math_cbrt
 split
 ·exact sim_fn tb_math_cbrt (Nat.le_of_ble_eq_true rfl) hg (eq_math_cbrt g _)
 ·exact sim_fail
def f_math_bits_Mul64 (G : Sem') (t0 t1 : V) : M Res :=
 (M.lift (Ax.bin .and t0 (V.int .u64 4294967295))).bind fun t15 =>
 (M.lift (Ax.bin .shr t0 (V.int .u64 32))).bind fun t17 =>
 (M.lift (Ax.bin .and t1 (V.int .u64 4294967295))).bind fun t19 =>
 (M.lift (Ax.bin .shr t1 (V.int .u64 32))).bind fun t21 =>
 (M.lift (Ax.bin .mul t15 t19)).bind fun t24 =>
 (M.lift (Ax.bin .mul t17 t19)).bind fun t27 =>
 (M.lift (Ax.bin .shr t24 (V.int .u64 32))).bind fun t29 =>
 (M.lift (Ax.bin .add t27 t29)).bind fun t30 =>
 (M.lift (Ax.bin .and t30 (V.int .u64 4294967295))).bind fun t32 =>
 (M.lift (Ax.bin .shr t30 (V.int .u64 32))).bind fun t34 =>
 (M.lift (Ax.bin .mul t15 t21)).bind fun t38 =>
 (M.lift (Ax.bin .add t32 t38)).bind fun t39 =>
 (M.lift (Ax.bin .mul t17 t21)).bind fun t42 =>
 (M.lift (Ax.bin .add t42 t34)).bind fun t44 =>
 (M.lift (Ax.bin .shr t39 (V.int .u64 32))).bind fun t46 =>
 (M.lift (Ax.bin .add t44 t46)).bind fun t47 =>
 (M.lift (Ax.bin .mul t0 t1)).bind fun t50 =>
 M.pure (.ret [t47, t50])
theorem eq_math_bits_Mul64 (G : Sem') (t0 t1 : V) : execK G zbi.rv zbi.body [] [] (params 0 [t0, t1]) = f_math_bits_Mul64 G t0 t1 := by kernel_rfl
def d_math_bits_Mul64 (G : Sem') : List V → M V
 | [t0, t1] => fin (f_math_bits_Mul64 G t0 t1)
 | _ => M.fail
theorem s_math_bits_Mul64 {g : Sem'} (hg : Sims g (sem T)) (args : List V) : Sim (d_math_bits_Mul64 g args) (sem T zaC args) := by
 unfold d_math_bits_Mul64
 split
 ·exact sim_fn tb_math_bits_Mul64 (Nat.le_of_ble_eq_true rfl) hg (eq_math_bits_Mul64 g _ _)
 ·exact sim_fail
def f_math_IsNaN (G : Sem') (t0 : V) : M Res :=
 (M.lift (Ax.bin .neq t0 t0)).bind fun t5 =>
 M.pure (.ret [t5])
theorem eq_math_IsNaN (G : Sem') (t0 : V) : execK G zcd.rv zcd.body [] [] (params 0 [t0]) = f_math_IsNaN G t0 := by kernel_rfl
def d_math_IsNaN (G : Sem') : List V → M V
 | [t0] => fin (f_math_IsNaN G t0)
 | _ => M.fail
theorem s_math_IsNaN {g : Sem'} (hg : Sims g (sem T)) (args : List V) : Sim (d_math_IsNaN g args) (sem T zbA args) := by
 unfold d_math_IsNaN
 split
 ·exact sim_fn tb_math_IsNaN (Nat.le_of_ble_eq_true rfl) hg (eq_math_IsNaN g _)
 ·exact sim_fail
def f_math_IsInf (G : Sem') (t0 t1 : V) : M Res :=
 (M.lift (Ax.bin .eql t1 (V.int .i64 0))).bind fun t6 =>
 M.join (M.ite t6
 ((G zb9 [t0]).bind fun t8 =>
 M.pure (.nrm [t8]))
 ((M.lift (Ax.bin .lss t1 (V.int .i64 0))).bind fun t10 =>
 M.join (M.ite t10
 ((M.lift (Ax.un .neg t0)).bind fun t12 =>
 M.pure (.nrm [t12]))
 (M.pure (.nrm [t0]))) fun L0 =>
 M.pure (.nrm [(L0.getD 0 .undef)]))) fun L1 =>
 (M.lift (Ax.bin .gtr (L1.getD 0 .undef) (V.lit (.float .f64 9218868437227405311)))).bind fun t14 =>
 M.pure (.ret [t14])
theorem eq_math_IsInf (G : Sem') (t0 t1 : V) : execK G zce.rv zce.body [] [] (params 0 [t0, t1]) = f_math_IsInf G t0 t1 := by kernel_rfl
def d_math_IsInf (G : Sem') : List V → M V
 | [t0, t1] => fin (f_math_IsInf G t0 t1)
 | _ => M.fail
theorem s_math_IsInf {g : Sem'} (hg : Sims g (sem T)) (args : List V) : Sim (d_math_IsInf g args) (sem T zbB args) := by
 unfold d_math_IsInf
 split
 ·exact sim_fn tb_math_IsInf (Nat.le_of_ble_eq_true rfl) hg (eq_math_IsInf g _ _)
 ·exact sim_fail
def f_math_Abs (G : Sem') (t0 : V) : M Res :=
 (M.lift (Ax.op1 .fbits t0)).bind fun t4 =>
 (M.lift (Ax.bin .andNot t4 (V.int .u64 9223372036854775808))).bind fun t5 =>
 (M.lift (Ax.op1 .ffrom t5)).bind fun t6 =>
 M.pure (.ret [t6])
theorem eq_math_Abs (G : Sem') (t0 : V) : execK G zc0.rv zc0.body [] [] (params 0 [t0]) = f_math_Abs G t0 := by kernel_rfl
def d_math_Abs (G : Sem') : List V → M V
 | [t0] => fin (f_math_Abs G t0)
 | _ => M.fail
theorem s_math_Abs {g : Sem'} (hg : Sims g (sem T)) (args : List V) : Sim (d_math_Abs g args) (sem T zb9 args) := by
 unfold d_math_Abs
 split
 ·exact sim_fn tb_math_Abs (Nat.le_of_ble_eq_true rfl) hg (eq_math_Abs g _)
 ·exact sim_fail
def disp (G : Sem') (f : FuncId) (args : List V) : M V :=
 if f < 136 then (if f < 106 then (if f < 86 then (if f = zaW then d_palanquinref1_Times G args else M.fail) else (if f < 105 then (if f = zaF then d_block_twice G args else M.fail) else (if f = za9 then d_block_Times G args else M.fail))) else (if f < 129 then (if f < 116 then (if f = za8 then d_block_box G args else M.fail) else (if f = zaA then d_math_bits_RotateLeft8 G args else M.fail)) else (if f < 130 then (if f = zaZ then d_digest_prime G args else M.fail) else (if f = za7 then d_digest_root G args else M.fail)))) else (if f < 148 then (if f < 146 then (if f < 137 then (if f = zbR then d_math_Cbrt G args else M.fail) else (if f = zaR then d_digest_below G args else M.fail)) else (if f < 147 then (if f = za0 then d_math_archCbrt G args else M.fail) else (if f = zbQ then d_math_cbrt G args else M.fail))) else (if f < 157 then (if f < 156 then (if f = zaC then d_math_bits_Mul64 G args else M.fail) else (if f = zbA then d_math_IsNaN G args else M.fail)) else (if f < 160 then (if f = zbB then d_math_IsInf G args else M.fail) else (if f = zb9 then d_math_Abs G args else M.fail))))
theorem sims_disp {g : Sem'} (hg : Sims g (sem T)) : Sims (disp g) (sem T) := fun f args =>
 (sim_if (fun _ => (sim_if (fun _ => (sim_if (fun _ => (sim_if (fun e => e ▸ s_palanquinref1_Times hg args) sim_fail)) (sim_if (fun _ => (sim_if (fun e => e ▸ s_block_twice hg args) sim_fail)) (sim_if (fun e => e ▸ s_block_Times hg args) sim_fail)))) (sim_if (fun _ => (sim_if (fun _ => (sim_if (fun e => e ▸ s_block_box hg args) sim_fail)) (sim_if (fun e => e ▸ s_math_bits_RotateLeft8 hg args) sim_fail))) (sim_if (fun _ => (sim_if (fun e => e ▸ s_digest_prime hg args) sim_fail)) (sim_if (fun e => e ▸ s_digest_root hg args) sim_fail))))) (sim_if (fun _ => (sim_if (fun _ => (sim_if (fun _ => (sim_if (fun e => e ▸ s_math_Cbrt hg args) sim_fail)) (sim_if (fun e => e ▸ s_digest_below hg args) sim_fail))) (sim_if (fun _ => (sim_if (fun e => e ▸ s_math_archCbrt hg args) sim_fail)) (sim_if (fun e => e ▸ s_math_cbrt hg args) sim_fail)))) (sim_if (fun _ => (sim_if (fun _ => (sim_if (fun e => e ▸ s_math_bits_Mul64 hg args) sim_fail)) (sim_if (fun e => e ▸ s_math_IsNaN hg args) sim_fail))) (sim_if (fun _ => (sim_if (fun e => e ▸ s_math_IsInf hg args) sim_fail)) (sim_if (fun e => e ▸ s_math_Abs hg args) sim_fail)))))
def cs : Nat → Sem'
 | 0 => fun _ _ => M.fail
 | n + 1 => disp (cs n)
theorem sims_cs : ∀ n, Sims (cs n) (sem T)
 | 0 => fun _ _ => sim_fail
 | n + 1 => sims_disp (sims_cs n)
end Go.Ax.Cp
/- Su7 -/
namespace Go.Ax.SU
open Go.Ax
theorem callv_fn {G : Sem'} {f : FuncId} {caps : List V} : callv G (.fn f caps) [] = G f caps := rfl
theorem once_done {H : Heap} {c off : Nat} {b : Blk} {g : V} (hg : H.get c = some b) (h0 : b.cells[off]? = some (.int .u32 1)) : Ok (sem T zbu [.ptr c off, g]) H fun r H' => r = .tup [] ∧ H' = H := by
 refine zea ?_
 unfold zdt
 simp (maxSteps := 1000000) (disch := first | omega | (simp only [RY] <;> omega) | decide) only [↓RD, RZ, eq_self, Int.reduceToNat, Int.reduceAdd, Int.reduceSub, Int.reduceMul, Nat.reduceAdd, Nat.reduceSub, Nat.reduceMul, Nat.reduceDiv, Nat.reduceMod, Nat.reduceBEq, Nat.reduceLeDiff, hg, h0]
 rfl
theorem once_slow {H : Heap} {c off ty : Nat} {cells : List V} {o : Option Nat} {f : FuncId} {caps : List V} {P : Heap → Prop} (hg : H.get c = some ⟨ty, cells, o⟩) (h0 : cells[off]? = some (.int .u32 0)) (h1 : cells[off + 1]? = some (.int .i32 0))
  (hf : Ok (sem T f caps) (H.set c (some ⟨ty, splice cells (off + 1) [.int .i32 1], o⟩)) fun _ H2 => ∃ cells2, H2.get c = some ⟨ty, cells2, o⟩ ∧ cells2[off]? = some (.int .u32 0) ∧ cells2[off + 1]? = some (.int .i32 1) ∧
   P ((H2.set c (some ⟨ty, splice cells2 off [.int .u32 1], o⟩)).set c (some ⟨ty, splice (splice cells2 off [.int .u32 1]) (off + 1) [.int .i32 0], o⟩))) : Ok (sem T zbu [.ptr c off, .fn f caps]) H fun r H' => r = .tup [] ∧ P H' := by
 have hl : off + 1 < cells.length := (List.getElem?_eq_some_iff.1 h1).1
 refine zea ?_
 unfold zdt
 simp (maxSteps := 1000000) (disch := first | omega | (simp only [RY] <;> omega) | decide) only [↓RD, RZ, eq_self, Int.reduceToNat, Int.reduceAdd, Int.reduceSub, Int.reduceMul, Nat.reduceAdd, Nat.reduceSub, Nat.reduceMul, Nat.reduceDiv, Nat.reduceMod, Nat.reduceBEq, Nat.reduceLeDiff, hg, h0, h1, callv_fn]
 refine ⟨by omega, zae hf ?_⟩
 rintro _ H2 ⟨cells2, g2, k0, k1, hP⟩
 have hl2 : off + 1 < cells2.length := (List.getElem?_eq_some_iff.1 k1).1
 have hl3 : (splice cells2 off [.int .u32 1]).length = cells2.length := splice_length _ _ _ (by simpa using (by omega : off + 1 ≤ cells2.length))
 simp (maxSteps := 1000000) (disch := first | omega | (simp only [RY] <;> omega) | decide) only [↓RD, RZ, eq_self, Int.reduceToNat, Int.reduceAdd, Int.reduceSub, Int.reduceMul, Nat.reduceAdd, Nat.reduceSub, Nat.reduceMul, Nat.reduceDiv, Nat.reduceMod, Nat.reduceBEq, Nat.reduceLeDiff, g2, k0, k1, hl3]
 exact ⟨by omega, by omega, rfl, hP⟩
theorem cp_pure {n : Nat} {f : FuncId} {args : List V} {v : V} (h : Cp.cs n f args = some v) : sem T f args = M.pure v := funext fun H => Cp.sims_cs n f args H v h
/-! Primes and roots, computed. -/
def pchk (n : Nat) : Bool := match Cp.cs 3 zaZ [.int .i64 n] with
 | some (.bool b) => b == primes.contains n
 | _ => false
theorem prime_all : (List.range 312).all pchk = true := by kernel_rfl
theorem prime_eq {n : Nat} (h : n < 312) : sem T zaZ [.int .i64 n] = M.pure (.bool (primes.contains n)) := by
 have h1 := List.all_eq_true.1 prime_all n (List.mem_range.2 h)
 unfold pchk at h1
 split at h1
 ·rename_i b hb
  rw [cp_pure hb]
  simp only [beq_iff_eq] at h1
  rw [h1]
 ·cases h1
def rchk (i : Nat) : Bool := match Cp.cs 9 za7 [.int .u64 (prv (i + 1))] with
 | some (.int .u32 k) => k == ((kc.getD i 0).toNat : Int)
 | _ => false
theorem root_all : (List.range 64).all rchk = true := by kernel_rfl
theorem root_eq {i : Nat} (h : i < 64) : sem T za7 [.int .u64 (prv (i + 1))] = M.pure (w32 (kc.getD i 0)) := by
 have h1 := List.all_eq_true.1 root_all i (List.mem_range.2 h)
 unfold rchk at h1
 split at h1
 ·rename_i b hb
  rw [cp_pure hb]
  simp only [beq_iff_eq] at h1
  rw [h1]; rfl
 ·cases h1
end Go.Ax.SU
/- Su8 -/
namespace Go.Ax.SU
open Go.Ax
theorem wg {ws : List UInt32} {i : Nat} (h : i < ws.length) : (ws.map w32)[i]? = some (w32 (ws.getD i 0)) := by
 rw [List.getElem?_map, List.getElem?_eq_getElem h, List.getD_eq_getElem?_getD, List.getElem?_eq_getElem h]; rfl
theorem wga {ws : List UInt32} {r : List V} {i : Nat} (h : i < ws.length) : (ws.map w32 ++ r)[i]? = some (w32 (ws.getD i 0)) := by
 rw [List.getElem?_append_left (by rw [List.length_map]; exact h), wg h]
theorem set_next {l : List V} {n k : Nat} {z x : V} (hl : l.length = k) (h : k < n) : (l ++ List.replicate (n - k) z).set k x = (l ++ [x]) ++ List.replicate (n - (k + 1)) z := by
 rw [List.set_append_right _ _ (by omega), hl, Nat.sub_self, show n - k = (n - (k + 1)) + 1 by omega, List.replicate_succ, List.set_cons_zero, List.append_assoc]
 rfl
theorem splice_next {l : List V} {n k : Nat} {z x : V} (hl : l.length = k) (h : k < n) : splice (l ++ List.replicate (n - k) z) k [x] = (l ++ [x]) ++ List.replicate (n - (k + 1)) z := by
 rw [sp_set _ _ _ (by rw [List.length_append, List.length_replicate]; omega), set_next hl h]
theorem splice_cons (y : V) (l : List V) (k : Nat) (xs : List V) : splice (y :: l) (k + 1) xs = y :: splice l k xs := by
 unfold splice
 rw [List.take_succ_cons, show k + 1 + xs.length = (k + xs.length) + 1 by omega, List.drop_succ_cons]; rfl
theorem At1.step {k : Nat} {H H' : Heap} (h : At1 k H H') {F : List Nat} (hk : k ∈ F) : Step H H' F F := ⟨h.next, fun i hi hF => h.same i hi fun e => hF (e ▸ hk), fun i hi => .inl hi⟩
theorem kc_take {k : Nat} (h : k < 64) : (kc.take k).map w32 ++ [w32 (kc.getD k 0)] = (kc.take (k + 1)).map w32 := by
 have hl := kc_len
 rw [List.take_add_one, List.getElem?_eq_getElem (by omega), List.getD_eq_getElem?_getD, List.getElem?_eq_getElem (by omega)]
 simp only [List.map_append, Option.toList_some, List.map_cons, List.map_nil, Option.getD_some]
theorem all_1_ok {H : Heap} {b c : Nat} {x0 x1 x2 : V} (hb : H.get b = some ⟨zaI, [.ptr c 0], none⟩) (hc : H.get c = some ⟨zat, x0 :: x1 :: x2 :: List.replicate 64 (.int .u32 0), none⟩) (hbc : b ≠ c) (hbl : b < H.next) :
  Ok (sem T zbf [.ptr b 0]) H fun _ H' => H'.get c = some ⟨zat, x0 :: x1 :: x2 :: kc.map w32, none⟩ ∧ At1 c H H' := by
 refine zd3 ?_
 unfold zcH
 simp (disch := first | omega | (simp only [RY] <;> omega) | decide) only [↓RD, RZ, eq_self, Int.reduceToNat, Int.reduceAdd, Nat.reduceAdd, Nat.reduceSub, Nat.reduceMul, Nat.reduceLeDiff]
 refine zaL (fun k L H' => L = [.int .i64 (prv k : Nat), .int .i64 (k : Nat)] ∧ H'.get c = some ⟨zat, x0 :: x1 :: x2 :: ((kc.take k).map w32 ++ List.replicate (64 - k) (.int .u32 0)), none⟩ ∧ At1 c H H') 64 ?_ ?_ ?_
 ·exact ⟨rfl, by simpa using hc, At1.refl _ _⟩
 ·rintro k L H1 hk ⟨rfl, g1, s1⟩
  obtain ⟨p1, p2, p3, p4⟩ := prime_row hk
  have hb1 : H1.get b = _ := (s1.same b hbl hbc).trans hb
  unfold zbC
  simp (disch := first | omega | (simp only [RY] <;> omega) | decide) only [↓RD, RZ, eq_self, Int.reduceToNat, Int.reduceAdd, Nat.reduceAdd, Nat.reduceSub, Nat.reduceMul, Nat.reduceLeDiff]
  refine zas (Q := fun r H' => r = Res.ex 2 [.int .i64 (prv (k + 1) : Nat)] ∧ H' = H1) ?_ ?_
  ·refine ok_while (fun L H' m => ∃ n : Nat, L = [.int .i64 (n : Nat)] ∧ prv k < n ∧ n ≤ prv (k + 1) ∧ m = prv (k + 1) - n ∧ H' = H1) (prv (k + 1) - (prv k + 1)) ⟨prv k + 1, by simp, by omega, by omega, rfl, rfl⟩ ?_
   rintro L H2 m ⟨n, rfl, n1, n2, rfl, rfl⟩
   have e := prime_eq (n := n) (by omega)
   unfold zck
   cases hp : primes.contains n with
   | true =>
    have : n = prv (k + 1) := by
     rcases Nat.lt_or_ge n (prv (k + 1)) with h | h
     ·rw [p4 n n1 h] at hp; cases hp
     ·omega
    subst this
    simp (disch := first | omega | (simp only [RY] <;> omega) | decide) only [↓RD, RZ, eq_self, Int.reduceToNat, Int.reduceAdd, Nat.reduceAdd, Nat.reduceSub, Nat.reduceMul, Nat.reduceLeDiff, e, hp]
   | false =>
    have : n ≠ prv (k + 1) := by
     rintro rfl
     rw [p2] at hp; cases hp
    simp (disch := first | omega | (simp only [RY] <;> omega) | decide) only [↓RD, RZ, eq_self, Int.reduceToNat, Int.reduceAdd, Nat.reduceAdd, Nat.reduceSub, Nat.reduceMul, Nat.reduceLeDiff, e, hp]
    exact ⟨prv (k + 1) - (n + 1), by omega, n + 1, rfl, by omega, by omega, rfl⟩
  ·rintro r H2 ⟨rfl, rfl⟩
   have er := root_eq hk
   have hl : (((kc.take k).map w32)).length = k := by rw [List.length_map, List.length_take, kc_len]; omega
   have e3 : 3 + k = k + 1 + 1 + 1 := by omega
   simp (disch := first | omega | (simp only [RY] <;> omega) | decide) only [↓RD, RZ, eq_self, Int.reduceToNat, Int.reduceAdd, Nat.reduceAdd, Nat.reduceSub, Nat.reduceMul, Nat.reduceLeDiff, hb1, er, g1, e3, splice_cons, splice_next hl hk, w_ok, w_cells]
   exact ⟨by rw [List.length_append, List.length_replicate, hl]; omega, rfl, by rw [kc_take hk], s1.trans (At1.set c _ _)⟩
 ·rintro L H1 ⟨rfl, g1, s1⟩
  unfold zbC
  simp (disch := first | omega | (simp only [RY] <;> omega) | decide) only [↓RD, RZ, eq_self, Int.reduceToNat, Int.reduceAdd, Nat.reduceAdd, Nat.reduceSub, Nat.reduceMul, Nat.reduceLeDiff]
  refine ⟨?_, s1⟩
  rw [g1, List.take_of_length_le (by rw [kc_len]; exact Nat.le_refl _)]
  simp
def conC : Bool → List V
 | false => .int .u32 0 :: .int .i32 0 :: .int .u32 0 :: List.replicate 64 (.int .u32 0)
 | true => .int .u32 1 :: .int .i32 0 :: .int .u32 0 :: kc.map w32
theorem consts_ok {H : Heap} {c : Nat} {d : Bool} (hc : H.get c = some ⟨zat, conC d, none⟩) (hcl : c < H.next) :
  Ok (sem T zbt [.ptr c 0]) H fun r H' => r = .ptr c 3 ∧ H'.get c = some ⟨zat, conC true, none⟩ ∧ Step H H' [c] [c] := by
 refine zeA ?_
 unfold zdb
 simp (disch := first | omega | (simp only [RY] <;> omega) | decide) only [↓RD, RZ, eq_self, Int.reduceToNat, Int.reduceAdd, Nat.reduceAdd, Nat.reduceSub, Nat.reduceMul, Nat.reduceLeDiff]
 have s1 := Grow.new H ⟨zaI, [.ptr c 0], none⟩
 have gb : (H.new ⟨zaI, [.ptr c 0], none⟩).get H.next = _ := zad _ _
 have gc := (s1.same c hcl).trans hc
 have nb : H.next < (H.new ⟨zaI, [.ptr c 0], none⟩).next := by rw [zaf]; omega
 have hne : H.next ≠ c := by omega
 have n1 := s1.next
 generalize hgb : H.next = b at *
 generalize H.new _ = H1 at *
 refine zae (P := fun r H' => H'.get b = some ⟨zaI, [.ptr c 0], none⟩ ∧ H'.get c = some ⟨zat, conC true, none⟩ ∧ At1 c H1 H') ?_ ?_
 ·cases d with
  | true =>
   refine zas (once_done gc rfl) ?_
   rintro _ _ ⟨rfl, rfl⟩
   exact ⟨gb, gc, At1.refl _ _⟩
  | false =>
   refine zas (once_slow (P := fun H' => H'.get b = some ⟨zaI, [.ptr c 0], none⟩ ∧ H'.get c = some ⟨zat, conC true, none⟩ ∧ At1 c H1 H') gc rfl rfl ?_) ?_
   ·refine zas (all_1_ok (c := c) (by rw [zah _ _ hne]; exact gb) (by rw [zai]; rfl) hne (by rw [zal]; exact nb)) ?_
    rintro _ H2 ⟨g2, s2⟩
    have hb2 : H2.get b = some ⟨zaI, [.ptr c 0], none⟩ := by rw [s2.same b (by rw [zal]; exact nb) hne, zah _ _ hne]; exact gb
    refine ⟨_, g2, rfl, rfl, ?_, ?_, ?_⟩
    ·rw [zah _ _ hne, zah _ _ hne, hb2]
    ·rw [zai]; rfl
    ·exact (At1.set c H1 _).trans (s2.trans ((At1.set c H2 _).trans (At1.set c _ _)))
   ·rintro _ H2 ⟨_, h2⟩
    exact h2
 ·rintro r H2 ⟨g1, g2, s2⟩
  simp (disch := first | omega | (simp only [RY] <;> omega) | decide) only [↓RD, RZ, eq_self, Int.reduceToNat, Int.reduceAdd, Nat.reduceAdd, Nat.reduceSub, Nat.reduceMul, Nat.reduceLeDiff, g1]
  exact ⟨g2, ⟨Nat.le_trans (by omega) s2.next, fun i hi hF => by rw [s2.same i (by omega) (by simpa using hF), s1.same i (by omega)], fun i hi => .inl hi⟩⟩
/-! Words. -/
theorem turn_eq (x : UInt32) (n : Nat) (h0 : 0 < n) (h1 : n < 32) : sem T zaq [w32 x, .int .i64 (n : Nat)] = M.pure (w32 (rotr x n)) := by
 refine pure_of_ok fun H => ?_
 refine zfV ?_
 unfold zfg
 have e1 : IntKind.i64.wrap (0 - (n : Int)) = -(n : Int) := by rw [wrap_i64 (by omega) (by omega)]; omega
 have e2 : IntKind.u64.wrap (-(n : Int)) = ((18446744073709551616 - n : Nat) : Int) := by rw [wrap_u64]; omega
 have e3 : Ax.bin .and (.int .u64 ((18446744073709551616 - n : Nat) : Int)) (.int .u64 31) = some (.int .u64 ((32 - n : Nat) : Int)) := by
  rw [and_u64 (by omega) (by omega) (by omega) (by omega)]
  congr 3
  rw [Int.toNat_natCast]
  show (18446744073709551616 - n) &&& (2 ^ 5 - 1) = 32 - n
  rw [Nat.and_two_pow_sub_one_eq_mod]
  omega
 have e4 : Ax.bin .sub (.int .u64 32) (.int .u64 ((32 - n : Nat) : Int)) = some (.int .u64 (n : Nat)) := by
  rw [bin_sub, wrap_u64]
  congr 2
  omega
 have e5 := w_rot x (k := .u64) (k' := .u64) (n := n) (a := ((32 - n : Nat) : Int)) (b := (n : Nat)) rfl rfl
 have e6 : Ok (sem T zaX [w32 x, .int .i64 (-(n : Int))]) H fun r H' => r = w32 (rotr x n) ∧ H' = H := by
  refine zdr ?_
  unfold zcc
  obtain ⟨u, hu, hu2⟩ := Option.bind_eq_some_iff.1 e5
  obtain ⟨v, hv, hv2⟩ := Option.bind_eq_some_iff.1 hu2
  simp (disch := first | omega | (simp only [RY] <;> omega) | decide) only [↓RD, RZ, eq_self, Int.reduceToNat, Int.reduceAdd, Nat.reduceAdd, Nat.reduceSub, Nat.reduceMul, Nat.reduceLeDiff, e2, e3, hu, e4, hv, hv2]
 simp (disch := first | omega | (simp only [RY] <;> omega) | decide) only [↓RD, RZ, eq_self, Int.reduceToNat, Int.reduceAdd, Nat.reduceAdd, Nat.reduceSub, Nat.reduceMul, Nat.reduceLeDiff, e1]
 exact zae e6 (by rintro _ _ ⟨rfl, rfl⟩; simp (disch := first | omega | (simp only [RY] <;> omega) | decide) only [↓RD, RZ, eq_self, Int.reduceToNat, Int.reduceAdd, Nat.reduceAdd, Nat.reduceSub, Nat.reduceMul, Nat.reduceLeDiff])
theorem or_add (a b k : Nat) (h : b < 2 ^ k) : a * 2 ^ k ||| b = a * 2 ^ k + b := by
 have := Nat.shiftLeft_add_eq_or_of_lt (i := k) (b := b) h a
 rw [Nat.shiftLeft_eq] at this
 exact this.symm
theorem word_ok {lo : Nat} {H : Heap} {v : V} {l : List Nat} (h : By lo H v l) (h8 : Ok8 l) (hl : 4 ≤ l.length) : Ok (sem T zcy [v]) H fun r H' => r = w32 (word l 0) ∧ H' = H := by
 refine zfU ?_
 unfold zff
 obtain ⟨p0, i0, l0, -⟩ := by_at h (i := 0) (by omega) (by omega)
 obtain ⟨p1, i1, l1, -⟩ := by_at h (i := 1) (by omega) (by omega)
 obtain ⟨p2, i2, l2, -⟩ := by_at h (i := 2) (by omega) (by omega)
 obtain ⟨p3, i3, l3, -⟩ := by_at h (i := 3) (by omega) (by omega)
 have b0 := h8.getD 0
 have b1 := h8.getD 1
 have b2 := h8.getD 2
 have b3 := h8.getD 3
 have e0 : (0 : Int).toNat = 0 := rfl
 have e1 : (1 : Int).toNat = 1 := rfl
 have e2 : (2 : Int).toNat = 2 := rfl
 have e3 : (3 : Int).toNat = 3 := rfl
 rw [e0] at l0
 rw [e1] at l1
 rw [e2] at l2
 rw [e3] at l3
 have hw : word l 0 = UInt32.ofNat (be [l.getD 0 0, l.getD 1 0, l.getD 2 0, l.getD 3 0]) := rfl
 rw [hw, ← w_nat _ (by simp only [be, List.foldl_cons, List.foldl_nil]; omega)]
 have hb : be [l.getD 0 0, l.getD 1 0, l.getD 2 0, l.getD 3 0] = l.getD 0 0 * 16777216 + l.getD 1 0 * 65536 + l.getD 2 0 * 256 + l.getD 3 0 := by simp only [be, List.foldl_cons, List.foldl_nil]; omega
 rw [hb]
 generalize l.getD 0 0 = a0 at *
 generalize l.getD 1 0 = a1 at *
 generalize l.getD 2 0 = a2 at *
 generalize l.getD 3 0 = a3 at *
 have m0 : a0 * 16777216 % 4294967296 = a0 * 16777216 := Nat.mod_eq_of_lt (by omega)
 have m1 : a1 * 65536 % 4294967296 = a1 * 65536 := Nat.mod_eq_of_lt (by omega)
 have m2 : a2 * 256 % 4294967296 = a2 * 256 := Nat.mod_eq_of_lt (by omega)
 have o1 : a0 * 16777216 ||| a1 * 65536 = a0 * 16777216 + a1 * 65536 := or_add a0 _ 24 (by omega)
 have o2 : a0 * 16777216 + a1 * 65536 ||| a2 * 256 = a0 * 16777216 + a1 * 65536 + a2 * 256 := by
  have := or_add (a0 * 256 + a1) (a2 * 256) 16 (by omega)
  rw [show (a0 * 256 + a1) * 2 ^ 16 = a0 * 16777216 + a1 * 65536 by omega] at this
  exact this
 have o3 : a0 * 16777216 + a1 * 65536 + a2 * 256 ||| a3 = a0 * 16777216 + a1 * 65536 + a2 * 256 + a3 := by
  have := or_add (a0 * 65536 + a1 * 256 + a2) a3 8 (by omega)
  rw [show (a0 * 65536 + a1 * 256 + a2) * 2 ^ 8 = a0 * 16777216 + a1 * 65536 + a2 * 256 by omega] at this
  exact this
 simp (disch := first | omega | (simp only [RY] <;> omega) | decide) only [↓RD, RZ, eq_self, Int.reduceToNat, Int.reduceAdd, Nat.reduceAdd, Nat.reduceSub, Nat.reduceMul, Nat.reduceLeDiff, i0, l0, i1, l1, i2, l2, i3, l3, m0, m1, m2, o1, o2, o3]
end Go.Ax.SU
/- Su9 -/
namespace Go.Ax.SU
open Go.Ax
theorem t7 (x : UInt32) : sem T zaq [w32 x, .int .i64 7] = M.pure (w32 (rotr x 7)) := turn_eq x 7 (by omega) (by omega)
theorem t18 (x : UInt32) : sem T zaq [w32 x, .int .i64 18] = M.pure (w32 (rotr x 18)) := turn_eq x 18 (by omega) (by omega)
theorem t17 (x : UInt32) : sem T zaq [w32 x, .int .i64 17] = M.pure (w32 (rotr x 17)) := turn_eq x 17 (by omega) (by omega)
theorem t19 (x : UInt32) : sem T zaq [w32 x, .int .i64 19] = M.pure (w32 (rotr x 19)) := turn_eq x 19 (by omega) (by omega)
theorem t6 (x : UInt32) : sem T zaq [w32 x, .int .i64 6] = M.pure (w32 (rotr x 6)) := turn_eq x 6 (by omega) (by omega)
theorem t11 (x : UInt32) : sem T zaq [w32 x, .int .i64 11] = M.pure (w32 (rotr x 11)) := turn_eq x 11 (by omega) (by omega)
theorem t25 (x : UInt32) : sem T zaq [w32 x, .int .i64 25] = M.pure (w32 (rotr x 25)) := turn_eq x 25 (by omega) (by omega)
theorem t2 (x : UInt32) : sem T zaq [w32 x, .int .i64 2] = M.pure (w32 (rotr x 2)) := turn_eq x 2 (by omega) (by omega)
theorem t13 (x : UInt32) : sem T zaq [w32 x, .int .i64 13] = M.pure (w32 (rotr x 13)) := turn_eq x 13 (by omega) (by omega)
theorem t22 (x : UInt32) : sem T zaq [w32 x, .int .i64 22] = M.pure (w32 (rotr x 22)) := turn_eq x 22 (by omega) (by omega)
theorem s3 (x : UInt32) : Ax.bin .shr (w32 x) (.int .u64 3) = some (w32 (shr32 x 3)) := w_shr x (by omega)
theorem s10 (x : UInt32) : Ax.bin .shr (w32 x) (.int .u64 10) = some (w32 (shr32 x 10)) := w_shr x (by omega)
theorem word_at (l : List Nat) (k : Nat) (n : Nat) (hn : 4 ≤ n) : word ((l.drop (4 * k)).take n) 0 = word l k := by
 unfold word
 congr 2
 simp only [getD_take (show 4 * 0 < n by omega), getD_take (show 4 * 0 + 1 < n by omega), getD_take (show 4 * 0 + 2 < n by omega), getD_take (show 4 * 0 + 3 < n by omega), getD_drop]
 rfl
theorem wl_snoc (l : List Nat) (k : Nat) : wl l (k + 1) = wl l k ++ [if k < 16 then word l k else wnext (wl l k) k] := rfl
theorem piece0_ok {lo wb : Nat} {H : Heap} {v : V} {l : List Nat} (hv : By lo H v l) (h8 : Ok8 l) (hl : l.length = 64) (hw : H.get wb = some ⟨zbv, List.replicate 64 (.int .u32 0), none⟩) (hp : v.pid ≠ some wb) (hwl : wb < H.next) :
  Ok (M.iter (za6 (sem T) v (.ptr wb 0)) [.int .i64 0]) H fun r H' => r = .ex 0 [] ∧ H'.get wb = some ⟨zbv, (wl l 64).map w32, none⟩ ∧ At1 wb H H' := by
 refine zaL (fun k L H' => L = [.int .i64 (k : Nat)] ∧ H'.get wb = some ⟨zbv, (wl l k).map w32 ++ List.replicate (64 - k) (.int .u32 0), none⟩ ∧ At1 wb H H') 64 ?_ ?_ ?_
 ·exact ⟨rfl, hw, At1.refl _ _⟩
 ·rintro k L H1 hk ⟨rfl, g1, s1⟩
  have hv1 := hv.at1 s1 hp
  have hln : (wl l k).length = k := wl_len l k
  have hlm : ((wl l k).map w32).length = k := by rw [List.length_map, hln]
  have hlr : ((wl l k).map w32 ++ List.replicate (64 - k) (V.int .u32 0)).length = 64 := by rw [List.length_append, hlm, List.length_replicate]; omega
  unfold za6
  by_cases h16 : k < 16
  ·obtain ⟨v', hs, -, hs', hv', -⟩ := by_slice hv1 (x := ((4 * k : Nat) : Int)) (y := (l.length : Nat)) (by omega) (by omega) (by omega)
   have hs2 : ∀ {k' : IntKind}, vslice .sl 1 v (some (.int k' ((4 * k : Nat) : Int))) none none = some v' := hs' rfl
   have e4 : (4 : Int) * (k : Int) = ((4 * k : Nat) : Int) := by omega
   have hlen : ((l.drop (4 * k)).take (l.length - 4 * k)).length = l.length - 4 * k := by rw [List.length_take, List.length_drop]; omega
   have ew := @zb0 _ _ _ _ (word_ok hv' ((h8.drop _).take _) (by simp only [Int.toNat_natCast]; omega))
   simp only [Int.toNat_natCast] at ew
   rw [word_at l k _ (by omega)] at ew
   simp (disch := first | omega | (simp only [RY] <;> omega) | decide) only [↓RD, RZ, eq_self, Int.reduceToNat, Int.reduceAdd, Nat.reduceAdd, Nat.reduceSub, Nat.reduceMul, Nat.reduceLeDiff, e4, hs2, ew, g1, splice_next hlm hk, w_ok, w_cells, hlr]
   refine ⟨by omega, rfl, ?_, s1.trans (At1.set wb _ _)⟩
   rw [wl_snoc, if_pos h16]
   simp
  ·have w15 := wga (ws := wl l k) (r := List.replicate (64 - k) (V.int .u32 0)) (i := k - 15) (by omega)
   have w2 := wga (ws := wl l k) (r := List.replicate (64 - k) (V.int .u32 0)) (i := k - 2) (by omega)
   have w16 := wga (ws := wl l k) (r := List.replicate (64 - k) (V.int .u32 0)) (i := k - 16) (by omega)
   have w7 := wga (ws := wl l k) (r := List.replicate (64 - k) (V.int .u32 0)) (i := k - 7) (by omega)
   have e15 : (k : Int) - 15 = ((k - 15 : Nat) : Int) := by omega
   have e2 : (k : Int) - 2 = ((k - 2 : Nat) : Int) := by omega
   have e16 : (k : Int) - 16 = ((k - 16 : Nat) : Int) := by omega
   have e7 : (k : Int) - 7 = ((k - 7 : Nat) : Int) := by omega
   simp (disch := first | omega | (simp only [RY] <;> omega) | decide) only [↓RD, RZ, eq_self, Int.reduceToNat, Int.reduceAdd, Nat.reduceAdd, Nat.reduceSub, Nat.reduceMul, Nat.reduceLeDiff, e15, e2, e16, e7, w15, w2, w16, w7, t7, t18, t17, t19, s3, s10, w_add, w_xor, g1, splice_next hlm hk, w_ok, w_cells, hlr]
   refine ⟨by omega, rfl, ?_, s1.trans (At1.set wb _ _)⟩
   rw [wl_snoc, if_neg h16]
   simp [wnext, sg0, sg1]
 ·rintro L H1 ⟨rfl, g1, s1⟩
  unfold za6
  simp (disch := first | omega | (simp only [RY] <;> omega) | decide) only [↓RD, RZ, eq_self, Int.reduceToNat, Int.reduceAdd, Nat.reduceAdd, Nat.reduceSub, Nat.reduceMul, Nat.reduceLeDiff]
  refine ⟨?_, s1⟩
  rw [g1]
  simp
theorem piece1_ok {c wb vb : Nat} {H : Heap} {l : List Nat} {h : List UInt32} {x0 x1 x2 : V} (hh : h.length = 8) (hc : H.get c = some ⟨zat, x0 :: x1 :: x2 :: kc.map w32, none⟩) (hw : H.get wb = some ⟨zbv, (wl l 64).map w32, none⟩)
  (hb : H.get vb = some ⟨zbb, h.map w32, none⟩) (h1 : vb ≠ c) (h2 : vb ≠ wb) (hcl : c < H.next) (hwl : wb < H.next) :
  Ok (M.iter (za5 (sem T) (.ptr c 3) (.ptr wb 0) (.ptr vb 0)) [.int .i64 0]) H fun r H' => r = .ex 2 [] ∧ H'.get vb = some ⟨zbb, (rnds kc (wl l 64) h 64).map w32, none⟩ ∧ At1 vb H H' := by
 refine zaL (fun k L H' => L = [.int .i64 (k : Nat)] ∧ H'.get vb = some ⟨zbb, (rnds kc (wl l 64) h k).map w32, none⟩ ∧ At1 vb H H') 64 ?_ ?_ ?_
 ·exact ⟨rfl, hb, At1.refl _ _⟩
 ·rintro k L H1 hk ⟨rfl, g1, s1⟩
  have gc := (s1.same c hcl (Ne.symm h1)).trans hc
  have gw := (s1.same wb hwl (Ne.symm h2)).trans hw
  have hl8 : (rnds kc (wl l 64) h k).length = 8 := rnds_len hh k
  have hlm : ((rnds kc (wl l 64) h k).map w32).length = 8 := by rw [List.length_map, hl8]
  have v0 := wg (ws := rnds kc (wl l 64) h k) (i := 0) (by omega)
  have v1 := wg (ws := rnds kc (wl l 64) h k) (i := 1) (by omega)
  have v2 := wg (ws := rnds kc (wl l 64) h k) (i := 2) (by omega)
  have v3 := wg (ws := rnds kc (wl l 64) h k) (i := 3) (by omega)
  have v4 := wg (ws := rnds kc (wl l 64) h k) (i := 4) (by omega)
  have v5 := wg (ws := rnds kc (wl l 64) h k) (i := 5) (by omega)
  have v6 := wg (ws := rnds kc (wl l 64) h k) (i := 6) (by omega)
  have v7 := wg (ws := rnds kc (wl l 64) h k) (i := 7) (by omega)
  have wk := wg (ws := wl l 64) (i := k) (by rw [wl_len]; exact hk)
  have kk := wg (ws := kc) (i := k) (by rw [kc_len]; exact hk)
  have e3 : 3 + k = k + 1 + 1 + 1 := by omega
  have hsp : ∀ (L : List V), L.length = 8 → splice ((rnds kc (wl l 64) h k).map w32) 0 L = L := fun L hL => by
   unfold splice
   rw [List.take_zero, List.nil_append, hL, List.drop_of_length_le (by rw [hlm]; omega), List.append_nil]
  unfold za5
  have er : rnds kc (wl l 64) h (k + 1) = rnd (rnds kc (wl l 64) h k) (kc.getD k 0) ((wl l 64).getD k 0) := rfl
  rw [er]
  generalize rnds kc (wl l 64) h k = vs at *
  simp (disch := first | omega | (simp only [RY] <;> omega) | decide) only [↓RD, RZ, eq_self, Int.reduceToNat, Int.reduceAdd, Nat.reduceAdd, Nat.reduceSub, Nat.reduceMul, Nat.reduceLeDiff, g1, v0, v1, v2, v3, v4, v5, v6, v7, gc, gw, e3, wk, kk, t6, t11, t25, t2, t13, t22, w_add, w_xor, w_and, w_not, w_ok, w_cells, hlm]
  refine ⟨rfl, ?_, s1.trans (At1.set vb _ _)⟩
  rw [hsp _ rfl]
  rfl
 ·rintro L H1 ⟨rfl, g1, s1⟩
  unfold za5
  simp (disch := first | omega | (simp only [RY] <;> omega) | decide) only [↓RD, RZ, eq_self, Int.reduceToNat, Int.reduceAdd, Nat.reduceAdd, Nat.reduceSub, Nat.reduceMul, Nat.reduceLeDiff]
  exact ⟨g1, s1⟩
end Go.Ax.SU
/- Su10 -/
namespace Go.Ax.SU
open Go.Ax
theorem gD {α : Type} (l : List α) (d : α) {i : Nat} (h : i < l.length) : l[i] = l.getD i d := by rw [List.getD_eq_getElem?_getD, List.getElem?_eq_getElem h]; rfl
def part (h w : List UInt32) (k : Nat) : List UInt32 := (List.range 8).map fun i => if i < k then h.getD i 0 + w.getD i 0 else h.getD i 0
theorem part_len (h w : List UInt32) (k : Nat) : (part h w k).length = 8 := by simp [part]
theorem part_getD (h w : List UInt32) (k : Nat) {i : Nat} (hi : i < 8) : (part h w k).getD i 0 = if i < k then h.getD i 0 + w.getD i 0 else h.getD i 0 := by
 unfold part
 rw [List.getD_eq_getElem?_getD, List.getElem?_map, List.getElem?_range hi]; rfl
theorem part_zero {h : List UInt32} (w : List UInt32) (hh : h.length = 8) : part h w 0 = h := by
 refine List.ext_getElem (by rw [part_len, hh]) fun i h1 h2 => ?_
 have := part_getD h w 0 (i := i) (by omega)
 rw [List.getD_eq_getElem?_getD, List.getD_eq_getElem?_getD, List.getElem?_eq_getElem h1, List.getElem?_eq_getElem h2] at this
 simpa using this
theorem part_set {h w : List UInt32} {k : Nat} (hk : k < 8) : (part h w k).set k (h.getD k 0 + w.getD k 0) = part h w (k + 1) := by
 refine List.ext_getElem (by rw [List.length_set, part_len, part_len]) fun i h1 h2 => ?_
 have hi : i < 8 := by rw [part_len] at h2; exact h2
 rw [List.getElem_set, gD _ 0 h2, part_getD h w (k + 1) hi]
 by_cases e : k = i
 ·subst e; rw [if_pos rfl, if_pos (by omega)]
 ·rw [if_neg e, gD (part h w k) 0 (by rw [part_len]; exact hi), part_getD h w k hi]
  by_cases hl : i < k
  ·rw [if_pos hl, if_pos (by omega)]
  ·rw [if_neg hl, if_neg (by omega)]
theorem piece2_ok {s vb : Nat} {H : Heap} {h ws : List UInt32} {r : List V} (hh : h.length = 8) (hw : ws.length = 8) (hs : H.get s = some ⟨zak, h.map w32 ++ r, none⟩) (hb : H.get vb = some ⟨zbb, ws.map w32, none⟩) (hne : vb ≠ s) (hvl : vb < H.next) :
  Ok (M.iter (za4 (sem T) (.ptr s 0) (.ptr vb 0)) [.int .i64 0]) H fun x H' => x = .ex 4 [] ∧ H'.get s = some ⟨zak, ((List.range 8).map fun i => h.getD i 0 + ws.getD i 0).map w32 ++ r, none⟩ ∧ At1 s H H' := by
 refine zaL (fun k L H' => L = [.int .i64 (k : Nat)] ∧ H'.get s = some ⟨zak, (part h ws k).map w32 ++ r, none⟩ ∧ At1 s H H') 8 ?_ ?_ ?_
 ·exact ⟨rfl, by rw [part_zero ws hh]; exact hs, At1.refl _ _⟩
 ·rintro k L H1 hk ⟨rfl, g1, s1⟩
  have gb := (s1.same vb hvl hne).trans hb
  have i1 := wga (ws := part h ws k) (r := r) (i := k) (by rw [part_len]; exact hk)
  have i2 := wg (ws := ws) (i := k) (by omega)
  rw [part_getD h ws k hk, if_neg (by omega)] at i1
  have hl : ((part h ws k).map w32 ++ r).length = 8 + r.length := by rw [List.length_append, List.length_map, part_len]
  have hsp : splice ((part h ws k).map w32 ++ r) k [w32 (h.getD k 0 + ws.getD k 0)] = (part h ws (k + 1)).map w32 ++ r := by
   rw [sp_set _ _ _ (by rw [hl]; omega), List.set_append_left _ _ (by rw [List.length_map, part_len]; exact hk), ← List.map_set, part_set hk]
  unfold za4
  simp (disch := first | omega | (simp only [RY] <;> omega) | decide) only [↓RD, RZ, eq_self, Int.reduceToNat, Int.reduceAdd, Nat.reduceAdd, Nat.reduceSub, Nat.reduceMul, Nat.reduceLeDiff, g1, gb, i1, i2, w_add, w_ok, w_cells, hsp, hl]
  exact ⟨by omega, rfl, s1.trans (At1.set s _ _)⟩
 ·rintro L H1 ⟨rfl, g1, s1⟩
  unfold za4
  simp (disch := first | omega | (simp only [RY] <;> omega) | decide) only [↓RD, RZ, eq_self, Int.reduceToNat, Int.reduceAdd, Nat.reduceAdd, Nat.reduceSub, Nat.reduceMul, Nat.reduceLeDiff]
  refine ⟨?_, s1⟩
  rw [g1]
  have : part h ws 8 = (List.range 8).map fun i => h.getD i 0 + ws.getD i 0 := List.map_congr_left fun i hi => by rw [if_pos (List.mem_range.1 hi)]
  rw [this]
theorem st8 {h : List UInt32} (hh : h.length = 8) (a b c : V) : (h.map w32 ++ [a, b, c])[8]? = some a := by rw [List.getElem?_append_right (by rw [List.length_map]; omega), List.length_map, hh]; rfl
theorem st9 {h : List UInt32} (hh : h.length = 8) (a b c : V) : (h.map w32 ++ [a, b, c])[9]? = some b := by rw [List.getElem?_append_right (by rw [List.length_map]; omega), List.length_map, hh]; rfl
theorem st10 {h : List UInt32} (hh : h.length = 8) (a b c : V) : (h.map w32 ++ [a, b, c])[10]? = some c := by rw [List.getElem?_append_right (by rw [List.length_map]; omega), List.length_map, hh]; rfl
theorem stl {h : List UInt32} (hh : h.length = 8) (a b c : V) : (h.map w32 ++ [a, b, c]).length = 11 := by rw [List.length_append, List.length_map, hh]; rfl
theorem sp8 {h : List UInt32} (hh : h.length = 8) (a b c x : V) : splice (h.map w32 ++ [a, b, c]) 8 [x] = h.map w32 ++ [x, b, c] := by
 rw [sp_set _ _ _ (by rw [stl hh]; omega), List.set_append_right _ _ (by rw [List.length_map]; omega), List.length_map, hh]; rfl
theorem sp9 {h : List UInt32} (hh : h.length = 8) (a b c x : V) : splice (h.map w32 ++ [a, b, c]) 9 [x] = h.map w32 ++ [a, x, c] := by
 rw [sp_set _ _ _ (by rw [stl hh]; omega), List.set_append_right _ _ (by rw [List.length_map]; omega), List.length_map, hh]; rfl
theorem ld8 {h : List UInt32} (hh : h.length = 8) (r : List V) : ldc (some 8) (h.map w32 ++ r) 0 = some (.agg (h.map w32)) := by
 rw [ldc_some (by rw [List.length_append, List.length_map, hh]; omega), List.drop_zero, List.take_left' (by rw [List.length_map, hh])]
theorem piece_ok {lo s c : Nat} {H : Heap} {v bv nv : V} {l : List Nat} {h : List UInt32} {d : Bool} (hs : H.get s = some ⟨zak, h.map w32 ++ [bv, nv, .ptr c 0], none⟩) (hh : h.length = 8) (hc : H.get c = some ⟨zat, conC d, none⟩)
  (hv : By lo H v l) (h8 : Ok8 l) (hl : l.length = 64) (hne : s ≠ c) (hvs : v.pid ≠ some s) (hvc : v.pid ≠ some c) (hsl : s < H.next) (hcl : c < H.next) :
  Ok (sem T zaK [.ptr s 0, v]) H fun r H' => r = .tup [] ∧ H'.get s = some ⟨zak, (comp kc h l).map w32 ++ [bv, nv, .ptr c 0], none⟩ ∧ H'.get c = some ⟨zat, conC true, none⟩ ∧ Step H H' [s, c] [s, c] := by
 refine zd4 ?_
 unfold zcI
 have i10 := st10 hh bv nv (.ptr c 0)
 simp (disch := first | omega | (simp only [RY] <;> omega) | decide) only [↓RD, RZ, eq_self, Int.reduceToNat, Int.reduceAdd, Nat.reduceAdd, Nat.reduceSub, Nat.reduceMul, Nat.reduceLeDiff, hs, i10]
 refine zae (consts_ok hc hcl) ?_
 rintro _ H1 ⟨rfl, gc1, s1⟩
 have gs1 := (s1.same s hsl (by simpa using hne)).trans hs
 have hv1 : By lo H1 v l := hv.at1 ⟨s1.next, fun i hi hk => s1.same i hi (by simpa using hk)⟩ hvc
 have n1 := s1.next
 simp (disch := first | omega | (simp only [RY] <;> omega) | decide) only [↓RD, RZ, eq_self, Int.reduceToNat, Int.reduceAdd, Nat.reduceAdd, Nat.reduceSub, Nat.reduceMul, Nat.reduceLeDiff]
 have e64 : [V.int .u32 0, .int .u32 0, .int .u32 0, .int .u32 0, .int .u32 0, .int .u32 0, .int .u32 0, .int .u32 0, .int .u32 0, .int .u32 0, .int .u32 0, .int .u32 0, .int .u32 0, .int .u32 0, .int .u32 0, .int .u32 0, .int .u32 0, .int .u32 0, .int .u32 0, .int .u32 0, .int .u32 0, .int .u32 0, .int .u32 0, .int .u32 0, .int .u32 0, .int .u32 0, .int .u32 0, .int .u32 0, .int .u32 0, .int .u32 0, .int .u32 0, .int .u32 0, .int .u32 0, .int .u32 0, .int .u32 0, .int .u32 0, .int .u32 0, .int .u32 0, .int .u32 0, .int .u32 0, .int .u32 0, .int .u32 0, .int .u32 0, .int .u32 0, .int .u32 0, .int .u32 0, .int .u32 0, .int .u32 0, .int .u32 0, .int .u32 0, .int .u32 0, .int .u32 0, .int .u32 0, .int .u32 0, .int .u32 0, .int .u32 0, .int .u32 0, .int .u32 0, .int .u32 0, .int .u32 0, .int .u32 0, .int .u32 0, .int .u32 0, .int .u32 0] = List.replicate 64 (.int .u32 0) := rfl
 rw [e64]
 have s2 := Grow.new H1 ⟨zbv, List.replicate 64 (.int .u32 0), none⟩
 have gw2 : (H1.new ⟨zbv, List.replicate 64 (.int .u32 0), none⟩).get H1.next = _ := zad _ _
 have nb2 : H1.next < (H1.new ⟨zbv, List.replicate 64 (.int .u32 0), none⟩).next := by rw [zaf]; omega
 have gs2 := (s2.same s (by omega)).trans gs1
 have gc2 := (s2.same c (by omega)).trans gc1
 have hv2 := hv1.ext s2
 have hvw : v.pid ≠ some H1.next := fun e => by have := (hv1.own _ e).2; omega
 have n2 := s2.next
 generalize hwb : H1.next = wb at *
 generalize H1.new _ = H2 at *
 refine zas (piece0_ok hv2 h8 hl gw2 hvw nb2) ?_
 rintro _ H3 ⟨rfl, gw3, s3⟩
 have n3 := s3.next
 have gs3 := (s3.same s (by omega) (by omega)).trans gs2
 have gc3 := (s3.same c (by omega) (by omega)).trans gc2
 have e8 := ld8 hh [bv, nv, .ptr c 0]
 have hlm : (h.map w32).length = 8 := by rw [List.length_map, hh]
 have hok : V.okc (.agg (h.map w32)) = true := by
  simp only [V.okc, List.all_map, List.all_eq_true]
  try (intro x _; rfl)
 have hsp : ∀ L : List V, L.length = 8 → splice L 0 (h.map w32) = h.map w32 := fun L hL => by
  unfold splice
  rw [List.take_zero, List.nil_append, hlm, List.drop_of_length_le (by omega), List.append_nil]
 simp (disch := first | omega | (simp only [RY] <;> omega) | decide) only [↓RD, RZ, eq_self, Int.reduceToNat, Int.reduceAdd, Nat.reduceAdd, Nat.reduceSub, Nat.reduceMul, Nat.reduceLeDiff, gs3, e8, hok, hlm, hsp]
 have g4 : ∀ i, i < H3.next → ((H3.new ⟨zbb, [V.int .u32 0, .int .u32 0, .int .u32 0, .int .u32 0, .int .u32 0, .int .u32 0, .int .u32 0, .int .u32 0], none⟩).set H3.next (some ⟨zbb, h.map w32, none⟩)).get i = H3.get i := fun i hi => by rw [zah _ _ (by omega), zaJ _ _ (by omega)]
 have gv4 : ((H3.new ⟨zbb, [V.int .u32 0, .int .u32 0, .int .u32 0, .int .u32 0, .int .u32 0, .int .u32 0, .int .u32 0, .int .u32 0], none⟩).set H3.next (some ⟨zbb, h.map w32, none⟩)).get H3.next = _ := zai _ _ _
 have n4 : ((H3.new ⟨zbb, [V.int .u32 0, .int .u32 0, .int .u32 0, .int .u32 0, .int .u32 0, .int .u32 0, .int .u32 0, .int .u32 0], none⟩).set H3.next (some ⟨zbb, h.map w32, none⟩)).next = H3.next + 1 := by rw [zal, zaf]
 generalize hvb : H3.next = vb at *
 generalize (H3.new _).set _ _ = H4 at *
 have gc4 := (g4 c (by omega)).trans gc3
 have gs4 := (g4 s (by omega)).trans gs3
 have gw4 := (g4 wb (by omega)).trans gw3
 refine zas (piece1_ok hh gc4 gw4 gv4 (by omega) (by omega) (by omega) (by omega)) ?_
 rintro _ H5 ⟨rfl, gv5, s5⟩
 have n5 := s5.next
 have gs5 := (s5.same s (by omega) (by omega)).trans gs4
 have gc5 := (s5.same c (by omega) (by omega)).trans gc4
 simp (disch := first | omega | (simp only [RY] <;> omega) | decide) only [↓RD, RZ, eq_self, Int.reduceToNat, Int.reduceAdd, Nat.reduceAdd, Nat.reduceSub, Nat.reduceMul, Nat.reduceLeDiff]
 refine zas (piece2_ok hh (rnds_len hh 64) gs5 gv5 (by omega) (by omega)) ?_
 rintro _ H6 ⟨rfl, gs6, s6⟩
 have n6 := s6.next
 simp (disch := first | omega | (simp only [RY] <;> omega) | decide) only [↓RD, RZ, eq_self, Int.reduceToNat, Int.reduceAdd, Nat.reduceAdd, Nat.reduceSub, Nat.reduceMul, Nat.reduceLeDiff]
 refine ⟨rfl, gs6, (s6.same c (by omega) (Ne.symm hne)).trans gc5, ⟨by omega, fun i hi hF => ?_, fun i hi => .inl hi⟩⟩
 simp only [List.mem_cons, List.not_mem_nil, or_false, not_or] at hF
 rw [s6.same i (by omega) hF.1, s5.same i (by omega) (by omega), g4 i (by omega), s3.same i (by omega) (by omega), s2.same i (by omega), s1.same i hi (by simpa using hF.2)]
end Go.Ax.SU
/- Su11 -/
namespace Go.Ax.SU
open Go.Ax
theorem _root_.Go.Ax.Lc.stepF {e lo n : Nat} {H H' : Heap} {v : V} {cells : List V} {F F' : List Nat} (h : Lc e lo H v cells n) (s : Step H H' F F') (hd : ∀ i, v.pid = some i → i ∉ F) : Lc e lo H' v cells n :=
 ⟨by rw [rcells_to fun i hi => s.same i (h.own i hi).2 (hd i hi)]; exact h.rc, fun i hi => ⟨(h.own i hi).1, Nat.lt_of_lt_of_le (h.own i hi).2 s.next⟩, h.cap⟩
structure St (H : Heap) (s c : Nat) (bv : V) (h : List UInt32) (b Fb : List Nat) (n : Nat) : Prop where
 gs : H.get s = some ⟨zak, h.map w32 ++ [bv, .int .u64 (n : Nat), .ptr c 0], none⟩
 gc : ∃ d, H.get c = some ⟨zat, conC d, none⟩
 bf : Buf H bv b Fb
 hl : h.length = 8
 ne : s ≠ c
 sb : s ∉ Fb
 cb : c ∉ Fb
 sl : s < H.next
 cl : c < H.next
def Str (H : Heap) (s : Nat) (m F : List Nat) : Prop := ∃ c bv Fb, F = s :: c :: Fb ∧ St H s c bv (hs kc m) (tl m) Fb m.length ∧ Ok8 m
theorem St.low {H : Heap} {s c : Nat} {bv : V} {h : List UInt32} {b Fb : List Nat} {n : Nat} (h : St H s c bv h b Fb n) : ∀ i ∈ s :: c :: Fb, i < H.next := by
 intro i hi
 rcases List.mem_cons.1 hi with rfl | hi
 ·exact h.sl
 ·rcases List.mem_cons.1 hi with rfl | hi
  ·exact h.cl
  ·exact h.bf.low i hi
theorem St.to {H H' : Heap} {s c : Nat} {bv : V} {h : List UInt32} {b Fb : List Nat} {n : Nat} (k : St H s c bv h b Fb n) (hn : H.next ≤ H'.next) (hs : ∀ i ∈ s :: c :: Fb, H'.get i = H.get i) : St H' s c bv h b Fb n :=
 ⟨by rw [hs s (by simp)]; exact k.gs, by obtain ⟨d, hd⟩ := k.gc; exact ⟨d, by rw [hs c (by simp)]; exact hd⟩, k.bf.to hn fun i hi => hs i (by simp [hi]), k.hl, k.ne, k.sb, k.cb, Nat.lt_of_lt_of_le k.sl hn, Nat.lt_of_lt_of_le k.cl hn⟩
theorem St.piece {lo : Nat} {H : Heap} {s c : Nat} {bv v : V} {h : List UInt32} {b Fb l : List Nat} {n : Nat} (k : St H s c bv h b Fb n) (hv : By lo H v l) (h8 : Ok8 l) (hl : l.length = 64) (hvs : v.pid ≠ some s) (hvc : v.pid ≠ some c) :
  Ok (sem T zaK [.ptr s 0, v]) H fun r H' => r = .tup [] ∧ St H' s c bv (comp kc h l) b Fb n ∧ Step H H' [s, c] [s, c] := by
 obtain ⟨d, hd⟩ := k.gc
 refine zas (piece_ok k.gs k.hl hd hv h8 hl k.ne hvs hvc k.sl k.cl) ?_
 rintro _ H' ⟨rfl, g1, g2, s1⟩
 refine ⟨rfl, ⟨g1, ⟨true, g2⟩, k.bf.to s1.next fun i hi => s1.same i (k.bf.low i hi) fun e => ?_, zgw _ _ _, k.ne, k.sb, k.cb, Nat.lt_of_lt_of_le k.sl s1.next, Nat.lt_of_lt_of_le k.cl s1.next⟩, s1⟩
 simp only [List.mem_cons, List.not_mem_nil, or_false] at e
 rcases e with rfl | rfl
 ·exact k.sb hi
 ·exact k.cb hi
theorem step_wide {H H' : Heap} {s c : Nat} (h : Step H H' [s, c] [s, c]) (Fb : List Nat) : Step H H' (s :: c :: Fb) (s :: c :: Fb) :=
 ⟨h.next, fun i hi hF => h.same i hi fun k => hF (by simp only [List.mem_cons, List.not_mem_nil, or_false] at k; simp only [List.mem_cons]; rcases k with rfl | rfl <;> simp), fun i hi => .inl hi⟩
theorem pieces_ok {lo : Nat} {H : Heap} {s c : Nat} {bv v : V} {m Fb p : List Nat} {n : Nat} (k : St H s c bv (hs kc m) [] Fb n) (hm : m.length % 64 = 0) (hv : By lo H v p) (h8 : Ok8 p) (hd : ∀ i, v.pid = some i → i ∉ s :: c :: Fb) :
  Ok (M.iter (zbp (sem T) (.ptr s 0)) [v]) H fun r H' => ∃ v', r = .ex 0 [v'] ∧ v'.pid = v.pid ∧ By lo H' v' (p.drop (64 * (p.length / 64))) ∧ St H' s c bv (hs kc (m ++ p.take (64 * (p.length / 64)))) [] Fb n ∧ Step H H' (s :: c :: Fb) (s :: c :: Fb) := by
 refine zaL (fun j L H' => ∃ v', L = [v'] ∧ v'.pid = v.pid ∧ By lo H' v' (p.drop (64 * j)) ∧ St H' s c bv (hs kc (m ++ p.take (64 * j))) [] Fb n ∧ Step H H' (s :: c :: Fb) (s :: c :: Fb)) (p.length / 64) ?_ ?_ ?_
 ·exact ⟨v, rfl, rfl, by simpa using hv, by simpa using k, Step.refl _ _⟩
 ·rintro j L H1 hj ⟨v1, rfl, p1, b1, k1, s1⟩
  have hlen : (p.drop (64 * j)).length = p.length - 64 * j := List.length_drop
  have hvs : v1.pid ≠ some s := fun e => hd s (p1 ▸ e) (by simp)
  have hvc : v1.pid ≠ some c := fun e => hd c (p1 ▸ e) (by simp)
  obtain ⟨va, -, ha, -, hva, pa⟩ := by_slice b1 (x := 0) (y := 64) (by omega) (by omega) (by omega)
  have ha2 : ∀ {k' : IntKind}, vslice .sl 1 v1 none (some (.int k' 64)) none = some va := ha rfl
  obtain ⟨vb, -, -, hb, hvb, pb⟩ := by_slice b1 (x := 64) (y := ((p.drop (64 * j)).length : Nat)) (by omega) (by omega) (by omega)
  have hb2 : ∀ {k' : IntKind}, vslice .sl 1 v1 (some (.int k' 64)) none none = some vb := hb rfl
  have hvl := b1.vlen
  have hle : (64 : Int) ≤ ((p.drop (64 * j)).length : Nat) := by omega
  have e64 : (64 : Int).toNat = 64 := rfl
  have e0 : (0 : Int).toNat = 0 := rfl
  rw [e64, e0, List.drop_zero] at hva
  rw [e64, Int.toNat_natCast, List.drop_drop] at hvb
  unfold zbp
  simp (disch := first | omega | (simp only [RY] <;> omega) | decide) only [↓RD, RZ, eq_self, Int.reduceToNat, Int.reduceAdd, Nat.reduceAdd, Nat.reduceSub, Nat.reduceMul, Nat.reduceLeDiff, hvl, hle, ha2]
  refine zae (k1.piece hva ((h8.drop _).take _) (by rw [List.length_take, hlen]; omega) (by rw [pa]; exact hvs) (by rw [pa]; exact hvc)) ?_
  rintro _ H2 ⟨rfl, k2, s2⟩
  have hm1 : (m ++ p.take (64 * j)).length % 64 = 0 := by rw [List.length_append, List.length_take]; omega
  have e2 : comp kc (hs kc (m ++ p.take (64 * j))) ((p.drop (64 * j)).take (64 - 0)) = hs kc (m ++ p.take (64 * (j + 1))) := by
   rw [← hs_piece hm1 (by rw [List.length_take, hlen]; omega), List.append_assoc, ← List.take_add]
   rfl
  rw [e2] at k2
  have hvb2 : By lo H2 vb (p.drop (64 * (j + 1))) := by
   have e3 : (p.drop (64 * j + 64)).take ((p.drop (64 * j)).length - 64) = p.drop (64 * (j + 1)) := by
    rw [List.take_of_length_le (by rw [List.length_drop, hlen]; omega)]; rfl
   rw [e3] at hvb
   exact hvb.stepF s2 fun i hi => by rw [pb, p1] at hi; have := hd i hi; simp only [List.mem_cons, not_or] at this; simp only [List.mem_cons, List.not_mem_nil, or_false, not_or]; exact ⟨this.1, this.2.1⟩
  simp (disch := first | omega | (simp only [RY] <;> omega) | decide) only [↓RD, RZ, eq_self, Int.reduceToNat, Int.reduceAdd, Nat.reduceAdd, Nat.reduceSub, Nat.reduceMul, Nat.reduceLeDiff, hb2]
  exact ⟨vb, rfl, by rw [pb, p1], hvb2, k2, s1.trans (step_wide s2 Fb)⟩
 ·rintro L H1 ⟨v1, rfl, p1, b1, k1, s1⟩
  have hvl := b1.vlen
  have hlen : (p.drop (64 * (p.length / 64))).length = p.length - 64 * (p.length / 64) := List.length_drop
  have hlt : ((p.drop (64 * (p.length / 64))).length : Int) < 64 := by omega
  unfold zbp
  simp (disch := first | omega | (simp only [RY] <;> omega) | decide) only [↓RD, RZ, eq_self, Int.reduceToNat, Int.reduceAdd, Nat.reduceAdd, Nat.reduceSub, Nat.reduceMul, Nat.reduceLeDiff, hvl, hlt]
  exact ⟨v1, rfl, p1, b1, k1, s1⟩
theorem St.rest {β : Type} {lo : Nat} {H : Heap} {s c : Nat} {bv v : V} {h : List UInt32} {b Fb p : List Nat} {n : Nat} {f : V → M β} {Q : β → Heap → Prop} (k : St H s c bv h b Fb n) (hv : By lo H v p) (hp : b.length + p.length ≤ 64)
  (hQ : ∀ bv' H' Fb', St (H'.set s (some ⟨zak, h.map w32 ++ [bv', .int .u64 (n : Nat), .ptr c 0], none⟩)) s c bv' h (b ++ p) Fb' n → H'.get s = some ⟨zak, h.map w32 ++ [bv, .int .u64 (n : Nat), .ptr c 0], none⟩ →
   bv'.cells = [bv'] → bv'.okc = true → Step H H' Fb Fb' → (∀ i ∈ Fb', i ≠ s ∧ i ≠ c) → Ok (f bv') H' Q) : Ok ((mappend zac 1 1 bv v).bind f) H Q := by
 refine zgR k.bf hv.ac hp fun bv' H' Fb' b1 s1 => ?_
 have nss : ∀ i ∈ Fb', i ≠ s ∧ i ≠ c := fun i hi => by
  rcases s1.own i hi with h1 | h1
  ·exact ⟨fun e => k.sb (e ▸ h1), fun e => k.cb (e ▸ h1)⟩
  ·have := k.sl; have := k.cl
   exact ⟨by omega, by omega⟩
 have gs := (s1.same s k.sl k.sb).trans k.gs
 obtain ⟨d, hd⟩ := k.gc
 have gc := (s1.same c k.cl k.cb).trans hd
 refine hQ bv' H' Fb' ⟨zai _ _ _, ⟨d, by rw [zah _ _ (Ne.symm k.ne)]; exact gc⟩, b1.to (by rw [zal]; exact Nat.le_refl _) fun i hi => zah _ _ (nss i hi).1, k.hl, k.ne, fun e => (nss s e).1 rfl, fun e => (nss c e).2 rfl, ?_, ?_⟩ gs b1.cells1 b1.okc s1 nss
 ·rw [zal]; exact Nat.lt_of_lt_of_le k.sl s1.next
 ·rw [zal]; exact Nat.lt_of_lt_of_le k.cl s1.next
theorem Add_ok {lo : Nat} {H : Heap} {s : Nat} {v : V} {m F p : List Nat} (k : Str H s m F) (hv : By lo H v p) (h8 : Ok8 p) (hd : ∀ i, v.pid = some i → i ∉ F) (hlen : m.length + p.length ≤ 1125899906842624) :
  Ok (sem T zaH [.ptr s 0, v]) H fun r H' => r = .tup [] ∧ ∃ F', Str H' s (m ++ p) F' ∧ Step H H' F F' := by
 obtain ⟨c, bv, Fb, rfl, k, hm8⟩ := k
 refine zeC ?_
 unfold zdd
 have hvl := hv.vlen
 have i8 := st8 k.hl
 have i9 := st9 k.hl
 have q8 := sp8 k.hl
 have q9 := sp9 k.hl
 have ql := stl k.hl
 have hm : (m.length : Int) + (p.length : Int) = ((m.length + p.length : Nat) : Int) := rfl
 have hbl := k.bf.vlen
 have gs := k.gs
 have tll := tl_len m
 have k1 : St (H.set s (some ⟨zak, (hs kc m).map w32 ++ [bv, .int .u64 ((m.length + p.length : Nat) : Int), .ptr c 0], none⟩)) s c bv (hs kc m) (tl m) Fb (m.length + p.length) := by
  obtain ⟨d, hdc⟩ := k.gc
  exact ⟨zai _ _ _, ⟨d, by rw [zah _ _ (Ne.symm k.ne)]; exact hdc⟩, k.bf.to (by rw [zal]; exact Nat.le_refl _) fun i hi => zah _ _ fun e => k.sb (e ▸ hi), k.hl, k.ne, k.sb, k.cb, by rw [zal]; exact k.sl, by rw [zal]; exact k.cl⟩
 have s1 : Step H (H.set s (some ⟨zak, (hs kc m).map w32 ++ [bv, .int .u64 ((m.length + p.length : Nat) : Int), .ptr c 0], none⟩)) (s :: c :: Fb) (s :: c :: Fb) := Step.set _ (by simp)
 have hv1 := hv.stepF s1 hd
 simp (disch := first | omega | (simp only [RY] <;> omega) | decide) only [↓RD, RZ, eq_self, Int.reduceToNat, Int.reduceAdd, Nat.reduceAdd, Nat.reduceSub, Nat.reduceMul, Nat.reduceLeDiff, gs, i8, i9, hvl, hm, q9, ql, hbl]
 clear gs
 generalize H.set s _ = H1 at *
 have gs1 := k1.gs
 refine zas (Q := fun r H' => (r = .ret [] ∧ ∃ F', Str H' s (m ++ p) F' ∧ Step H1 H' (s :: c :: Fb) F') ∨
  (∃ v1 q bv1 Fb1, r = .nrm [v1] ∧ q ≤ p.length ∧ (m.length + q) % 64 = 0 ∧ v1.pid = v.pid ∧ By lo H' v1 (p.drop q) ∧ St H' s c bv1 (hs kc (m ++ p.take q)) [] Fb1 (m.length + p.length) ∧ Step H1 H' (s :: c :: Fb) (s :: c :: Fb1))) ?_ ?_
 ·refine zby (fun hpos => ?_) fun hpos => ?_
  ·have hr : 0 < (tl m).length := by omega
   have hr2 : (tl m).length < 64 := by omega
   rcases Nat.lt_or_ge p.length (64 - (tl m).length) with hc | hc
   ·have hmin : Ax.minmax false (.int .i64 (64 - ((tl m).length : Nat) : Int)) [.int .i64 (p.length : Nat)] = some (.int .i64 (p.length : Nat)) := by
     simp only [Ax.minmax, min2]
     rw [if_neg (by decide), if_pos (by omega)]
     rfl
    obtain ⟨va, -, ha, -, hva, pa⟩ := by_slice hv1 (x := 0) (y := (p.length : Nat)) (by omega) (by omega) (by omega)
    have ha2 : ∀ {k' : IntKind}, vslice .sl 1 v none (some (.int k' ((p.length : Nat) : Int))) none = some va := ha rfl
    have e0 : (0 : Int).toNat = 0 := rfl
    rw [e0, List.drop_zero, Int.toNat_natCast, Nat.sub_zero, List.take_length] at hva
    simp (disch := first | omega | (simp only [RY] <;> omega) | decide) only [↓RD, RZ, eq_self, Int.reduceToNat, Int.reduceAdd, Nat.reduceAdd, Nat.reduceSub, Nat.reduceMul, Nat.reduceLeDiff, gs1, i8, hbl, hvl, hmin, ha2]
    refine k1.rest hva (by omega) fun bv2 H2 Fb2 k2 g2 c2 o2 s2 n2 => ?_
    obtain ⟨vb, -, -, hb, -, -⟩ := by_slice hv1 (x := ((p.length : Nat) : Int)) (y := (p.length : Nat)) (by omega) (by omega) (by omega)
    have hb2 : ∀ {k' : IntKind}, vslice .sl 1 v (some (.int k' ((p.length : Nat) : Int))) none none = some vb := hb rfl
    have hbl2 := k2.bf.vlen
    have hlt : (((tl m ++ p).length : Nat) : Int) < 64 := by rw [List.length_append]; omega
    simp (disch := first | omega | (simp only [RY] <;> omega) | decide) only [↓RD, RZ, eq_self, Int.reduceToNat, Int.reduceAdd, Nat.reduceAdd, Nat.reduceSub, Nat.reduceMul, Nat.reduceLeDiff, g2, i8, q8, ql, c2, o2, hb2, hbl2, hlt]
    refine .inl ⟨s :: c :: Fb2, ⟨c, bv2, Fb2, rfl, ?_, hm8.app h8⟩, ((s2.cons c).cons s).trans (Step.set _ (by simp))⟩
    obtain ⟨e1, e2⟩ := hs_few (ks := kc) (m := m) (l := p) (by omega)
    rw [e1, e2, List.length_append]
    exact k2
   ·have hmin : Ax.minmax false (.int .i64 (64 - ((tl m).length : Nat) : Int)) [.int .i64 (p.length : Nat)] = some (.int .i64 ((64 - (tl m).length : Nat) : Int)) := by
     simp only [Ax.minmax, min2]
     rw [if_neg (by decide)]
     by_cases e : ((p.length : Nat) : Int) < 64 - ((tl m).length : Nat)
     ·omega
     ·rw [if_neg e]
      show some (V.int .i64 _) = _
      congr 2
      omega
    generalize hq : 64 - (tl m).length = q at *
    obtain ⟨va, -, ha, -, hva, pa⟩ := by_slice hv1 (x := 0) (y := (q : Nat)) (by omega) (by omega) (by omega)
    have ha2 : ∀ {k' : IntKind}, vslice .sl 1 v none (some (.int k' ((q : Nat) : Int))) none = some va := ha rfl
    have e0 : (0 : Int).toNat = 0 := rfl
    rw [e0, List.drop_zero, Int.toNat_natCast, Nat.sub_zero] at hva
    have hlq : (p.take q).length = q := by rw [List.length_take]; omega
    simp (disch := first | omega | (simp only [RY] <;> omega) | decide) only [↓RD, RZ, eq_self, Int.reduceToNat, Int.reduceAdd, Nat.reduceAdd, Nat.reduceSub, Nat.reduceMul, Nat.reduceLeDiff, gs1, i8, hbl, hvl, hmin, ha2]
    refine k1.rest hva (by omega) fun bv2 H2 Fb2 k2 g2 c2 o2 s2 n2 => ?_
    obtain ⟨vb, -, -, hb, hvb, pb⟩ := by_slice hv1 (x := ((q : Nat) : Int)) (y := (p.length : Nat)) (by omega) (by omega) (by omega)
    have hb2 : ∀ {k' : IntKind}, vslice .sl 1 v (some (.int k' ((q : Nat) : Int))) none none = some vb := hb rfl
    rw [Int.toNat_natCast, Int.toNat_natCast, List.take_of_length_le (by rw [List.length_drop]; exact Nat.le_refl _)] at hvb
    have hbl2 := k2.bf.vlen
    have hl64 : (tl m ++ p.take q).length = 64 := by rw [List.length_append]; omega
    have hlt : (64 : Int) ≤ (((tl m ++ p.take q).length : Nat) : Int) := by omega
    have st2 : Step H1 (H2.set s (some ⟨zak, (hs kc m).map w32 ++ [bv2, .int .u64 ((m.length + p.length : Nat) : Int), .ptr c 0], none⟩)) (s :: c :: Fb) (s :: c :: Fb2) := ((s2.cons c).cons s).trans (Step.set _ (by simp))
    simp (disch := first | omega | (simp only [RY] <;> omega) | decide) only [↓RD, RZ, eq_self, Int.reduceToNat, Int.reduceAdd, Nat.reduceAdd, Nat.reduceSub, Nat.reduceMul, Nat.reduceLeDiff, g2, i8, q8, ql, c2, o2, hb2, hbl2, hlt]
    clear g2
    generalize H2.set s _ = H3 at *
    have g3 := k2.gs
    have npid : bv2.pid ≠ some s ∧ bv2.pid ≠ some c := ⟨fun e => (n2 s (k2.bf.pid s e)).1 rfl, fun e => (n2 c (k2.bf.pid c e)).2 rfl⟩
    refine zae (k2.piece k2.bf.by (Ok8.app (Ok8.drop hm8 _) (h8.take q)) hl64 npid.1 npid.2) ?_
    rintro _ H4 ⟨rfl, k4, s4⟩
    rw [← hs_fill (by omega)] at k4
    obtain ⟨bv5, hcut, b5⟩ := k4.bf.cut hl64
    have hcut2 : ∀ {k' : IntKind}, vslice .sl 1 bv2 none (some (.int k' 0)) none = some bv5 := hcut
    have j8 := st8 k4.hl
    have r8 := sp8 k4.hl
    have rl := stl k4.hl
    have g4 := k4.gs
    have c5 := b5.cells1
    have o5 := b5.okc
    simp (disch := first | omega | (simp only [RY] <;> omega) | decide) only [↓RD, RZ, eq_self, Int.reduceToNat, Int.reduceAdd, Nat.reduceAdd, Nat.reduceSub, Nat.reduceMul, Nat.reduceLeDiff, g4, j8, hcut2, r8, rl, c5, o5]
    have st5 := st2.trans ((step_wide s4 Fb2).trans (Step.set (H := H4) (some ⟨zak, (hs kc (m ++ p.take q)).map w32 ++ [bv5, .int .u64 ((m.length + p.length : Nat) : Int), .ptr c 0], none⟩) (by simp : s ∈ s :: c :: Fb2)))
    refine .inr ⟨vb, q, bv5, Fb2, rfl, by omega, by omega, pb, hvb.stepF st5 fun i hi => hd i (pb ▸ hi), ?_, st5⟩
    obtain ⟨d4, hd4⟩ := k4.gc
    exact ⟨zai _ _ _, ⟨d4, by rw [zah _ _ (Ne.symm k4.ne)]; exact hd4⟩, b5.to (by rw [zal]; exact Nat.le_refl _) fun i hi => zah _ _ (n2 i hi).1, k4.hl, k4.ne, k4.sb, k4.cb, by rw [zal]; exact k4.sl, by rw [zal]; exact k4.cl⟩
  ·simp (disch := first | omega | (simp only [RY] <;> omega) | decide) only [↓RD, RZ, eq_self, Int.reduceToNat, Int.reduceAdd, Nat.reduceAdd, Nat.reduceSub, Nat.reduceMul, Nat.reduceLeDiff]
   refine .inr ⟨v, 0, bv, Fb, rfl, by omega, by omega, rfl, by simpa using hv1, ?_, Step.refl _ _⟩
   have : tl m = [] := List.eq_nil_of_length_eq_zero (by omega)
   rw [this] at k1
   simpa using k1
 ·rintro r H2 (⟨rfl, F', k2, s2⟩ | ⟨v1, q, bv1, Fb1, rfl, hq, hmq, p1, b1, k2, s2⟩)
  ·simp (disch := first | omega | (simp only [RY] <;> omega) | decide) only [↓RD, RZ, eq_self, Int.reduceToNat, Int.reduceAdd, Nat.reduceAdd, Nat.reduceSub, Nat.reduceMul, Nat.reduceLeDiff]
   exact ⟨rfl, F', k2, s1.trans s2⟩
  ·have hlq : (p.take q).length = q := by rw [List.length_take]; omega
   have hlm : (m ++ p.take q).length = m.length + q := by rw [List.length_append, hlq]
   have hd1 : ∀ i, v1.pid = some i → i ∉ s :: c :: Fb1 := fun i hi hF => by
    have := hd i (p1 ▸ hi)
    rcases s2.own i hF with h | h
    ·exact this h
    ·have := (hv1.own i (p1 ▸ hi)).2
     omega
   simp (disch := first | omega | (simp only [RY] <;> omega) | decide) only [↓RD, RZ, eq_self, Int.reduceToNat, Int.reduceAdd, Nat.reduceAdd, Nat.reduceSub, Nat.reduceMul, Nat.reduceLeDiff]
   refine zas (pieces_ok k2 (by rw [hlm]; exact hmq) b1 (h8.drop q) hd1) ?_
   rintro _ H3 ⟨v3, rfl, p3, b3, k3, s3⟩
   have i8' := st8 k3.hl
   have r8 := sp8 k3.hl
   have rl := stl k3.hl
   have g3 := k3.gs
   have hld : (p.drop q).length = p.length - q := List.length_drop
   have hlt : ((p.drop q).drop (64 * ((p.drop q).length / 64))).length < 64 := by rw [List.length_drop]; omega
   have hk3m : (m ++ p.take q ++ (p.drop q).take (64 * ((p.drop q).length / 64))).length % 64 = 0 := by rw [List.length_append, hlm, List.length_take]; omega
   simp (disch := first | omega | (simp only [RY] <;> omega) | decide) only [↓RD, RZ, eq_self, Int.reduceToNat, Int.reduceAdd, Nat.reduceAdd, Nat.reduceSub, Nat.reduceMul, Nat.reduceLeDiff, g3, i8']
   refine k3.rest b3 (by rw [List.length_nil]; omega) fun bv4 H4 Fb4 k4 g4 c4 o4 s4 n4 => ?_
   simp (disch := first | omega | (simp only [RY] <;> omega) | decide) only [↓RD, RZ, eq_self, Int.reduceToNat, Int.reduceAdd, Nat.reduceAdd, Nat.reduceSub, Nat.reduceMul, Nat.reduceLeDiff, g4, r8, rl, c4, o4]
   refine ⟨rfl, s :: c :: Fb4, ⟨c, bv4, Fb4, rfl, ?_, hm8.app h8⟩, s1.trans (s2.trans (s3.trans (((s4.cons c).cons s).trans (Step.set _ (by simp)))))⟩
   have ep : m ++ p = (m ++ p.take q ++ (p.drop q).take (64 * ((p.drop q).length / 64))) ++ (p.drop q).drop (64 * ((p.drop q).length / 64)) := by
    rw [List.append_assoc, List.take_append_drop, List.append_assoc, List.take_append_drop]
   obtain ⟨e1, e2⟩ := hs_few (ks := kc) (m := m ++ p.take q ++ (p.drop q).take (64 * ((p.drop q).length / 64))) (l := (p.drop q).drop (64 * ((p.drop q).length / 64))) (by omega)
   rw [tl_whole hk3m] at e2
   rw [List.length_append]
   rw [ep, e1, e2]
   exact k4
end Go.Ax.SU
/- Su12 -/
namespace Go.Ax.SU
open Go.Ax
theorem Str.low {H : Heap} {s : Nat} {m F : List Nat} (h : Str H s m F) : ∀ i ∈ F, i < H.next := by
 obtain ⟨c, bv, Fb, rfl, k, _⟩ := h
 exact k.low
theorem Str.to {H H' : Heap} {s : Nat} {m F : List Nat} (h : Str H s m F) (hn : H.next ≤ H'.next) (hs : ∀ i ∈ F, H'.get i = H.get i) : Str H' s m F := by
 obtain ⟨c, bv, Fb, rfl, k, h8⟩ := h
 exact ⟨c, bv, Fb, rfl, k.to hn hs, h8⟩
theorem Str.grow {H H' : Heap} {s : Nat} {m F : List Nat} (h : Str H s m F) (g : Grow H H') : Str H' s m F := h.to g.next fun i hi => g.same i (h.low i hi)
theorem New_ok {H : Heap} : Ok (sem T zcj []) H fun r H' => ∃ s F, r = .ptr s 0 ∧ Str H' s [] F ∧ (∀ i ∈ F, H.next ≤ i) ∧ Grow H H' := by
 refine zf4 ?_
 unfold zft
 simp (disch := first | omega | (simp only [RY] <;> omega) | decide) only [↓RD, RZ, eq_self, Int.reduceToNat, Int.reduceAdd, Nat.reduceAdd, Nat.reduceSub, Nat.reduceMul, Nat.reduceLeDiff]
 have gc : ((H.new ⟨zat, conC false, none⟩).new ⟨zak, h0.map w32 ++ [.nils, .int .u64 ((0 : Nat) : Int), .ptr H.next 0], none⟩).get H.next = some ⟨zat, conC false, none⟩ := by
  rw [zaJ _ _ (by rw [zaf]; omega), zad]
 have gs : ((H.new ⟨zat, conC false, none⟩).new ⟨zak, h0.map w32 ++ [.nils, .int .u64 ((0 : Nat) : Int), .ptr H.next 0], none⟩).get (H.next + 1) = some ⟨zak, h0.map w32 ++ [.nils, .int .u64 ((0 : Nat) : Int), .ptr H.next 0], none⟩ := by
  rw [zge _ _ (by rw [zaf])]
 have nx : ((H.new ⟨zat, conC false, none⟩).new ⟨zak, h0.map w32 ++ [.nils, .int .u64 ((0 : Nat) : Int), .ptr H.next 0], none⟩).next = H.next + 2 := by rw [zaf, zaf]
 refine ⟨H.next + 1, [H.next + 1, H.next], rfl, ⟨H.next, .nils, [], rfl, ⟨gs, ⟨false, gc⟩, .nil, rfl, by omega, by simp, by simp, ?_, ?_⟩, Ok8.nil⟩, fun i hi => ?_, (Grow.new _ _).trans (Grow.new _ _)⟩
 ·show H.next + 1 < _
  exact Nat.lt_of_lt_of_eq (by omega) nx.symm
 ·show H.next < _
  exact Nat.lt_of_lt_of_eq (by omega) nx.symm
 ·simp only [List.mem_cons, List.not_mem_nil, or_false] at hi
  omega
theorem Copy_ok {H : Heap} {s : Nat} {m F : List Nat} (k : Str H s m F) : Ok (sem T zbl [.ptr s 0]) H fun r H' => ∃ t c Fb, r = .ptr t 0 ∧ Str H' t m (t :: c :: Fb) ∧ c ∈ F ∧ H.next ≤ t ∧ (∀ i ∈ Fb, H.next ≤ i) ∧ Grow H H' := by
 obtain ⟨c, bv, Fb, rfl, k, hm8⟩ := k
 refine zed ?_
 unfold zcR
 have gs := k.gs
 have ql := stl k.hl bv (.int .u64 (m.length : Nat)) (.ptr c 0)
 have hld : ldc (some 11) ((hs kc m).map w32 ++ [bv, .int .u64 (m.length : Nat), .ptr c 0]) 0 = some (.agg ((hs kc m).map w32 ++ [bv, .int .u64 (m.length : Nat), .ptr c 0])) := by
  rw [ldc_some (by omega), List.drop_zero, List.take_of_length_le (by omega)]
 have hok : V.okc (.agg ((hs kc m).map w32 ++ [bv, .int .u64 (m.length : Nat), .ptr c 0])) = true := by
  have o := k.bf.okc
  simp only [V.okc, List.all_append, List.all_map, Bool.and_eq_true]
  skip
 have hsp : ∀ L : List V, L.length = 11 → splice L 0 ((hs kc m).map w32 ++ [bv, .int .u64 (m.length : Nat), .ptr c 0]) = (hs kc m).map w32 ++ [bv, .int .u64 (m.length : Nat), .ptr c 0] := fun L hL => by
  unfold splice
  rw [List.take_zero, List.nil_append, ql, List.drop_of_length_le (by omega), List.append_nil]
 have i8 := st8 k.hl
 have hsl := k.sl
 have hcl := k.cl
 have hsp2 := sp8 k.hl
 have h1 : ∀ i, i < H.next → ((H.new ⟨zak, [.int .u32 0, .int .u32 0, .int .u32 0, .int .u32 0, .int .u32 0, .int .u32 0, .int .u32 0, .int .u32 0, .nils, .int .u64 0, .nilp], none⟩).set H.next (some ⟨zak, (hs kc m).map w32 ++ [bv, .int .u64 (m.length : Nat), .ptr c 0], none⟩)).get i = H.get i := fun i hi => by rw [zah _ _ (by omega), zaJ _ _ (by omega)]
 have g1 : ((H.new ⟨zak, [.int .u32 0, .int .u32 0, .int .u32 0, .int .u32 0, .int .u32 0, .int .u32 0, .int .u32 0, .int .u32 0, .nils, .int .u64 0, .nilp], none⟩).set H.next (some ⟨zak, (hs kc m).map w32 ++ [bv, .int .u64 (m.length : Nat), .ptr c 0], none⟩)).get H.next = _ := zai _ _ _
 have n1 : ((H.new ⟨zak, [.int .u32 0, .int .u32 0, .int .u32 0, .int .u32 0, .int .u32 0, .int .u32 0, .int .u32 0, .int .u32 0, .nils, .int .u64 0, .nilp], none⟩).set H.next (some ⟨zak, (hs kc m).map w32 ++ [bv, .int .u64 (m.length : Nat), .ptr c 0], none⟩)).next = H.next + 1 := by rw [zal, zaf]
 simp (disch := first | omega | (simp only [RY] <;> omega) | decide) only [↓RD, RZ, eq_self, Int.reduceToNat, Int.reduceAdd, Nat.reduceAdd, Nat.reduceSub, Nat.reduceMul, Nat.reduceLeDiff, gs, hld, hok, hsp, ql, i8]
 clear gs
 generalize hnx : H.next = t at *
 generalize (H.new _).set _ _ = H1 at *
 have b1 := k.bf.to (H' := H1) (by omega) fun i hi => h1 i (hnx ▸ k.bf.low i hi)
 refine zgR .nil b1.by.ac (by have := tl_len m; rw [List.length_nil]; omega) fun x' H2 F2 b2 s2 => ?_
 have gt2 := (s2.same t (by omega) (by simp)).trans g1
 have c2 := b2.cells1
 have o2 := b2.okc
 have q2 := stl k.hl bv (.int .u64 (m.length : Nat)) (.ptr c 0)
 have n2 := s2.next
 have f2 : ∀ i ∈ F2, t < i := fun i hi => by
  rcases s2.own i hi with h | h
  ·cases h
  ·omega
 simp (disch := first | omega | (simp only [RY] <;> omega) | decide) only [↓RD, RZ, eq_self, Int.reduceToNat, Int.reduceAdd, Nat.reduceAdd, Nat.reduceSub, Nat.reduceMul, Nat.reduceLeDiff, gt2, hsp2, q2, c2, o2]
 obtain ⟨d, hd⟩ := k.gc
 have gc2 : H2.get c = some ⟨zat, conC d, none⟩ := by rw [s2.same c (by omega) (by simp), h1 c hcl]; exact hd
 refine ⟨t, c, F2, rfl, ⟨c, x', F2, rfl, ⟨zai _ _ _, ⟨d, by rw [zah _ _ (by omega)]; exact gc2⟩, ?_, k.hl, by omega, fun e => by have := f2 t e; omega, fun e => by have := f2 c e; omega, by rw [zal]; omega, by rw [zal]; omega⟩, hm8⟩, by simp, Nat.le_refl _, fun i hi => by have := f2 i hi; omega, ⟨by rw [zal]; omega, fun i hi => ?_⟩⟩
 ·rw [List.nil_append] at b2
  exact b2.to (by rw [zal]; exact Nat.le_refl _) fun i hi => zah _ _ (by have := f2 i hi; omega)
 ·rw [zah _ _ (by omega), s2.same i (by omega) (by simp), h1 i (by omega)]
end Go.Ax.SU
/- Su13 -/
namespace Go.Ax.SU
open Go.Ax
theorem w_cint8 (x : UInt32) : Ax.cint .u8 (w32 x) = some (by8 (x.toNat % 256)) := by
 unfold w32 by8
 rw [cint_int, wrap_u8]
 rfl
theorem s24 (x : UInt32) : Ax.bin .shr (w32 x) (.int .u64 24) = some (w32 (shr32 x 24)) := w_shr x (by omega)
theorem s16 (x : UInt32) : Ax.bin .shr (w32 x) (.int .u64 16) = some (w32 (shr32 x 16)) := w_shr x (by omega)
theorem s8 (x : UInt32) : Ax.bin .shr (w32 x) (.int .u64 8) = some (w32 (shr32 x 8)) := w_shr x (by omega)
theorem n24 (x : UInt32) : (shr32 x 24).toNat = x.toNat / 16777216 := by rw [shr32_nat, Nat.shiftRight_eq_div_pow]
theorem n16 (x : UInt32) : (shr32 x 16).toNat = x.toNat / 65536 := by rw [shr32_nat, Nat.shiftRight_eq_div_pow]
theorem n8 (x : UInt32) : (shr32 x 8).toNat = x.toNat / 256 := by rw [shr32_nat, Nat.shiftRight_eq_div_pow]
theorem by8_ok (n : Nat) : (by8 n).okc = true := rfl
theorem by8_cells (n : Nat) : (by8 n).cells = [by8 n] := rfl
theorem wbytes_app (a b : List UInt32) : wbytes (a ++ b) = wbytes a ++ wbytes b := by unfold wbytes; rw [List.map_append, List.flatten_append]
theorem take_w {h : List UInt32} {k : Nat} (hk : k < h.length) : h.take (k + 1) = h.take k ++ [h.getD k 0] := by
 rw [List.take_add_one, List.getElem?_eq_getElem hk, List.getD_eq_getElem?_getD, List.getElem?_eq_getElem hk]; rfl
theorem out_ok {H : Heap} {o r : Nat} {h : List UInt32} (hh : h.length = 8) (ho : H.get o = some ⟨zag, List.replicate 32 (.int .u8 0), none⟩) :
  Ok (M.iter (zbo (sem T) (.agg (h.map w32)) (.ptr o 0) (.ptr r 0)) [.int .i64 0]) H fun x H' => x = .ex 4 [] ∧ H'.get o = some ⟨zag, (wbytes h).map by8, none⟩ ∧ At1 o H H' := by
 refine zaL (fun k L H' => L = [.int .i64 (k : Nat)] ∧ H'.get o = some ⟨zag, (wbytes (h.take k)).map by8 ++ List.replicate (32 - 4 * k) (.int .u8 0), none⟩ ∧ At1 o H H') 8 ?_ ?_ ?_
 ·exact ⟨rfl, by simpa [wbytes] using ho, At1.refl _ _⟩
 ·rintro k L H1 hk ⟨rfl, g1, s1⟩
  have hl0 : ((wbytes (h.take k)).map by8).length = 4 * k := by rw [List.length_map, wbytes_len, List.length_take]; omega
  have gk := wg (ws := h) (i := k) (by omega)
  have e4 : (4 : Int) * (k : Int) = ((4 * k : Nat) : Int) := by omega
  have e5 : ((4 * k : Nat) : Int) + 1 = ((4 * k + 1 : Nat) : Int) := by omega
  have e6 : ((4 * k : Nat) : Int) + 2 = ((4 * k + 2 : Nat) : Int) := by omega
  have e7 : ((4 * k : Nat) : Int) + 3 = ((4 * k + 3 : Nat) : Int) := by omega
  have hlen : ∀ (l : List V) (n : Nat), l.length = n → n ≤ 32 → (l ++ List.replicate (32 - n) (V.int .u8 0)).length = 32 := fun l n h1 h2 => by rw [List.length_append, h1, List.length_replicate]; omega
  have x0 := splice_next (z := .int .u8 0) (x := by8 ((h.getD k 0).toNat / 16777216 % 256)) hl0 (show 4 * k < 32 by omega)
  have hl1 : ((wbytes (h.take k)).map by8 ++ [by8 ((h.getD k 0).toNat / 16777216 % 256)]).length = 4 * k + 1 := by rw [List.length_append, hl0]; rfl
  have x1 := splice_next (z := .int .u8 0) (x := by8 ((h.getD k 0).toNat / 65536 % 256)) hl1 (show 4 * k + 1 < 32 by omega)
  have hl2 : ((wbytes (h.take k)).map by8 ++ [by8 ((h.getD k 0).toNat / 16777216 % 256)] ++ [by8 ((h.getD k 0).toNat / 65536 % 256)]).length = 4 * k + 2 := by rw [List.length_append, hl1]; rfl
  have x2 := splice_next (z := .int .u8 0) (x := by8 ((h.getD k 0).toNat / 256 % 256)) hl2 (show 4 * k + 2 < 32 by omega)
  have hl3 : ((wbytes (h.take k)).map by8 ++ [by8 ((h.getD k 0).toNat / 16777216 % 256)] ++ [by8 ((h.getD k 0).toNat / 65536 % 256)] ++ [by8 ((h.getD k 0).toNat / 256 % 256)]).length = 4 * k + 3 := by rw [List.length_append, hl2]; rfl
  have x3 := splice_next (z := .int .u8 0) (x := by8 ((h.getD k 0).toNat % 256)) hl3 (show 4 * k + 3 < 32 by omega)
  have m0 := hlen _ _ hl0 (by omega)
  have m1 := hlen _ _ hl1 (by omega)
  have m2 := hlen _ _ hl2 (by omega)
  have m3 := hlen _ _ hl3 (by omega)
  unfold zbo
  simp (disch := first | omega | (simp only [RY] <;> omega) | decide) only [↓RD, RZ, eq_self, Int.reduceToNat, Int.reduceAdd, Nat.reduceAdd, Nat.reduceSub, Nat.reduceMul, Nat.reduceLeDiff, gk, e4, e5, e6, e7, s24, s16, s8, w_cint8, n24, n16, n8, by8_ok, by8_cells, g1, x0, x1, x2, x3, m0, m1, m2, m3]
  refine ⟨by omega, by omega, by omega, by omega, rfl, ?_, s1.trans ((At1.set o _ _).trans ((At1.set o _ _).trans ((At1.set o _ _).trans (At1.set o _ _))))⟩
  rw [take_w (by omega), wbytes_app, show 32 - 4 * (k + 1) = 32 - (4 * k + 3 + 1) by omega]
  simp [wbytes]
 ·rintro L H1 ⟨rfl, g1, s1⟩
  unfold zbo
  simp (disch := first | omega | (simp only [RY] <;> omega) | decide) only [↓RD, RZ, eq_self, Int.reduceToNat, Int.reduceAdd, Nat.reduceAdd, Nat.reduceSub, Nat.reduceMul, Nat.reduceLeDiff]
  refine ⟨?_, s1⟩
  rw [g1, List.take_of_length_le (by omega)]
  simp
theorem pad_eq (n : Nat) : pad n = (0x80 :: List.replicate (padz n) 0) ++ bn 8 (n * 8 % 18446744073709551616) := rfl
theorem Sum_ok {H : Heap} {s : Nat} {m F : List Nat} (k : Str H s m F) (hlen : m.length ≤ 562949953421312) :
  Ok (sem T za2 [.ptr s 0]) H fun r H' => r = .agg ((sha kc m).map by8) ∧ Step H H' F F := by
 refine zeB ?_
 unfold zdc
 have s1 := Grow.new H ⟨zag, [.int .u8 0, .int .u8 0, .int .u8 0, .int .u8 0, .int .u8 0, .int .u8 0, .int .u8 0, .int .u8 0, .int .u8 0, .int .u8 0, .int .u8 0, .int .u8 0, .int .u8 0, .int .u8 0, .int .u8 0, .int .u8 0, .int .u8 0, .int .u8 0, .int .u8 0, .int .u8 0, .int .u8 0, .int .u8 0, .int .u8 0, .int .u8 0, .int .u8 0, .int .u8 0, .int .u8 0, .int .u8 0, .int .u8 0, .int .u8 0, .int .u8 0, .int .u8 0], none⟩
 have gr : (H.new ⟨zag, [.int .u8 0, .int .u8 0, .int .u8 0, .int .u8 0, .int .u8 0, .int .u8 0, .int .u8 0, .int .u8 0, .int .u8 0, .int .u8 0, .int .u8 0, .int .u8 0, .int .u8 0, .int .u8 0, .int .u8 0, .int .u8 0, .int .u8 0, .int .u8 0, .int .u8 0, .int .u8 0, .int .u8 0, .int .u8 0, .int .u8 0, .int .u8 0, .int .u8 0, .int .u8 0, .int .u8 0, .int .u8 0, .int .u8 0, .int .u8 0, .int .u8 0, .int .u8 0], none⟩).get H.next = some ⟨zag, List.replicate 32 (.int .u8 0), none⟩ := zad _ _
 have nr : (H.new ⟨zag, [.int .u8 0, .int .u8 0, .int .u8 0, .int .u8 0, .int .u8 0, .int .u8 0, .int .u8 0, .int .u8 0, .int .u8 0, .int .u8 0, .int .u8 0, .int .u8 0, .int .u8 0, .int .u8 0, .int .u8 0, .int .u8 0, .int .u8 0, .int .u8 0, .int .u8 0, .int .u8 0, .int .u8 0, .int .u8 0, .int .u8 0, .int .u8 0, .int .u8 0, .int .u8 0, .int .u8 0, .int .u8 0, .int .u8 0, .int .u8 0, .int .u8 0, .int .u8 0], none⟩).next = H.next + 1 := zaf _ _
 have kF := k.low
 have k1 := k.grow s1
 simp (disch := first | omega | (simp only [RY] <;> omega) | decide) only [↓RD, RZ, eq_self, Int.reduceToNat, Int.reduceAdd, Nat.reduceAdd, Nat.reduceSub, Nat.reduceMul, Nat.reduceLeDiff]
 generalize hrb : H.next = rb at *
 generalize H.new _ = H1 at *
 refine zae (Copy_ok k1) ?_
 rintro _ H2 ⟨t, c, Fb, rfl, k2, hcF, htn, hFb, s2⟩
 obtain ⟨c', bv, Fb', hF', k2', hm8⟩ := k2
 simp only [List.cons.injEq, true_and] at hF'
 obtain ⟨rfl, rfl⟩ := hF'
 have n2 := s2.next
 have gt2 := k2'.gs
 have i9 := st9 k2'.hl
 have i8 := st8 k2'.hl
 have ebl := k2'.bf.vlen
 have tll := tl_len m
 have em : ((m.length : Nat) : Int) * 8 = ((m.length * 8 : Nat) : Int) := by omega
 have hlow2 := k2'.low
 simp (disch := first | omega | (simp only [RY] <;> omega) | decide) only [↓RD, RZ, eq_self, Int.reduceToNat, Int.reduceAdd, Nat.reduceAdd, Nat.reduceSub, Nat.reduceMul, Nat.reduceLeDiff, gt2, i9, em]
 have s3 := Grow.new H2 ⟨zac, [.int .u8 128], none⟩
 have a3 : Ab H2.next (H2.new ⟨zac, [.int .u8 128], none⟩) (.sl H2.next 0 1 (.fix 1)) [0x80] := .full (zad _ _) rfl (Nat.le_refl _) (by rw [zaf]; omega)
 have b3 : Bel H2.next H2 (H2.new ⟨zac, [.int .u8 128], none⟩) := s3.bel (Nat.le_refl _)
 generalize hlo : H2.next = lo at *
 generalize H2.new _ = H3 at *
 have hz : padz m.length < 64 := by unfold padz; omega
 refine zas (Q := fun r H' => ∃ e, r = .ex 0 [e] ∧ Ab lo H' e (0x80 :: List.replicate (padz m.length) 0) ∧ Bel lo H2 H') ?_ ?_
 ·refine zaL (fun j L H' => ∃ e, L = [e] ∧ Ab lo H' e (0x80 :: List.replicate j 0) ∧ Bel lo H2 H') (padz m.length) ?_ ?_ ?_
  ·exact ⟨_, rfl, a3, b3⟩
  ·rintro j L H4 hj ⟨e, rfl, a4, b4⟩
   have hel := a4.by.vlen
   have hl : (0x80 :: List.replicate j 0).length = j + 1 := by simp
   rw [hl] at hel
   have gt4 := (b4.same t (hlow2 t (by simp))).trans gt2
   have ej : (((tl m).length : Nat) : Int) + ((j + 1 : Nat) : Int) = (((tl m).length + (j + 1) : Nat) : Int) := rfl
   have hne : ¬ (((((tl m).length + (j + 1) : Nat) : Int)) % 64 = 56) := by unfold padz at hj; omega
   have n4 := b4.next
   unfold zbV
   simp (disch := first | omega | (simp only [RY] <;> omega) | decide) only [↓RD, RZ, eq_self, Int.reduceToNat, Int.reduceAdd, Nat.reduceAdd, Nat.reduceSub, Nat.reduceMul, Nat.reduceLeDiff, gt4, i8, ebl, hel, ej, hne]
   refine zeF (m := [0]) (a4.keep ((Grow.new _ _).keep _)) (by rw [zaf]; omega) (acells_fresh rfl) (by rw [hl]; simp; omega) fun e' H5 a5 b5 => ?_
   simp (disch := first | omega | (simp only [RY] <;> omega) | decide) only [↓RD, RZ, eq_self, Int.reduceToNat, Int.reduceAdd, Nat.reduceAdd, Nat.reduceSub, Nat.reduceMul, Nat.reduceLeDiff]
   refine ⟨e', rfl, ?_, b4.trans (((Grow.new _ _).bel (by omega)).trans b5)⟩
   rw [List.replicate_succ', ← List.cons_append]
   exact a5
  ·rintro L H4 ⟨e, rfl, a4, b4⟩
   have hel := a4.by.vlen
   have hl : (0x80 :: List.replicate (padz m.length) 0).length = padz m.length + 1 := by simp
   rw [hl] at hel
   have gt4 := (b4.same t (hlow2 t (by simp))).trans gt2
   have ej : (((tl m).length : Nat) : Int) + ((padz m.length + 1 : Nat) : Int) = (((tl m).length + (padz m.length + 1) : Nat) : Int) := rfl
   have hne : ((((tl m).length + (padz m.length + 1) : Nat) : Int)) % 64 = 56 := by unfold padz; omega
   have n4 := b4.next
   unfold zbV
   simp (disch := first | omega | (simp only [RY] <;> omega) | decide) only [↓RD, RZ, eq_self, Int.reduceToNat, Int.reduceAdd, Nat.reduceAdd, Nat.reduceSub, Nat.reduceMul, Nat.reduceLeDiff, gt4, i8, ebl, hel, ej, hne]
   exact ⟨e, rfl, a4, b4⟩
 ·rintro _ H4 ⟨e4, rfl, a4, b4⟩
  have hl4 : (0x80 :: List.replicate (padz m.length) 0).length = padz m.length + 1 := by simp
  have hmod : m.length * 8 % 18446744073709551616 = m.length * 8 := Nat.mod_eq_of_lt (by omega)
  simp (disch := first | omega | (simp only [RY] <;> omega) | decide) only [↓RD, RZ, eq_self, Int.reduceToNat, Int.reduceAdd, Nat.reduceAdd, Nat.reduceSub, Nat.reduceMul, Nat.reduceLeDiff]
  refine zas (Q := fun r H' => ∃ e, r = .ex 2 [e] ∧ Ab lo H' e (pad m.length) ∧ Bel lo H2 H') ?_ ?_
  ·refine zaL (fun j L H' => ∃ w, L = [w, .int .i64 ((7 : Int) - (j : Nat))] ∧ Ab lo H' w ((0x80 :: List.replicate (padz m.length) 0) ++ (bn 8 (m.length * 8)).take j) ∧ Bel lo H2 H') 8 ?_ ?_ ?_
   ·exact ⟨e4, rfl, by rw [List.take_zero, List.append_nil]; exact a4, b4⟩
   ·rintro j L H5 hj ⟨w, rfl, a5, b5⟩
    have e1 : (7 : Int) - (j : Nat) = ((8 - 1 - j : Nat) : Int) := by omega
    have e2 : (8 : Int) * ((8 - 1 - j : Nat) : Int) = ((8 * (8 - 1 - j) : Nat) : Int) := by omega
    have e3 : shr (m.length * 8) (8 * (8 - 1 - j)) = m.length * 8 / 256 ^ (8 - 1 - j) := by rw [shr_def, Nat.shiftRight_eq_div_pow, Nat.pow_mul]
    have n5 := b5.next
    rw [e1]
    generalize hw : 8 - 1 - j = w' at *
    unfold zbU
    have e8 : IntKind.u8.wrap ((m.length * 8 / 256 ^ w' : Nat) : Int) = ((m.length * 8 / 256 ^ w' % 256 : Nat) : Int) := by rw [wrap_u8]; rfl
    have hlt : ((0x80 :: List.replicate (padz m.length) 0) ++ (bn 8 (m.length * 8)).take j).length = padz m.length + 1 + j := by rw [List.length_append, hl4, List.length_take, bn_len]; omega
    simp (disch := first | omega | (simp only [RY] <;> omega) | decide) only [↓RD, RZ, eq_self, Int.reduceToNat, Int.reduceAdd, Nat.reduceAdd, Nat.reduceSub, Nat.reduceMul, Nat.reduceLeDiff, e2, e3, e8]
    refine zeF (m := [m.length * 8 / 256 ^ w' % 256]) (a5.keep ((Grow.new _ _).keep _)) (by rw [zaf]; omega) (acells_fresh rfl) (by rw [hlt]; simp; omega) fun e' H6 a6 b6 => ?_
    simp (disch := first | omega | (simp only [RY] <;> omega) | decide) only [↓RD, RZ, eq_self, Int.reduceToNat, Int.reduceAdd, Nat.reduceAdd, Nat.reduceSub, Nat.reduceMul, Nat.reduceLeDiff]
    refine ⟨e', by rw [show ((w' : Nat) : Int) - 1 = (7 : Int) - ((j + 1 : Nat) : Int) by omega], ?_, b5.trans (((Grow.new _ _).bel (by omega)).trans b6)⟩
    rw [take_snoc (by rw [bn_len]; exact hj), bn_get 8 _ j hj, hw, ← List.append_assoc]
    exact a6
   ·rintro L H5 ⟨w, rfl, a5, b5⟩
    have e1 : (7 : Int) - ((8 : Nat) : Int) = -1 := by omega
    rw [e1]
    unfold zbU
    simp (disch := first | omega | (simp only [RY] <;> omega) | decide) only [↓RD, RZ, eq_self, Int.reduceToNat, Int.reduceAdd, Nat.reduceAdd, Nat.reduceSub, Nat.reduceMul, Nat.reduceLeDiff]
    refine ⟨w, rfl, ?_, b5⟩
    rw [List.take_of_length_le (by rw [bn_len]; exact Nat.le_refl _)] at a5
    rw [pad_eq, hmod]
    exact a5
  ·rintro _ H5 ⟨e5, rfl, a5, b5⟩
   have n5 := b5.next
   have k5 : Str H5 t m (t :: c :: Fb) := ⟨c, bv, Fb, rfl, k2'.to n5 fun i hi => b5.same i (hlow2 i hi), hm8⟩
   have hpl : (pad m.length).length ≤ 72 := by rw [pad_eq, List.length_append, hl4, bn_len]; omega
   have hp8 : Ok8 (pad m.length) := by
    rw [pad_eq]
    refine Ok8.app (fun x hx => ?_) (bn_8 _ _)
    rcases List.mem_cons.1 hx with rfl | hx
    ·decide
    ·rw [List.eq_of_mem_replicate hx]; decide
   simp (disch := first | omega | (simp only [RY] <;> omega) | decide) only [↓RD, RZ, eq_self, Int.reduceToNat, Int.reduceAdd, Nat.reduceAdd, Nat.reduceSub, Nat.reduceMul, Nat.reduceLeDiff]
   refine zae (Add_ok k5 a5.by hp8 (fun i hi hF => by have h1 := (a5.by.own i hi).1; have h2 := hlow2 i hF; omega) (by omega)) ?_
   rintro _ H6 ⟨rfl, F6, k6, s6⟩
   obtain ⟨c6, bv6, Fb6, rfl, k6, -⟩ := k6
   have n6 := s6.next
   have hrF : rb ∉ t :: c :: Fb := by
    intro h
    simp only [List.mem_cons] at h
    rcases h with h | h | h
    ·omega
    ·have := kF c hcF; omega
    ·have := hFb rb h; omega
   have gr6 : H6.get rb = some ⟨zag, List.replicate 32 (.int .u8 0), none⟩ := by
    rw [s6.same rb (by omega) hrF, b5.same rb (by omega), s2.same rb (by omega)]; exact gr
   have hlow6 := k6.low
   have gt6 := k6.gs
   have f8 := ld8 k6.hl [bv6, .int .u64 ((m ++ pad m.length).length : Nat), .ptr c6 0]
   have ht6 := k6.sl
   have g7 : ∀ i, i < H6.next → (H6.new ⟨zag, [.int .u8 0, .int .u8 0, .int .u8 0, .int .u8 0, .int .u8 0, .int .u8 0, .int .u8 0, .int .u8 0, .int .u8 0, .int .u8 0, .int .u8 0, .int .u8 0, .int .u8 0, .int .u8 0, .int .u8 0, .int .u8 0, .int .u8 0, .int .u8 0, .int .u8 0, .int .u8 0, .int .u8 0, .int .u8 0, .int .u8 0, .int .u8 0, .int .u8 0, .int .u8 0, .int .u8 0, .int .u8 0, .int .u8 0, .int .u8 0, .int .u8 0, .int .u8 0], none⟩).get i = H6.get i := fun i hi => zaJ _ _ (by omega)
   have go7 : (H6.new ⟨zag, [.int .u8 0, .int .u8 0, .int .u8 0, .int .u8 0, .int .u8 0, .int .u8 0, .int .u8 0, .int .u8 0, .int .u8 0, .int .u8 0, .int .u8 0, .int .u8 0, .int .u8 0, .int .u8 0, .int .u8 0, .int .u8 0, .int .u8 0, .int .u8 0, .int .u8 0, .int .u8 0, .int .u8 0, .int .u8 0, .int .u8 0, .int .u8 0, .int .u8 0, .int .u8 0, .int .u8 0, .int .u8 0, .int .u8 0, .int .u8 0, .int .u8 0, .int .u8 0], none⟩).get H6.next = some ⟨zag, List.replicate 32 (.int .u8 0), none⟩ := zad _ _
   have n7 : (H6.new ⟨zag, [.int .u8 0, .int .u8 0, .int .u8 0, .int .u8 0, .int .u8 0, .int .u8 0, .int .u8 0, .int .u8 0, .int .u8 0, .int .u8 0, .int .u8 0, .int .u8 0, .int .u8 0, .int .u8 0, .int .u8 0, .int .u8 0, .int .u8 0, .int .u8 0, .int .u8 0, .int .u8 0, .int .u8 0, .int .u8 0, .int .u8 0, .int .u8 0, .int .u8 0, .int .u8 0, .int .u8 0, .int .u8 0, .int .u8 0, .int .u8 0, .int .u8 0, .int .u8 0], none⟩).next = H6.next + 1 := zaf _ _
   simp (disch := first | omega | (simp only [RY] <;> omega) | decide) only [↓RD, RZ, eq_self, Int.reduceToNat, Int.reduceAdd, Nat.reduceAdd, Nat.reduceSub, Nat.reduceMul, Nat.reduceLeDiff, gt6, f8]
   clear gt6
   generalize ho : H6.next = o at *
   generalize H6.new _ = H7 at *
   refine zas (out_ok k6.hl go7) ?_
   rintro _ H8 ⟨rfl, go8, s8⟩
   have gr8 : H8.get rb = some ⟨zag, List.replicate 32 (.int .u8 0), none⟩ := by
    rw [s8.same rb (by omega) (by omega), g7 rb (by omega)]; exact gr6
   have hwl : ((wbytes (hs kc (m ++ pad m.length))).map by8).length = 32 := by rw [List.length_map, wbytes_len, hs_len]
   have l32 : ldc (some 32) ((wbytes (hs kc (m ++ pad m.length))).map by8) 0 = some (.agg ((wbytes (hs kc (m ++ pad m.length))).map by8)) := by
    rw [ldc_some (by omega), List.drop_zero, List.take_of_length_le (by omega)]
   have hok : V.okc (.agg ((wbytes (hs kc (m ++ pad m.length))).map by8)) = true := by
    simp only [V.okc, List.all_map, List.all_eq_true]
    try (intro x _; rfl)
   have hsp : ∀ L : List V, L.length = 32 → splice L 0 ((wbytes (hs kc (m ++ pad m.length))).map by8) = (wbytes (hs kc (m ++ pad m.length))).map by8 := fun L hL => by
    unfold splice
    rw [List.take_zero, List.nil_append, hwl, List.drop_of_length_le (by omega), List.append_nil]
   have hrl : (List.replicate 32 (V.int .u8 0)).length = 32 := rfl
   have hne8 : o ≠ rb := by omega
   simp (disch := first | omega | (simp only [RY] <;> omega) | decide) only [↓RD, RZ, eq_self, Int.reduceToNat, Int.reduceAdd, Nat.reduceAdd, Nat.reduceSub, Nat.reduceMul, Nat.reduceLeDiff, go8, l32, gr8, hok, hwl, hsp, hrl]
   refine ⟨rfl, ⟨?_, fun i hi hF => ?_, fun i hi => .inl hi⟩⟩
   ·have := s8.next
    rw [zal]; omega
   ·have hi6 : i ∉ t :: c :: Fb := by
     intro h
     simp only [List.mem_cons] at h
     rcases h with h | h | h
     ·omega
     ·exact hF (h ▸ hcF)
     ·have := hFb i h; omega
    rw [zah _ _ (by omega), s8.same i (by omega) (by omega), g7 i (by omega), s6.same i (by omega) hi6, b5.same i (by omega), s2.same i (by omega), s1.same i (by omega)]
end Go.Ax.SU
/- Su14 -/
namespace Go.Ax.SU
open Go.Ax
theorem el_at {lo n : Nat} {H : Heap} {v x : V} {vs : List V} (h : Lc 1 lo H v vs n) {i : Nat} (hi : i < n) (hx : vs[i]? = some x) : ∃ p, (∀ {k : IntKind}, Ax.iaddr none 1 v (.int k ((i : Nat) : Int)) = some p) ∧ LdR none H p x := by
 obtain ⟨p, hp, hl⟩ := h.at (i := ((i : Nat) : Int)) (by omega) (by omega)
 have hlen := h.len
 have hil : i < vs.length := by omega
 have e : (vs.drop (((i : Nat) : Int).toNat * 1)).take 1 = [x] := by
  rw [Int.toNat_natCast, Nat.mul_one, List.drop_eq_getElem_cons hil]
  rw [List.getElem?_eq_getElem hil] at hx
  injection hx with hx
  rw [hx]; rfl
 rw [e] at hl
 refine ⟨p, hp, fun f Q => ?_⟩
 rw [hl.ld0 (by simp)]
 exact b_lift
def Pts (lo : Nat) (H : Heap) (vs : List V) (ps : List (List Nat)) : Prop := vs.length = ps.length ∧ ∀ (i : Nat) (v : V) (p : List Nat), vs[i]? = some v → ps[i]? = some p → By lo H v p ∧ Ok8 p
theorem Pts.grow {lo : Nat} {H H' : Heap} {vs : List V} {ps : List (List Nat)} (h : Pts lo H vs ps) (g : Grow H H') : Pts lo H' vs ps := ⟨h.1, fun i v p hv hp => ⟨(h.2 i v p hv hp).1.ext g, (h.2 i v p hv hp).2⟩⟩
theorem Pts.nil {lo : Nat} {H : Heap} : Pts lo H [] [] := ⟨rfl, fun i v p h => by simp at h⟩
theorem Pts.cons {lo : Nat} {H : Heap} {v : V} {p : List Nat} {vs : List V} {ps : List (List Nat)} (h1 : By lo H v p) (h2 : Ok8 p) (h : Pts lo H vs ps) : Pts lo H (v :: vs) (p :: ps) := by
 refine ⟨by simp [h.1], fun i v' p' hv hp => ?_⟩
 cases i with
 | zero =>
  simp only [List.getElem?_cons_zero, Option.some.injEq] at hv hp
  subst hv hp
  exact ⟨h1, h2⟩
 | succ i => exact h.2 i v' p' hv hp
theorem flat_take {ps : List (List Nat)} {k : Nat} {p : List Nat} (h : ps[k]? = some p) : (ps.take (k + 1)).flatten = (ps.take k).flatten ++ p := by
 rw [List.take_add_one, h]; simp
theorem flat_take_le (ps : List (List Nat)) (k : Nat) : (ps.take k).flatten.length ≤ ps.flatten.length := by
 conv => rhs; rw [← List.take_append_drop k ps, List.flatten_append, List.length_append]
 omega
theorem by_arr {lo id n : Nat} {H : Heap} {ty : TypeId} {l : List Nat} {o : Option Nat} (h : H.get id = some ⟨ty, l.map by8, o⟩) (hl : l.length = n) (h0 : lo ≤ id) (h1 : id < H.next) : By lo H (.sl id 0 n (.fix n)) l := by
 subst hl
 refine ⟨?_, fun i hi => by simp only [V.pid, Option.some.injEq] at hi; subst hi; exact ⟨h0, h1⟩, Nat.le_refl _⟩
 simp only [rcells, h, Option.bind_some]
 rw [if_pos (by simp), List.drop_zero, List.take_of_length_le (by simp)]
theorem Of_ok {H : Heap} {lo : Nat} {v : V} {vs : List V} {ps : List (List Nat)} (hv : Lc 1 lo H v vs vs.length) (hp : Pts 0 H vs ps) (hvn : vs.length ≤ 1000) (hlen : ps.flatten.length ≤ 281474976710656) :
  Ok (sem T zcF [v]) H fun r H' => r = .agg ((sha kc ps.flatten).map by8) ∧ Grow H H' := by
 refine zga ?_
 unfold zfJ
 have s1 := Grow.new H ⟨zag, [.int .u8 0, .int .u8 0, .int .u8 0, .int .u8 0, .int .u8 0, .int .u8 0, .int .u8 0, .int .u8 0, .int .u8 0, .int .u8 0, .int .u8 0, .int .u8 0, .int .u8 0, .int .u8 0, .int .u8 0, .int .u8 0, .int .u8 0, .int .u8 0, .int .u8 0, .int .u8 0, .int .u8 0, .int .u8 0, .int .u8 0, .int .u8 0, .int .u8 0, .int .u8 0, .int .u8 0, .int .u8 0, .int .u8 0, .int .u8 0, .int .u8 0, .int .u8 0], none⟩
 have gr : (H.new ⟨zag, [.int .u8 0, .int .u8 0, .int .u8 0, .int .u8 0, .int .u8 0, .int .u8 0, .int .u8 0, .int .u8 0, .int .u8 0, .int .u8 0, .int .u8 0, .int .u8 0, .int .u8 0, .int .u8 0, .int .u8 0, .int .u8 0, .int .u8 0, .int .u8 0, .int .u8 0, .int .u8 0, .int .u8 0, .int .u8 0, .int .u8 0, .int .u8 0, .int .u8 0, .int .u8 0, .int .u8 0, .int .u8 0, .int .u8 0, .int .u8 0, .int .u8 0, .int .u8 0], none⟩).get H.next = some ⟨zag, List.replicate 32 (.int .u8 0), none⟩ := zad _ _
 have nr : (H.new ⟨zag, [.int .u8 0, .int .u8 0, .int .u8 0, .int .u8 0, .int .u8 0, .int .u8 0, .int .u8 0, .int .u8 0, .int .u8 0, .int .u8 0, .int .u8 0, .int .u8 0, .int .u8 0, .int .u8 0, .int .u8 0, .int .u8 0, .int .u8 0, .int .u8 0, .int .u8 0, .int .u8 0, .int .u8 0, .int .u8 0, .int .u8 0, .int .u8 0, .int .u8 0, .int .u8 0, .int .u8 0, .int .u8 0, .int .u8 0, .int .u8 0, .int .u8 0, .int .u8 0], none⟩).next = H.next + 1 := zaf _ _
 have hvl := hv.vlen
 simp (disch := first | omega | (simp only [RY] <;> omega) | decide) only [↓RD, RZ, eq_self, Int.reduceToNat, Int.reduceAdd, Nat.reduceAdd, Nat.reduceSub, Nat.reduceMul, Nat.reduceLeDiff]
 generalize hrb : H.next = rb at *
 generalize H.new _ = H1 at *
 refine zae New_ok ?_
 rintro _ H2 ⟨s, F, rfl, k2, hF, s2⟩
 have n2 := s2.next
 have g2 : Grow H H2 := s1.trans s2
 simp (disch := first | omega | (simp only [RY] <;> omega) | decide) only [↓RD, RZ, eq_self, Int.reduceToNat, Int.reduceAdd, Nat.reduceAdd, Nat.reduceSub, Nat.reduceMul, Nat.reduceLeDiff, hvl]
 refine zas (Q := fun r H' => r = .ex 0 [] ∧ ∃ F', Str H' s ps.flatten F' ∧ (∀ i ∈ F', H1.next ≤ i) ∧ Grow H1 H') ?_ ?_
 ·refine zaL (fun j L H' => L = [.int .i64 (j : Nat)] ∧ ∃ F', Str H' s (ps.take j).flatten F' ∧ (∀ i ∈ F', H1.next ≤ i) ∧ Grow H1 H') vs.length ?_ ?_ ?_
  ·exact ⟨rfl, F, by simpa using k2, hF, s2⟩
  ·rintro j L H3 hj ⟨rfl, F', k3, hF3, s3⟩
   have g3 : Grow H H3 := s1.trans s3
   have hx : vs[j]? = some vs[j] := List.getElem?_eq_getElem hj
   have hq : ps[j]? = some (ps[j]'(by rw [← hp.1]; exact hj)) := List.getElem?_eq_getElem _
   obtain ⟨hby, h8⟩ := hp.2 j _ _ hx hq
   obtain ⟨p, ip, lp⟩ := el_at (hv.ext g3) hj hx
   have hl1 := flat_take_le ps (j + 1)
   have hft := flat_take hq
   rw [hft, List.length_append] at hl1
   unfold zdY
   simp (disch := first | omega | (simp only [RY] <;> omega) | decide) only [↓RD, RZ, eq_self, Int.reduceToNat, Int.reduceAdd, Nat.reduceAdd, Nat.reduceSub, Nat.reduceMul, Nat.reduceLeDiff, ip, lp]
   refine zae (Add_ok k3 (hby.ext g3) h8 (fun i hi hc => by have h1 := (hby.own i hi).2; have h2 := hF3 i hc; omega) (by omega)) ?_
   rintro _ H4 ⟨rfl, F4, k4, s4⟩
   rw [← hft] at k4
   simp (disch := first | omega | (simp only [RY] <;> omega) | decide) only [↓RD, RZ, eq_self, Int.reduceToNat, Int.reduceAdd, Nat.reduceAdd, Nat.reduceSub, Nat.reduceMul, Nat.reduceLeDiff]
   refine ⟨rfl, F4, k4, fun i hi => ?_, ⟨Nat.le_trans s3.next s4.next, fun i hi => by rw [s4.same i (by have := s3.next; omega) (fun hc => by have := hF3 i hc; omega), s3.same i hi]⟩⟩
   rcases s4.own i hi with h | h
   ·exact hF3 i h
   ·have := s3.next; omega
  ·rintro L H3 ⟨rfl, F', k3, hF3, s3⟩
   unfold zdY
   simp (disch := first | omega | (simp only [RY] <;> omega) | decide) only [↓RD, RZ, eq_self, Int.reduceToNat, Int.reduceAdd, Nat.reduceAdd, Nat.reduceSub, Nat.reduceMul, Nat.reduceLeDiff]
   refine ⟨F', ?_, hF3, s3⟩
   rw [hp.1, List.take_length] at k3
   exact k3
 ·rintro _ H3 ⟨rfl, F', k3, hF3, s3⟩
  have n3 := s3.next
  simp (disch := first | omega | (simp only [RY] <;> omega) | decide) only [↓RD, RZ, eq_self, Int.reduceToNat, Int.reduceAdd, Nat.reduceAdd, Nat.reduceSub, Nat.reduceMul, Nat.reduceLeDiff]
  refine zae (Sum_ok k3 (by omega)) ?_
  rintro _ H4 ⟨rfl, s4⟩
  have n4 := s4.next
  have g4 : ∀ i, i < H1.next → H4.get i = H1.get i := fun i hi => by rw [s4.same i (by omega) (fun hc => by have := hF3 i hc; omega), s3.same i hi]
  have gr4 := (g4 rb (by omega)).trans gr
  have hwl : ((sha kc ps.flatten).map by8).length = 32 := by rw [List.length_map, sha_len]
  have l32 : ldc (some 32) ((sha kc ps.flatten).map by8) 0 = some (.agg ((sha kc ps.flatten).map by8)) := by
   rw [ldc_some (by omega), List.drop_zero, List.take_of_length_le (by omega)]
  have hok : V.okc (.agg ((sha kc ps.flatten).map by8)) = true := by
   simp only [V.okc, List.all_map, List.all_eq_true]
   try (intro x _; rfl)
  have hsp : ∀ L : List V, L.length = 32 → splice L 0 ((sha kc ps.flatten).map by8) = (sha kc ps.flatten).map by8 := fun L hL => by
   unfold splice
   rw [List.take_zero, List.nil_append, hwl, List.drop_of_length_le (by omega), List.append_nil]
  have hrl : (List.replicate 32 (V.int .u8 0)).length = 32 := rfl
  simp (disch := first | omega | (simp only [RY] <;> omega) | decide) only [↓RD, RZ, eq_self, Int.reduceToNat, Int.reduceAdd, Nat.reduceAdd, Nat.reduceSub, Nat.reduceMul, Nat.reduceLeDiff, gr4, l32, hok, hwl, hsp, hrl]
  exact ⟨by rw [zal]; omega, fun i hi => by rw [zah _ _ (by omega), g4 i (by omega), s1.same i (by omega)]⟩
theorem kpad_len (ks : List UInt32) {key : List Nat} (x : Nat) : (kpad ks key x).length = 64 := by
 unfold kpad kpiece
 split
 ·rw [List.length_map, List.length_append, List.length_replicate, sha_len]
 ·rw [List.length_map, List.length_append, List.length_replicate]; omega
theorem mid_get {A C : List V} {b : V} {k : Nat} (h : A.length = k) : (A ++ b :: C)[k]? = some b := by
 rw [List.getElem?_append_right (by omega), h, Nat.sub_self]; rfl
theorem mid_set {A C : List V} {b y : V} {k : Nat} (h : A.length = k) : splice (A ++ b :: C) k [y] = A ++ y :: C := by
 rw [sp_set _ _ _ (by rw [List.length_append, List.length_cons]; omega), List.set_append_right _ _ (by omega), h, Nat.sub_self]; rfl
theorem xor_now {l : List Nat} {k : Nat} (f : Nat → Nat) (hk : k < l.length) : ((l.take k).map f ++ l.drop k).map by8 = ((l.take k).map f).map by8 ++ by8 (l.getD k 0) :: (l.drop (k + 1)).map by8 := by
 rw [List.drop_eq_getElem_cons hk, List.getD_eq_getElem?_getD, List.getElem?_eq_getElem hk, List.map_append, List.map_cons]; rfl
theorem xor_then {l : List Nat} {k : Nat} (f : Nat → Nat) (hk : k < l.length) : ((l.take k).map f).map by8 ++ by8 (f (l.getD k 0)) :: (l.drop (k + 1)).map by8 = ((l.take (k + 1)).map f ++ l.drop (k + 1)).map by8 := by
 rw [take_snoc hk, List.map_append, List.map_append, List.map_append]
 simp
theorem pad_ok {lo : Nat} {H : Heap} {v : V} {l : List Nat} {x : Nat} (hv : By lo H v l) (h8 : Ok8 l) (hl : l.length ≤ 64) (hx : x < 256) :
  Ok (sem T zdx [v, .int .u8 (x : Nat)]) H fun r H' => By H.next H' r ((l ++ List.replicate (64 - l.length) 0).map (· ^^^ x)) ∧ Grow H H' := by
 refine zgE ?_
 unfold zgf
 refine zaw (zgF (l := 64) (c := 64) ⟨by decide, by decide, by decide, by decide⟩ ?_)
 have e64 : (64 : Int).toNat = 64 := rfl
 rw [e64, zeros1]
 have s1 := Grow.new H ⟨zac, List.replicate 64 (.int .u8 0), none⟩
 have g1 : (H.new ⟨zac, List.replicate 64 (.int .u8 0), none⟩).get H.next = some ⟨zac, List.replicate 64 (.int .u8 0), none⟩ := zad _ _
 have n1 : (H.new ⟨zac, List.replicate 64 (.int .u8 0), none⟩).next = H.next + 1 := zaf _ _
 have hv1 := hv.ext s1
 generalize hid : H.next = id at *
 generalize H.new _ = H1 at *
 have hz8 : Ok8 (l ++ List.replicate (64 - l.length) 0) := h8.app (Ok8.rep _)
 have hzl : (l ++ List.replicate (64 - l.length) 0).length = 64 := by rw [List.length_append, List.length_replicate]; omega
 have hcp : mcopy 1 (.sl id 0 64 (.fix 64)) v H1 = some (.int .i64 (l.length : Nat), H1.set id (some ⟨zac, (l ++ List.replicate (64 - l.length) 0).map by8, none⟩)) := by
  unfold mcopy
  rw [hv1.ac]
  simp only [Option.bind_some, g1]
  rw [if_pos (by simp)]
  have e1 : min l.length 64 = l.length := by omega
  have e2 : splice (List.replicate 64 (V.int .u8 0)) 0 ((l.map by8).take (l.length * 1)) = (l ++ List.replicate (64 - l.length) 0).map by8 := by
   unfold splice
   rw [List.take_zero, List.nil_append, List.take_of_length_le (by simp), List.length_map, Nat.zero_add, List.drop_replicate, List.map_append, List.map_replicate]
   rfl
  rw [e1, e2]
 generalize hL : l ++ List.replicate (64 - l.length) 0 = L at *
 refine zaw ⟨_, _, hcp, ?_⟩
 have g2 : (H1.set id (some ⟨zac, L.map by8, none⟩)).get id = _ := zai _ _ _
 have n2 : (H1.set id (some ⟨zac, L.map by8, none⟩)).next = H1.next := zal _ _ _
 have s2 : ∀ i, i ≠ id → (H1.set id (some ⟨zac, L.map by8, none⟩)).get i = H1.get i := fun i hi => zah _ _ hi
 generalize H1.set id _ = H2 at *
 simp (disch := first | omega | (simp only [RY] <;> omega) | decide) only [↓RD, RZ, eq_self, Int.reduceToNat, Int.reduceAdd, Nat.reduceAdd, Nat.reduceSub, Nat.reduceMul, Nat.reduceLeDiff]
 refine zas (Q := fun r H' => r = .ex 0 [] ∧ H'.get id = some ⟨zac, (L.map (· ^^^ x)).map by8, none⟩ ∧ At1 id H2 H') ?_ ?_
 ·refine zaL (fun k L' H' => L' = [.int .i64 (k : Nat)] ∧ H'.get id = some ⟨zac, ((L.take k).map (· ^^^ x) ++ L.drop k).map by8, none⟩ ∧ At1 id H2 H') 64 ?_ ?_ ?_
  ·exact ⟨rfl, by simpa using g2, At1.refl _ _⟩
  ·rintro k _ H3 hk ⟨rfl, g3, s3⟩
   have hA : (((L.take k).map (· ^^^ x)).map by8).length = k := by rw [List.length_map, List.length_map, List.length_take]; omega
   rw [xor_now _ (by omega)] at g3
   have m1 := mid_get (b := by8 (L.getD k 0)) (C := (L.drop (k + 1)).map by8) hA
   have m2 := mid_set (b := by8 (L.getD k 0)) (y := by8 (L.getD k 0 ^^^ x)) (C := (L.drop (k + 1)).map by8) hA
   have ml : (((L.take k).map (· ^^^ x)).map by8 ++ by8 (L.getD k 0) :: (L.drop (k + 1)).map by8).length = 64 := by rw [List.length_append, hA, List.length_cons, List.length_map, List.length_drop]; omega
   have hg := hz8.getD k
   have ex : Ax.bin .xor (by8 (L.getD k 0)) (.int .u8 (x : Nat)) = some (by8 (L.getD k 0 ^^^ x)) := by
    unfold by8
    rw [xor_u8 (by omega) (by omega) (by omega) (by omega)]
    rfl
   unfold zeX
   simp (disch := first | omega | (simp only [RY] <;> omega) | decide) only [↓RD, RZ, eq_self, Int.reduceToNat, Int.reduceAdd, Nat.reduceAdd, Nat.reduceSub, Nat.reduceMul, Nat.reduceLeDiff, g3, m1, ex, m2, ml, by8_ok, by8_cells]
   refine ⟨by omega, rfl, ?_, s3.trans (At1.set id _ _)⟩
   have := xor_then (l := L) (k := k) (· ^^^ x) (by omega)
   rw [← this]
  ·rintro _ H3 ⟨rfl, g3, s3⟩
   unfold zeX
   simp (disch := first | omega | (simp only [RY] <;> omega) | decide) only [↓RD, RZ, eq_self, Int.reduceToNat, Int.reduceAdd, Nat.reduceAdd, Nat.reduceSub, Nat.reduceMul, Nat.reduceLeDiff]
   refine ⟨?_, s3⟩
   rw [g3, List.take_of_length_le (by omega), List.drop_of_length_le (by omega), List.append_nil]
 ·rintro _ H3 ⟨rfl, g3, s3⟩
  have n3 := s3.next
  simp (disch := first | omega | (simp only [RY] <;> omega) | decide) only [↓RD, RZ, eq_self, Int.reduceToNat, Int.reduceAdd, Nat.reduceAdd, Nat.reduceSub, Nat.reduceMul, Nat.reduceLeDiff]
  exact ⟨by_arr g3 (by rw [List.length_map]; exact hzl) (Nat.le_refl _) (by omega), ⟨by omega, fun i hi => by rw [s3.same i (by omega) (by omega), s2 i (by omega), s1.same i (by omega)]⟩⟩
end Go.Ax.SU
/- Su15 -/
namespace Go.Ax.SU
open Go.Ax
theorem agg_ok (l : List Nat) : V.okc (.agg (l.map by8)) = true := by
 simp only [V.okc, List.all_map, List.all_eq_true]
 try (intro x _; rfl)
theorem agg_cells (cs : List V) : V.cells (.agg cs) = cs := rfl
theorem sp32 {l : List Nat} (hl : l.length = 32) : splice [.int .u8 0, .int .u8 0, .int .u8 0, .int .u8 0, .int .u8 0, .int .u8 0, .int .u8 0, .int .u8 0, .int .u8 0, .int .u8 0, .int .u8 0, .int .u8 0, .int .u8 0, .int .u8 0, .int .u8 0, .int .u8 0, .int .u8 0, .int .u8 0, .int .u8 0, .int .u8 0, .int .u8 0, .int .u8 0, .int .u8 0, .int .u8 0, .int .u8 0, .int .u8 0, .int .u8 0, .int .u8 0, .int .u8 0, .int .u8 0, .int .u8 0, .int .u8 0] 0 (l.map by8) = l.map by8 := by
 unfold splice
 rw [List.take_zero, List.nil_append, List.length_map, hl]; simp
theorem spr32 {l : List Nat} (hl : l.length = 32) : splice (List.replicate 32 (V.int .u8 0)) 0 (l.map by8) = l.map by8 := sp32 hl
theorem ld32 {l : List Nat} (hl : l.length = 32) : ldc (some 32) (l.map by8) 0 = some (.agg (l.map by8)) := by
 rw [ldc_some (by rw [List.length_map]; omega), List.drop_zero, List.take_of_length_le (by rw [List.length_map]; omega)]
theorem vs_arr {n id : Nat} : vslice (.arr n) 1 (.ptr id 0) none none none = some (.sl id 0 n (.fix n)) := by
 simp only [vslice, optInt, Option.bind_some, Option.getD_none]
 rw [if_neg (by simp), if_pos (by simp)]
 simp
theorem lc_slit {id n : Nat} {H : Heap} {ty : TypeId} {cs : List V} {o : Option Nat} (h : H.get id = some ⟨ty, cs, o⟩) (hl : cs.length = n) (h1 : id < H.next) : Lc 1 0 H (.sl id 0 n (.fix n)) cs n := by
 subst hl
 refine ⟨?_, fun i hi => by simp only [V.pid, Option.some.injEq] at hi; subst hi; exact ⟨Nat.zero_le _, h1⟩, Nat.le_refl _⟩
 simp only [rcells, h, Option.bind_some]
 rw [if_pos (by simp), List.drop_zero, List.take_of_length_le (by simp)]
theorem kpiece_len (ks : List UInt32) (key : List Nat) : (kpiece ks key).length ≤ 64 := by
 unfold kpiece
 split
 ·rw [sha_len]; omega
 ·omega
theorem kpiece_8 (ks : List UInt32) {key : List Nat} (h : Ok8 key) : Ok8 (kpiece ks key) := by
 unfold kpiece
 split
 ·exact sha_lt _ _
 ·exact h
theorem kpad_8 (ks : List UInt32) {key : List Nat} {x : Nat} (h : Ok8 key) (hx : x < 256) : Ok8 (kpad ks key x) := by
 unfold kpad
 intro y hy
 obtain ⟨z, hz, rfl⟩ := List.mem_map.1 hy
 exact xor_lt8 ((kpiece_8 ks h).app (Ok8.rep _) z hz) hx
theorem tag_Of_ok {H : Heap} {lo lo' : Nat} {kv v : V} {key : List Nat} {vs : List V} {ps : List (List Nat)} (hk : By lo H kv key) (hk8 : Ok8 key) (hkl : key.length ≤ 1099511627776) (hv : Lc 1 lo' H v vs vs.length) (hp : Pts 0 H vs ps) (hvn : vs.length ≤ 1000) (hlen : ps.flatten.length ≤ 1099511627776) :
  Ok (sem T zdy [kv, v]) H fun r H' => r = .agg ((hmac kc key ps.flatten).map by8) ∧ Grow H H' := by
 refine zgU ?_
 unfold zgu
 have s1 := Grow.new H ⟨zag, [.int .u8 0, .int .u8 0, .int .u8 0, .int .u8 0, .int .u8 0, .int .u8 0, .int .u8 0, .int .u8 0, .int .u8 0, .int .u8 0, .int .u8 0, .int .u8 0, .int .u8 0, .int .u8 0, .int .u8 0, .int .u8 0, .int .u8 0, .int .u8 0, .int .u8 0, .int .u8 0, .int .u8 0, .int .u8 0, .int .u8 0, .int .u8 0, .int .u8 0, .int .u8 0, .int .u8 0, .int .u8 0, .int .u8 0, .int .u8 0, .int .u8 0, .int .u8 0], none⟩
 have gr : (H.new ⟨zag, [.int .u8 0, .int .u8 0, .int .u8 0, .int .u8 0, .int .u8 0, .int .u8 0, .int .u8 0, .int .u8 0, .int .u8 0, .int .u8 0, .int .u8 0, .int .u8 0, .int .u8 0, .int .u8 0, .int .u8 0, .int .u8 0, .int .u8 0, .int .u8 0, .int .u8 0, .int .u8 0, .int .u8 0, .int .u8 0, .int .u8 0, .int .u8 0, .int .u8 0, .int .u8 0, .int .u8 0, .int .u8 0, .int .u8 0, .int .u8 0, .int .u8 0, .int .u8 0], none⟩).get H.next = some ⟨zag, List.replicate 32 (.int .u8 0), none⟩ := zad _ _
 have nr : (H.new ⟨zag, [.int .u8 0, .int .u8 0, .int .u8 0, .int .u8 0, .int .u8 0, .int .u8 0, .int .u8 0, .int .u8 0, .int .u8 0, .int .u8 0, .int .u8 0, .int .u8 0, .int .u8 0, .int .u8 0, .int .u8 0, .int .u8 0, .int .u8 0, .int .u8 0, .int .u8 0, .int .u8 0, .int .u8 0, .int .u8 0, .int .u8 0, .int .u8 0, .int .u8 0, .int .u8 0, .int .u8 0, .int .u8 0, .int .u8 0, .int .u8 0, .int .u8 0, .int .u8 0], none⟩).next = H.next + 1 := zaf _ _
 have hkvl := hk.vlen
 have hvl := hv.vlen
 simp (disch := first | omega | (simp only [RY] <;> omega) | decide) only [↓RD, RZ, eq_self, Int.reduceToNat, Int.reduceAdd, Nat.reduceAdd, Nat.reduceSub, Nat.reduceMul, Nat.reduceLeDiff, hkvl]
 generalize hrb : H.next = rb at *
 generalize H.new _ = H1 at *
 have hk1 := hk.ext s1
 refine zas (Q := fun r H' => ∃ kv', r = .nrm [kv'] ∧ By 0 H' kv' (kpiece kc key) ∧ Grow H1 H') ?_ ?_
 ·refine zby (fun h => ?_) fun h => ?_
  ·have hc := hk1.cells1
   have ho := hk1.okc
   have s2 := Grow.new H1 ⟨zav, [kv], none⟩
   have l2 : Lc 1 0 (H1.new ⟨zav, [kv], none⟩) (.sl H1.next 0 1 (.fix 1)) [kv] 1 := lc_slit (zad _ _) rfl (by rw [zaf]; omega)
   have p2 : Pts 0 (H1.new ⟨zav, [kv], none⟩) [kv] [key] := Pts.cons ((hk1.ext s2).low (Nat.zero_le _)) hk8 Pts.nil
   simp (disch := first | omega | (simp only [RY] <;> omega) | decide) only [↓RD, RZ, eq_self, Int.reduceToNat, Int.reduceAdd, Nat.reduceAdd, Nat.reduceSub, Nat.reduceMul, Nat.reduceLeDiff, hc, ho]
   generalize H1.new _ = H2 at *
   refine zae (Of_ok l2 p2 (by simp) (by simp; omega)) ?_
   rintro _ H3 ⟨rfl, s3⟩
   have ef : [key].flatten = key := by simp
   rw [ef]
   have hsl := sha_len kc key
   have hml : ((sha kc key).map by8).length = 32 := by rw [List.length_map, hsl]
   have hsp := sp32 hsl
   simp (disch := first | omega | (simp only [RY] <;> omega) | decide) only [↓RD, RZ, eq_self, Int.reduceToNat, Int.reduceAdd, Nat.reduceAdd, Nat.reduceSub, Nat.reduceMul, Nat.reduceLeDiff, agg_ok, agg_cells, hml, hsp, vs_arr]
   refine ⟨_, rfl, ?_, s2.trans (s3.trans ((Grow.new _ _).set (Nat.le_refl _) _))⟩
   have ek : kpiece kc key = sha kc key := if_pos (by omega)
   rw [ek]
   exact by_arr (zai _ _ _) hsl (Nat.zero_le _) (by rw [zal, zaf]; omega)
  ·simp (disch := first | omega | (simp only [RY] <;> omega) | decide) only [↓RD, RZ, eq_self, Int.reduceToNat, Int.reduceAdd, Nat.reduceAdd, Nat.reduceSub, Nat.reduceMul, Nat.reduceLeDiff]
   have ek : kpiece kc key = key := if_neg (by omega)
   rw [ek]
   exact ⟨kv, rfl, hk1.low (Nat.zero_le _), Grow.refl _⟩
 ·rintro _ H2 ⟨kv', rfl, hk2, s2⟩
  have g2 := s1.trans s2
  simp (disch := first | omega | (simp only [RY] <;> omega) | decide) only [↓RD, RZ, eq_self, Int.reduceToNat, Int.reduceAdd, Nat.reduceAdd, Nat.reduceSub, Nat.reduceMul, Nat.reduceLeDiff]
  refine zae New_ok ?_
  rintro _ H3 ⟨s, F, rfl, k3, hF, s3⟩
  simp (disch := first | omega | (simp only [RY] <;> omega) | decide) only [↓RD, RZ, eq_self, Int.reduceToNat, Int.reduceAdd, Nat.reduceAdd, Nat.reduceSub, Nat.reduceMul, Nat.reduceLeDiff]
  refine zae (pad_ok (x := 54) (hk2.ext s3) (kpiece_8 kc hk8) (kpiece_len _ _) (by omega)) ?_
  rintro pv H4 ⟨hpv, s4⟩
  have k4 := k3.grow s4
  have hF3 : ∀ i ∈ F, i < H3.next := k3.low
  simp (disch := first | omega | (simp only [RY] <;> omega) | decide) only [↓RD, RZ, eq_self, Int.reduceToNat, Int.reduceAdd, Nat.reduceAdd, Nat.reduceSub, Nat.reduceMul, Nat.reduceLeDiff]
  have hin : (kpiece kc key ++ List.replicate (64 - (kpiece kc key).length) 0).map (· ^^^ 54) = kpad kc key 0x36 := rfl
  rw [hin] at hpv
  have hinl := kpad_len kc (key := key) 0x36
  refine zae (Add_ok k4 hpv (kpad_8 kc hk8 (by omega)) (fun i hi hc => by have h1 := (hpv.own i hi).1; have h2 := hF3 i hc; omega) (by rw [hinl]; simp)) ?_
  rintro _ H5 ⟨rfl, F5, k5, s5⟩
  rw [List.nil_append] at k5
  have n3 := s3.next
  have n4 := s4.next
  have n5 := s5.next
  have hF5 : ∀ i ∈ F5, H2.next ≤ i := fun i hi => by
   rcases s5.own i hi with h | h
   ·exact hF i h
   ·omega
  have g5 : Grow H2 H5 := ⟨by omega, fun i hi => by rw [s5.same i (by omega) (fun hc => by have := hF i hc; omega), s4.same i (by omega), s3.same i hi]⟩
  simp (disch := first | omega | (simp only [RY] <;> omega) | decide) only [↓RD, RZ, eq_self, Int.reduceToNat, Int.reduceAdd, Nat.reduceAdd, Nat.reduceSub, Nat.reduceMul, Nat.reduceLeDiff, hvl]
  refine zas (Q := fun r H' => r = .ex 0 [] ∧ ∃ F', Str H' s (kpad kc key 0x36 ++ ps.flatten) F' ∧ (∀ i ∈ F', H2.next ≤ i) ∧ Grow H2 H') ?_ ?_
  ·refine zaL (fun j L H' => L = [.int .i64 (j : Nat)] ∧ ∃ F', Str H' s (kpad kc key 0x36 ++ (ps.take j).flatten) F' ∧ (∀ i ∈ F', H2.next ≤ i) ∧ Grow H2 H') vs.length ?_ ?_ ?_
   ·exact ⟨rfl, F5, by simpa using k5, hF5, g5⟩
   ·rintro j L H6 hj ⟨rfl, F', k6, hF6, s6⟩
    have g6 : Grow H H6 := g2.trans s6
    have hx : vs[j]? = some vs[j] := List.getElem?_eq_getElem hj
    have hq : ps[j]? = some (ps[j]'(by rw [← hp.1]; exact hj)) := List.getElem?_eq_getElem _
    obtain ⟨hby, h8⟩ := hp.2 j _ _ hx hq
    obtain ⟨p, ip, lp⟩ := el_at (hv.ext g6) hj hx
    have hl1 := flat_take_le ps (j + 1)
    have hft := flat_take hq
    rw [hft, List.length_append] at hl1
    have n2 := g2.next
    unfold zfo
    simp (disch := first | omega | (simp only [RY] <;> omega) | decide) only [↓RD, RZ, eq_self, Int.reduceToNat, Int.reduceAdd, Nat.reduceAdd, Nat.reduceSub, Nat.reduceMul, Nat.reduceLeDiff, ip, lp]
    refine zae (Add_ok k6 (hby.ext g6) h8 (fun i hi hc => by have h1 := (hby.own i hi).2; have h2 := hF6 i hc; omega) (by rw [List.length_append, hinl]; omega)) ?_
    rintro _ H7 ⟨rfl, F7, k7, s7⟩
    rw [List.append_assoc, ← hft] at k7
    have n6 := s6.next
    simp (disch := first | omega | (simp only [RY] <;> omega) | decide) only [↓RD, RZ, eq_self, Int.reduceToNat, Int.reduceAdd, Nat.reduceAdd, Nat.reduceSub, Nat.reduceMul, Nat.reduceLeDiff]
    refine ⟨rfl, F7, k7, fun i hi => ?_, ⟨Nat.le_trans s6.next s7.next, fun i hi => by rw [s7.same i (by omega) (fun hc => by have := hF6 i hc; omega), s6.same i hi]⟩⟩
    rcases s7.own i hi with h | h
    ·exact hF6 i h
    ·omega
   ·rintro L H6 ⟨rfl, F', k6, hF6, s6⟩
    unfold zfo
    simp (disch := first | omega | (simp only [RY] <;> omega) | decide) only [↓RD, RZ, eq_self, Int.reduceToNat, Int.reduceAdd, Nat.reduceAdd, Nat.reduceSub, Nat.reduceMul, Nat.reduceLeDiff]
    refine ⟨F', ?_, hF6, s6⟩
    rw [hp.1, List.take_length] at k6
    exact k6
  ·rintro _ H6 ⟨rfl, F6, k6, hF6, s6⟩
   have n6 := s6.next
   simp (disch := first | omega | (simp only [RY] <;> omega) | decide) only [↓RD, RZ, eq_self, Int.reduceToNat, Int.reduceAdd, Nat.reduceAdd, Nat.reduceSub, Nat.reduceMul, Nat.reduceLeDiff]
   refine zae (Sum_ok k6 (by rw [List.length_append, hinl]; omega)) ?_
   rintro _ H7 ⟨rfl, s7⟩
   have n7 := s7.next
   have g7 : Grow H2 H7 := ⟨by omega, fun i hi => by rw [s7.same i (by omega) (fun hc => by have := hF6 i hc; omega), s6.same i hi]⟩
   have hsl := sha_len kc (kpad kc key 0x36 ++ ps.flatten)
   have hs8 := sha_lt kc (kpad kc key 0x36 ++ ps.flatten)
   have hml : ((sha kc (kpad kc key 0x36 ++ ps.flatten)).map by8).length = 32 := by rw [List.length_map, hsl]
   have hsp := sp32 hsl
   have hb8 : By 0 ((H7.new ⟨zag, [.int .u8 0, .int .u8 0, .int .u8 0, .int .u8 0, .int .u8 0, .int .u8 0, .int .u8 0, .int .u8 0, .int .u8 0, .int .u8 0, .int .u8 0, .int .u8 0, .int .u8 0, .int .u8 0, .int .u8 0, .int .u8 0, .int .u8 0, .int .u8 0, .int .u8 0, .int .u8 0, .int .u8 0, .int .u8 0, .int .u8 0, .int .u8 0, .int .u8 0, .int .u8 0, .int .u8 0, .int .u8 0, .int .u8 0, .int .u8 0, .int .u8 0, .int .u8 0], none⟩).set H7.next (some ⟨zag, (sha kc (kpad kc key 0x36 ++ ps.flatten)).map by8, none⟩)) (.sl H7.next 0 32 (.fix 32)) (sha kc (kpad kc key 0x36 ++ ps.flatten)) := by_arr (zai _ _ _) hsl (Nat.zero_le _) (by rw [zal, zaf]; omega)
   have s8 : Grow H7 ((H7.new ⟨zag, [.int .u8 0, .int .u8 0, .int .u8 0, .int .u8 0, .int .u8 0, .int .u8 0, .int .u8 0, .int .u8 0, .int .u8 0, .int .u8 0, .int .u8 0, .int .u8 0, .int .u8 0, .int .u8 0, .int .u8 0, .int .u8 0, .int .u8 0, .int .u8 0, .int .u8 0, .int .u8 0, .int .u8 0, .int .u8 0, .int .u8 0, .int .u8 0, .int .u8 0, .int .u8 0, .int .u8 0, .int .u8 0, .int .u8 0, .int .u8 0, .int .u8 0, .int .u8 0], none⟩).set H7.next (some ⟨zag, (sha kc (kpad kc key 0x36 ++ ps.flatten)).map by8, none⟩)) := (Grow.new _ _).set (Nat.le_refl _) _
   simp (disch := first | omega | (simp only [RY] <;> omega) | decide) only [↓RD, RZ, eq_self, Int.reduceToNat, Int.reduceAdd, Nat.reduceAdd, Nat.reduceSub, Nat.reduceMul, Nat.reduceLeDiff, agg_ok, agg_cells, hml, hsp, vs_arr]
   generalize (H7.new _).set _ _ = H8 at *
   refine zae (pad_ok (x := 92) ((hk2.ext g7).ext s8) (kpiece_8 kc hk8) (kpiece_len _ _) (by omega)) ?_
   rintro ov H9 ⟨hov, s9⟩
   have hout : (kpiece kc key ++ List.replicate (64 - (kpiece kc key).length) 0).map (· ^^^ 92) = kpad kc key 0x5c := rfl
   rw [hout] at hov
   have houtl := kpad_len kc (key := key) 0x5c
   have hc9 := hov.cells1
   have ho9 := hov.okc
   have s10 := Grow.new H9 ⟨zav, [ov, .sl H7.next 0 32 (.fix 32)], none⟩
   have l10 : Lc 1 0 (H9.new ⟨zav, [ov, .sl H7.next 0 32 (.fix 32)], none⟩) (.sl H9.next 0 2 (.fix 2)) [ov, .sl H7.next 0 32 (.fix 32)] 2 := lc_slit (zad _ _) rfl (by rw [zaf]; omega)
   have p10 : Pts 0 (H9.new ⟨zav, [ov, .sl H7.next 0 32 (.fix 32)], none⟩) [ov, .sl H7.next 0 32 (.fix 32)] [kpad kc key 0x5c, sha kc (kpad kc key 0x36 ++ ps.flatten)] :=
    Pts.cons ((hov.ext s10).low (Nat.zero_le _)) (kpad_8 kc hk8 (by omega)) (Pts.cons ((hb8.ext s9).ext s10) hs8 Pts.nil)
   simp (disch := first | omega | (simp only [RY] <;> omega) | decide) only [↓RD, RZ, eq_self, Int.reduceToNat, Int.reduceAdd, Nat.reduceAdd, Nat.reduceSub, Nat.reduceMul, Nat.reduceLeDiff, hc9, ho9]
   generalize H9.new _ = H10 at *
   refine zae (Of_ok l10 p10 (by simp) (by simp [houtl, hsl])) ?_
   rintro _ H11 ⟨rfl, s11⟩
   have ef : [kpad kc key 0x5c, sha kc (kpad kc key 0x36 ++ ps.flatten)].flatten = kpad kc key 0x5c ++ sha kc (kpad kc key 0x36 ++ ps.flatten) := by simp
   rw [ef]
   have eh : sha kc (kpad kc key 0x5c ++ sha kc (kpad kc key 0x36 ++ ps.flatten)) = hmac kc key ps.flatten := rfl
   rw [eh]
   have hhl := hmac_len kc key ps.flatten
   have g11 : Grow H1 H11 := s2.trans (g7.trans (s8.trans (s9.trans (s10.trans s11))))
   have gr11 := (g11.same rb (by omega)).trans gr
   have hml2 : ((hmac kc key ps.flatten).map by8).length = 32 := by rw [List.length_map, hhl]
   have hsp2 := spr32 hhl
   have l32 := ld32 hhl
   have hrl : (List.replicate 32 (V.int .u8 0)).length = 32 := rfl
   simp (disch := first | omega | (simp only [RY] <;> omega) | decide) only [↓RD, RZ, eq_self, Int.reduceToNat, Int.reduceAdd, Nat.reduceAdd, Nat.reduceSub, Nat.reduceMul, Nat.reduceLeDiff, gr11, agg_ok, agg_cells, hml2, hsp2, l32, hrl]
   have n11 := g11.next
   exact ⟨by rw [zal]; omega, fun i hi => by rw [zah _ _ (by omega), g11.same i (by omega), s1.same i (by omega)]⟩
end Go.Ax.SU
/- Su16 -/
namespace Go.Ax.SU
open Go.Ax
theorem Ab.nil {lo : Nat} {H : Heap} : Ab lo H .nils [] := .app .nil
theorem Extract_ok {H : Heap} {lo lo' : Nat} {sv kv : V} {salt key : List Nat} (hs : By lo H sv salt) (hs8 : Ok8 salt) (hsl : salt.length ≤ 1099511627776) (hk : By lo' H kv key) (hk8 : Ok8 key) (hkl : key.length ≤ 1099511627776) :
  Ok (sem T zb6 [sv, kv]) H fun r H' => r = .agg ((hmac kc salt key).map by8) ∧ Grow H H' := by
 refine zfS ?_
 unfold zfd
 have hc := hk.cells1
 have ho := hk.okc
 have s1 := Grow.new H ⟨zag, [.int .u8 0, .int .u8 0, .int .u8 0, .int .u8 0, .int .u8 0, .int .u8 0, .int .u8 0, .int .u8 0, .int .u8 0, .int .u8 0, .int .u8 0, .int .u8 0, .int .u8 0, .int .u8 0, .int .u8 0, .int .u8 0, .int .u8 0, .int .u8 0, .int .u8 0, .int .u8 0, .int .u8 0, .int .u8 0, .int .u8 0, .int .u8 0, .int .u8 0, .int .u8 0, .int .u8 0, .int .u8 0, .int .u8 0, .int .u8 0, .int .u8 0, .int .u8 0], none⟩
 have gr : (H.new ⟨zag, [.int .u8 0, .int .u8 0, .int .u8 0, .int .u8 0, .int .u8 0, .int .u8 0, .int .u8 0, .int .u8 0, .int .u8 0, .int .u8 0, .int .u8 0, .int .u8 0, .int .u8 0, .int .u8 0, .int .u8 0, .int .u8 0, .int .u8 0, .int .u8 0, .int .u8 0, .int .u8 0, .int .u8 0, .int .u8 0, .int .u8 0, .int .u8 0, .int .u8 0, .int .u8 0, .int .u8 0, .int .u8 0, .int .u8 0, .int .u8 0, .int .u8 0, .int .u8 0], none⟩).get H.next = some ⟨zag, List.replicate 32 (.int .u8 0), none⟩ := zad _ _
 have nr : (H.new ⟨zag, [.int .u8 0, .int .u8 0, .int .u8 0, .int .u8 0, .int .u8 0, .int .u8 0, .int .u8 0, .int .u8 0, .int .u8 0, .int .u8 0, .int .u8 0, .int .u8 0, .int .u8 0, .int .u8 0, .int .u8 0, .int .u8 0, .int .u8 0, .int .u8 0, .int .u8 0, .int .u8 0, .int .u8 0, .int .u8 0, .int .u8 0, .int .u8 0, .int .u8 0, .int .u8 0, .int .u8 0, .int .u8 0, .int .u8 0, .int .u8 0, .int .u8 0, .int .u8 0], none⟩).next = H.next + 1 := zaf _ _
 simp (disch := first | omega | (simp only [RY] <;> omega) | decide) only [↓RD, RZ, eq_self, Int.reduceToNat, Int.reduceAdd, Nat.reduceAdd, Nat.reduceSub, Nat.reduceMul, Nat.reduceLeDiff, hc, ho]
 generalize hrb : H.next = rb at *
 generalize H.new _ = H1 at *
 have s2 := Grow.new H1 ⟨zav, [kv], none⟩
 have l2 : Lc 1 0 (H1.new ⟨zav, [kv], none⟩) (.sl H1.next 0 1 (.fix 1)) [kv] 1 := lc_slit (zad _ _) rfl (by rw [zaf]; omega)
 have p2 : Pts 0 (H1.new ⟨zav, [kv], none⟩) [kv] [key] := Pts.cons (((hk.ext s1).ext s2).low (Nat.zero_le _)) hk8 Pts.nil
 rw [nr] at l2
 generalize H1.new _ = H2 at *
 have ef : [key].flatten = key := by simp
 refine zae (tag_Of_ok ((hs.ext s1).ext s2) hs8 hsl l2 p2 (by simp) (by rw [ef]; exact hkl)) ?_
 rintro _ H3 ⟨rfl, s3⟩
 rw [ef]
 have hhl := hmac_len kc salt key
 have g3 : Grow H1 H3 := s2.trans s3
 have gr3 := (g3.same rb (by omega)).trans gr
 have hml2 : ((hmac kc salt key).map by8).length = 32 := by rw [List.length_map, hhl]
 have hsp2 := spr32 hhl
 have l32 := ld32 hhl
 have hrl : (List.replicate 32 (V.int .u8 0)).length = 32 := rfl
 have n3 := g3.next
 simp (disch := first | omega | (simp only [RY] <;> omega) | decide) only [↓RD, RZ, eq_self, Int.reduceToNat, Int.reduceAdd, Nat.reduceAdd, Nat.reduceSub, Nat.reduceMul, Nat.reduceLeDiff, gr3, agg_ok, agg_cells, hml2, hsp2, l32, hrl]
 exact ⟨by rw [zal]; omega, fun i hi => by rw [zah _ _ (by omega), g3.same i (by omega), s1.same i (by omega)]⟩
theorem number_ok {H : Heap} (n k : Nat) (hn : n < 18446744073709551616) (hk : k ≤ 16) : Ok (sem T zaP [.int .u64 (n : Nat), .int .i64 (k : Nat)]) H fun r H' => Ab H.next H' r (num n k) ∧ Grow H H' := by
 refine zfA ?_
 unfold zeJ
 simp (disch := first | omega | (simp only [RY] <;> omega) | decide) only [↓RD, RZ, eq_self, Int.reduceToNat, Int.reduceAdd, Nat.reduceAdd, Nat.reduceSub, Nat.reduceMul, Nat.reduceLeDiff]
 refine zaL (fun m L H' => ∃ w, L = [w, .int .i64 ((k : Int) - 1 - (m : Nat))] ∧ Ab H.next H' w ((bn k n).take m) ∧ Bel H.next H H') k ?_ ?_ ?_
 ·exact ⟨.nils, by simp, Ab.nil, Bel.refl _ _⟩
 ·rintro m L H1 hm ⟨w, rfl, ha, hb⟩
  have e1 : (k : Int) - 1 - (m : Nat) = ((k - 1 - m : Nat) : Int) := by omega
  have e2 : (8 : Int) * ((k - 1 - m : Nat) : Int) = ((8 * (k - 1 - m) : Nat) : Int) := by omega
  have e3 : shr n (8 * (k - 1 - m)) = n / 256 ^ (k - 1 - m) := by rw [shr_def, Nat.shiftRight_eq_div_pow, Nat.pow_mul]
  have hlo1 := hb.next
  have hbg := bn_get k n m hm
  rw [e1]
  generalize hw : k - 1 - m = w' at *
  have e8 : IntKind.u8.wrap ((n / 256 ^ w' : Nat) : Int) = ((n / 256 ^ w' % 256 : Nat) : Int) := by rw [wrap_u8]; rfl
  unfold zcM
  simp (disch := first | omega | (simp only [RY] <;> omega) | decide) only [↓RD, RZ, eq_self, Int.reduceToNat, Int.reduceAdd, Nat.reduceAdd, Nat.reduceSub, Nat.reduceMul, Nat.reduceLeDiff, e2, e3, e8]
  refine zeF (m := [n / 256 ^ w' % 256]) (ha.keep ((Grow.new _ _).keep _)) (by rw [zaf]; omega) (acells_fresh rfl) (by rw [List.length_take, bn_len]; simp; omega) fun w2 H2 h2 hb2 => ?_
  simp (disch := first | omega | (simp only [RY] <;> omega) | decide) only [↓RD, RZ, eq_self, Int.reduceToNat, Int.reduceAdd, Nat.reduceAdd, Nat.reduceSub, Nat.reduceMul, Nat.reduceLeDiff]
  refine ⟨w2, by rw [show ((w' : Nat) : Int) - 1 = (k : Int) - 1 - ((m + 1 : Nat) : Int) by omega], ?_, hb.trans (((Grow.new _ _).bel (by omega)).trans hb2)⟩
  rw [take_snoc (by rw [bn_len]; exact hm), hbg]
  exact h2
 ·rintro L H1 ⟨w, rfl, ha, hb⟩
  have e1 : (k : Int) - 1 - (k : Nat) = -1 := by omega
  rw [e1]
  unfold zcM
  simp (disch := first | omega | (simp only [RY] <;> omega) | decide) only [↓RD, RZ, eq_self, Int.reduceToNat, Int.reduceAdd, Nat.reduceAdd, Nat.reduceSub, Nat.reduceMul, Nat.reduceLeDiff]
  rw [List.take_of_length_le (by rw [bn_len]; exact Nat.le_refl _)] at ha
  exact ⟨ha, hb.grow⟩
theorem Expand_ok {H : Heap} {lo lo' : Nat} {sv iv : V} {secret info : List Nat} {n : Nat} (hs : By lo H sv secret) (hs8 : Ok8 secret) (hsl : secret.length ≤ 1099511627776) (hi : By lo' H iv info) (hi8 : Ok8 info) (hil : info.length ≤ 1099511000000) (hn : n ≤ 8160) :
  Ok (sem T zbW [sv, iv, .int .i64 (n : Nat)]) H fun r H' => ∃ v, r = .tup [v, .int .i64 0] ∧ By H.next H' v ((hkdf kc secret info ((n + 31) / 32)).1.take n) ∧ Grow H H' := by
 refine zf3 ?_
 unfold zfs
 simp (disch := first | omega | (simp only [RY] <;> omega) | decide) only [↓RD, RZ, eq_self, Int.reduceToNat, Int.reduceAdd, Nat.reduceAdd, Nat.reduceSub, Nat.reduceMul, Nat.reduceLeDiff]
 refine zas (Q := fun r H' => ∃ w, r = .ex 1 [w] ∧ Ab H.next H' w (hkdf kc secret info ((n + 31) / 32)).1 ∧ Grow H H') ?_ ?_
 ·refine zaL (fun j L H' => ∃ w l, L = [w, l, .int .u8 ((j + 1) % 256 : Nat)] ∧ Ab H.next H' w (hkdf kc secret info j).1 ∧ By 0 H' l (hkdf kc secret info j).2 ∧ Grow H H') ((n + 31) / 32) ?_ ?_ ?_
  ·exact ⟨.nils, .nils, rfl, Ab.nil, Lc.nil, Grow.refl _⟩
  ·rintro j L H1 hj ⟨w, l, rfl, aw, al, s1⟩
   have hwl := aw.by.vlen
   have h1 := hkdf_len kc secret info j
   have h2 := hkdf_lt kc secret info j
   rw [h1] at hwl
   have hjn : ((32 * j : Nat) : Int) < ((n : Nat) : Int) := by omega
   have hj1 : (j + 1) % 256 = j + 1 := Nat.mod_eq_of_lt (by omega)
   have hlc := al.cells1
   have hlo := al.okc
   have hic := hi.cells1
   have hio := hi.okc
   have s2 := Grow.new H1 ⟨zac, [.int .u8 (j + 1 : Nat)], none⟩
   have b2 : By 0 (H1.new ⟨zac, [.int .u8 (j + 1 : Nat)], none⟩) (.sl H1.next 0 1 (.fix 1)) [j + 1] := by_arr (l := [j + 1]) (zad _ _) rfl (Nat.zero_le _) (by rw [zaf]; omega)
   have n1 := s1.next
   rw [hj1]
   unfold zdu
   simp (disch := first | omega | (simp only [RY] <;> omega) | decide) only [↓RD, RZ, eq_self, Int.reduceToNat, Int.reduceAdd, Nat.reduceAdd, Nat.reduceSub, Nat.reduceMul, Nat.reduceLeDiff, hwl, hjn, hlc, hlo, hic, hio]
   have n2e : (H1.new ⟨zac, [.int .u8 (j + 1 : Nat)], none⟩).next = H1.next + 1 := zaf _ _
   generalize hb : V.sl H1.next 0 1 (.fix 1) = bv at *
   generalize H1.new _ = H2 at *
   have s3 := Grow.new H2 ⟨zav, [l, iv, bv], none⟩
   have l3 : Lc 1 0 (H2.new ⟨zav, [l, iv, bv], none⟩) (.sl H2.next 0 3 (.fix 3)) [l, iv, bv] 3 := lc_slit (zad _ _) rfl (by rw [zaf]; omega)
   have p3 : Pts 0 (H2.new ⟨zav, [l, iv, bv], none⟩) [l, iv, bv] [(hkdf kc secret info j).2, info, [j + 1]] :=
    Pts.cons ((al.ext s2).ext s3) h2.2 (Pts.cons ((((hi.ext s1).ext s2).ext s3).low (Nat.zero_le _)) hi8 (Pts.cons (b2.ext s3) (fun x hx => by simp only [List.mem_cons, List.not_mem_nil, or_false] at hx; omega) Pts.nil))
   have n2 := s2.next
   rw [n2e] at l3
   generalize hv3 : V.sl (H1.next + 1) 0 3 (.fix 3) = v3 at *
   generalize H2.new _ = H3 at *
   have ef : [(hkdf kc secret info j).2, info, [j + 1]].flatten = (hkdf kc secret info j).2 ++ info ++ [j + 1] := by simp
   have hl2 : (hkdf kc secret info j).2.length ≤ 32 := by
    cases j with
    | zero => simp [hkdf]
    | succ j => exact Nat.le_of_eq (hmac_len _ _ _)
   have n3 := s3.next
   have s13 : Grow H H3 := s1.trans (s2.trans s3)
   refine zae (tag_Of_ok (hs.ext s13) hs8 hsl l3 p3 (by simp) (by rw [ef]; simp only [List.length_append, List.length_cons, List.length_nil]; omega)) ?_
   rintro _ H4 ⟨rfl, s4⟩
   rw [ef]
   have eh : (hkdf kc secret info (j + 1)).2 = hmac kc secret ((hkdf kc secret info j).2 ++ info ++ [j + 1]) := rfl
   have eh1 : (hkdf kc secret info (j + 1)).1 = (hkdf kc secret info j).1 ++ hmac kc secret ((hkdf kc secret info j).2 ++ info ++ [j + 1]) := rfl
   rw [← eh]
   rw [← eh] at eh1
   have hhl : (hkdf kc secret info (j + 1)).2.length = 32 := hmac_len _ _ _
   have h28 := (hkdf_lt kc secret info (j + 1)).2
   generalize (hkdf kc secret info (j + 1)).2 = tg at *
   have hml2 : (tg.map by8).length = 32 := by rw [List.length_map, hhl]
   have hsp2 := sp32 hhl
   have b5 : By 0 ((H4.new ⟨zag, [.int .u8 0, .int .u8 0, .int .u8 0, .int .u8 0, .int .u8 0, .int .u8 0, .int .u8 0, .int .u8 0, .int .u8 0, .int .u8 0, .int .u8 0, .int .u8 0, .int .u8 0, .int .u8 0, .int .u8 0, .int .u8 0, .int .u8 0, .int .u8 0, .int .u8 0, .int .u8 0, .int .u8 0, .int .u8 0, .int .u8 0, .int .u8 0, .int .u8 0, .int .u8 0, .int .u8 0, .int .u8 0, .int .u8 0, .int .u8 0, .int .u8 0, .int .u8 0], none⟩).set H4.next (some ⟨zag, tg.map by8, none⟩)) (.sl H4.next 0 32 (.fix 32)) tg := by_arr (zai _ _ _) hhl (Nat.zero_le _) (by rw [zal, zaf]; omega)
   have s5 : Grow H4 ((H4.new ⟨zag, [.int .u8 0, .int .u8 0, .int .u8 0, .int .u8 0, .int .u8 0, .int .u8 0, .int .u8 0, .int .u8 0, .int .u8 0, .int .u8 0, .int .u8 0, .int .u8 0, .int .u8 0, .int .u8 0, .int .u8 0, .int .u8 0, .int .u8 0, .int .u8 0, .int .u8 0, .int .u8 0, .int .u8 0, .int .u8 0, .int .u8 0, .int .u8 0, .int .u8 0, .int .u8 0, .int .u8 0, .int .u8 0, .int .u8 0, .int .u8 0, .int .u8 0, .int .u8 0], none⟩).set H4.next (some ⟨zag, tg.map by8, none⟩)) := (Grow.new _ _).set (Nat.le_refl _) _
   have n4 := s4.next
   simp (disch := first | omega | (simp only [RY] <;> omega) | decide) only [↓RD, RZ, eq_self, Int.reduceToNat, Int.reduceAdd, Nat.reduceAdd, Nat.reduceSub, Nat.reduceMul, Nat.reduceLeDiff, agg_ok, agg_cells, hml2, hsp2, vs_arr]
   generalize hv5 : V.sl H4.next 0 32 (.fix 32) = v5 at *
   have hd5 : ∀ i, w.pid = some i → v5.pid ≠ some i := fun i h => by
    rw [← hv5]
    have := (aw.by.own i h).2
    simp only [V.pid, ne_eq, Option.some.injEq]
    omega
   generalize (H4.new _).set _ _ = H5 at *
   have s15 : Grow H1 H5 := s2.trans (s3.trans (s4.trans s5))
   have n5 := s5.next
   refine zgT (aw.keep (s15.keep _)) (by omega) b5.ac (by rw [h1, hhl]; omega) fun w' H6 aw6 b6 s6 => ?_
   have ew : IntKind.u8.wrap (((j + 1 : Nat) : Int) + 1) = (((j + 1 + 1) % 256 : Nat) : Int) := by rw [wrap_u8]; rfl
   simp (disch := first | omega | (simp only [RY] <;> omega) | decide) only [↓RD, RZ, eq_self, Int.reduceToNat, Int.reduceAdd, Nat.reduceAdd, Nat.reduceSub, Nat.reduceMul, Nat.reduceLeDiff, ew]
   refine ⟨w', v5, rfl, ?_, ?_, ⟨by have := b6.next; omega, fun i hi => by rw [b6.same i hi, s15.same i (by omega), s1.same i hi]⟩⟩
   ·rw [eh1]; exact aw6
   ·exact b5.stepF s6 fun i hi hF => hd5 i (mem_pid.1 hF) hi
  ·rintro L H1 ⟨w, l, rfl, aw, al, s1⟩
   have hwl := aw.by.vlen
   rw [hkdf_len] at hwl
   have hjn : ((n : Nat) : Int) ≤ ((32 * ((n + 31) / 32) : Nat) : Int) := by omega
   unfold zdu
   simp (disch := first | omega | (simp only [RY] <;> omega) | decide) only [↓RD, RZ, eq_self, Int.reduceToNat, Int.reduceAdd, Nat.reduceAdd, Nat.reduceSub, Nat.reduceMul, Nat.reduceLeDiff, hwl, hjn]
   exact ⟨w, rfl, aw, s1⟩
 ·rintro _ H1 ⟨w, rfl, aw, s1⟩
  have hwl := hkdf_len kc secret info ((n + 31) / 32)
  obtain ⟨va, -, ha, -, hva, pa⟩ := by_slice aw.by (x := 0) (y := ((n : Nat) : Int)) (by omega) (by omega) (by rw [hwl]; omega)
  have ha2 : ∀ {k' : IntKind}, vslice .sl 1 w none (some (.int k' ((n : Nat) : Int))) none = some va := ha rfl
  have e0 : (0 : Int).toNat = 0 := rfl
  rw [e0, List.drop_zero, Int.toNat_natCast, Nat.sub_zero] at hva
  have n1 := s1.next
  simp (disch := first | omega | (simp only [RY] <;> omega) | decide) only [↓RD, RZ, eq_self, Int.reduceToNat, Int.reduceAdd, Nat.reduceAdd, Nat.reduceSub, Nat.reduceMul, Nat.reduceLeDiff, ha2]
  refine zeF (lo := H1.next) Ab.nil (Nat.le_refl _) hva.ac (by rw [List.length_take]; simp; omega) fun v' H2 a2 b2 => ?_
  simp (disch := first | omega | (simp only [RY] <;> omega) | decide) only [↓RD, RZ, eq_self, Int.reduceToNat, Int.reduceAdd, Nat.reduceAdd, Nat.reduceSub, Nat.reduceMul, Nat.reduceLeDiff]
  rw [List.nil_append] at a2
  exact ⟨v', rfl, a2.by.low (by omega), s1.trans b2.grow⟩
end Go.Ax.SU
/- Su17 -/
namespace Go.Ax.SU
open Go.Ax
/-! Products with three, boxes, computed. -/
def tchk (n : Nat) : Bool := match Cp.cs 3 za9 [by8 n, .int .u8 3] with
 | some (.int .u8 k) => k == ((t3 n : Nat) : Int)
 | _ => false
theorem times_all : (List.range 256).all tchk = true := by kernel_rfl
theorem times_eq {n : Nat} (h : n < 256) : sem T za9 [by8 n, .int .u8 3] = M.pure (by8 (t3 n)) := by
 have h1 := List.all_eq_true.1 times_all n (List.mem_range.2 h)
 unfold tchk at h1
 split at h1
 ·rename_i b hb
  rw [cp_pure hb]
  simp only [beq_iff_eq] at h1
  rw [h1]; rfl
 ·cases h1
def bchk (n : Nat) : Bool := match Cp.cs 3 za8 [by8 n] with
 | some (.int .u8 k) => k == ((bx n : Nat) : Int)
 | _ => false
theorem box_all : (List.range 256).all bchk = true := by kernel_rfl
theorem box_eq {n : Nat} (h : n < 256) : sem T za8 [by8 n] = M.pure (by8 (bx n)) := by
 have h1 := List.all_eq_true.1 box_all n (List.mem_range.2 h)
 unfold bchk at h1
 split at h1
 ·rename_i b hb
  rw [cp_pure hb]
  simp only [beq_iff_eq] at h1
  rw [h1]; rfl
 ·cases h1
theorem bg {l : List Nat} {i : Nat} (h : i < l.length) : (l.map by8)[i]? = some (by8 (l.getD i 0)) := by
 rw [List.getElem?_map, List.getElem?_eq_getElem h, List.getD_eq_getElem?_getD, List.getElem?_eq_getElem h]; rfl
theorem bga {l : List Nat} {r : List V} {i : Nat} (h : i < l.length) : (l.map by8 ++ r)[i]? = some (by8 (l.getD i 0)) := by
 rw [List.getElem?_append_left (by rw [List.length_map]; exact h), bg h]
theorem bset {l : List Nat} {r : List V} {i x : Nat} (h : i < l.length) : splice (l.map by8 ++ r) i [by8 x] = (l.set i x).map by8 ++ r := by
 rw [sp_set _ _ _ (by rw [List.length_append, List.length_map]; omega), List.set_append_left _ _ (by rw [List.length_map]; exact h), ← List.map_set]
theorem b_xor {a b : Nat} (ha : a < 256) (hb : b < 256) : Ax.bin .xor (by8 a) (by8 b) = some (by8 (a ^^^ b)) := by
 unfold by8
 rw [xor_u8 (by omega) (by omega) (by omega) (by omega)]; rfl
theorem b_iaddr {n id off m : Nat} (h : m < n) : Ax.iaddr (some n) 1 (.ptr id off) (by8 m) = some (.ptr id (off + m)) := by
 unfold by8
 rw [zgt (by omega) (by omega)]; simp
def tabC : Bool → List V
 | false => .int .u32 0 :: .int .i32 0 :: .int .u32 0 :: List.replicate 256 (.int .u8 0)
 | true => .int .u32 1 :: .int .i32 0 :: .int .u32 0 :: sbox.map by8
theorem made_1_ok {H : Heap} {b k ty : Nat} {x0 x1 x2 : V} {r : List V} (hb : H.get b = some ⟨zaT, [.ptr k 0], none⟩) (hk : H.get k = some ⟨ty, x0 :: x1 :: x2 :: ((fillb 0).map by8 ++ r), none⟩) (hbk : b ≠ k) (hbl : b < H.next) (hkl : k < H.next) :
  Ok (sem T zbm [.ptr b 0]) H fun _ H' => H'.get k = some ⟨ty, x0 :: x1 :: x2 :: (sbox.map by8 ++ r), none⟩ ∧ Step H H' [k] [k] := by
 refine zee ?_
 unfold zcS
 refine zaw (zcn (by kernel_rfl) ?_)
 have ez : (V.agg (List.replicate 255 (V.int .u8 0))).cells = List.replicate 255 (V.int .u8 0) := rfl
 have s1 := Grow.new H ⟨zbw, List.replicate 255 (.int .u8 0), none⟩
 have gp : (H.new ⟨zbw, List.replicate 255 (.int .u8 0), none⟩).get H.next = some ⟨zbw, List.replicate 255 (.int .u8 0), none⟩ := zad _ _
 have n1 : (H.new ⟨zbw, List.replicate 255 (.int .u8 0), none⟩).next = H.next + 1 := zaf _ _
 have gb1 := (s1.same b hbl).trans hb
 have gk1 := (s1.same k hkl).trans hk
 show Ok _ (H.new ⟨zbw, List.replicate 255 (.int .u8 0), none⟩) _
 generalize hp : H.next = p at *
 generalize H.new _ = H1 at *
 have hpl := pwl_len
 have hp8 := pwl_lt
 simp (disch := first | omega | (simp only [RY] <;> omega) | decide) only [↓RD, RZ, eq_self, Int.reduceToNat, Int.reduceAdd, Nat.reduceAdd, Nat.reduceSub, Nat.reduceMul, Nat.reduceLeDiff]
 refine zas (Q := fun x H' => x = .ex 0 [] ∧ H'.get p = some ⟨zbw, pwl.map by8, none⟩ ∧ At1 p H1 H') ?_ ?_
 ·refine zaL (fun j L H' => ∃ x, L = [x, .int .i64 (j : Nat)] ∧ (j < 255 → x = by8 (pwl.getD j 0)) ∧ H'.get p = some ⟨zbw, (pwl.take j).map by8 ++ List.replicate (255 - j) (.int .u8 0), none⟩ ∧ At1 p H1 H') 255 ?_ ?_ ?_
  ·exact ⟨_, rfl, fun _ => rfl, gp, At1.refl _ _⟩
  ·rintro j L H2 hj ⟨x, rfl, hx, g2, s2⟩
   have hx := hx hj
   subst hx
   have hlt : ((pwl.take j).map by8).length = j := by rw [List.length_map, List.length_take]; omega
   have h8 := hp8.getD j
   have et := times_eq h8
   have e := splice_next (z := .int .u8 0) (x := by8 (pwl.getD j 0)) hlt hj
   have hll : ((pwl.take j).map by8 ++ List.replicate (255 - j) (V.int .u8 0)).length = 255 := by rw [List.length_append, hlt, List.length_replicate]; omega
   unfold zbI
   simp (disch := first | omega | (simp only [RY] <;> omega) | decide) only [↓RD, RZ, eq_self, Int.reduceToNat, Int.reduceAdd, Nat.reduceAdd, Nat.reduceSub, Nat.reduceMul, Nat.reduceLeDiff, g2, e, et, by8_ok, by8_cells, hll]
   refine ⟨by omega, _, rfl, fun h => ?_, ?_, s2.trans (At1.set p _ _)⟩
   ·rw [pwl_step (by omega)]
   ·rw [take_snoc (by omega)]; simp
  ·rintro L H2 ⟨x, rfl, hx, g2, s2⟩
   unfold zbI
   simp (disch := first | omega | (simp only [RY] <;> omega) | decide) only [↓RD, RZ, eq_self, Int.reduceToNat, Int.reduceAdd, Nat.reduceAdd, Nat.reduceSub, Nat.reduceMul, Nat.reduceLeDiff]
   refine ⟨?_, s2⟩
   rw [g2, List.take_of_length_le (by omega)]; simp
 ·rintro _ H2 ⟨rfl, gp2, s2⟩
  have n2 := s2.next
  have gb2 := (s2.same b (by omega) (by omega)).trans gb1
  have gk2 := (s2.same k (by omega) (by omega)).trans gk1
  have hpm : (pwl.map by8).length = 255 := by rw [List.length_map, hpl]
  have l255 : ldc (some 255) (pwl.map by8) 0 = some (.agg (pwl.map by8)) := by rw [ldc_some (by omega), List.drop_zero, List.take_of_length_le (by omega)]
  simp (disch := first | omega | (simp only [RY] <;> omega) | decide) only [↓RD, RZ, eq_self, Int.reduceToNat, Int.reduceAdd, Nat.reduceAdd, Nat.reduceSub, Nat.reduceMul, Nat.reduceLeDiff, gp2, l255]
  refine zas (Q := fun x H' => x = .ex 2 [] ∧ H'.get k = some ⟨ty, x0 :: x1 :: x2 :: ((fillb 255).map by8 ++ r), none⟩ ∧ At1 k H2 H') ?_ ?_
  ·refine zaL (fun j L H' => L = [.int .i64 (j : Nat)] ∧ H'.get k = some ⟨ty, x0 :: x1 :: x2 :: ((fillb j).map by8 ++ r), none⟩ ∧ At1 k H2 H') 255 ?_ ?_ ?_
   ·exact ⟨rfl, gk2, At1.refl _ _⟩
   ·rintro j L H3 hj ⟨rfl, g3, s3⟩
    have gb3 := (s3.same b (by omega) hbk).trans gb2
    have gp3 := (s3.same p (by omega) (by omega)).trans gp2
    have e1 := bg (l := pwl) (i := j) (by omega)
    have e2 := bg (l := pwl) (i := (255 - j) % 255) (by rw [hpl]; exact Nat.mod_lt _ (by decide))
    have e3 : (255 : Int) - (j : Nat) = ((255 - j : Nat) : Int) := by omega
    have e4 : ((255 - j : Nat) : Int) % 255 = (((255 - j) % 255 : Nat) : Int) := by omega
    have eb := box_eq (hp8.getD ((255 - j) % 255))
    have h8 := hp8.getD j
    have e5 : 3 + pwl.getD j 0 = pwl.getD j 0 + 1 + 1 + 1 := by omega
    have e6 := bset (l := fillb j) (r := r) (i := pwl.getD j 0) (x := bx (pwl.getD ((255 - j) % 255) 0)) (by rw [fillb_len]; exact h8)
    have hlm : ((fillb j).map by8 ++ r).length = 256 + r.length := by rw [List.length_append, List.length_map, fillb_len]
    have hmod := Nat.mod_lt (255 - j) (show 0 < 255 by decide)
    have ia := b_iaddr (id := k) (off := 3) (n := 256) h8
    unfold zbH
    simp (disch := first | omega | (simp only [RY] <;> omega) | decide) only [↓RD, RZ, eq_self, Int.reduceToNat, Int.reduceAdd, Nat.reduceAdd, Nat.reduceSub, Nat.reduceMul, Nat.reduceLeDiff, e1, gb3, e3, e4, gp3, e2, eb, ia, e5, g3, splice_cons, e6, by8_ok, by8_cells, hlm]
    exact ⟨by omega, rfl, rfl, s3.trans (At1.set k _ _)⟩
   ·rintro L H3 ⟨rfl, g3, s3⟩
    unfold zbH
    simp (disch := first | omega | (simp only [RY] <;> omega) | decide) only [↓RD, RZ, eq_self, Int.reduceToNat, Int.reduceAdd, Nat.reduceAdd, Nat.reduceSub, Nat.reduceMul, Nat.reduceLeDiff]
    exact ⟨g3, s3⟩
  ·rintro _ H3 ⟨rfl, g3, s3⟩
   have gb3 := (s3.same b (by omega) hbk).trans gb2
   have eb := box_eq (n := 0) (by omega)
   have n3 := s3.next
   have e6 := bset (l := fillb 255) (r := r) (i := 0) (x := bx 0) (by rw [fillb_len]; omega)
   rw [fillb_all] at e6
   have hlm : ((fillb 255).map by8 ++ r).length = 256 + r.length := by rw [List.length_append, List.length_map, fillb_len]
   have eb0 : sem T za8 [.int .u8 0] = M.pure (by8 (bx 0)) := eb
   simp (disch := first | omega | (simp only [RY] <;> omega) | decide) only [↓RD, RZ, eq_self, Int.reduceToNat, Int.reduceAdd, Nat.reduceAdd, Nat.reduceSub, Nat.reduceMul, Nat.reduceLeDiff, gb3, eb0, g3, splice_cons, e6, by8_ok, by8_cells, hlm]
   refine ⟨by omega, ⟨by rw [zal]; omega, fun i hi hF => ?_, fun i hi => .inl hi⟩⟩
   simp only [List.mem_singleton] at hF
   rw [zah _ _ hF, s3.same i (by omega) hF, s2.same i (by omega) (by omega), s1.same i (by omega)]
theorem made_ok {H : Heap} {k ty : Nat} {d : Bool} {r : List V} (hk : H.get k = some ⟨ty, tabC d ++ r, none⟩) (hkl : k < H.next) :
  Ok (sem T zaM [.ptr k 0]) H fun x H' => x = .ptr k 3 ∧ H'.get k = some ⟨ty, tabC true ++ r, none⟩ ∧ Step H H' [k] [k] := by
 refine zeW ?_
 unfold zdq
 simp (disch := first | omega | (simp only [RY] <;> omega) | decide) only [↓RD, RZ, eq_self, Int.reduceToNat, Int.reduceAdd, Nat.reduceAdd, Nat.reduceSub, Nat.reduceMul, Nat.reduceLeDiff]
 have s1 := Grow.new H ⟨zaT, [.ptr k 0], none⟩
 have gb : (H.new ⟨zaT, [.ptr k 0], none⟩).get H.next = _ := zad _ _
 have gk := (s1.same k hkl).trans hk
 have nb : H.next < (H.new ⟨zaT, [.ptr k 0], none⟩).next := by rw [zaf]; omega
 have hne : H.next ≠ k := by omega
 have n1 := s1.next
 generalize hgb : H.next = b at *
 generalize H.new _ = H1 at *
 refine zae (P := fun x H' => H'.get b = some ⟨zaT, [.ptr k 0], none⟩ ∧ H'.get k = some ⟨ty, tabC true ++ r, none⟩ ∧ Step H1 H' [k] [k]) ?_ ?_
 ·cases d with
  | true =>
   refine zas (once_done gk rfl) ?_
   rintro _ _ ⟨rfl, rfl⟩
   exact ⟨gb, gk, Step.refl _ _⟩
  | false =>
   refine zas (once_slow (P := fun H' => H'.get b = some ⟨zaT, [.ptr k 0], none⟩ ∧ H'.get k = some ⟨ty, tabC true ++ r, none⟩ ∧ Step H1 H' [k] [k]) gk rfl rfl ?_) ?_
   ·have e0 : List.replicate 256 (V.int .u8 0) = (fillb 0).map by8 := by unfold fillb; rw [List.map_replicate]; rfl
    have e1 : splice (tabC false ++ r) (0 + 1) [.int .i32 1] = .int .u32 0 :: .int .i32 1 :: .int .u32 0 :: ((fillb 0).map by8 ++ r) := by
     rw [← e0]; rfl
    refine zas (made_1_ok (k := k) (ty := ty) (x0 := .int .u32 0) (x1 := .int .i32 1) (x2 := .int .u32 0) (r := r) (by rw [zah _ _ hne]; exact gb) (by rw [zai, e1]) hne (by rw [zal]; exact nb) (by rw [zal]; omega)) ?_
    rintro _ H2 ⟨g2, s2⟩
    have n2 := s2.next
    rw [zal] at n2
    have hb2 : H2.get b = some ⟨zaT, [.ptr k 0], none⟩ := by rw [s2.same b (by rw [zal]; exact nb) (by simpa using hne), zah _ _ hne]; exact gb
    refine ⟨_, g2, rfl, rfl, ?_, ?_, ?_⟩
    ·rw [zah _ _ hne, zah _ _ hne, hb2]
    ·rw [zai]; rfl
    ·exact ((Step.set (H := H1) _ (by simp : k ∈ [k])).trans s2).trans ((Step.set (H := H2) _ (by simp : k ∈ [k])).trans (Step.set _ (by simp)))
   ·rintro _ H2 ⟨_, h2⟩
    exact h2
 ·rintro x H2 ⟨g1, g2, s2⟩
  simp (disch := first | omega | (simp only [RY] <;> omega) | decide) only [↓RD, RZ, eq_self, Int.reduceToNat, Int.reduceAdd, Nat.reduceAdd, Nat.reduceSub, Nat.reduceMul, Nat.reduceLeDiff, g1]
  exact ⟨g2, ⟨Nat.le_trans (by omega) s2.next, fun i hi hF => by rw [s2.same i (by omega) hF, s1.same i (by omega)], fun i hi => .inl hi⟩⟩
theorem made_there {H : Heap} {k ty : Nat} {r : List V} (hk : H.get k = some ⟨ty, tabC true ++ r, none⟩) (hkl : k < H.next) :
  Ok (sem T zaM [.ptr k 0]) H fun x H' => x = .ptr k 3 ∧ Grow H H' := by
 refine zas (made_ok hk hkl) ?_
 rintro _ H' ⟨rfl, g, s⟩
 refine ⟨rfl, ⟨s.next, fun i hi => ?_⟩⟩
 by_cases e : i = k
 ·subst e; rw [g, hk]
 ·exact s.same i hi (by simpa using e)
theorem twice_eq {n : Nat} (h : n < 256) : sem T zaF [by8 n] = M.pure (by8 (xt n)) := by
 refine pure_of_ok fun H => ?_
 refine zfW ?_
 unfold f_block_twice by8 xt
 by_cases e : 128 ≤ n
 ·have e1 : n * 2 % 256 < 256 := Nat.mod_lt _ (by decide)
  rw [if_pos e]
  simp (disch := first | omega | (simp only [RY] <;> omega) | decide) only [↓RD, RZ, eq_self, Int.reduceToNat, Int.reduceAdd, Nat.reduceAdd, Nat.reduceSub, Nat.reduceMul, Nat.reduceLeDiff]
 ·rw [if_neg e, ← Nat.mod_eq_of_lt (show n * 2 < 256 by omega)]
  simp (disch := first | omega | (simp only [RY] <;> omega) | decide) only [↓RD, RZ, eq_self, Int.reduceToNat, Int.reduceAdd, Nat.reduceAdd, Nat.reduceSub, Nat.reduceMul, Nat.reduceLeDiff]
end Go.Ax.SU
/- Su18 -/
namespace Go.Ax.SU
open Go.Ax
def Aes (H : Heap) (k : Nat) (ws : List (List Nat)) : Prop := ∃ id, H.get k = some ⟨zaU, tabC true ++ [.sl id 0 ws.length (.opn 4)], none⟩ ∧ H.get id = some ⟨zau, ws.flatten.map by8, some 4⟩ ∧ k < H.next ∧ id < H.next ∧ ∀ w ∈ ws, Word w
theorem Aes.grow {H H' : Heap} {k : Nat} {ws : List (List Nat)} (h : Aes H k ws) (g : Grow H H') : Aes H' k ws := by
 obtain ⟨id, h1, h2, h3, h4, h5⟩ := h
 exact ⟨id, by rw [g.same k h3]; exact h1, by rw [g.same id h4]; exact h2, Nat.lt_of_lt_of_le h3 g.next, Nat.lt_of_lt_of_le h4 g.next, h5⟩
theorem key259 (wv : V) : (tabC true ++ [wv])[259]? = some wv := by
 rw [List.getElem?_append_right (by show (tabC true).length ≤ 259; unfold tabC; simp only [List.length_cons, List.length_map, sbox_len]; omega)]
 have : (tabC true).length = 259 := by unfold tabC; simp only [List.length_cons, List.length_map, sbox_len]
 rw [this]; rfl
theorem flat4 : ∀ (ws : List (List Nat)), (∀ w ∈ ws, Word w) → ws.flatten.length = 4 * ws.length := by
 intro ws
 induction ws with
 | nil => intro _; rfl
 | cons w ws ih =>
  intro h
  rw [List.flatten_cons, List.length_append, ih (fun w' h' => h w' (List.mem_cons_of_mem _ h')), (h w (List.mem_cons_self ..)).1, List.length_cons]
  omega
theorem flat4_at : ∀ (ws : List (List Nat)), (∀ w ∈ ws, Word w) → ∀ j m : Nat, m < 4 → ws.flatten.getD (j * 4 + m) 0 = (ws.getD j []).getD m 0 := by
 intro ws
 induction ws with
 | nil => intro _ j m _; simp
 | cons w ws ih =>
  intro h j m hm
  have hw := (h w (List.mem_cons_self ..)).1
  cases j with
  | zero =>
   rw [List.flatten_cons, Nat.zero_mul, Nat.zero_add, List.getD_eq_getElem?_getD, List.getElem?_append_left (by omega)]
   simp
  | succ j =>
   rw [List.flatten_cons, List.getD_eq_getElem?_getD, List.getElem?_append_right (by omega), hw, show (j + 1) * 4 + m - 4 = j * 4 + m by omega, ← List.getD_eq_getElem?_getD, ih (fun w' h' => h w' (List.mem_cons_of_mem _ h')) j m hm]
   rfl
theorem word_byte {ws : List (List Nat)} (hw : ∀ w ∈ ws, Word w) {j m : Nat} (hj : j < ws.length) (hm : m < 4) : (ws.flatten.map by8)[j * 4 + m]? = some (by8 ((ws.getD j []).getD m 0)) := by
 rw [bg (by rw [flat4 ws hw]; omega), flat4_at ws hw j m hm]
theorem word_8 {ws : List (List Nat)} (hw : ∀ w ∈ ws, Word w) (j m : Nat) : (ws.getD j []).getD m 0 < 256 := by
 refine Ok8.getD ?_ _
 rw [List.getD_eq_getElem?_getD]
 cases e : ws[j]? with
 | none => exact Ok8.nil
 | some w => exact (hw w (List.mem_of_getElem? e)).2
theorem agg16 {x : List Nat} (h : x.length = 16) : (x.map by8).length = 16 := by rw [List.length_map, h]
theorem ld16 {l : List Nat} (hl : l.length = 16) : ldc (some 16) (l.map by8) 0 = some (.agg (l.map by8)) := by
 rw [ldc_some (by rw [List.length_map]; omega), List.drop_zero, List.take_of_length_le (by rw [List.length_map]; omega)]
theorem sp16 {l : List Nat} (hl : l.length = 16) {L : List V} (hL : L.length = 16) : splice L 0 (l.map by8) = l.map by8 := by
 unfold splice
 rw [List.take_zero, List.nil_append, List.length_map, hl, List.drop_of_length_le (by omega), List.append_nil]
theorem up_now {x y : List Nat} {i : Nat} (hx : i < x.length) : (y.take i ++ x.drop i).map by8 = (y.take i).map by8 ++ by8 (x.getD i 0) :: (x.drop (i + 1)).map by8 := by
 rw [List.drop_eq_getElem_cons hx, List.getD_eq_getElem?_getD, List.getElem?_eq_getElem hx, List.map_append, List.map_cons]; rfl
theorem up_then {x y : List Nat} {i : Nat} (hy : i < y.length) : (y.take i).map by8 ++ by8 (y.getD i 0) :: (x.drop (i + 1)).map by8 = (y.take (i + 1) ++ x.drop (i + 1)).map by8 := by
 rw [take_snoc hy, List.map_append, List.map_append]
 simp
theorem addk_len (ws : List (List Nat)) (r : Nat) (x : List Nat) : (addk ws r x).length = 16 := by simp [addk]
theorem movd_len (x : List Nat) : (movd x).length = 16 := by simp [movd]
theorem mixd_len (x : List Nat) : (mixd x).length = 16 := by simp [mixd]
theorem addk_8 {ws : List (List Nat)} (hw : ∀ w ∈ ws, Word w) {r : Nat} {x : List Nat} (h : Ok8 x) : Ok8 (addk ws r x) := Ok8.rmap fun i _ => xor_lt8 (h.getD i) (word_8 hw _ _)
theorem movd_8 (x : List Nat) : Ok8 (movd x) := Ok8.rmap fun i _ => sb_lt _
theorem mixd_8 {x : List Nat} (h : Ok8 x) : Ok8 (mixd x) := Ok8.rmap fun i _ => xor_lt8 (xor_lt8 (xor_lt8 (xor_lt8 (xt_lt (h.getD _)) (xt_lt (h.getD _))) (h.getD _)) (h.getD _)) (h.getD _)
theorem add_ok {H : Heap} {k r : Nat} {ws : List (List Nat)} {x : List Nat} (hA : Aes H k ws) (hx : x.length = 16) (h8 : Ok8 x) (hr : 4 * r + 3 < ws.length) (hwl : ws.length ≤ 1000) :
  Ok (sem T zbF [.ptr k 0, .agg (x.map by8), .int .i64 (r : Nat)]) H fun res H' => res = .agg ((addk ws r x).map by8) ∧ Grow H H' := by
 refine zfy ?_
 unfold zet
 refine zaw (zcn (agg_ok _) ?_)
 rw [agg_cells]
 have s1 := Grow.new H ⟨zab, x.map by8, none⟩
 have g1 : (H.new ⟨zab, x.map by8, none⟩).get H.next = some ⟨zab, x.map by8, none⟩ := zad _ _
 have n1 : (H.new ⟨zab, x.map by8, none⟩).next = H.next + 1 := zaf _ _
 generalize ha : H.next = a at *
 generalize H.new _ = H1 at *
 have s2 := Grow.new H1 ⟨zab, [.int .u8 0, .int .u8 0, .int .u8 0, .int .u8 0, .int .u8 0, .int .u8 0, .int .u8 0, .int .u8 0, .int .u8 0, .int .u8 0, .int .u8 0, .int .u8 0, .int .u8 0, .int .u8 0, .int .u8 0, .int .u8 0], none⟩
 have g2 : (H1.new ⟨zab, [.int .u8 0, .int .u8 0, .int .u8 0, .int .u8 0, .int .u8 0, .int .u8 0, .int .u8 0, .int .u8 0, .int .u8 0, .int .u8 0, .int .u8 0, .int .u8 0, .int .u8 0, .int .u8 0, .int .u8 0, .int .u8 0], none⟩).get H1.next = some ⟨zab, [.int .u8 0, .int .u8 0, .int .u8 0, .int .u8 0, .int .u8 0, .int .u8 0, .int .u8 0, .int .u8 0, .int .u8 0, .int .u8 0, .int .u8 0, .int .u8 0, .int .u8 0, .int .u8 0, .int .u8 0, .int .u8 0], none⟩ := zad _ _
 have n2 : (H1.new ⟨zab, [.int .u8 0, .int .u8 0, .int .u8 0, .int .u8 0, .int .u8 0, .int .u8 0, .int .u8 0, .int .u8 0, .int .u8 0, .int .u8 0, .int .u8 0, .int .u8 0, .int .u8 0, .int .u8 0, .int .u8 0, .int .u8 0], none⟩).next = H1.next + 1 := zaf _ _
 have ga2 := (s2.same a (by omega)).trans g1
 have hA2 := (hA.grow s1).grow s2
 simp (disch := first | omega | (simp only [RY] <;> omega) | decide) only [↓RD, RZ, eq_self, Int.reduceToNat, Int.reduceAdd, Nat.reduceAdd, Nat.reduceSub, Nat.reduceMul, Nat.reduceLeDiff]
 generalize hb : H1.next = b at *
 generalize H1.new _ = H2 at *
 obtain ⟨id, k1, k2, k3, k4, hw⟩ := hA2
 have hkk : k < a ∧ id < a := by
  obtain ⟨id', k1', k2', k3', k4', hw'⟩ := hA
  have e1 := (s2.same k (by omega)).trans ((s1.same k (by omega)).trans k1')
  rw [k1] at e1
  injection e1 with e1
  injection e1 with _ e1 _
  have e2 := List.append_cancel_left e1
  injection e2 with e2
  injection e2 with e2
  omega
 refine zas (Q := fun z H' => z = .ex 0 [] ∧ H'.get a = some ⟨zab, (addk ws r x).map by8, none⟩ ∧ At1 a H2 H') ?_ ?_
 ·refine zaL (fun i L H' => L = [.int .i64 (i : Nat)] ∧ H'.get a = some ⟨zab, ((addk ws r x).take i ++ x.drop i).map by8, none⟩ ∧ At1 a H2 H') 16 ?_ ?_ ?_
  ·exact ⟨rfl, by simpa using ga2, At1.refl _ _⟩
  ·rintro i L H3 hi ⟨rfl, g3, s3⟩
   have gk3 := (s3.same k (by omega) (by omega)).trans k1
   have gi3 := (s3.same id (by omega) (by omega)).trans k2
   have hal := addk_len ws r x
   have hA' : (((addk ws r x).take i).map by8).length = i := by rw [List.length_map, List.length_take]; omega
   rw [up_now (by omega)] at g3
   have m1 := mid_get (b := by8 (x.getD i 0)) (C := (x.drop (i + 1)).map by8) hA'
   have m2 := mid_set (b := by8 (x.getD i 0)) (y := by8 ((addk ws r x).getD i 0)) (C := (x.drop (i + 1)).map by8) hA'
   have ml : (((addk ws r x).take i).map by8 ++ by8 (x.getD i 0) :: (x.drop (i + 1)).map by8).length = 16 := by rw [List.length_append, hA', List.length_cons, List.length_map, List.length_drop]; omega
   have ek := key259 (.sl id 0 ws.length (.opn 4))
   have e1 : (4 : Int) * (r : Nat) = ((4 * r : Nat) : Int) := by omega
   have e2 : ((i : Nat) : Int) / 4 = ((i / 4 : Nat) : Int) := by omega
   have e3 : ((4 * r : Nat) : Int) + ((i / 4 : Nat) : Int) = ((4 * r + i / 4 : Nat) : Int) := by omega
   have e4 : ((i : Nat) : Int) % 4 = ((i % 4 : Nat) : Int) := by omega
   have hm4 := Nat.mod_lt i (show 0 < 4 by decide)
   have wb := word_byte hw (j := 4 * r + i / 4) (m := i % 4) (by omega) hm4
   have ex := b_xor (h8.getD i) (word_8 hw (4 * r + i / 4) (i % 4))
   have ea : x.getD i 0 ^^^ (ws.getD (4 * r + i / 4) []).getD (i % 4) 0 = (addk ws r x).getD i 0 := by unfold addk; rw [getD_rmap hi]
   rw [ea] at ex
   unfold zct
   simp (disch := first | omega | (simp only [RY] <;> omega) | decide) only [↓RD, RZ, eq_self, Int.reduceToNat, Int.reduceAdd, Nat.reduceAdd, Nat.reduceSub, Nat.reduceMul, Nat.reduceLeDiff, g3, m1, gk3, ek, e1, e2, e3, e4, gi3, wb, ex, m2, ml, by8_ok, by8_cells]
   refine ⟨by omega, rfl, ?_, s3.trans (At1.set a _ _)⟩
   rw [up_then (by omega)]
  ·rintro L H3 ⟨rfl, g3, s3⟩
   unfold zct
   simp (disch := first | omega | (simp only [RY] <;> omega) | decide) only [↓RD, RZ, eq_self, Int.reduceToNat, Int.reduceAdd, Nat.reduceAdd, Nat.reduceSub, Nat.reduceMul, Nat.reduceLeDiff]
   refine ⟨?_, s3⟩
   rw [g3, List.take_of_length_le (by rw [addk_len]; omega), List.drop_of_length_le (by omega), List.append_nil]
 ·rintro _ H3 ⟨rfl, g3, s3⟩
  have n3 := s3.next
  have gb3 := (s3.same b (by omega) (by omega)).trans g2
  have hal := addk_len ws r x
  have l1 := ld16 hal
  have l2 := sp16 hal (L := [.int .u8 0, .int .u8 0, .int .u8 0, .int .u8 0, .int .u8 0, .int .u8 0, .int .u8 0, .int .u8 0, .int .u8 0, .int .u8 0, .int .u8 0, .int .u8 0, .int .u8 0, .int .u8 0, .int .u8 0, .int .u8 0]) rfl
  have l3 := agg16 hal
  simp (disch := first | omega | (simp only [RY] <;> omega) | decide) only [↓RD, RZ, eq_self, Int.reduceToNat, Int.reduceAdd, Nat.reduceAdd, Nat.reduceSub, Nat.reduceMul, Nat.reduceLeDiff, g3, l1, gb3, agg_ok, agg_cells, l2, l3]
  exact ⟨by rw [zal]; omega, fun i hi => by rw [zah _ _ (by omega), s3.same i (by omega) (by omega), s2.same i (by omega), s1.same i (by omega)]⟩
end Go.Ax.SU
/- Su19 -/
namespace Go.Ax.SU
open Go.Ax
theorem tab_at {wv : V} {n : Nat} (h : n < 256) : (tabC true ++ [wv])[3 + n]? = some (by8 (sb n)) := by
 have e : tabC true ++ [wv] = .int .u32 1 :: .int .i32 0 :: .int .u32 0 :: (sbox.map by8 ++ [wv]) := rfl
 rw [e, show 3 + n = n + 1 + 1 + 1 by omega]
 rw [List.getElem?_cons_succ, List.getElem?_cons_succ, List.getElem?_cons_succ, bga (by rw [sbox_len]; exact h)]
 rfl
theorem moved_ok {H : Heap} {k : Nat} {ws : List (List Nat)} {x : List Nat} (hA : Aes H k ws) (hx : x.length = 16) (h8 : Ok8 x) :
  Ok (sem T zbM [.ptr k 0, .agg (x.map by8)]) H fun res H' => res = .agg ((movd x).map by8) ∧ Grow H H' := by
 refine ze4 ?_
 unfold zdI
 refine zaw (zcn (agg_ok _) ?_)
 rw [agg_cells]
 have s1 := Grow.new H ⟨zab, x.map by8, none⟩
 have g1 : (H.new ⟨zab, x.map by8, none⟩).get H.next = some ⟨zab, x.map by8, none⟩ := zad _ _
 have n1 : (H.new ⟨zab, x.map by8, none⟩).next = H.next + 1 := zaf _ _
 generalize ha : H.next = a at *
 generalize H.new _ = H1 at *
 have s2 := Grow.new H1 ⟨zab, [.int .u8 0, .int .u8 0, .int .u8 0, .int .u8 0, .int .u8 0, .int .u8 0, .int .u8 0, .int .u8 0, .int .u8 0, .int .u8 0, .int .u8 0, .int .u8 0, .int .u8 0, .int .u8 0, .int .u8 0, .int .u8 0], none⟩
 have g2 : (H1.new ⟨zab, [.int .u8 0, .int .u8 0, .int .u8 0, .int .u8 0, .int .u8 0, .int .u8 0, .int .u8 0, .int .u8 0, .int .u8 0, .int .u8 0, .int .u8 0, .int .u8 0, .int .u8 0, .int .u8 0, .int .u8 0, .int .u8 0], none⟩).get H1.next = some ⟨zab, [.int .u8 0, .int .u8 0, .int .u8 0, .int .u8 0, .int .u8 0, .int .u8 0, .int .u8 0, .int .u8 0, .int .u8 0, .int .u8 0, .int .u8 0, .int .u8 0, .int .u8 0, .int .u8 0, .int .u8 0, .int .u8 0], none⟩ := zad _ _
 have n2 : (H1.new ⟨zab, [.int .u8 0, .int .u8 0, .int .u8 0, .int .u8 0, .int .u8 0, .int .u8 0, .int .u8 0, .int .u8 0, .int .u8 0, .int .u8 0, .int .u8 0, .int .u8 0, .int .u8 0, .int .u8 0, .int .u8 0, .int .u8 0], none⟩).next = H1.next + 1 := zaf _ _
 have ga2 := (s2.same a (by omega)).trans g1
 have hA2 := (hA.grow s1).grow s2
 simp (disch := first | omega | (simp only [RY] <;> omega) | decide) only [↓RD, RZ, eq_self, Int.reduceToNat, Int.reduceAdd, Nat.reduceAdd, Nat.reduceSub, Nat.reduceMul, Nat.reduceLeDiff]
 generalize hb : H1.next = b at *
 generalize H1.new _ = H2 at *
 obtain ⟨id, k1, k2, k3, k4, hw⟩ := hA2
 refine zae (made_there k1 k3) ?_
 rintro _ H3 ⟨rfl, s3⟩
 have n3 := s3.next
 have gk3 := (s3.same k k3).trans k1
 have ga3 := (s3.same a (by omega)).trans ga2
 have gb3 := (s3.same b (by omega)).trans g2
 have s4 := Grow.new H3 ⟨zab, [.int .u8 0, .int .u8 0, .int .u8 0, .int .u8 0, .int .u8 0, .int .u8 0, .int .u8 0, .int .u8 0, .int .u8 0, .int .u8 0, .int .u8 0, .int .u8 0, .int .u8 0, .int .u8 0, .int .u8 0, .int .u8 0], none⟩
 have g4 : (H3.new ⟨zab, [.int .u8 0, .int .u8 0, .int .u8 0, .int .u8 0, .int .u8 0, .int .u8 0, .int .u8 0, .int .u8 0, .int .u8 0, .int .u8 0, .int .u8 0, .int .u8 0, .int .u8 0, .int .u8 0, .int .u8 0, .int .u8 0], none⟩).get H3.next = some ⟨zab, List.replicate 16 (.int .u8 0), none⟩ := zad _ _
 have n4 : (H3.new ⟨zab, [.int .u8 0, .int .u8 0, .int .u8 0, .int .u8 0, .int .u8 0, .int .u8 0, .int .u8 0, .int .u8 0, .int .u8 0, .int .u8 0, .int .u8 0, .int .u8 0, .int .u8 0, .int .u8 0, .int .u8 0, .int .u8 0], none⟩).next = H3.next + 1 := zaf _ _
 have gk4 := (s4.same k (by omega)).trans gk3
 have ga4 := (s4.same a (by omega)).trans ga3
 have gb4 := (s4.same b (by omega)).trans gb3
 simp (disch := first | omega | (simp only [RY] <;> omega) | decide) only [↓RD, RZ, eq_self, Int.reduceToNat, Int.reduceAdd, Nat.reduceAdd, Nat.reduceSub, Nat.reduceMul, Nat.reduceLeDiff]
 generalize hc : H3.next = c at *
 generalize H3.new _ = H4 at *
 have hml := movd_len x
 refine zas (Q := fun z H' => z = .ex 0 [] ∧ H'.get c = some ⟨zab, (movd x).map by8, none⟩ ∧ At1 c H4 H') ?_ ?_
 ·refine zaL (fun i L H' => L = [.int .i64 (i : Nat)] ∧ H'.get c = some ⟨zab, ((movd x).take i).map by8 ++ List.replicate (16 - i) (.int .u8 0), none⟩ ∧ At1 c H4 H') 16 ?_ ?_ ?_
  ·exact ⟨rfl, by simpa using g4, At1.refl _ _⟩
  ·rintro i L H5 hi ⟨rfl, g5, s5⟩
   have gk5 := (s5.same k (by omega) (by omega)).trans gk4
   have ga5 := (s5.same a (by omega) (by omega)).trans ga4
   have hl0 : (((movd x).take i).map by8).length = i := by rw [List.length_map, List.length_take]; omega
   have x0 := splice_next (z := .int .u8 0) (x := by8 ((movd x).getD i 0)) hl0 hi
   have ml : (((movd x).take i).map by8 ++ List.replicate (16 - i) (V.int .u8 0)).length = 16 := by rw [List.length_append, hl0, List.length_replicate]; omega
   have e1 : ((i : Nat) : Int) % 4 = ((i % 4 : Nat) : Int) := by omega
   have e2 : (4 : Int) * ((i % 4 : Nat) : Int) = ((4 * (i % 4) : Nat) : Int) := by omega
   have e3 : ((i : Nat) : Int) + ((4 * (i % 4) : Nat) : Int) = ((i + 4 * (i % 4) : Nat) : Int) := by omega
   have e4 : ((i + 4 * (i % 4) : Nat) : Int) % 16 = (((i + 4 * (i % 4)) % 16 : Nat) : Int) := by omega
   have hm := Nat.mod_lt (i + 4 * (i % 4)) (show 0 < 16 by decide)
   have hm4 := Nat.mod_lt i (show 0 < 4 by decide)
   have eg := bg (l := x) (i := (i + 4 * (i % 4)) % 16) (by omega)
   have hb8 := h8.getD ((i + 4 * (i % 4)) % 16)
   have ia := b_iaddr (id := k) (off := 3) (n := 256) hb8
   have et := tab_at (wv := .sl id 0 ws.length (.opn 4)) hb8
   have em : sb (x.getD ((i + 4 * (i % 4)) % 16) 0) = (movd x).getD i 0 := by unfold movd; rw [getD_rmap hi]
   rw [em] at et
   unfold zca
   simp (disch := first | omega | (simp only [RY] <;> omega) | decide) only [↓RD, RZ, eq_self, Int.reduceToNat, Int.reduceAdd, Nat.reduceAdd, Nat.reduceSub, Nat.reduceMul, Nat.reduceLeDiff, e1, e2, e3, e4, ga5, eg, ia, gk5, et, g5, x0, ml, by8_ok, by8_cells]
   refine ⟨by omega, rfl, ?_, s5.trans (At1.set c _ _)⟩
   rw [take_snoc (by omega)]; simp
  ·rintro L H5 ⟨rfl, g5, s5⟩
   unfold zca
   simp (disch := first | omega | (simp only [RY] <;> omega) | decide) only [↓RD, RZ, eq_self, Int.reduceToNat, Int.reduceAdd, Nat.reduceAdd, Nat.reduceSub, Nat.reduceMul, Nat.reduceLeDiff]
   refine ⟨?_, s5⟩
   rw [g5, List.take_of_length_le (by omega)]; simp
 ·rintro _ H5 ⟨rfl, g5, s5⟩
  have n5 := s5.next
  have gb5 := (s5.same b (by omega) (by omega)).trans gb4
  have l1 := ld16 hml
  have l2 := sp16 hml (L := [.int .u8 0, .int .u8 0, .int .u8 0, .int .u8 0, .int .u8 0, .int .u8 0, .int .u8 0, .int .u8 0, .int .u8 0, .int .u8 0, .int .u8 0, .int .u8 0, .int .u8 0, .int .u8 0, .int .u8 0, .int .u8 0]) rfl
  have l3 := agg16 hml
  simp (disch := first | omega | (simp only [RY] <;> omega) | decide) only [↓RD, RZ, eq_self, Int.reduceToNat, Int.reduceAdd, Nat.reduceAdd, Nat.reduceSub, Nat.reduceMul, Nat.reduceLeDiff, g5, l1, gb5, agg_ok, agg_cells, l2, l3]
  exact ⟨by rw [zal]; omega, fun i hi => by rw [zah _ _ (by omega), s5.same i (by omega) (by omega), s4.same i (by omega), s3.same i (by omega), s2.same i (by omega), s1.same i (by omega)]⟩
theorem mixed_ok {H : Heap} {x : List Nat} (hx : x.length = 16) (h8 : Ok8 x) :
  Ok (sem T zcz [.agg (x.map by8)]) H fun res H' => res = .agg ((mixd x).map by8) ∧ Grow H H' := by
 refine zfX ?_
 unfold zfh
 refine zaw (zcn (agg_ok _) ?_)
 rw [agg_cells]
 have s1 := Grow.new H ⟨zab, x.map by8, none⟩
 have g1 : (H.new ⟨zab, x.map by8, none⟩).get H.next = some ⟨zab, x.map by8, none⟩ := zad _ _
 have n1 : (H.new ⟨zab, x.map by8, none⟩).next = H.next + 1 := zaf _ _
 generalize ha : H.next = a at *
 generalize H.new _ = H1 at *
 refine zaw (zcn (by rfl) ?_)
 have s2 := Grow.new H1 ⟨zab, [.int .u8 0, .int .u8 0, .int .u8 0, .int .u8 0, .int .u8 0, .int .u8 0, .int .u8 0, .int .u8 0, .int .u8 0, .int .u8 0, .int .u8 0, .int .u8 0, .int .u8 0, .int .u8 0, .int .u8 0, .int .u8 0], none⟩
 have g2 : (H1.new ⟨zab, [.int .u8 0, .int .u8 0, .int .u8 0, .int .u8 0, .int .u8 0, .int .u8 0, .int .u8 0, .int .u8 0, .int .u8 0, .int .u8 0, .int .u8 0, .int .u8 0, .int .u8 0, .int .u8 0, .int .u8 0, .int .u8 0], none⟩).get H1.next = some ⟨zab, [.int .u8 0, .int .u8 0, .int .u8 0, .int .u8 0, .int .u8 0, .int .u8 0, .int .u8 0, .int .u8 0, .int .u8 0, .int .u8 0, .int .u8 0, .int .u8 0, .int .u8 0, .int .u8 0, .int .u8 0, .int .u8 0], none⟩ := zad _ _
 have n2 : (H1.new ⟨zab, [.int .u8 0, .int .u8 0, .int .u8 0, .int .u8 0, .int .u8 0, .int .u8 0, .int .u8 0, .int .u8 0, .int .u8 0, .int .u8 0, .int .u8 0, .int .u8 0, .int .u8 0, .int .u8 0, .int .u8 0, .int .u8 0], none⟩).next = H1.next + 1 := zaf _ _
 have ga2 := (s2.same a (by omega)).trans g1
 rw [agg_cells]
 generalize hb : H1.next = b at *
 generalize H1.new _ = H2 at *
 refine zaw (zcn (by rfl) ?_)
 have s4 := Grow.new H2 ⟨zab, [.int .u8 0, .int .u8 0, .int .u8 0, .int .u8 0, .int .u8 0, .int .u8 0, .int .u8 0, .int .u8 0, .int .u8 0, .int .u8 0, .int .u8 0, .int .u8 0, .int .u8 0, .int .u8 0, .int .u8 0, .int .u8 0], none⟩
 have g4 : (H2.new ⟨zab, [.int .u8 0, .int .u8 0, .int .u8 0, .int .u8 0, .int .u8 0, .int .u8 0, .int .u8 0, .int .u8 0, .int .u8 0, .int .u8 0, .int .u8 0, .int .u8 0, .int .u8 0, .int .u8 0, .int .u8 0, .int .u8 0], none⟩).get H2.next = some ⟨zab, List.replicate 16 (.int .u8 0), none⟩ := zad _ _
 have n4 : (H2.new ⟨zab, [.int .u8 0, .int .u8 0, .int .u8 0, .int .u8 0, .int .u8 0, .int .u8 0, .int .u8 0, .int .u8 0, .int .u8 0, .int .u8 0, .int .u8 0, .int .u8 0, .int .u8 0, .int .u8 0, .int .u8 0, .int .u8 0], none⟩).next = H2.next + 1 := zaf _ _
 have ga4 := (s4.same a (by omega)).trans ga2
 have gb4 := (s4.same b (by omega)).trans g2
 rw [agg_cells]
 generalize hc : H2.next = c at *
 generalize H2.new _ = H4 at *
 have hml := mixd_len x
 simp (disch := first | omega | (simp only [RY] <;> omega) | decide) only [↓RD, RZ, eq_self, Int.reduceToNat, Int.reduceAdd, Nat.reduceAdd, Nat.reduceSub, Nat.reduceMul, Nat.reduceLeDiff]
 refine zas (Q := fun z H' => z = .ex 0 [] ∧ H'.get c = some ⟨zab, (mixd x).map by8, none⟩ ∧ At1 c H4 H') ?_ ?_
 ·refine zaL (fun i L H' => L = [.int .i64 (i : Nat)] ∧ H'.get c = some ⟨zab, ((mixd x).take i).map by8 ++ List.replicate (16 - i) (.int .u8 0), none⟩ ∧ At1 c H4 H') 16 ?_ ?_ ?_
  ·exact ⟨rfl, by simpa using g4, At1.refl _ _⟩
  ·rintro i L H5 hi ⟨rfl, g5, s5⟩
   have ga5 := (s5.same a (by omega) (by omega)).trans ga4
   have hl0 : (((mixd x).take i).map by8).length = i := by rw [List.length_map, List.length_take]; omega
   have x0 := splice_next (z := .int .u8 0) (x := by8 ((mixd x).getD i 0)) hl0 hi
   have ml : (((mixd x).take i).map by8 ++ List.replicate (16 - i) (V.int .u8 0)).length = 16 := by rw [List.length_append, hl0, List.length_replicate]; omega
   have e1 : ((i : Nat) : Int) % 4 = ((i % 4 : Nat) : Int) := by omega
   have e2 : ((i : Nat) : Int) - ((i % 4 : Nat) : Int) = ((i - i % 4 : Nat) : Int) := by omega
   have f1 : (((i : Nat) : Int) + 1) % 4 = (((i + 1) % 4 : Nat) : Int) := by omega
   have f2 : (((i : Nat) : Int) + 2) % 4 = (((i + 2) % 4 : Nat) : Int) := by omega
   have f3 : (((i : Nat) : Int) + 3) % 4 = (((i + 3) % 4 : Nat) : Int) := by omega
   have k1 : ((i - i % 4 : Nat) : Int) + (((i + 1) % 4 : Nat) : Int) = ((i - i % 4 + (i + 1) % 4 : Nat) : Int) := rfl
   have k2 : ((i - i % 4 : Nat) : Int) + (((i + 2) % 4 : Nat) : Int) = ((i - i % 4 + (i + 2) % 4 : Nat) : Int) := rfl
   have k3 : ((i - i % 4 : Nat) : Int) + (((i + 3) % 4 : Nat) : Int) = ((i - i % 4 + (i + 3) % 4 : Nat) : Int) := rfl
   have m0 : i - i % 4 ≤ 12 := by omega
   have m1 := Nat.mod_lt (i + 1) (show 0 < 4 by decide)
   have m2 := Nat.mod_lt (i + 2) (show 0 < 4 by decide)
   have m3 := Nat.mod_lt (i + 3) (show 0 < 4 by decide)
   have b0 := bg (l := x) (i := i) (by omega)
   have b1 := bg (l := x) (i := i - i % 4 + (i + 1) % 4) (by omega)
   have b2 := bg (l := x) (i := i - i % 4 + (i + 2) % 4) (by omega)
   have b3 := bg (l := x) (i := i - i % 4 + (i + 3) % 4) (by omega)
   have q0 := h8.getD i
   have q1 := h8.getD (i - i % 4 + (i + 1) % 4)
   have q2 := h8.getD (i - i % 4 + (i + 2) % 4)
   have q3 := h8.getD (i - i % 4 + (i + 3) % 4)
   have w0 := twice_eq q0
   have w1 := twice_eq q1
   have x1 := b_xor (xt_lt q0) (xt_lt q1)
   have x2 := b_xor (xor_lt8 (xt_lt q0) (xt_lt q1)) q1
   have x3 := b_xor (xor_lt8 (xor_lt8 (xt_lt q0) (xt_lt q1)) q1) q2
   have x4 := b_xor (xor_lt8 (xor_lt8 (xor_lt8 (xt_lt q0) (xt_lt q1)) q1) q2) q3
   have em : xt (x.getD i 0) ^^^ xt (x.getD (i - i % 4 + (i + 1) % 4) 0) ^^^ x.getD (i - i % 4 + (i + 1) % 4) 0 ^^^ x.getD (i - i % 4 + (i + 2) % 4) 0 ^^^ x.getD (i - i % 4 + (i + 3) % 4) 0 = (mixd x).getD i 0 := by unfold mixd; rw [getD_rmap hi]
   rw [em] at x4
   unfold zde
   simp (disch := first | omega | (simp only [RY] <;> omega) | decide) only [↓RD, RZ, eq_self, Int.reduceToNat, Int.reduceAdd, Nat.reduceAdd, Nat.reduceSub, Nat.reduceMul, Nat.reduceLeDiff, e1, e2, f1, f2, f3, k1, k2, k3, ga5, b0, b1, b2, b3, w0, w1, x1, x2, x3, x4, g5, x0, ml, by8_ok, by8_cells]
   refine ⟨by omega, rfl, ?_, s5.trans (At1.set c _ _)⟩
   rw [take_snoc (by omega)]; simp
  ·rintro L H5 ⟨rfl, g5, s5⟩
   unfold zde
   simp (disch := first | omega | (simp only [RY] <;> omega) | decide) only [↓RD, RZ, eq_self, Int.reduceToNat, Int.reduceAdd, Nat.reduceAdd, Nat.reduceSub, Nat.reduceMul, Nat.reduceLeDiff]
   refine ⟨?_, s5⟩
   rw [g5, List.take_of_length_le (by omega)]; simp
 ·rintro _ H5 ⟨rfl, g5, s5⟩
  have n5 := s5.next
  have gb5 := (s5.same b (by omega) (by omega)).trans gb4
  have l1 := ld16 hml
  have l2 := sp16 hml (L := [.int .u8 0, .int .u8 0, .int .u8 0, .int .u8 0, .int .u8 0, .int .u8 0, .int .u8 0, .int .u8 0, .int .u8 0, .int .u8 0, .int .u8 0, .int .u8 0, .int .u8 0, .int .u8 0, .int .u8 0, .int .u8 0]) rfl
  have l3 := agg16 hml
  simp (disch := first | omega | (simp only [RY] <;> omega) | decide) only [↓RD, RZ, eq_self, Int.reduceToNat, Int.reduceAdd, Nat.reduceAdd, Nat.reduceSub, Nat.reduceMul, Nat.reduceLeDiff, g5, l1, gb5, agg_ok, agg_cells, l2, l3]
  exact ⟨by rw [zal]; omega, fun i hi => by rw [zah _ _ (by omega), s5.same i (by omega) (by omega), s4.same i (by omega), s2.same i (by omega), s1.same i (by omega)]⟩
theorem arnd_len {ws : List (List Nat)} {x : List Nat} (n : Nat) : (arnd ws x n).length = 16 := by
 cases n with
 | zero => exact addk_len _ _ _
 | succ n => exact addk_len _ _ _
theorem arnd_8 {ws : List (List Nat)} (hw : ∀ w ∈ ws, Word w) {x : List Nat} (h : Ok8 x) (n : Nat) : Ok8 (arnd ws x n) := by
 cases n with
 | zero => exact addk_8 hw h
 | succ n => exact addk_8 hw (mixd_8 (movd_8 _))
def bst (ws : List (List Nat)) (x : List Nat) (i : Nat) : List Nat := if i < ws.length / 4 - 1 then arnd ws x i else aes ws x
theorem Block_ok {H : Heap} {k : Nat} {ws : List (List Nat)} {x : List Nat} (hA : Aes H k ws) (hx : x.length = 16) (h8 : Ok8 x) (hwl : ws.length ≤ 1000) (hw4 : ws.length % 4 = 0) (hw8 : 8 ≤ ws.length) :
  Ok (sem T zbn [.ptr k 0, .agg (x.map by8)]) H fun res H' => res = .agg ((aes ws x).map by8) ∧ Grow H H' := by
 have hw : ∀ w ∈ ws, Word w := by obtain ⟨_, _, _, _, _, hw⟩ := hA; exact hw
 refine ze5 ?_
 unfold zdJ
 refine zaw (zcn (agg_ok _) ?_)
 rw [agg_cells]
 have s1 := Grow.new H ⟨zab, x.map by8, none⟩
 have g1 : (H.new ⟨zab, x.map by8, none⟩).get H.next = some ⟨zab, x.map by8, none⟩ := zad _ _
 have n1 : (H.new ⟨zab, x.map by8, none⟩).next = H.next + 1 := zaf _ _
 generalize ha : H.next = a at *
 generalize H.new _ = H1 at *
 refine zaw (zcn (by rfl) ?_)
 have s2 := Grow.new H1 ⟨zab, [.int .u8 0, .int .u8 0, .int .u8 0, .int .u8 0, .int .u8 0, .int .u8 0, .int .u8 0, .int .u8 0, .int .u8 0, .int .u8 0, .int .u8 0, .int .u8 0, .int .u8 0, .int .u8 0, .int .u8 0, .int .u8 0], none⟩
 have g2 : (H1.new ⟨zab, [.int .u8 0, .int .u8 0, .int .u8 0, .int .u8 0, .int .u8 0, .int .u8 0, .int .u8 0, .int .u8 0, .int .u8 0, .int .u8 0, .int .u8 0, .int .u8 0, .int .u8 0, .int .u8 0, .int .u8 0, .int .u8 0], none⟩).get H1.next = some ⟨zab, [.int .u8 0, .int .u8 0, .int .u8 0, .int .u8 0, .int .u8 0, .int .u8 0, .int .u8 0, .int .u8 0, .int .u8 0, .int .u8 0, .int .u8 0, .int .u8 0, .int .u8 0, .int .u8 0, .int .u8 0, .int .u8 0], none⟩ := zad _ _
 have n2 : (H1.new ⟨zab, [.int .u8 0, .int .u8 0, .int .u8 0, .int .u8 0, .int .u8 0, .int .u8 0, .int .u8 0, .int .u8 0, .int .u8 0, .int .u8 0, .int .u8 0, .int .u8 0, .int .u8 0, .int .u8 0, .int .u8 0, .int .u8 0], none⟩).next = H1.next + 1 := zaf _ _
 have ga2 := (s2.same a (by omega)).trans g1
 have hA2 := (hA.grow s1).grow s2
 rw [agg_cells]
 generalize hb : H1.next = b at *
 generalize H1.new _ = H2 at *
 obtain ⟨id, k1, k2, k3, k4, -⟩ := id hA2
 have ek := key259 (.sl id 0 ws.length (.opn 4))
 have e1 : ((ws.length : Nat) : Int) / 4 = ((ws.length / 4 : Nat) : Int) := by omega
 have e2 : ((ws.length / 4 : Nat) : Int) - 1 = ((ws.length / 4 - 1 : Nat) : Int) := by omega
 have l1 := ld16 hx
 simp (disch := first | omega | (simp only [RY] <;> omega) | decide) only [↓RD, RZ, eq_self, Int.reduceToNat, Int.reduceAdd, Nat.reduceAdd, Nat.reduceSub, Nat.reduceMul, Nat.reduceLeDiff, k1, ek, e1, e2, ga2, l1]
 have hlast : ws.length / 4 - 1 + 1 = ws.length / 4 := by omega
 have hAg : ∀ H', Grow H H' → Aes H' k ws := fun H' g => hA.grow g
 have ad := add_ok (r := 0) hA2 hx h8 (by omega) hwl
 refine zae ad ?_
 rintro _ H3 ⟨rfl, s3⟩
 have n3 := s3.next
 have ga3 := (s3.same a (by omega)).trans ga2
 have gb3 := (s3.same b (by omega)).trans g2
 have l2 := sp16 (addk_len ws 0 x) (L := x.map by8) (agg16 hx)
 have l3 := agg16 (addk_len ws 0 x)
 simp (disch := first | omega | (simp only [RY] <;> omega) | decide) only [↓RD, RZ, eq_self, Int.reduceToNat, Int.reduceAdd, Nat.reduceAdd, Nat.reduceSub, Nat.reduceMul, Nat.reduceLeDiff, ga3, agg_ok, agg_cells, l2, l3, agg16 hx]
 have gH3 : Grow H (H3.set a (some ⟨zab, (addk ws 0 x).map by8, none⟩)) := (((s1.trans s2).trans s3)).set (by omega) _
 have gb4 : (H3.set a (some ⟨zab, (addk ws 0 x).map by8, none⟩)).get b = _ := (zah _ _ (by omega)).trans gb3
 have ga4 : (H3.set a (some ⟨zab, (addk ws 0 x).map by8, none⟩)).get a = _ := zai _ _ _
 have n4 : H3.next = (H3.set a (some ⟨zab, (addk ws 0 x).map by8, none⟩)).next := rfl
 generalize H3.set a _ = H4 at *
 have gA : ∀ H', At1 a H4 H' → Grow H H' := fun H' g => ⟨Nat.le_trans gH3.next g.next, fun i hi => by rw [g.same i (by omega) (by omega), gH3.same i hi]⟩
 have bl : ∀ i, (bst ws x i).length = 16 := fun i => by unfold bst; split; exact arnd_len _; exact addk_len _ _ _
 have b8 : ∀ i, Ok8 (bst ws x i) := fun i => by unfold bst; split; exact arnd_8 hw h8 _; exact addk_8 hw (movd_8 _)
 refine zas (Q := fun z H' => z = .ex 0 [] ∧ H'.get a = some ⟨zab, (aes ws x).map by8, none⟩ ∧ At1 a H4 H') ?_ ?_
 ·refine zaL (fun i L H' => L = [.int .i64 ((i + 1 : Nat) : Int)] ∧ H'.get a = some ⟨zab, (bst ws x i).map by8, none⟩ ∧ At1 a H4 H') (ws.length / 4 - 1) ?_ ?_ ?_
  ·refine ⟨rfl, ?_, At1.refl _ _⟩
   unfold bst
   rw [if_pos (by omega)]
   exact ga4
  ·rintro i L H5 hi ⟨rfl, ga5, s5⟩
   have n5 := s5.next
   have e5 : ((i + 1 : Nat) : Int) + 1 = ((i + 1 + 1 : Nat) : Int) := rfl
   have l1 := ld16 (bl i)
   unfold zcb
   simp (disch := first | omega | (simp only [RY] <;> omega) | decide) only [↓RD, RZ, eq_self, Int.reduceToNat, Int.reduceAdd, Nat.reduceAdd, Nat.reduceSub, Nat.reduceMul, Nat.reduceLeDiff, ga5, l1]
   refine zae (moved_ok (hAg _ (gA _ s5)) (bl i) (b8 i)) ?_
   rintro _ H6 ⟨rfl, s6⟩
   have n6 := s6.next
   have ga6 := (s6.same a (by omega)).trans ga5
   have l2 := sp16 (movd_len (bst ws x i)) (L := (bst ws x i).map by8) (agg16 (bl i))
   have l3 := agg16 (movd_len (bst ws x i))
   have l4 := agg16 (bl i)
   have l5 := ld16 (movd_len (bst ws x i))
   simp (disch := first | omega | (simp only [RY] <;> omega) | decide) only [↓RD, RZ, eq_self, Int.reduceToNat, Int.reduceAdd, Nat.reduceAdd, Nat.reduceSub, Nat.reduceMul, Nat.reduceLeDiff, ga6, agg_ok, agg_cells, l2, l3, l4]
   have s7 : At1 a H4 (H6.set a (some ⟨zab, (movd (bst ws x i)).map by8, none⟩)) := (s5.trans (s6.at1 a)).trans (At1.set a _ _)
   have ga7 : (H6.set a (some ⟨zab, (movd (bst ws x i)).map by8, none⟩)).get a = _ := zai _ _ _
   generalize H6.set a _ = H7 at *
   have n7 := s7.next
   refine zas (Q := fun z H' => z = .nrm [] ∧ H'.get a = some ⟨zab, (if i + 1 < ws.length / 4 - 1 then mixd (movd (bst ws x i)) else movd (bst ws x i)).map by8, none⟩ ∧ At1 a H4 H') ?_ ?_
   ·refine zby (fun h => ?_) (fun h => ?_)
    ·simp (disch := first | omega | (simp only [RY] <;> omega) | decide) only [↓RD, RZ, eq_self, Int.reduceToNat, Int.reduceAdd, Nat.reduceAdd, Nat.reduceSub, Nat.reduceMul, Nat.reduceLeDiff, ga7, l5]
     refine zae (mixed_ok (movd_len _) (movd_8 _)) ?_
     rintro _ H8 ⟨rfl, s8⟩
     have n8 := s8.next
     have ga8 := (s8.same a (by omega)).trans ga7
     have m2 := sp16 (mixd_len (movd (bst ws x i))) (L := (movd (bst ws x i)).map by8) l3
     have m3 := agg16 (mixd_len (movd (bst ws x i)))
     simp (disch := first | omega | (simp only [RY] <;> omega) | decide) only [↓RD, RZ, eq_self, Int.reduceToNat, Int.reduceAdd, Nat.reduceAdd, Nat.reduceSub, Nat.reduceMul, Nat.reduceLeDiff, ga8, agg_ok, agg_cells, m2, m3, l3]
     exact ⟨by rw [if_pos (by omega)], (s7.trans (s8.at1 a)).trans (At1.set a _ _)⟩
    ·simp (disch := first | omega | (simp only [RY] <;> omega) | decide) only [↓RD, RZ, eq_self, Int.reduceToNat, Int.reduceAdd, Nat.reduceAdd, Nat.reduceSub, Nat.reduceMul, Nat.reduceLeDiff]
     rw [if_neg (by omega)]
     exact ⟨ga7, s7⟩
   ·rintro _ H8 ⟨rfl, ga8, s8⟩
    have n8 := s8.next
    generalize hy : (if i + 1 < ws.length / 4 - 1 then mixd (movd (bst ws x i)) else movd (bst ws x i)) = y at *
    have yl : y.length = 16 := by rw [← hy]; split; exact mixd_len _; exact movd_len _
    have y8 : Ok8 y := by rw [← hy]; split; exact mixd_8 (movd_8 _); exact movd_8 _
    have m1 := ld16 yl
    simp (disch := first | omega | (simp only [RY] <;> omega) | decide) only [↓RD, RZ, eq_self, Int.reduceToNat, Int.reduceAdd, Nat.reduceAdd, Nat.reduceSub, Nat.reduceMul, Nat.reduceLeDiff, ga8, m1]
    refine zae (add_ok (r := i + 1) (hAg _ (gA _ s8)) yl y8 (by omega) hwl) ?_
    rintro _ H9 ⟨rfl, s9⟩
    have n9 := s9.next
    have ga9 := (s9.same a (by omega)).trans ga8
    have m2 := sp16 (addk_len ws (i + 1) y) (L := y.map by8) (agg16 yl)
    have m3 := agg16 (addk_len ws (i + 1) y)
    have m4 := agg16 yl
    simp (disch := first | omega | (simp only [RY] <;> omega) | decide) only [↓RD, RZ, eq_self, Int.reduceToNat, Int.reduceAdd, Nat.reduceAdd, Nat.reduceSub, Nat.reduceMul, Nat.reduceLeDiff, ga9, agg_ok, agg_cells, m2, m3, m4, e5]
    refine ⟨?_, (s8.trans (s9.at1 a)).trans (At1.set a _ _)⟩
    ·congr 3
     rw [← hy]
     unfold bst
     rw [if_pos hi]
     by_cases h : i + 1 < ws.length / 4 - 1
     ·rw [if_pos h, if_pos h]; rfl
     ·rw [if_neg h, if_neg h]
      unfold aes
      rw [show ws.length / 4 - 2 = i by omega, show ws.length / 4 - 1 = i + 1 by omega]
  ·rintro L H5 ⟨rfl, ga5, s5⟩
   unfold zcb
   simp (disch := first | omega | (simp only [RY] <;> omega) | decide) only [↓RD, RZ, eq_self, Int.reduceToNat, Int.reduceAdd, Nat.reduceAdd, Nat.reduceSub, Nat.reduceMul, Nat.reduceLeDiff]
   refine ⟨?_, s5⟩
   rw [ga5]
   unfold bst
   rw [if_neg (by omega)]
 ·rintro _ H5 ⟨rfl, ga5, s5⟩
  have n5 := s5.next
  have al := addk_len ws (ws.length / 4 - 1) (movd (arnd ws x (ws.length / 4 - 2)))
  have l1 := ld16 (l := aes ws x) al
  have l2 := sp16 (l := aes ws x) al (L := [.int .u8 0, .int .u8 0, .int .u8 0, .int .u8 0, .int .u8 0, .int .u8 0, .int .u8 0, .int .u8 0, .int .u8 0, .int .u8 0, .int .u8 0, .int .u8 0, .int .u8 0, .int .u8 0, .int .u8 0, .int .u8 0]) rfl
  have l3 := agg16 (x := aes ws x) al
  have gb6 := (s5.same b (by omega) (by omega)).trans gb4
  simp (disch := first | omega | (simp only [RY] <;> omega) | decide) only [↓RD, RZ, eq_self, Int.reduceToNat, Int.reduceAdd, Nat.reduceAdd, Nat.reduceSub, Nat.reduceMul, Nat.reduceLeDiff, ga5, l1, gb6, agg_ok, agg_cells, l2, l3]
  exact (gA _ s5).set (by omega) _
end Go.Ax.SU
/- Su5 -/
namespace Go.Ax.SU
open Go.Ax
theorem nbytes_pos (x : Nat) : 1 ≤ nbytes x ∧ nbytes x ≤ 8 := by
 unfold nbytes
 repeat' split
 all_goals omega
theorem nbytes_lt {x : Nat} (h : x < 18446744073709551616) : x < 256 ^ nbytes x := by
 unfold nbytes
 repeat' split
 all_goals omega
theorem nbytes_top {x : Nat} (h : 0 < x) : 256 ^ (nbytes x - 1) ≤ x := by
 unfold nbytes
 repeat' split
 all_goals omega
theorem num_snoc (x n : Nat) : num x (n + 1) = num (x / 256) n ++ [x % 256] := by
 unfold num
 rw [List.range_succ, List.map_append]
 congr 1
 ·refine List.map_congr_left fun i hi => ?_
  rw [List.mem_range] at hi
  rw [Nat.div_div_eq_div_mul, ← Nat.pow_succ']
  congr 3
  omega
 ·simp
theorem be_num (n : Nat) : ∀ x : Nat, x < 256 ^ n → be (num x n) = x := by
 induction n with
 | zero => intro x h; simp at h; subst h; rfl
 | succ n ih =>
  intro x h
  rw [num_snoc, be_snoc, ih]
  ·omega
  ·rw [Nat.pow_succ] at h
   omega
theorem num_top {x n : Nat} (h : 256 ^ n ≤ x) (hx : x < 256 ^ (n + 1)) : (num x (n + 1)).getD 0 0 ≠ 0 := by
 unfold num
 rw [getD_rmap (by omega)]
 have h1 : x / 256 ^ n < 256 := by
  rw [Nat.div_lt_iff_lt_mul (Nat.pow_pos (by decide))]
  rw [Nat.pow_succ] at hx
  omega
 have h2 : 1 ≤ x / 256 ^ n := by
  rw [Nat.le_div_iff_mul_le (Nat.pow_pos (by decide))]
  omega
 show x / 256 ^ (n + 1 - 1 - 0) % 256 ≠ 0
 rw [show n + 1 - 1 - 0 = n by omega]
 omega
def psz (x : Nat) : Nat := if x < 8 then 0 else x - 7
def pnum (x : Nat) (b : List Nat) : Nat := if x < 8 then x else be b
def pfine (x : Nat) (b : List Nat) : Bool := if x < 8 then true else (b.getD 0 0 != 0) && decide (8 ≤ be b)
inductive PH
 | err (e : Nat)
 | ok (kid ctr n : Nat)
def parse (b : List Nat) : PH :=
 if b.length = 0 then .err 3
 else
  let k := b.getD 0 0 / 16
  let c := b.getD 0 0 % 16
  let at' := 1 + psz k
  let en := at' + psz c
  if b.length < en then .err 3
  else
   let x := (b.take at').drop 1
   let y := (b.take en).drop at'
   if pfine k x && pfine c y then .ok (pnum k x) (pnum c y) en else .err 2
theorem fld_len (x : Nat) : (fld x).1 < 16 ∧ psz (fld x).1 = (fld x).2.length := by
 unfold fld psz
 split
 ·refine ⟨by dsimp only; omega, ?_⟩
  dsimp only
  first | rfl | (rw [if_pos (by omega)]; rfl)
 ·have := nbytes_pos x
  refine ⟨by dsimp only; omega, ?_⟩
  dsimp only
  rw [if_neg (by omega), num_len]
  omega
theorem fld_back {x : Nat} (h : x < 18446744073709551616) : pnum (fld x).1 (fld x).2 = x ∧ pfine (fld x).1 (fld x).2 = true := by
 unfold fld
 split
 ·rename_i hx
  dsimp only
  unfold pnum pfine
  rw [if_pos hx, if_pos hx]
  exact ⟨rfl, rfl⟩
 ·have h1 := nbytes_pos x
  have h2 := be_num (nbytes x) x (nbytes_lt h)
  have h3 : (num x (nbytes x)).getD 0 0 ≠ 0 := by
   have a := nbytes_top (x := x) (by omega)
   have b := nbytes_lt h
   obtain ⟨n, hn⟩ : ∃ n, nbytes x = n + 1 := ⟨nbytes x - 1, by omega⟩
   rw [hn] at a b ⊢
   exact num_top (by simpa using a) b
  dsimp only
  unfold pnum pfine
  rw [if_neg (by omega), if_neg (by omega), h2]
  refine ⟨rfl, ?_⟩
  simp only [Bool.and_eq_true, bne_iff_ne, ne_eq, decide_eq_true_eq]
  exact ⟨h3, by omega⟩
theorem hdr_len (kid ctr : Nat) : (hdr kid ctr).length = 1 + (fld kid).2.length + (fld ctr).2.length := by
 unfold hdr; simp only [List.length_cons, List.length_append]; omega
theorem hdr_8 (kid ctr : Nat) : Ok8 (hdr kid ctr) := by
 unfold hdr
 intro x hx
 have h1 := (fld_len kid).1
 have h2 := (fld_len ctr).1
 have h3 : ∀ x : Nat, Ok8 (fld x).2 := fun x => by
  unfold fld
  split
  ·exact Ok8.nil
  ·exact num_lt _ _
 rcases List.mem_cons.1 hx with rfl | hx
 ·omega
 ·exact (h3 kid).app (h3 ctr) x hx
theorem hdr_max (kid ctr : Nat) : (hdr kid ctr).length ≤ 17 := by
 have h : ∀ x : Nat, (fld x).2.length ≤ 8 := fun x => by
  unfold fld
  split
  ·simp
  ·dsimp only
   rw [num_len]; exact (nbytes_pos x).2
 rw [hdr_len]
 have := h kid; have := h ctr
 omega
theorem parse_hdr {kid ctr : Nat} (h1 : kid < 18446744073709551616) (h2 : ctr < 18446744073709551616) (r : List Nat) : parse (hdr kid ctr ++ r) = .ok kid ctr (hdr kid ctr).length := by
 have k1 := fld_len kid
 have k2 := fld_len ctr
 have b0 : (hdr kid ctr ++ r).getD 0 0 = (fld kid).1 * 16 + (fld ctr).1 := rfl
 have hl := hdr_len kid ctr
 have e1 : (hdr kid ctr ++ r).getD 0 0 / 16 = (fld kid).1 := by rw [b0]; omega
 have e2 : (hdr kid ctr ++ r).getD 0 0 % 16 = (fld ctr).1 := by rw [b0]; omega
 unfold parse
 rw [if_neg (by rw [List.length_append, hl]; omega)]
 dsimp only
 rw [e1, e2, k1.2, k2.2, if_neg (by rw [List.length_append, hl]; omega)]
 have hh : hdr kid ctr ++ r = ((fld kid).1 * 16 + (fld ctr).1) :: ((fld kid).2 ++ ((fld ctr).2 ++ r)) := by unfold hdr; simp
 have t1 : ((hdr kid ctr ++ r).take (1 + (fld kid).2.length)).drop 1 = (fld kid).2 := by
  rw [show 1 + (fld kid).2.length = (fld kid).2.length + 1 by omega, hh]
  rw [List.take_succ_cons, List.drop_one, List.tail_cons, List.take_left]
 have t2 : ((hdr kid ctr ++ r).take (1 + (fld kid).2.length + (fld ctr).2.length)).drop (1 + (fld kid).2.length) = (fld ctr).2 := by
  rw [show 1 + (fld kid).2.length + (fld ctr).2.length = ((fld kid).2.length + (fld ctr).2.length) + 1 by omega, show 1 + (fld kid).2.length = (fld kid).2.length + 1 by omega, hh]
  rw [List.take_succ_cons, List.drop_succ_cons, ← List.append_assoc, List.take_left' (by rw [List.length_append]), List.drop_left]
 rw [t1, t2, (fld_back h1).1, (fld_back h1).2, (fld_back h2).1, (fld_back h2).2, hl]
 rfl
end Go.Ax.SU
/- Su6 -/
namespace Go.Ax.SU
open Go.Ax
structure Ky where
 kid : Nat
 t : Nat
 ws : List (List Nat)
 auth : List Nat
 salt : List Nat
def sKey : List Nat := [83, 70, 114, 97, 109, 101, 32, 49, 46, 48, 32, 83, 101, 99, 114, 101, 116, 32, 107, 101, 121, 32]
def sSalt : List Nat := [83, 70, 114, 97, 109, 101, 32, 49, 46, 48, 32, 83, 101, 99, 114, 101, 116, 32, 115, 97, 108, 116, 32]
def szs : Nat → Option (Nat × Nat)
 | 1 => some (16, 10)
 | 2 => some (16, 8)
 | 3 => some (16, 4)
 | 16 => some (32, 10)
 | _ => none
def secret (base : List Nat) : List Nat := hmac kc [] base
def keyb (id kid n : Nat) (base : List Nat) : List Nat := ((hkdf kc (secret base) (sKey ++ (num kid 8 ++ num id 2)) 2).1).take (n + 32)
def saltb (id kid : Nat) (base : List Nat) : List Nat := ((hkdf kc (secret base) (sSalt ++ (num kid 8 ++ num id 2)) 1).1).take 12
def drv (id kid n t : Nat) (base : List Nat) : Ky :=
 ⟨kid, t, kw ((keyb id kid n base).take n) (n / 4) (4 * (n / 4 + 7)), (keyb id kid n base).drop n, saltb id kid base⟩
def nonce (salt : List Nat) (c : Nat) : List Nat := (List.range 12).map fun i => (num c 12).getD i 0 ^^^ salt.getD i 0
def first (n : List Nat) : List Nat := n ++ List.replicate 4 0
def tagm (k : Ky) (n head m b : List Nat) : List Nat := num (head.length + m.length) 8 ++ num b.length 8 ++ num k.t 8 ++ n ++ head ++ m ++ b
def tagOf (k : Ky) (n head m b : List Nat) : List Nat := (hmac kc k.auth (tagm k n head m b)).take k.t
def sealB (k : Ky) (c : Nat) (m p : List Nat) : List Nat :=
 hdr k.kid c ++ ctr k.ws (first (nonce k.salt c)) p ++ tagOf k (nonce k.salt c) (hdr k.kid c) m (ctr k.ws (first (nonce k.salt c)) p)
inductive PO
 | err (e : Nat)
 | ok (p : List Nat) (c : Nat)
def openB (k : Ky) (b m : List Nat) : PO :=
 match parse b with
 | .err e => .err e
 | .ok kid c n =>
  if kid ≠ k.kid then .err 10
  else if b.length < n + k.t then .err 3
  else if 1000 < b.length - n - k.t then .err 4
  else
   if tagOf k (nonce k.salt c) (b.take n) m ((b.drop n).take (b.length - n - k.t)) = b.drop (b.length - k.t) then .ok (ctr k.ws (first (nonce k.salt c)) ((b.drop n).take (b.length - n - k.t))) c
   else .err 8
theorem getD_ctr {ws : List (List Nat)} {f b : List Nat} {i : Nat} (h : i < b.length) : (ctr ws f b).getD i 0 = b.getD i 0 ^^^ kstream ws f i := by
 unfold ctr
 rw [getD_rmap h]
theorem ext_getD {a b : List Nat} (h : a.length = b.length) (g : ∀ i, i < a.length → a.getD i 0 = b.getD i 0) : a = b := by
 refine List.ext_getElem h fun i h1 h2 => ?_
 have := g i h1
 rw [List.getD_eq_getElem?_getD, List.getD_eq_getElem?_getD, List.getElem?_eq_getElem h1, List.getElem?_eq_getElem h2] at this
 exact this
theorem ctr_twice (ws : List (List Nat)) (f b : List Nat) : ctr ws f (ctr ws f b) = b := by
 refine ext_getD (by rw [ctr_len, ctr_len]) fun i hi => ?_
 rw [ctr_len, ctr_len] at hi
 rw [getD_ctr (by rw [ctr_len]; exact hi), getD_ctr hi, Nat.xor_assoc, Nat.xor_self, Nat.xor_zero]
theorem kstream_lt (ws : List (List Nat)) (f : List Nat) (hw : ∀ w ∈ ws, Word w) (i : Nat) : kstream ws f i < 256 := by
 unfold kstream
 refine Ok8.getD ?_ _
 unfold aes addk
 refine Ok8.rmap fun j hj => xor_lt8 (Ok8.getD (by unfold movd; exact Ok8.rmap fun _ _ => sb_lt _) j) (Ok8.getD ?_ _)
 rw [List.getD_eq_getElem?_getD]
 cases e : ws[4 * (ws.length / 4 - 1) + j / 4]? with
 | none => exact Ok8.nil
 | some w => exact (hw w (List.mem_of_getElem? e)).2
theorem ctr_8 {ws : List (List Nat)} {f b : List Nat} (hw : ∀ w ∈ ws, Word w) (h : Ok8 b) : Ok8 (ctr ws f b) := Ok8.rmap fun i _ => xor_lt8 (h.getD i) (kstream_lt _ _ hw i)
theorem tagOf_len {k : Ky} (ht : k.t ≤ 32) (n head m b : List Nat) : (tagOf k n head m b).length = k.t := by
 unfold tagOf
 rw [List.length_take, hmac_len]
 omega
theorem tagOf_8 (k : Ky) (n head m b : List Nat) : Ok8 (tagOf k n head m b) := Ok8.take (hmac_lt _ _ _) _
theorem seal_len {k : Ky} (ht : k.t ≤ 32) (c : Nat) (m p : List Nat) : (sealB k c m p).length = (hdr k.kid c).length + p.length + k.t := by
 unfold sealB
 rw [List.length_append, List.length_append, ctr_len, tagOf_len ht]
theorem seal_8 {k : Ky} (hw : ∀ w ∈ k.ws, Word w) {c : Nat} {m p : List Nat} (h : Ok8 p) : Ok8 (sealB k c m p) := ((hdr_8 _ _).app (ctr_8 hw h)).app (tagOf_8 _ _ _ _ _)
theorem open_seal {k : Ky} (ht : k.t ≤ 32) (h1 : k.kid < 18446744073709551616) {c : Nat} (h2 : c < 18446744073709551616) {m p : List Nat} (hp : p.length ≤ 1000) : openB k (sealB k c m p) m = .ok p c := by
 have hl := seal_len ht c m p
 have h0 : parse (sealB k c m p) = .ok k.kid c (hdr k.kid c).length := by
  unfold sealB
  rw [List.append_assoc]
  exact parse_hdr h1 h2 _
 unfold openB
 rw [h0]
 dsimp only
 rw [if_neg (fun h => h rfl), if_neg (by omega), if_neg (by omega)]
 have e1 : (sealB k c m p).take (hdr k.kid c).length = hdr k.kid c := by
  unfold sealB
  rw [List.append_assoc, List.take_left]
 have e2 : ((sealB k c m p).drop (hdr k.kid c).length).take ((sealB k c m p).length - (hdr k.kid c).length - k.t) = ctr k.ws (first (nonce k.salt c)) p := by
  rw [hl]
  unfold sealB
  rw [List.append_assoc, List.drop_left, List.take_left' (by rw [ctr_len]; omega)]
 have e3 : (sealB k c m p).drop ((sealB k c m p).length - k.t) = tagOf k (nonce k.salt c) (hdr k.kid c) m (ctr k.ws (first (nonce k.salt c)) p) := by
  rw [hl]
  unfold sealB
  rw [List.drop_left' (by rw [List.length_append, ctr_len]; omega)]
 rw [e1, e2, e3, if_pos rfl, ctr_twice]
end Go.Ax.SU
/- Su20 -/
namespace Go.Ax.SU
open Go.Ax
theorem be_more {l : List Nat} (h8 : Ok8 l) {i : Nat} (hi : i < l.length) (h : i < 8) : (be (l.take i) * 256 % 18446744073709551616) ||| l.getD i 0 = be (l.take (i + 1)) := by
 have h1 := be_take_lt h8 (show i ≤ 7 by omega)
 rw [take_snoc hi, be_snoc, Nat.mod_eq_of_lt (by omega), or256 _ _ (getD_lt h8 i)]
theorem half_ok {lo : Nat} {H : Heap} {v : V} {l : List Nat} (hv : By lo H v l) (h8 : Ok8 l) (hl : l.length ≤ 8) : Ok (sem T zb4 [v]) H fun r H' => r = .int .u64 (be l : Nat) ∧ H' = H := by
 refine zfP ?_
 unfold zfa
 simp (disch := first | omega | (simp only [RY] <;> omega) | decide) only [↓RD, RZ, eq_self, Int.reduceToNat, Int.reduceAdd, Nat.reduceAdd, Nat.reduceSub, Nat.reduceMul, Nat.reduceLeDiff, hv.vlen]
 refine zaL (fun i L H' => L = [.int .u64 (be (l.take i) : Nat), .int .i64 (i : Nat)] ∧ H' = H) l.length ?_ ?_ ?_
 ·exact ⟨rfl, rfl⟩
 ·rintro i _ H' hi ⟨rfl, rfl⟩
  obtain ⟨p, hp, hld, -⟩ := by_at hv (i := (i : Nat)) (by omega) (by omega)
  have e1 := be_more h8 hi (by omega)
  have b1 := be_take_lt h8 (show i ≤ 8 by omega)
  have b2 := getD_lt h8 i
  simp only [Int.toNat_natCast] at hld
  have e2 : be (l.take i) * 256 % 18446744073709551616 < 18446744073709551616 := Nat.mod_lt _ (by decide)
  unfold zc6
  simp (disch := first | omega | (simp only [RY] <;> omega) | decide) only [↓RD, RZ, eq_self, Int.reduceToNat, Int.reduceAdd, Nat.reduceAdd, Nat.reduceSub, Nat.reduceMul, Nat.reduceLeDiff, hp, hld, Int.toNat_natCast, e1]
  rfl
 ·rintro _ H' ⟨rfl, rfl⟩
  unfold zc6
  simp (disch := first | omega | (simp only [RY] <;> omega) | decide) only [↓RD, RZ, eq_self, Int.reduceToNat, Int.reduceAdd, Nat.reduceAdd, Nat.reduceSub, Nat.reduceMul, Nat.reduceLeDiff, List.take_length]
def nxt8 (v : Nat) (i : Nat) : Nat := v / 256 ^ (7 - i) % 256
def nxtS (x : List Nat) (v w i : Nat) : List Nat := (List.range 16).map fun j => if j < 8 then (if j < i then nxt8 v j else x.getD j 0) else (if j - 8 < i then nxt8 w (j - 8) else x.getD j 0)
theorem nxtS_len (x : List Nat) (v w i : Nat) : (nxtS x v w i).length = 16 := by simp [nxtS]
theorem nxtS_zero {x : List Nat} (h : x.length = 16) (v w : Nat) : nxtS x v w 0 = x := by
 refine ext_getD (by rw [nxtS_len, h]) fun i hi => ?_
 rw [nxtS_len] at hi
 unfold nxtS
 rw [getD_rmap hi]
 split <;> rfl
theorem nxtS_all (x : List Nat) (v w : Nat) : nxtS x v w 8 = (List.range 8).map (nxt8 v) ++ (List.range 8).map (nxt8 w) := rfl
theorem nxtS_step (x : List Nat) (v w : Nat) {i : Nat} (h : i < 8) : ((nxtS x v w i).set i (nxt8 v i)).set (8 + i) (nxt8 w i) = nxtS x v w (i + 1) := by
 refine ext_getD (by simp [nxtS_len]) fun j hj => ?_
 simp only [List.length_set, nxtS_len] at hj
 rw [List.getD_eq_getElem?_getD, List.getElem?_set, List.getElem?_set]
 unfold nxtS
 rw [getD_rmap hj]
 simp only [List.length_set, List.length_map, List.length_range]
 by_cases e : 8 + i = j
 ·subst e
  rw [if_pos rfl, if_pos hj, if_neg (by omega), if_pos (by omega), show 8 + i - 8 = i by omega]
  rfl
 ·rw [if_neg e]
  by_cases e2 : i = j
  ·subst e2
   rw [if_pos rfl, if_pos hj, if_pos h, if_pos (by omega)]
   rfl
  ·rw [if_neg e2, List.getElem?_map, List.getElem?_range hj]
   show (if j < 8 then _ else _) = _
   by_cases k : j < 8
   ·rw [if_pos k, if_pos k]
    by_cases k2 : j < i
    ·rw [if_pos k2, if_pos (by omega)]
    ·rw [if_neg k2, if_neg (by omega)]
   ·rw [if_neg k, if_neg k]
    by_cases k2 : j - 8 < i
    ·rw [if_pos k2, if_pos (by omega)]
    ·rw [if_neg k2, if_neg (by omega)]
theorem map_set8 {l : List Nat} {i y : Nat} (h : i < l.length) : splice (l.map by8) i [by8 y] = (l.set i y).map by8 := by
 rw [sp_set _ _ _ (by rw [List.length_map]; exact h), List.map_set]
theorem cint8 (n : Nat) : IntKind.u8.wrap (n : Int) = ((n % 256 : Nat) : Int) := by rw [wrap_u8]; rfl
theorem Next_ok {H : Heap} {x : List Nat} {n : Nat} (hx : x.length = 16) (h8 : Ok8 x) (hn : n < 18446744073709551616) :
  Ok (sem T zb5 [.agg (x.map by8), .int .u64 (n : Nat)]) H fun res H' => res = .agg ((nextb x n).map by8) ∧ Grow H H' := by
 refine zfQ ?_
 unfold zfb
 refine zaw (zcn (agg_ok _) ?_)
 rw [agg_cells]
 have s1 := Grow.new H ⟨zab, x.map by8, none⟩
 have g1 : (H.new ⟨zab, x.map by8, none⟩).get H.next = some ⟨zab, x.map by8, none⟩ := zad _ _
 have n1 : (H.new ⟨zab, x.map by8, none⟩).next = H.next + 1 := zaf _ _
 generalize ha : H.next = a at *
 generalize H.new _ = H1 at *
 refine zaw (zcn (by rfl) ?_)
 have s2 := Grow.new H1 ⟨zab, [.int .u8 0, .int .u8 0, .int .u8 0, .int .u8 0, .int .u8 0, .int .u8 0, .int .u8 0, .int .u8 0, .int .u8 0, .int .u8 0, .int .u8 0, .int .u8 0, .int .u8 0, .int .u8 0, .int .u8 0, .int .u8 0], none⟩
 have g2 : (H1.new ⟨zab, [.int .u8 0, .int .u8 0, .int .u8 0, .int .u8 0, .int .u8 0, .int .u8 0, .int .u8 0, .int .u8 0, .int .u8 0, .int .u8 0, .int .u8 0, .int .u8 0, .int .u8 0, .int .u8 0, .int .u8 0, .int .u8 0], none⟩).get H1.next = some ⟨zab, [.int .u8 0, .int .u8 0, .int .u8 0, .int .u8 0, .int .u8 0, .int .u8 0, .int .u8 0, .int .u8 0, .int .u8 0, .int .u8 0, .int .u8 0, .int .u8 0, .int .u8 0, .int .u8 0, .int .u8 0, .int .u8 0], none⟩ := zad _ _
 have n2 : (H1.new ⟨zab, [.int .u8 0, .int .u8 0, .int .u8 0, .int .u8 0, .int .u8 0, .int .u8 0, .int .u8 0, .int .u8 0, .int .u8 0, .int .u8 0, .int .u8 0, .int .u8 0, .int .u8 0, .int .u8 0, .int .u8 0, .int .u8 0], none⟩).next = H1.next + 1 := zaf _ _
 have ga2 := (s2.same a (by omega)).trans g1
 rw [agg_cells]
 generalize hb : H1.next = b at *
 generalize H1.new _ = H2 at *
 have c1 : By 0 H2 (.sl a 0 8 (.fix 16)) (x.take 8) := by
  refine ⟨?_, fun i hi => ?_, show (8 : Nat) ≤ _ by decide⟩
  ·simp only [rcells, ga2, Option.bind_some]
   rw [if_pos (by rw [List.length_map]; omega), List.drop_zero, List.map_take, List.length_take, Nat.min_eq_left (by omega)]
  ·simp only [V.pid, Option.some.injEq] at hi; omega
 have c2 : By 0 H2 (.sl a 8 8 (.fix 8)) (x.drop 8) := by
  refine ⟨?_, fun i hi => ?_, show (8 : Nat) ≤ _ by decide⟩
  ·simp only [rcells, ga2, Option.bind_some]
   rw [if_pos (by rw [List.length_map]; omega), List.map_drop, List.length_drop, List.take_of_length_le (by rw [List.length_drop, List.length_map]; omega), show x.length - 8 = 8 by omega]
  ·simp only [V.pid, Option.some.injEq] at hi; omega
 have d1 := @zb0 _ _ _ _ (half_ok c1 (h8.take 8) (by rw [List.length_take]; omega))
 have d2 := @zb0 _ _ _ _ (half_ok c2 (h8.drop 8) (by rw [List.length_drop]; omega))
 have v1 : vslice (.arr 16) 1 (.ptr a 0) none (some (.int .i64 8)) none = some (.sl a 0 8 (.fix 16)) := rfl
 have v2 : vslice (.arr 16) 1 (.ptr a 0) (some (.int .i64 8)) none none = some (.sl a 8 8 (.fix 8)) := rfl
 have l1 : be (x.take 8) < 18446744073709551616 := be_take_lt h8 (n := 8) (by omega)
 have l2 : be (x.drop 8) < 18446744073709551616 := by
  have := be_lt _ (h8.drop 8)
  rw [List.length_drop, hx] at this
  exact this
 simp (disch := first | omega | (simp only [RY] <;> omega) | decide) only [↓RD, RZ, eq_self, Int.reduceToNat, Int.reduceAdd, Nat.reduceAdd, Nat.reduceSub, Nat.reduceMul, Nat.reduceLeDiff, v1, v2, d1, d2]
 have eW : IntKind.u64.wrap ((be (x.drop 8) : Nat) + (n : Nat) : Int) = (((be (x.drop 8) + n) % 18446744073709551616 : Nat) : Int) := by rw [wrap_u64]; rfl
 rw [eW]
 refine zas (Q := fun r H' => r = .nrm [.int .u64 ((be (x.take 8) + (if 18446744073709551616 ≤ be (x.drop 8) + n then 1 else 0)) % 18446744073709551616 : Nat)] ∧ H' = H2) ?_ ?_
 ·refine zby (fun h => ?_) (fun h => ?_)
  ·have hh : 18446744073709551616 ≤ be (x.drop 8) + n := by omega
   have ew : IntKind.u64.wrap ((be (x.take 8) : Nat) + 1 : Int) = (((be (x.take 8) + 1) % 18446744073709551616 : Nat) : Int) := by rw [wrap_u64]; rfl
   rw [if_pos hh]
   simp (disch := first | omega | (simp only [RY] <;> omega) | decide) only [↓RD, RZ, eq_self, Int.reduceToNat, Int.reduceAdd, Nat.reduceAdd, Nat.reduceSub, Nat.reduceMul, Nat.reduceLeDiff, ew]
  ·have hh : ¬ 18446744073709551616 ≤ be (x.drop 8) + n := by omega
   rw [if_neg hh, Nat.add_zero, Nat.mod_eq_of_lt l1]
   simp (disch := first | omega | (simp only [RY] <;> omega) | decide) only [↓RD, RZ, eq_self, Int.reduceToNat, Int.reduceAdd, Nat.reduceAdd, Nat.reduceSub, Nat.reduceMul, Nat.reduceLeDiff]
 rintro _ H2 ⟨rfl, rfl⟩
 generalize hV : (be (x.take 8) + (if 18446744073709551616 ≤ be (x.drop 8) + n then 1 else 0)) % 18446744073709551616 = v
 have v8 : v < 18446744073709551616 := by rw [← hV]; exact Nat.mod_lt _ (by decide)
 generalize hW : (be (x.drop 8) + n) % 18446744073709551616 = w at *
 have w8 : w < 18446744073709551616 := by rw [← hW]; exact Nat.mod_lt _ (by decide)
 simp (disch := first | omega | (simp only [RY] <;> omega) | decide) only [↓RD, RZ, eq_self, Int.reduceToNat, Int.reduceAdd, Nat.reduceAdd, Nat.reduceSub, Nat.reduceMul, Nat.reduceLeDiff, eW]
 refine zas (Q := fun z H' => z = .ex 0 [] ∧ H'.get a = some ⟨zab, (nextb x n).map by8, none⟩ ∧ At1 a H2 H') ?_ ?_
 ·refine zaL (fun i L H' => L = [.int .i64 (i : Nat)] ∧ H'.get a = some ⟨zab, (nxtS x v w i).map by8, none⟩ ∧ At1 a H2 H') 8 ?_ ?_ ?_
  ·exact ⟨rfl, by rw [nxtS_zero hx]; exact ga2, At1.refl _ _⟩
  ·rintro i _ H3 hi ⟨rfl, g3, s3⟩
   have e1 : (8 : Int) * ((i : Nat) : Int) = ((8 * i : Nat) : Int) := rfl
   have e2 : (56 : Int) - ((8 * i : Nat) : Int) = ((8 * (7 - i) : Nat) : Int) := by omega
   have e3 : ∀ u, shr u (8 * (7 - i)) = u / 256 ^ (7 - i) := fun u => by rw [shr_def, Nat.shiftRight_eq_div_pow, Nat.pow_mul]
   have e4 : ∀ u : Nat, IntKind.u8.wrap ((u / 256 ^ (7 - i) : Nat) : Int) = ((nxt8 u i : Nat) : Int) := fun u => cint8 _
   have e5 : (8 : Int) + ((i : Nat) : Int) = ((8 + i : Nat) : Int) := rfl
   have m1 := map_set8 (l := nxtS x v w i) (i := i) (y := nxt8 v i) (by rw [nxtS_len]; omega)
   have m2 := map_set8 (l := (nxtS x v w i).set i (nxt8 v i)) (i := 8 + i) (y := nxt8 w i) (by rw [List.length_set, nxtS_len]; omega)
   have k1 : ((nxtS x v w i).map by8).length = 16 := by rw [List.length_map, nxtS_len]
   have k2 : (((nxtS x v w i).set i (nxt8 v i)).map by8).length = 16 := by rw [List.length_map, List.length_set, nxtS_len]
   rw [nxtS_step _ _ _ hi] at m2
   unfold zc7
   replace m1 : splice ((nxtS x v w i).map by8) i [.int .u8 (nxt8 v i : Nat)] = _ := m1
   replace m2 : splice (((nxtS x v w i).set i (nxt8 v i)).map by8) (8 + i) [.int .u8 (nxt8 w i : Nat)] = _ := m2
   simp (disch := first | omega | (simp only [RY] <;> omega) | decide) only [↓RD, RZ, eq_self, Int.reduceToNat, Int.reduceAdd, Nat.reduceAdd, Nat.reduceSub, Nat.reduceMul, Nat.reduceLeDiff, e1, e2, e3, e4, e5, g3, m1, m2, k1, k2]
   exact ⟨by omega, by omega, rfl, s3.trans ((At1.set a _ _).trans (At1.set a _ _))⟩
  ·rintro _ H3 ⟨rfl, g3, s3⟩
   unfold zc7
   simp (disch := first | omega | (simp only [RY] <;> omega) | decide) only [↓RD, RZ, eq_self, Int.reduceToNat, Int.reduceAdd, Nat.reduceAdd, Nat.reduceSub, Nat.reduceMul, Nat.reduceLeDiff]
   refine ⟨?_, s3⟩
   rw [g3, nxtS_all]
   unfold nextb
   rw [hV, hW]
   rfl
 ·rintro _ H3 ⟨rfl, g3, s3⟩
  have n3 := s3.next
  have gb3 := (s3.same b (by omega) (by omega)).trans g2
  have hl : (nextb x n).length = 16 := by simp [nextb]
  have l1 := ld16 hl
  have l2 := sp16 hl (L := [.int .u8 0, .int .u8 0, .int .u8 0, .int .u8 0, .int .u8 0, .int .u8 0, .int .u8 0, .int .u8 0, .int .u8 0, .int .u8 0, .int .u8 0, .int .u8 0, .int .u8 0, .int .u8 0, .int .u8 0, .int .u8 0]) rfl
  have l3 := agg16 hl
  simp (disch := first | omega | (simp only [RY] <;> omega) | decide) only [↓RD, RZ, eq_self, Int.reduceToNat, Int.reduceAdd, Nat.reduceAdd, Nat.reduceSub, Nat.reduceMul, Nat.reduceLeDiff, g3, l1, gb3, agg_ok, agg_cells, l2, l3]
  exact ⟨by rw [zal]; omega, fun i hi => by rw [zah _ _ (by omega), s3.same i (by omega) (by omega), s2.same i (by omega), s1.same i (by omega)]⟩
theorem nextb_len (x : List Nat) (n : Nat) : (nextb x n).length = 16 := by simp [nextb]
theorem nextb_8 (x : List Nat) (n : Nat) : Ok8 (nextb x n) := (Ok8.rmap fun i _ => Nat.mod_lt _ (by decide)).app (Ok8.rmap fun i _ => Nat.mod_lt _ (by decide))
theorem aes_len (ws : List (List Nat)) (x : List Nat) : (aes ws x).length = 16 := addk_len _ _ _
theorem aes_8 {ws : List (List Nat)} (hw : ∀ w ∈ ws, Word w) (x : List Nat) : Ok8 (aes ws x) := addk_8 hw (movd_8 _)
theorem okI_def {α : Type} {c : V} {x y : M α} {H : Heap} {Q : α → Heap → Prop} : @OkI α c H ⟨x⟩ ⟨y⟩ ⟨Q⟩ = Ok (M.ite c x y) H Q := rfl
theorem crypt_blk {H : Heap} {k n : Nat} {ws : List (List Nat)} {f : List Nat} {F : V → M Res} {Q : Res → Heap → Prop} (hA : Aes H k ws) (hf : f.length = 16) (f8 : Ok8 f) (hwl : ws.length ≤ 1000) (hw4 : ws.length % 4 = 0) (hw8 : 8 ≤ ws.length) (hn : n < 18446744073709551616)
  (h : ∀ H', Grow H H' → Ok (F (.agg ((aes ws (nextb f n)).map by8))) H' Q) : Ok ((sem T zb5 [.agg (f.map by8), .int .u64 (n : Nat)]).bind fun t43 => (sem T zbn [.ptr k 0, t43]).bind F) H Q := by
 refine zae (Next_ok hf f8 hn) ?_
 rintro _ H1 ⟨rfl, s1⟩
 refine zae (Block_ok (hA.grow s1) (nextb_len _ _) (nextb_8 _ _) hwl hw4 hw8) ?_
 rintro _ H2 ⟨rfl, s2⟩
 exact h _ (s1.trans s2)
theorem Crypt_ok {lo : Nat} {H : Heap} {k : Nat} {ws : List (List Nat)} {bv : V} {f l : List Nat} (hA : Aes H k ws) (hf : f.length = 16) (f8 : Ok8 f) (hv : By lo H bv l) (h8 : Ok8 l) (hwl : ws.length ≤ 1000) (hw4 : ws.length % 4 = 0) (hw8 : 8 ≤ ws.length) (hl : l.length ≤ 1099511627776) :
  Ok (sem T zcg [.ptr k 0, .agg (f.map by8), .int .i64 0, bv]) H fun res H' => ∃ r, res = .tup [r, .int .i64 0] ∧ By H.next H' r (ctr ws f l) ∧ Grow H H' := by
 have hw : ∀ w ∈ ws, Word w := by obtain ⟨_, _, _, _, _, hw⟩ := hA; exact hw
 have cl := ctr_len ws f l
 refine zfC ?_
 unfold zeL
 refine zaw (zcn (agg_ok _) ?_)
 rw [agg_cells]
 have s1 := Grow.new H ⟨zab, f.map by8, none⟩
 have g1 : (H.new ⟨zab, f.map by8, none⟩).get H.next = some ⟨zab, f.map by8, none⟩ := zad _ _
 have n1 : (H.new ⟨zab, f.map by8, none⟩).next = H.next + 1 := zaf _ _
 generalize ha : H.next = a at *
 generalize H.new _ = H1 at *
 simp (disch := first | omega | (simp only [RY] <;> omega) | decide) only [↓RD, RZ, eq_self, Int.reduceToNat, Int.reduceAdd, Nat.reduceAdd, Nat.reduceSub, Nat.reduceMul, Nat.reduceLeDiff, hv.vlen]
 refine ⟨⟨by omega, by omega, by omega, by omega⟩, ?_⟩
 rw [zeros1, Int.toNat_natCast]
 have s2 := Grow.new H1 ⟨zac, List.replicate l.length (.int .u8 0), none⟩
 have g2 : (H1.new ⟨zac, List.replicate l.length (.int .u8 0), none⟩).get H1.next = some ⟨zac, List.replicate l.length (.int .u8 0), none⟩ := zad _ _
 have n2 : (H1.new ⟨zac, List.replicate l.length (.int .u8 0), none⟩).next = H1.next + 1 := zaf _ _
 have ga2 := (s2.same a (by omega)).trans g1
 generalize hb : H1.next = b at *
 generalize H1.new _ = H2 at *
 generalize hc : b + 1 = c at *
 have s3 := Grow.new H2 ⟨zab, [.int .u8 0, .int .u8 0, .int .u8 0, .int .u8 0, .int .u8 0, .int .u8 0, .int .u8 0, .int .u8 0, .int .u8 0, .int .u8 0, .int .u8 0, .int .u8 0, .int .u8 0, .int .u8 0, .int .u8 0, .int .u8 0], none⟩
 have g3 : (H2.new ⟨zab, [.int .u8 0, .int .u8 0, .int .u8 0, .int .u8 0, .int .u8 0, .int .u8 0, .int .u8 0, .int .u8 0, .int .u8 0, .int .u8 0, .int .u8 0, .int .u8 0, .int .u8 0, .int .u8 0, .int .u8 0, .int .u8 0], none⟩).get H2.next = some ⟨zab, (List.replicate 16 0).map by8, none⟩ := zad _ _
 have n3 : (H2.new ⟨zab, [.int .u8 0, .int .u8 0, .int .u8 0, .int .u8 0, .int .u8 0, .int .u8 0, .int .u8 0, .int .u8 0, .int .u8 0, .int .u8 0, .int .u8 0, .int .u8 0, .int .u8 0, .int .u8 0, .int .u8 0, .int .u8 0], none⟩).next = H2.next + 1 := zaf _ _
 have ga3 := (s3.same a (by omega)).trans ga2
 have gb3 := (s3.same b (by omega)).trans g2
 rw [n2] at g3 n3
 generalize H2.new _ = H3 at *
 have s03 : Grow H H3 := (s1.trans s2).trans s3
 have hv3 := hv.ext s03
 refine zas (Q := fun z H' => z = .ex 0 [] ∧ H'.get b = some ⟨zac, (ctr ws f l).map by8, none⟩ ∧ Grow H H' ∧ c < H'.next) ?_ ?_
 ·refine zaL (fun i L H' => L = [.int .i64 (i : Nat)] ∧ H'.get a = some ⟨zab, f.map by8, none⟩ ∧ H'.get b = some ⟨zac, ((ctr ws f l).take i).map by8 ++ List.replicate (l.length - i) (.int .u8 0), none⟩ ∧ H'.get c = some ⟨zab, (if i = 0 then List.replicate 16 0 else aes ws (nextb f ((i - 1) / 16))).map by8, none⟩ ∧ Grow H H' ∧ c < H'.next) l.length ?_ ?_ ?_
  ·exact ⟨rfl, ga3, by simpa using gb3, g3, s03, by omega⟩
  ·rintro i _ H4 hi ⟨rfl, ga4, gb4, gc4, s4, n4⟩
   have hv4 := hv.ext s4
   generalize hy : (if i = 0 then List.replicate 16 0 else aes ws (nextb f ((i - 1) / 16))) = y at *
   have yl : y.length = 16 := by rw [← hy]; split; exact List.length_replicate ..; exact aes_len _ _
   have e1 : (((i : Nat) : Int) % 16 == 0) = decide (i % 16 = 0) := by
    by_cases h : i % 16 = 0
    ·rw [decide_eq_true h, show ((i : Nat) : Int) % 16 = 0 by omega]; rfl
    ·rw [decide_eq_false h]
     have : ¬ ((i : Nat) : Int) % 16 = 0 := by omega
     simpa using this
   have e2 : (((i : Nat) : Int) == 0) = decide (i = 0) := by
    by_cases h : i = 0
    ·rw [decide_eq_true h, h]; rfl
    ·rw [decide_eq_false h]
     have : ¬ ((i : Nat) : Int) = 0 := by omega
     simpa using this
   have l1 := ld16 hf
   unfold zcN
   simp (disch := first | omega | (simp only [RY] <;> omega) | decide) only [↓RD, RZ, eq_self, Int.reduceToNat, Int.reduceAdd, Nat.reduceAdd, Nat.reduceSub, Nat.reduceMul, Nat.reduceLeDiff, e1, e2, Int.zero_add]
   rw [okB_def]
   refine zas (α := Res) (Q := fun r H' => r = .nrm [] ∧ ∃ H5, Grow H H5 ∧ c < H5.next ∧ H5.get a = H4.get a ∧ H5.get b = H4.get b ∧ H5.get c = some ⟨zab, (aes ws (nextb f (i / 16))).map by8, none⟩ ∧ H' = H5.set b (some ⟨zac, ((ctr ws f l).take (i + 1)).map by8 ++ List.replicate (l.length - (i + 1)) (.int .u8 0), none⟩)) ?_ ?_
   ·have rest : ∀ H5, Grow H H5 → c < H5.next → H5.get a = H4.get a → H5.get b = H4.get b → H5.get c = some ⟨zab, (aes ws (nextb f (i / 16))).map by8, none⟩ →
      Ok ((M.lift (Ax.iaddr none 1 bv (.int .i64 (i : Nat)))).bind fun t49 =>
       (mload none t49).bind fun t50 =>
       (M.lift (Ax.bin .add (.int .i64 0) (.int .i64 (i : Nat)))).bind fun t53 =>
       (M.lift (Ax.bin .rem t53 (V.int .i64 16))).bind fun t54 =>
       (M.lift (Ax.iaddr (some 16) 1 (.ptr c 0) t54)).bind fun t55 =>
       (mload none t55).bind fun t56 =>
       (M.lift (Ax.bin .xor t50 t56)).bind fun t57 =>
       (M.lift (Ax.iaddr none 1 (.sl b 0 l.length (.fix l.length)) (.int .i64 (i : Nat)))).bind fun t58 =>
       (mstore 1 t58 t57).bind fun _ =>
       M.pure (Res.nrm [])) H5 fun r H' => r = Res.nrm [] ∧ H' = H5.set b (some ⟨zac, ((ctr ws f l).take (i + 1)).map by8 ++ List.replicate (l.length - (i + 1)) (.int .u8 0), none⟩) := by
     intro H5 g5 m5 a5 b5 c5
     have hv5 := hv.ext g5
     obtain ⟨p, hp, hld, -⟩ := by_at hv5 (i := (i : Nat)) (by omega) (by omega)
     simp only [Int.toNat_natCast] at hld
     rw [gb4] at b5
     have q1 := getD_lt h8 i
     have hk := aes_8 hw (nextb f (i / 16))
     have hkl := aes_len ws (nextb f (i / 16))
     have q2 := bg (l := aes ws (nextb f (i / 16))) (i := i % 16) (by omega)
     have q3 := b_xor q1 (hk.getD (i % 16))
     have q4 : l.getD i 0 ^^^ (aes ws (nextb f (i / 16))).getD (i % 16) 0 = (ctr ws f l).getD i 0 := (getD_ctr hi).symm
     rw [q4] at q3
     have hl0 : (((ctr ws f l).take i).map by8).length = i := by rw [List.length_map, List.length_take]; omega
     have x0 := splice_next (z := .int .u8 0) (x := by8 ((ctr ws f l).getD i 0)) hl0 hi
     have ml : (((ctr ws f l).take i).map by8 ++ List.replicate (l.length - i) (V.int .u8 0)).length = l.length := by rw [List.length_append, hl0, List.length_replicate]; omega
     have ei : ((i : Nat) : Int) % 16 = ((i % 16 : Nat) : Int) := by omega
     have em := Nat.mod_lt i (show 0 < 16 by decide)
     have et : ((ctr ws f l).take i).map by8 ++ [by8 ((ctr ws f l).getD i 0)] = ((ctr ws f l).take (i + 1)).map by8 := by rw [take_snoc (by omega)]; simp
     rw [et] at x0
     replace q3 : Ax.bin .xor (.int .u8 (l.getD i 0 : Nat)) (by8 ((aes ws (nextb f (i / 16))).getD (i % 16) 0)) = _ := q3
     simp (disch := first | omega | (simp only [RY] <;> omega) | decide) only [↓RD, RZ, eq_self, Int.reduceToNat, Int.reduceAdd, Nat.reduceAdd, Nat.reduceSub, Nat.reduceMul, Nat.reduceLeDiff, hp, hld, Int.zero_add, ei, c5, q2, q3, b5, x0, ml, by8_ok, by8_cells]
     omega
    have ln := aes_len ws (nextb f (i / 16))
    have l2 := ld16 ln
    have l3 := sp16 ln (L := y.map by8) (by rw [List.length_map, yl])
    have l4 := agg16 ln
    have e4 : ((i : Nat) : Int) / 16 = ((i / 16 : Nat) : Int) := by omega
    have l5 : (y.map by8).length = 16 := by rw [List.length_map, yl]
    by_cases h0 : i = 0
    ·have e3 : decide (i = 0) = true := decide_eq_true h0
     simp (disch := first | omega | (simp only [RY] <;> omega) | decide) only [↓RD, RZ, eq_self, Int.reduceToNat, Int.reduceAdd, Nat.reduceAdd, Nat.reduceSub, Nat.reduceMul, Nat.reduceLeDiff, e1, e2, e3, Int.zero_add, ga4, l1, e4]
     rw [okB_def]
     refine crypt_blk (hA.grow s4) hf f8 hwl hw4 hw8 (by omega) fun H5 s5 => ?_
     have n5 := s5.next
     have ga5 := s5.same a (by omega)
     have gb5 := s5.same b (by omega)
     have gc5 := (s5.same c (by omega)).trans gc4
     simp (disch := first | omega | (simp only [RY] <;> omega) | decide) only [↓RD, RZ, eq_self, Int.reduceToNat, Int.reduceAdd, Nat.reduceAdd, Nat.reduceSub, Nat.reduceMul, Nat.reduceLeDiff, gc5, agg_ok, agg_cells, l3, l4, l5]
     rw [okB_def]
     refine zas (rest (H5.set c (some ⟨zab, (aes ws (nextb f (i / 16))).map by8, none⟩)) ((s4.trans s5).set (by omega) _) (by rw [zal]; omega) (by rw [zah _ _ (by omega)]; exact ga5) (by rw [zah _ _ (by omega)]; exact gb5) (zai _ _ _)) ?_
     rintro _ _ ⟨rfl, rfl⟩
     exact ⟨rfl, _, (s4.trans s5).set (by omega) _, by rw [zal]; omega, by rw [zah _ _ (by omega)]; exact ga5, by rw [zah _ _ (by omega)]; exact gb5, zai _ _ _, rfl⟩
    ·have e3 : decide (i = 0) = false := decide_eq_false h0
     simp (disch := first | omega | (simp only [RY] <;> omega) | decide) only [↓RD, RZ, eq_self, Int.reduceToNat, Int.reduceAdd, Nat.reduceAdd, Nat.reduceSub, Nat.reduceMul, Nat.reduceLeDiff, e1, e2, e3, Int.zero_add]
     rw [okI_def]
     refine zby (fun h => ?_) (fun h => ?_)
     ·simp (disch := first | omega | (simp only [RY] <;> omega) | decide) only [↓RD, RZ, eq_self, Int.reduceToNat, Int.reduceAdd, Nat.reduceAdd, Nat.reduceSub, Nat.reduceMul, Nat.reduceLeDiff, ga4, l1, e4, Int.zero_add]
      rw [okB_def]
      refine crypt_blk (hA.grow s4) hf f8 hwl hw4 hw8 (by omega) fun H5 s5 => ?_
      have n5 := s5.next
      have ga5 := s5.same a (by omega)
      have gb5 := s5.same b (by omega)
      have gc5 := (s5.same c (by omega)).trans gc4
      simp (disch := first | omega | (simp only [RY] <;> omega) | decide) only [↓RD, RZ, eq_self, Int.reduceToNat, Int.reduceAdd, Nat.reduceAdd, Nat.reduceSub, Nat.reduceMul, Nat.reduceLeDiff, gc5, agg_ok, agg_cells, l3, l4, l5]
      rw [okB_def]
      refine zas (rest (H5.set c (some ⟨zab, (aes ws (nextb f (i / 16))).map by8, none⟩)) ((s4.trans s5).set (by omega) _) (by rw [zal]; omega) (by rw [zah _ _ (by omega)]; exact ga5) (by rw [zah _ _ (by omega)]; exact gb5) (zai _ _ _)) ?_
      rintro _ _ ⟨rfl, rfl⟩
      exact ⟨rfl, _, (s4.trans s5).set (by omega) _, by rw [zal]; omega, by rw [zah _ _ (by omega)]; exact ga5, by rw [zah _ _ (by omega)]; exact gb5, zai _ _ _, rfl⟩
     ·have ey : y = aes ws (nextb f (i / 16)) := by rw [← hy, if_neg h0, show (i - 1) / 16 = i / 16 by omega]
      rw [ey] at gc4
      simp (disch := first | omega | (simp only [RY] <;> omega) | decide) only [↓RD, RZ, eq_self, Int.reduceToNat, Int.reduceAdd, Nat.reduceAdd, Nat.reduceSub, Nat.reduceMul, Nat.reduceLeDiff]
      rw [okB_def]
      refine zas (rest H4 s4 n4 rfl rfl gc4) ?_
      rintro _ _ ⟨rfl, rfl⟩
      exact ⟨rfl, _, s4, n4, rfl, rfl, gc4, rfl⟩
   ·rintro _ _ ⟨rfl, H5, s5, n5, ga5, gb5, gc5, rfl⟩
    simp (disch := first | omega | (simp only [RY] <;> omega) | decide) only [↓RD, RZ, eq_self, Int.reduceToNat, Int.reduceAdd, Nat.reduceAdd, Nat.reduceSub, Nat.reduceMul, Nat.reduceLeDiff]
    refine ⟨rfl, ga5.trans ga4, ?_, s5.set (by omega) _, n5⟩
    rw [gc5, if_neg (by omega), show i + 1 - 1 = i by omega]
  ·rintro _ H4 ⟨rfl, ga4, gb4, gc4, s4, n4⟩
   unfold zcN
   simp (disch := first | omega | (simp only [RY] <;> omega) | decide) only [↓RD, RZ, eq_self, Int.reduceToNat, Int.reduceAdd, Nat.reduceAdd, Nat.reduceSub, Nat.reduceMul, Nat.reduceLeDiff]
   refine ⟨?_, s4, n4⟩
   rw [gb4, List.take_of_length_le (by omega)]; simp
 ·rintro _ H4 ⟨rfl, gb4, s4, n4⟩
  simp (disch := first | omega | (simp only [RY] <;> omega) | decide) only [↓RD, RZ, eq_self, Int.reduceToNat, Int.reduceAdd, Nat.reduceAdd, Nat.reduceSub, Nat.reduceMul, Nat.reduceLeDiff]
  refine ⟨_, rfl, ?_, s4⟩
  exact by_arr gb4 cl (by omega) (by omega)
end Go.Ax.SU
/- Su21 -/
namespace Go.Ax.SU
open Go.Ax
theorem App.same {ty e lo n : Nat} {H H' : Heap} {v : V} {cells : List V} (h : App ty e lo H v cells n) (hn : H.next ≤ H'.next) (hs : ∀ i, v.pid = some i → H'.get i = H.get i) : App ty e lo H' v cells n := by
 cases h with
 | opn h ho => exact .opn (h.to hs) fun i hi => ⟨(ho i hi).1, Nat.lt_of_lt_of_le (ho i hi).2 hn⟩
 | lit h h0 h1 => exact .lit (by rw [hs _ rfl, h]) h0 (Nat.lt_of_lt_of_le h1 hn)
def Kst (H : Heap) (k : Nat) (w : V) (ws : List (List Nat)) : Prop := H.get k = some ⟨zaU, tabC true ++ [w], none⟩ ∧ App zau 4 (k + 1) H w (ws.flatten.map by8) ws.length ∧ k < H.next
theorem splice259 (wv x : V) : splice (tabC true ++ [wv]) 259 [x] = tabC true ++ [x] := by
 have e : (tabC true).length = 259 := by unfold tabC; simp only [List.length_cons, List.length_map, sbox_len]
 unfold splice
 rw [List.take_append_of_le_length (by omega), List.take_of_length_le (by omega), List.drop_of_length_le (by rw [List.length_append, e]; exact Nat.le_refl _), List.append_nil]
theorem len260 (wv : V) : (tabC true ++ [wv]).length = 260 := by
 have e : (tabC true).length = 259 := by unfold tabC; simp only [List.length_cons, List.length_map, sbox_len]
 rw [List.length_append, e]; rfl
theorem _root_.Go.Ax.Lc.same {e lo n : Nat} {H H' : Heap} {v : V} {cells : List V} (h : Lc e lo H v cells n) (hn : H.next ≤ H'.next) (hs : ∀ i, v.pid = some i → H'.get i = H.get i) : Lc e lo H' v cells n :=
 ⟨by rw [rcells_to hs]; exact h.rc, fun i hi => ⟨(h.own i hi).1, Nat.lt_of_lt_of_le (h.own i hi).2 hn⟩, h.cap⟩
theorem Kst.expl {H : Heap} {k : Nat} {w : V} {ws : List (List Nat)} (h : Kst H k w ws) (h0 : 0 < ws.length) : ∃ id, w = .sl id 0 ws.length (.opn 4) ∧ H.get id = some ⟨zau, ws.flatten.map by8, some 4⟩ ∧ k < id ∧ id < H.next := by
 obtain ⟨h1, h2, h3⟩ := h
 cases hn : ws.length with
 | zero => omega
 | succ n =>
  rw [hn] at h2
  generalize ws.flatten.map by8 = cs at *
  cases h2 with
  | opn h ho =>
   rcases h with ⟨_, _, h⟩ | ⟨id, rfl, hg, hl⟩
   ·omega
   ·exact ⟨id, rfl, hg, (ho id rfl).1, (ho id rfl).2⟩
theorem kpush {H : Heap} {k : Nat} {w : V} {ws : List (List Nat)} {a b c d : Nat} {F : V → M Res} {Q : Res → Heap → Prop} (hk : Kst H k w ws) (hl : ws.length ≤ 1000)
  (h : ∀ w' H', Kst H' k w' (ws ++ [[a, b, c, d]]) → Bel k H H' → Ok (F .undef) H' Q) :
  Ok ((mappend zau 4 4 w (.sl H.next 0 1 (.fix 1))).bind fun t45 =>
   (M.lift (Ax.nilck (.ptr k 0))).bind fun t46 =>
   (M.lift (Ax.faddr 259 t46)).bind fun t47 =>
   (mstore 1 t47 t45).bind F) (H.new ⟨zau, [by8 a, by8 b, by8 c, by8 d], none⟩) Q := by
 obtain ⟨h1, h2, h3⟩ := hk
 have s1 := Grow.new H ⟨zau, [by8 a, by8 b, by8 c, by8 d], none⟩
 have n1 : (H.new ⟨zau, [by8 a, by8 b, by8 c, by8 d], none⟩).next = H.next + 1 := zaf _ _
 have g1 := (s1.same k h3).trans h1
 have ac : acells 4 (H.new ⟨zau, [by8 a, by8 b, by8 c, by8 d], none⟩) (.sl H.next 0 1 (.fix 1)) = some ([by8 a, by8 b, by8 c, by8 d], 1) := acells_fresh rfl
 have h2' : App zau 4 (k + 1) (H.new ⟨zau, [by8 a, by8 b, by8 c, by8 d], none⟩) w (ws.flatten.map by8) ws.length := App.keep h2 (s1.keep _)
 generalize hid : H.next = id at *
 generalize H.new _ = H1 at *
 refine zgj h2' (by omega) ac rfl (by omega) (by omega) fun w' H2 a2 st => ?_
 have n2 := st.next
 have hpw : ∀ i, i ∈ w.pid.toList → k + 1 ≤ i := fun i hi => (h2'.lc.own i (by simpa [mem_pid] using hi)).1
 have b2 : Bel (k + 1) H1 H2 := ⟨st.next, fun i hi => by
  by_cases hin : i < H1.next
  ·exact st.same i hin fun e => by have := hpw i e; omega
  ·omega⟩
 have g2 : H2.get k = _ := (b2.same k (by omega)).trans g1
 have sp := splice259 w w'
 have ln := len260 w
 simp (disch := first | omega | (simp only [RY] <;> omega) | decide) only [↓RD, RZ, eq_self, Int.reduceToNat, Int.reduceAdd, Nat.reduceAdd, Nat.reduceSub, Nat.reduceMul, Nat.reduceLeDiff, g2, sp, ln, a2.lc.cells1, a2.lc.okc]
 refine h w' _ ⟨zai _ _ _, ?_, by rw [zal]; omega⟩ ⟨by rw [zal]; omega, fun i hi => ?_⟩
 ·have : (ws ++ [[a, b, c, d]]).flatten.map by8 = ws.flatten.map by8 ++ [by8 a, by8 b, by8 c, by8 d] := by simp
  rw [this, List.length_append]
  refine App.same a2 (by rw [zal]; exact Nat.le_refl _) fun i hi => zah _ _ ?_
  have := (a2.lc.own i hi).1
  omega
 ·rw [zah _ _ (by omega), b2.same i (by omega), s1.same i (by omega)]
theorem s2a_ok {lo : Nat} {H : Heap} {v : V} {l : List Nat} (hv : By lo H v l) (hl : 4 ≤ l.length) : ∃ p, op1 (.s2a 4) v = some p ∧ LdR (some 4) H p (.agg ((l.take 4).map by8)) := by
 have hlen := hv.len
 rw [List.length_map, Nat.mul_one] at hlen
 rcases hv.cases with ⟨_, _, hn⟩ | ⟨id, off, cap, b, rfl, hb, hle, hc⟩ | ⟨cs, rfl, hle, hc⟩
 ·omega
 ·refine ⟨.ptr id off, by simp only [op1]; rw [if_pos ⟨hl, by decide⟩], ?_⟩
  have h1 := (pl_ptr (H := H) (off := off) (m := 4) hb (by omega)).all
  have e : (b.cells.drop off).take 4 = (l.take 4).map by8 := by
   rw [List.map_take, hc, List.take_take, Nat.mul_one, Nat.min_eq_left hl]
  rw [e, List.length_map, List.length_take, Nat.min_eq_left hl] at h1
  exact h1
 ·refine ⟨.rp cs 0, by simp only [op1]; rw [if_pos ⟨hl, by decide⟩], ?_⟩
  have h1 := (pl_rp (H := H) (cs := cs) (off := 0) (m := 4) (by omega)).all
  have e : (cs.drop 0).take 4 = (l.take 4).map by8 := by
   rw [List.map_take, hc, List.take_take, List.drop_zero, Nat.mul_one, Nat.min_eq_left hl]
  rw [e, List.length_map, List.length_take, Nat.min_eq_left hl] at h1
  exact h1
theorem four {l : List Nat} (h : l.length = 4) : ∃ a b c d, l = [a, b, c, d] := by
 match l, h with
 | [a, b, c, d], _ => exact ⟨a, b, c, d, rfl⟩
def xw (s p : List Nat) : List Nat := (List.range 4).map fun j => s.getD j 0 ^^^ p.getD j 0
theorem xw_len (s p : List Nat) : (xw s p).length = 4 := by simp [xw]
theorem kw_succ (b : List Nat) (n i : Nat) : kw b n (i + 1) = kw b n i ++ [if i < n then (b.drop (4 * i)).take 4 else xw (kstep n i ((kw b n i).getD (i - 1) [])) ((kw b n i).getD (i - n) [])] := rfl
theorem New_1_ok {H : Heap} {k q id i j : Nat} {ws : List (List Nat)} {s : List Nat} {u2 u3 u8 : V} (hw : ∀ w ∈ ws, Word w) (hs : Word s) (hgk : H.get k = some ⟨zaU, tabC true ++ [.sl id 0 ws.length (.opn 4)], none⟩) (hgi : H.get id = some ⟨zau, ws.flatten.map by8, some 4⟩)
  (hq : H.get q = some ⟨zau, s.map by8, none⟩) (hqk : q ≠ k) (hqi : q ≠ id) (hkl : k < H.next) (hil : id < H.next) (hj : j ≤ i) (hi : i ≤ ws.length) (hj0 : 0 < j) (hwl : ws.length ≤ 1000) :
  Ok (M.iter (zcY (sem T) (.ptr k 0) (.int .i64 (i : Nat)) (.int .i64 (j : Nat)) (.ptr q 0) u2 u3 u8) [.int .i64 0]) H fun z H' => z = .ex 5 [] ∧ H'.get q = some ⟨zau, (xw s (ws.getD (i - j) [])).map by8, none⟩ ∧ At1 q H H' := by
 refine zaL (fun m L H' => L = [.int .i64 (m : Nat)] ∧ H'.get q = some ⟨zau, ((xw s (ws.getD (i - j) [])).take m ++ s.drop m).map by8, none⟩ ∧ At1 q H H') 4 ?_ ?_ ?_
 ·exact ⟨rfl, by simpa using hq, At1.refl _ _⟩
 ·rintro m _ H3 hm ⟨rfl, g3, s3⟩
  have sl := hs.1
  have gk3 := (s3.same k hkl (by omega)).trans hgk
  have gi3 := (s3.same id hil (by omega)).trans hgi
  have hA' : (((xw s (ws.getD (i - j) [])).take m).map by8).length = m := by rw [List.length_map, List.length_take, xw_len]; omega
  rw [up_now (by omega)] at g3
  have m1 := mid_get (b := by8 (s.getD m 0)) (C := (s.drop (m + 1)).map by8) hA'
  have m2 := mid_set (b := by8 (s.getD m 0)) (y := by8 ((xw s (ws.getD (i - j) [])).getD m 0)) (C := (s.drop (m + 1)).map by8) hA'
  have ml : (((xw s (ws.getD (i - j) [])).take m).map by8 ++ by8 (s.getD m 0) :: (s.drop (m + 1)).map by8).length = 4 := by rw [List.length_append, hA', List.length_cons, List.length_map, List.length_drop]; omega
  have ek := key259 (.sl id 0 ws.length (.opn 4))
  have e1 : ((i : Nat) : Int) - ((j : Nat) : Int) = ((i - j : Nat) : Int) := by omega
  have wb := word_byte hw (j := i - j) (m := m) (by omega) hm
  have ex := b_xor (hs.2.getD m) (word_8 hw (i - j) m)
  have ea : s.getD m 0 ^^^ (ws.getD (i - j) []).getD m 0 = (xw s (ws.getD (i - j) [])).getD m 0 := by unfold xw; rw [getD_rmap hm]
  rw [ea] at ex
  unfold zcY
  simp (disch := first | omega | (simp only [RY] <;> omega) | decide) only [↓RD, RZ, eq_self, Int.reduceToNat, Int.reduceAdd, Nat.reduceAdd, Nat.reduceSub, Nat.reduceMul, Nat.reduceLeDiff, g3, m1, gk3, ek, e1, gi3, wb, ex, m2, ml, by8_ok, by8_cells]
  refine ⟨by omega, rfl, ?_, s3.trans (At1.set q _ _)⟩
  rw [up_then (by rw [xw_len]; omega)]
 ·rintro _ H3 ⟨rfl, g3, s3⟩
  have sl := hs.1
  unfold zcY
  simp (disch := first | omega | (simp only [RY] <;> omega) | decide) only [↓RD, RZ, eq_self, Int.reduceToNat, Int.reduceAdd, Nat.reduceAdd, Nat.reduceSub, Nat.reduceMul, Nat.reduceLeDiff]
  refine ⟨?_, s3⟩
  rw [g3, List.take_of_length_le (by rw [xw_len]; omega), List.drop_of_length_le (by omega), List.append_nil]
theorem New_rest {lo : Nat} {H : Heap} {k n : Nat} {v : V} {l : List Nat} (hv : By lo H v l) (h8 : Ok8 l) (hn : n = 4 ∨ n = 8) (hl : l.length = 4 * n) (hvk : ∀ i, v.pid = some i → i < k) (hk : H.get k = some ⟨zaU, tabC true ++ [.nils], none⟩) (hkl : k < H.next) :
  Ok (M.blk 0 (M.iter (zcm (sem T) (.int .i64 (n : Nat)) (.ptr k 0) v .nilp (.int .i64 0)) [.int .i64 0]) fun _ =>
   M.blk 2 (M.iter (zcl (sem T) (.ptr k 3) (.int .i64 (n : Nat)) (.ptr k 0) .nilp (.int .i64 0)) [.int .u8 1, .int .i64 (n : Nat)]) fun _ =>
   M.pure (.ret [.ptr k 0, .int .i64 0])) H fun r H' => r = .ret [.ptr k 0, .int .i64 0] ∧ Aes H' k (kw l n (4 * (n + 7))) ∧ Bel k H H' := by
 have hn0 : 0 < n := by omega
 have hwd : ∀ i, ∀ w ∈ kw l n i, Word w := fun i => kw_word hn0 h8 hl i
 simp (disch := first | omega | (simp only [RY] <;> omega) | decide) only [↓RD, RZ, eq_self, Int.reduceToNat, Int.reduceAdd, Nat.reduceAdd, Nat.reduceSub, Nat.reduceMul, Nat.reduceLeDiff]
 refine zas (Q := fun z H' => z = .ex 0 [] ∧ ∃ w, Kst H' k w (kw l n n) ∧ Bel k H H') ?_ ?_
 ·refine zaL (fun i L H' => L = [.int .i64 (i : Nat)] ∧ ∃ w, Kst H' k w (kw l n i) ∧ Bel k H H') n ?_ ?_ ?_
  ·exact ⟨rfl, .nils, ⟨hk, App.nil, hkl⟩, Bel.refl _ _⟩
  ·rintro i _ H1 hi ⟨rfl, w, hw, b1⟩
   have hv1 : By lo H1 v l := hv.same b1.next fun j hj => b1.same j (hvk j hj)
   obtain ⟨v', -, -, hs, hv', -⟩ := by_slice hv1 (x := ((4 * i : Nat) : Int)) (y := (l.length : Nat)) (by omega) (by omega) (by omega)
   have hs := hs rfl (k := .i64)
   rw [Int.toNat_natCast, Int.toNat_natCast, List.take_of_length_le (by rw [List.length_drop]; omega)] at hv'
   obtain ⟨p, hp, hld⟩ := s2a_ok hv' (by rw [List.length_drop]; omega)
   obtain ⟨a, b, c, d, e4⟩ := four (l := (l.drop (4 * i)).take 4) (by rw [List.length_take, List.length_drop]; omega)
   rw [e4] at hld
   replace hld : LdR (some 4) H1 p (.agg [by8 a, by8 b, by8 c, by8 d]) := hld
   have e1 : (4 : Int) * ((i : Nat) : Int) = ((4 * i : Nat) : Int) := rfl
   have ek := key259 w
   have g1 := hw.1
   unfold zcm
   simp (disch := first | omega | (simp only [RY] <;> omega) | decide) only [↓RD, RZ, eq_self, Int.reduceToNat, Int.reduceAdd, Nat.reduceAdd, Nat.reduceSub, Nat.reduceMul, Nat.reduceLeDiff, g1, ek, e1, hs, hp, hld]
   rw [okB_def]
   refine kpush hw (by rw [kw_len]; omega) fun w' H2 hw' b2 => ?_
   simp (disch := first | omega | (simp only [RY] <;> omega) | decide) only [↓RD, RZ, eq_self, Int.reduceToNat, Int.reduceAdd, Nat.reduceAdd, Nat.reduceSub, Nat.reduceMul, Nat.reduceLeDiff]
   refine ⟨rfl, w', ?_, b1.trans b2⟩
   rw [kw_succ, if_pos hi, e4]
   exact hw'
  ·rintro _ H1 ⟨rfl, w, hw, b1⟩
   unfold zcm
   simp (disch := first | omega | (simp only [RY] <;> omega) | decide) only [↓RD, RZ, eq_self, Int.reduceToNat, Int.reduceAdd, Nat.reduceAdd, Nat.reduceSub, Nat.reduceMul, Nat.reduceLeDiff]
   exact ⟨w, hw, b1⟩
 ·rintro _ H1 ⟨rfl, w, hw, b1⟩
  simp (disch := first | omega | (simp only [RY] <;> omega) | decide) only [↓RD, RZ, eq_self, Int.reduceToNat, Int.reduceAdd, Nat.reduceAdd, Nat.reduceSub, Nat.reduceMul, Nat.reduceLeDiff]
  refine zas (Q := fun z H' => z = .ex 2 [] ∧ ∃ w, Kst H' k w (kw l n (4 * (n + 7))) ∧ Bel k H H') ?_ ?_
  ·refine zaL (fun j L H' => L = [by8 (rcon ((n + j - 1) / n)), .int .i64 ((n + j : Nat) : Int)] ∧ ∃ w, Kst H' k w (kw l n (n + j)) ∧ Bel k H H') (4 * (n + 7) - n) ?_ ?_ ?_
   ·refine ⟨?_, w, hw, b1⟩
    rw [Nat.add_zero, Nat.div_eq_of_lt (by omega)]; rfl
   ·rintro j _ H2 hj ⟨rfl, w2, hw2, b2⟩
    obtain ⟨i, hi⟩ : ∃ i, n + j = i := ⟨_, rfl⟩
    rw [show n + (j + 1) = i + 1 by omega]
    rw [hi] at hw2 ⊢
    have e1 : (((n : Nat) : Int) + 6 + 1) * 4 = ((4 * (n + 7) : Nat) : Int) := by omega
    have e1' : (4 : Int) * (((n : Nat) : Int) + 6 + 1) = ((4 * (n + 7) : Nat) : Int) := by omega
    have e2 : ((i : Nat) : Int) - 1 = ((i - 1 : Nat) : Int) := by omega
    have hwl := kw_len l n i
    obtain ⟨id, hwe, gi2, hid, hid2⟩ := hw2.expl (by omega)
    rw [hwl] at hwe
    subst hwe
    have ek := key259 (.sl id 0 i (.opn 4))
    have g2 := hw2.1
    have hil : i < 4 * (n + 7) := by omega
    obtain ⟨sw, hsw⟩ : ∃ sw, (kw l n i).getD (i - 1) [] = sw := ⟨_, rfl⟩
    have hsm : (kw l n i)[i - 1]? = some sw := by rw [← hsw, List.getD_eq_getElem?_getD, List.getElem?_eq_getElem (by omega)]; rfl
    have hsW : Word sw := hwd i sw (List.mem_of_getElem? hsm)
    obtain ⟨a, b, c, d, e4⟩ := four hsW.1
    have hld : ldc (some 4) ((kw l n i).flatten.map by8) (4 * (i - 1)) = some (.agg [by8 a, by8 b, by8 c, by8 d]) := by
     rw [List.map_flatten]
     have := ldc_flat (es := (kw l n i).map (List.map by8)) (k := 4) (i := i - 1) (x := sw.map by8) (fun x hx => by
      obtain ⟨y, hy, rfl⟩ := List.mem_map.1 hx
      rw [List.length_map]; exact (hwd i y hy).1) (by rw [List.getElem?_map, hsm]; rfl)
     rw [Nat.mul_comm, this, e4]; rfl
    have hld' := hld
    rw [Nat.mul_comm] at hld'
    unfold zcl
    simp (disch := first | omega | (simp only [RY] <;> omega) | decide) only [↓RD, RZ, eq_self, Int.reduceToNat, Int.reduceAdd, Nat.reduceAdd, Nat.reduceSub, Nat.reduceMul, Nat.reduceLeDiff, e1, e1', e2, g2, ek, gi2, hld, hld']
    have s3 : At1 H2.next H2 ((H2.new ⟨zau, [.int .u8 0, .int .u8 0, .int .u8 0, .int .u8 0], none⟩).set H2.next (some ⟨zau, [by8 a, by8 b, by8 c, by8 d], none⟩)) := ((Grow.new _ _).at1 _).trans (At1.set _ _ _)
    have gq3 : ((H2.new ⟨zau, [.int .u8 0, .int .u8 0, .int .u8 0, .int .u8 0], none⟩).set H2.next (some ⟨zau, [by8 a, by8 b, by8 c, by8 d], none⟩)).get H2.next = _ := zai _ _ _
    have n3 : ((H2.new ⟨zau, [.int .u8 0, .int .u8 0, .int .u8 0, .int .u8 0], none⟩).set H2.next (some ⟨zau, [by8 a, by8 b, by8 c, by8 d], none⟩)).next = H2.next + 1 := rfl
    generalize hq : H2.next = q at *
    generalize Heap.set _ q _ = H3 at *
    have gk3 := (s3.same k (by omega) (by omega)).trans g2
    have gi3 := (s3.same id (by omega) (by omega)).trans gi2
    have eb : (((i : Nat) : Int) % ((n : Nat) : Int) == 0) = decide (i % n = 0) := by
     by_cases h : i % n = 0
     ·rw [decide_eq_true h, show ((i : Nat) : Int) % ((n : Nat) : Int) = ((i % n : Nat) : Int) from rfl, h]; rfl
     ·rw [decide_eq_false h, show ((i : Nat) : Int) % ((n : Nat) : Int) = ((i % n : Nat) : Int) from rfl]
      have : ¬ ((i % n : Nat) : Int) = 0 := by omega
      simpa using this
    have eb4 : (((i : Nat) : Int) % ((n : Nat) : Int) == 4) = decide (i % n = 4) := by
     by_cases h : i % n = 4
     ·rw [decide_eq_true h, show ((i : Nat) : Int) % ((n : Nat) : Int) = ((i % n : Nat) : Int) from rfl, h]; rfl
     ·rw [decide_eq_false h, show ((i : Nat) : Int) % ((n : Nat) : Int) = ((i % n : Nat) : Int) from rfl]
      have : ¬ ((i % n : Nat) : Int) = 4 := by omega
      simpa using this
    have tb : ∀ m, m < 256 → (tabC true ++ [V.sl id 0 i (.opn 4)])[3 + m]? = some (by8 (sb m)) := fun m h => tab_at h
    have ia : ∀ m, m < 256 → Ax.iaddr (some 256) 1 (.ptr k 3) (by8 m) = some (.ptr k (3 + m)) := fun m h => b_iaddr h
    have s8 : Ok8 [a, b, c, d] := e4 ▸ hsW.2
    have a8 : a < 256 := s8 a (by simp)
    have b8 : b < 256 := s8 b (by simp)
    have c8 : c < 256 := s8 c (by simp)
    have d8 : d < 256 := s8 d (by simp)
    have tw := twice_eq (rcon_lt ((i - 1) / n))
    have xr := b_xor (sb_lt b) (rcon_lt ((i - 1) / n))
    rw [eb, okI_def]
    refine zas (Q := fun r H' => r = .nrm [by8 (rcon (i / n))] ∧ H'.get q = some ⟨zau, (kstep n i sw).map by8, none⟩ ∧ At1 q H3 H') ?_ ?_
    ·refine zby (fun h => ?_) (fun h => ?_)
     ·simp (disch := first | omega | (simp only [RY] <;> omega) | decide) only [↓RD, RZ, eq_self, Int.reduceToNat, Int.reduceAdd, Nat.reduceAdd, Nat.reduceSub, Nat.reduceMul, Nat.reduceLeDiff, gq3, gk3, tb _ a8, tb _ b8, tb _ c8, tb _ d8, ia _ a8, ia _ b8, ia _ c8, ia _ d8, xr, tw, by8_ok, by8_cells, agg_cells]
      have er : (i - 1) / n + 1 = i / n := by rcases hn with rfl | rfl <;> omega
      have er' : i / n - 1 = (i - 1) / n := by rcases hn with rfl | rfl <;> omega
      refine ⟨by rw [← er]; rfl, ?_, At1.set q _ _⟩
      unfold kstep
      rw [if_pos h, e4, er']
      rfl
     ·have er : (i - 1) / n = i / n := by rcases hn with rfl | rfl <;> omega
      have e8 : [a, b, c, d].map by8 = [by8 a, by8 b, by8 c, by8 d] := rfl
      rcases hn with hn4 | hn8
      ·have e6 : decide ((6 : Int) < ((n : Nat) : Int)) = false := by rw [hn4]; rfl
       simp (disch := first | omega | (simp only [RY] <;> omega) | decide) only [↓RD, RZ, eq_self, Int.reduceToNat, Int.reduceAdd, Nat.reduceAdd, Nat.reduceSub, Nat.reduceMul, Nat.reduceLeDiff, e6]
       refine ⟨by rw [er], ?_, At1.refl _ _⟩
       unfold kstep
       rw [if_neg h, if_neg (fun hh => by have := hh.1; omega), e4, e8]
       exact gq3
      ·have e6 : decide ((6 : Int) < ((n : Nat) : Int)) = true := by rw [hn8]; rfl
       simp (disch := first | omega | (simp only [RY] <;> omega) | decide) only [↓RD, RZ, eq_self, Int.reduceToNat, Int.reduceAdd, Nat.reduceAdd, Nat.reduceSub, Nat.reduceMul, Nat.reduceLeDiff, e6, eb4]
       rw [okI_def]
       refine zby (fun h4 => ?_) (fun h4 => ?_)
       ·simp (disch := first | omega | (simp only [RY] <;> omega) | decide) only [↓RD, RZ, eq_self, Int.reduceToNat, Int.reduceAdd, Nat.reduceAdd, Nat.reduceSub, Nat.reduceMul, Nat.reduceLeDiff, gq3, gk3, tb _ a8, tb _ b8, tb _ c8, tb _ d8, ia _ a8, ia _ b8, ia _ c8, ia _ d8, by8_ok, by8_cells, agg_cells]
        refine ⟨by rw [er], ?_, At1.set q _ _⟩
        unfold kstep
        rw [if_neg h, if_pos ⟨by omega, h4⟩, e4]
        rfl
       ·simp (disch := first | omega | (simp only [RY] <;> omega) | decide) only [↓RD, RZ, eq_self, Int.reduceToNat, Int.reduceAdd, Nat.reduceAdd, Nat.reduceSub, Nat.reduceMul, Nat.reduceLeDiff]
        refine ⟨by rw [er], ?_, At1.refl _ _⟩
        unfold kstep
        rw [if_neg h, if_neg (fun hh => h4 hh.2), e4, e8]
        exact gq3
    ·rintro _ H4 ⟨rfl, gq4, s4⟩
     have n4 := s4.next
     simp (disch := first | omega | (simp only [RY] <;> omega) | decide) only [↓RD, RZ, eq_self, Int.reduceToNat, Int.reduceAdd, Nat.reduceAdd, Nat.reduceSub, Nat.reduceMul, Nat.reduceLeDiff]
     have s24 := s3.trans s4
     have gk4 := (s24.same k (by omega) (by omega)).trans g2
     have gi4 := (s24.same id (by omega) (by omega)).trans gi2
     have hkw : (kw l n i).length = i := kw_len _ _ _
     refine zas (New_1_ok (k := k) (q := q) (id := id) (i := i) (j := n) (hwd i) (kstep_word hsW) (by rw [hkw]; exact gk4) gi4 gq4 (by omega) (by omega) (by omega) (by omega) (by omega) (by omega) (by omega) (by omega)) ?_
     rintro _ H5 ⟨rfl, gq5, s5⟩
     have n5 := s5.next
     have s25 := s24.trans s5
     have gk5 := (s25.same k (by omega) (by omega)).trans g2
     obtain ⟨x0, x1, x2, x3, ex⟩ := four (xw_len (kstep n i sw) ((kw l n i).getD (i - n) []))
     rw [ex] at gq5
     have lq : ldc (some 4) ([x0, x1, x2, x3].map by8) 0 = some (.agg [by8 x0, by8 x1, by8 x2, by8 x3]) := rfl
     have hK5 : Kst H5 k (.sl id 0 i (.opn 4)) (kw l n i) := ⟨gk5, App.same hw2.2.1 (by omega) fun m hm => by
      simp only [V.pid, Option.some.injEq] at hm
      exact s25.same m (by omega) (by omega), by omega⟩
     simp (disch := first | omega | (simp only [RY] <;> omega) | decide) only [↓RD, RZ, eq_self, Int.reduceToNat, Int.reduceAdd, Nat.reduceAdd, Nat.reduceSub, Nat.reduceMul, Nat.reduceLeDiff, gk5, ek, gq5, lq]
     rw [okB_def]
     refine kpush hK5 (by rw [kw_len]; omega) fun w' H6 hw6 b6 => ?_
     simp (disch := first | omega | (simp only [RY] <;> omega) | decide) only [↓RD, RZ, eq_self, Int.reduceToNat, Int.reduceAdd, Nat.reduceAdd, Nat.reduceSub, Nat.reduceMul, Nat.reduceLeDiff]
     refine ⟨?_, w', ?_, b2.trans (Bel.trans ⟨by omega, fun m hm => s25.same m (by omega) (by omega)⟩ b6)⟩
     ·rw [show i + 1 - 1 = i by omega]; rfl
     ·rw [kw_succ, if_neg (by omega), hsw, ex]
      exact hw6
   ·rintro _ H2 ⟨rfl, w2, hw2, b2⟩
    have e1 : (4 : Int) * (((n : Nat) : Int) + 6 + 1) = ((4 * (n + 7) : Nat) : Int) := by omega
    unfold zcl
    simp (disch := first | omega | (simp only [RY] <;> omega) | decide) only [↓RD, RZ, eq_self, Int.reduceToNat, Int.reduceAdd, Nat.reduceAdd, Nat.reduceSub, Nat.reduceMul, Nat.reduceLeDiff, e1]
    exact ⟨w2, by rw [show 4 * (n + 7) = n + (4 * (n + 7) - n) by omega]; exact hw2, b2⟩
  ·rintro _ H2 ⟨rfl, w2, hw2, b2⟩
   obtain ⟨id, rfl, g1, h1, h2⟩ := hw2.expl (by rw [kw_len]; omega)
   simp (disch := first | omega | (simp only [RY] <;> omega) | decide) only [↓RD, RZ, eq_self, Int.reduceToNat, Int.reduceAdd, Nat.reduceAdd, Nat.reduceSub, Nat.reduceMul, Nat.reduceLeDiff]
   exact ⟨⟨id, hw2.1, g1, hw2.2.2, h2, hwd _⟩, b2⟩
theorem KNew_ok {lo : Nat} {H : Heap} {v : V} {l : List Nat} {n : Nat} (hv : By lo H v l) (h8 : Ok8 l) (hn : n = 4 ∨ n = 8) (hl : l.length = 4 * n) :
  Ok (sem T zdk [v]) H fun r H' => ∃ k, r = .tup [.ptr k 0, .int .i64 0] ∧ Aes H' k (kw l n (4 * (n + 7))) ∧ Grow H H' ∧ H.next ≤ k := by
 refine zgb ?_
 unfold zfK
 have hpl : ∀ i, v.pid = some i → i < H.next := fun i hi => (hv.own i hi).2
 have fin : ∀ H1, H1.get H.next = some ⟨zaU, tabC false ++ [.nils], none⟩ → H1.next = H.next + 1 → Grow H H1 → Ok ((sem T zaM [.ptr H.next 0]).bind fun t25 =>
   (M.lift (Ax.vlen v)).bind fun t27 =>
   (M.lift (Ax.bin .quo t27 (V.int .i64 4))).bind fun t28 =>
   M.blk 0 (
    M.iter (zcm (sem T) t28 (.ptr H.next 0) v V.nilp (V.int .i64 0)) [(V.int .i64 0)]) fun _ =>
   M.blk 2 (
    M.iter (zcl (sem T) t25 t28 (.ptr H.next 0) V.nilp (V.int .i64 0)) [(V.int .u8 1), t28]) fun _ =>
   M.pure (.ret [.ptr H.next 0, (V.int .i64 0)])) H1 fun r H' => ∃ L, r = .ret L ∧ ∃ k, zdi L = .tup [.ptr k 0, .int .i64 0] ∧ Aes H' k (kw l n (4 * (n + 7))) ∧ Grow H H' ∧ H.next ≤ k := by
  intro H1 g1 n1 s1
  refine zae (made_ok g1 (by omega)) ?_
  rintro _ H2 ⟨rfl, g2, s2⟩
  have n2 := s2.next
  have b2 : Bel H.next H1 H2 := ⟨s2.next, fun i hi => s2.same i (by omega) (by simp; omega)⟩
  have hv2 : By lo H2 v l := (hv.ext s1).same n2 fun j hj => b2.same j (hpl j hj)
  have e1 : ((l.length : Nat) : Int) / 4 = ((n : Nat) : Int) := by omega
  refine zbx hv2.vlen ?_
  refine zbx (v := .int .i64 (n : Nat)) (by rw [quo_i64 (by omega) (by omega) (by omega), e1]) ?_
  refine zas (New_rest hv2 h8 hn hl hpl g2 (by omega)) ?_
  rintro _ H3 ⟨rfl, hA, b3⟩
  exact ⟨_, rfl, _, rfl, hA, (s1.bel' (Nat.le_refl _) (b2.trans b3)), Nat.le_refl _⟩
 rcases hn with hn4 | hn8
 ·have hvl : Ax.vlen v = some (.int .i64 16) := by rw [hv.vlen, hl, hn4]; rfl
  simp (disch := first | omega | (simp only [RY] <;> omega) | decide) only [↓RD, RZ, eq_self, Int.reduceToNat, Int.reduceAdd, Nat.reduceAdd, Nat.reduceSub, Nat.reduceMul, Nat.reduceLeDiff, hvl]
  rw [okB_def]
  exact fin _ (by rw [zad]; rfl) (zaf _ _) (Grow.new _ _)
 ·have hvl : Ax.vlen v = some (.int .i64 32) := by rw [hv.vlen, hl, hn8]; rfl
  simp (disch := first | omega | (simp only [RY] <;> omega) | decide) only [↓RD, RZ, eq_self, Int.reduceToNat, Int.reduceAdd, Nat.reduceAdd, Nat.reduceSub, Nat.reduceMul, Nat.reduceLeDiff, hvl]
  rw [okB_def]
  exact fin _ (by rw [zad]; rfl) (zaf _ _) (Grow.new _ _)
end Go.Ax.SU
/- Su22 -/
namespace Go.Ax.SU
open Go.Ax
theorem num_cons (x n : Nat) : num x (n + 1) = (x / 256 ^ n % 256) :: num x n := by
 unfold num
 rw [List.range_succ_eq_map, List.map_cons, List.map_map]
 congr 1
 refine List.map_congr_left fun i hi => ?_
 rw [List.mem_range] at hi
 show x / 256 ^ (n + 1 - 1 - (i + 1)) % 256 = _
 rw [show n + 1 - 1 - (i + 1) = n - 1 - i by omega]
theorem field_ok {H : Heap} {x : Nat} (hx : x < 18446744073709551616) : Ok (sem T zbS [.int .u64 (x : Nat)]) H fun r H' => ∃ v, r = .tup [.int .u8 ((fld x).1 : Nat), v] ∧ By H.next H' v (fld x).2 ∧ Grow H H' := by
 refine zfE ?_
 unfold zeN
 have np := nbytes_pos x
 by_cases h8 : x < 8
 ·have e : fld x = (x, []) := by unfold fld; rw [if_pos h8]
  have c8 : IntKind.u8.wrap ((x : Nat) : Int) = ((x : Nat) : Int) := by rw [wrap_u8]; omega
  simp (disch := first | omega | (simp only [RY] <;> omega) | decide) only [↓RD, RZ, eq_self, Int.reduceToNat, Int.reduceAdd, Nat.reduceAdd, Nat.reduceSub, Nat.reduceMul, Nat.reduceLeDiff, c8, e]
  exact ⟨_, rfl, Lc.nil, Grow.refl _⟩
 ·have e : fld x = (8 + nbytes x - 1, num x (nbytes x)) := by unfold fld; rw [if_neg h8]
  simp (disch := first | omega | (simp only [RY] <;> omega) | decide) only [↓RD, RZ, eq_self, Int.reduceToNat, Int.reduceAdd, Nat.reduceAdd, Nat.reduceSub, Nat.reduceMul, Nat.reduceLeDiff]
  refine zaL (fun k L H' => ∃ b, L = [.int .u64 (x / 256 ^ k : Nat), b] ∧ By H.next H' b (num x k) ∧ Grow H H') (nbytes x) ?_ ?_ ?_
  ·exact ⟨.nils, by simp, Lc.nil, Grow.refl _⟩
  ·rintro k _ H1 hk ⟨b, rfl, hb, s1⟩
   have n1 := s1.next
   have hpos : 0 < x / 256 ^ k := by
    refine Nat.div_pos (Nat.le_trans (Nat.pow_le_pow_right (by decide) (show k ≤ nbytes x - 1 by omega)) (nbytes_top (by omega))) (Nat.pow_pos (by decide))
   have hlt : x / 256 ^ k < 18446744073709551616 := Nat.lt_of_le_of_lt (Nat.div_le_self _ _) hx
   have e1' : x / 256 ^ k / 256 = x / 256 ^ (k + 1) := by rw [Nat.div_div_eq_div_mul, Nat.pow_succ]
   have e1 : shr (x / 256 ^ k) 8 = x / 256 ^ (k + 1) := by rw [shr_def, Nat.shiftRight_eq_div_pow]; exact e1'
   have e8 := cint8 (x / 256 ^ k)
   unfold zcO
   simp (disch := first | omega | (simp only [RY] <;> omega) | decide) only [↓RD, RZ, eq_self, Int.reduceToNat, Int.reduceAdd, Nat.reduceAdd, Nat.reduceSub, Nat.reduceMul, Nat.reduceLeDiff, e8]
   have s2 := Grow.new H1 ⟨zac, [.int .u8 (x / 256 ^ k % 256 : Nat)], none⟩
   have g2 : (H1.new ⟨zac, [.int .u8 (x / 256 ^ k % 256 : Nat)], none⟩).get H1.next = _ := zad _ _
   have n2 : (H1.new ⟨zac, [.int .u8 (x / 256 ^ k % 256 : Nat)], none⟩).next = H1.next + 1 := zaf _ _
   have hb2 := hb.ext s2
   refine zeF (lo := H1.next) (l := [x / 256 ^ k % 256]) (m := num x k) (.full g2 rfl (Nat.le_refl _) (by omega)) (by omega) hb2.ac (by rw [num_len]; simp; omega) fun w H3 hw b3 => ?_
   simp (disch := first | omega | (simp only [RY] <;> omega) | decide) only [↓RD, RZ, eq_self, Int.reduceToNat, Int.reduceAdd, Nat.reduceAdd, Nat.reduceSub, Nat.reduceMul, Nat.reduceLeDiff, e1, e1']
   exact ⟨w, rfl, by rw [num_cons]; exact hw.by.low (by omega), s1.trans (s2.bel' (Nat.le_refl _) b3)⟩
  ·rintro _ H1 ⟨b, rfl, hb, s1⟩
   have hz : x / 256 ^ nbytes x = 0 := Nat.div_eq_of_lt (nbytes_lt hx)
   have c8 : IntKind.u8.wrap (((nbytes x : Nat) : Int) - 1) = ((nbytes x - 1 : Nat) : Int) := by rw [wrap_u8]; omega
   have o8 : 8 ||| (nbytes x - 1) = 8 + nbytes x - 1 := by
    have : ∀ n, n < 8 → 8 ||| n = 8 + n := by decide
    rw [this _ (by omega)]; omega
   have hvl := hb.vlen
   rw [num_len] at hvl
   rw [hz]
   unfold zcO
   simp (disch := first | omega | (simp only [RY] <;> omega) | decide) only [↓RD, RZ, eq_self, Int.reduceToNat, Int.reduceAdd, Nat.reduceAdd, Nat.reduceSub, Nat.reduceMul, Nat.reduceLeDiff, hvl, c8, o8, e]
   exact ⟨_, rfl, hb, s1⟩
theorem Bytes_ok {H : Heap} {kid ctr : Nat} (h1 : kid < 18446744073709551616) (h2 : ctr < 18446744073709551616) : Ok (sem T zci [.int .u64 (kid : Nat), .int .u64 (ctr : Nat)]) H fun r H' => By H.next H' r (hdr kid ctr) ∧ Grow H H' := by
 refine zfG ?_
 unfold zeP
 refine zae (field_ok h1) ?_
 rintro _ H1 ⟨a, rfl, ha, s1⟩
 simp (disch := first | omega | (simp only [RY] <;> omega) | decide) only [↓RD, RZ, eq_self, Int.reduceToNat, Int.reduceAdd, Nat.reduceAdd, Nat.reduceSub, Nat.reduceMul, Nat.reduceLeDiff]
 refine zae (field_ok h2) ?_
 rintro _ H2 ⟨b, rfl, hb, s2⟩
 have n1 := s1.next
 have n2 := s2.next
 have k1 := (fld_len kid).1
 have k2 := (fld_len ctr).1
 have m1 : ∀ x : Nat, (fld x).2.length ≤ 8 := fun x => by
  unfold fld
  split
  ·simp
  ·dsimp only; rw [num_len]; exact (nbytes_pos x).2
 have e1 : (fld kid).1 * 16 % 256 ||| (fld ctr).1 = (fld kid).1 * 16 + (fld ctr).1 := by
  rw [Nat.mod_eq_of_lt (by omega), show (16 : Nat) = 2 ^ 4 from rfl, or_add _ _ 4 k2]
 have e2 : shl (fld kid).1 4 % 256 ||| (fld ctr).1 = (fld kid).1 * 16 + (fld ctr).1 := by rw [shl_def, Nat.shiftLeft_eq]; exact e1
 simp (disch := first | omega | (simp only [RY] <;> omega) | decide) only [↓RD, RZ, eq_self, Int.reduceToNat, Int.reduceAdd, Nat.reduceAdd, Nat.reduceSub, Nat.reduceMul, Nat.reduceLeDiff, e1, e2]
 have s3 := Grow.new H2 ⟨zac, [.int .u8 ((fld kid).1 * 16 + (fld ctr).1 : Nat)], none⟩
 have g3 : (H2.new ⟨zac, [.int .u8 ((fld kid).1 * 16 + (fld ctr).1 : Nat)], none⟩).get H2.next = _ := zad _ _
 have n3 : (H2.new ⟨zac, [.int .u8 ((fld kid).1 * 16 + (fld ctr).1 : Nat)], none⟩).next = H2.next + 1 := zaf _ _
 have ha3 := ((ha.ext s2).ext s3)
 have hb3 := hb.ext s3
 have l1 := m1 kid
 have l2 := m1 ctr
 refine zeF (lo := H2.next) (l := [(fld kid).1 * 16 + (fld ctr).1]) (m := (fld kid).2) (.full g3 rfl (Nat.le_refl _) (by omega)) (by omega) ha3.ac (by simp; omega) fun w H4 hw b4 => ?_
 have hb4 : By H1.next H4 b (fld ctr).2 := hb3.same b4.next fun i hi => b4.same i (hb.own i hi).2
 have n4 := b4.next
 refine zeF (m := (fld ctr).2) hw (by omega) hb4.ac (by simp; omega) fun w' H5 hw' b5 => ?_
 simp (disch := first | omega | (simp only [RY] <;> omega) | decide) only [↓RD, RZ, eq_self, Int.reduceToNat, Int.reduceAdd, Nat.reduceAdd, Nat.reduceSub, Nat.reduceMul, Nat.reduceLeDiff]
 refine ⟨?_, (s1.trans s2).trans (s3.bel' (Nat.le_refl _) (b4.trans b5))⟩
 have := hw'.by.low (show H.next ≤ H2.next by omega)
 have e : hdr kid ctr = [(fld kid).1 * 16 + (fld ctr).1] ++ (fld kid).2 ++ (fld ctr).2 := by unfold hdr; simp
 rw [e]
 exact this
theorem and8 : ∀ x, x < 16 → x &&& 8 = if x < 8 then 0 else 8 := by decide
theorem and7 : ∀ x, x < 16 → x &&& 7 = if x < 8 then x else x - 8 := by decide
theorem size_eq {x : Nat} (hx : x < 16) : sem T zb7 [.int .u8 (x : Nat)] = M.pure (.int .i64 (psz x : Nat)) := by
 refine pure_of_ok fun H => ?_
 refine zfT ?_
 unfold zfe psz
 have a8 := and8 x hx
 have a7 := and7 x hx
 by_cases h : x < 8
 ·rw [if_pos h] at a8 a7 ⊢
  simp (disch := first | omega | (simp only [RY] <;> omega) | decide) only [↓RD, RZ, eq_self, Int.reduceToNat, Int.reduceAdd, Nat.reduceAdd, Nat.reduceSub, Nat.reduceMul, Nat.reduceLeDiff, a8, a7]
  rfl
 ·rw [if_neg h] at a8 a7 ⊢
  have e : (((x - 8 : Nat) : Int)) + 1 = ((x - 7 : Nat) : Int) := by omega
  simp (disch := first | omega | (simp only [RY] <;> omega) | decide) only [↓RD, RZ, eq_self, Int.reduceToNat, Int.reduceAdd, Nat.reduceAdd, Nat.reduceSub, Nat.reduceMul, Nat.reduceLeDiff, a8, a7, e]
theorem number_h_ok {lo : Nat} {H : Heap} {v : V} {l : List Nat} {x : Nat} (hx : x < 16) (hv : By lo H v l) (h8 : Ok8 l) (hl : l.length = psz x) : Ok (sem T zbE [.int .u8 (x : Nat), v]) H fun r H' => r = .tup [.int .u64 (pnum x l : Nat), .bool (pfine x l)] ∧ H' = H := by
 refine zfx ?_
 unfold zes
 have a8 := and8 x hx
 by_cases h : x < 8
 ·rw [if_pos h] at a8
  have c : IntKind.u64.wrap ((x : Nat) : Int) = ((x : Nat) : Int) := by rw [wrap_u64]; omega
  simp (disch := first | omega | (simp only [RY] <;> omega) | decide) only [↓RD, RZ, eq_self, Int.reduceToNat, Int.reduceAdd, Nat.reduceAdd, Nat.reduceSub, Nat.reduceMul, Nat.reduceLeDiff, a8, c]
  unfold pnum pfine
  rw [if_pos h, if_pos h]
 ·rw [if_neg h] at a8
  unfold psz at hl
  rw [if_neg h] at hl
  simp (disch := first | omega | (simp only [RY] <;> omega) | decide) only [↓RD, RZ, eq_self, Int.reduceToNat, Int.reduceAdd, Nat.reduceAdd, Nat.reduceSub, Nat.reduceMul, Nat.reduceLeDiff, a8, hv.vlen]
  refine zaL (fun i L H' => L = [.int .u64 (be (l.take i) : Nat), .int .i64 (i : Nat)] ∧ H' = H) l.length ?_ ?_ ?_
  ·exact ⟨rfl, rfl⟩
  ·rintro i _ H' hi ⟨rfl, rfl⟩
   obtain ⟨p, hp, hld, -⟩ := by_at hv (i := (i : Nat)) (by omega) (by omega)
   have e1 := be_more h8 hi (by omega)
   have b1 := be_take_lt h8 (show i ≤ 8 by omega)
   have b2 := getD_lt h8 i
   simp only [Int.toNat_natCast] at hld
   have e2 : be (l.take i) * 256 % 18446744073709551616 < 18446744073709551616 := Nat.mod_lt _ (by decide)
   unfold zcs
   simp (disch := first | omega | (simp only [RY] <;> omega) | decide) only [↓RD, RZ, eq_self, Int.reduceToNat, Int.reduceAdd, Nat.reduceAdd, Nat.reduceSub, Nat.reduceMul, Nat.reduceLeDiff, hp, hld, Int.toNat_natCast, e1]
   rfl
  ·rintro _ H' ⟨rfl, rfl⟩
   obtain ⟨p, hp, hld, -⟩ := by_at hv (i := 0) (by omega) (by omega)
   simp only [Int.toNat_zero] at hld
   unfold zcs
   simp (disch := first | omega | (simp only [RY] <;> omega) | decide) only [↓RD, RZ, eq_self, Int.reduceToNat, Int.reduceAdd, Nat.reduceAdd, Nat.reduceSub, Nat.reduceMul, Nat.reduceLeDiff, List.take_length, hp, hld]
   have eb : (((l.getD 0 0 : Nat) : Int) == 0) = decide (l.getD 0 0 = 0) := by
    by_cases h : l.getD 0 0 = 0
    ·rw [h]; rfl
    ·rw [decide_eq_false h]
     have : ¬ ((l.getD 0 0 : Nat) : Int) = 0 := by omega
     simpa using this
   have ef : pfine x l = ((l.getD 0 0 != 0) && decide (8 ≤ be l)) := by unfold pfine; rw [if_neg h]
   have ep : pnum x l = be l := by unfold pnum; rw [if_neg h]
   rw [ef, ep, eb]
   by_cases h0 : l.getD 0 0 = 0
   ·rw [decide_eq_true h0, h0]
    simp (disch := first | omega | (simp only [RY] <;> omega) | decide) only [↓RD, RZ, eq_self, Int.reduceToNat, Int.reduceAdd, Nat.reduceAdd, Nat.reduceSub, Nat.reduceMul, Nat.reduceLeDiff]
    rw [List.take_length]
    rfl
   ·rw [decide_eq_false h0]
    have e0 : (l.getD 0 0 != 0) = true := by simpa using h0
    rw [e0]
    have eg : decide ((8 : Int) ≤ ((be l : Nat) : Int)) = decide (8 ≤ be l) := by
     by_cases h : 8 ≤ be l
     ·rw [decide_eq_true h, decide_eq_true (by omega)]
     ·rw [decide_eq_false h, decide_eq_false (by omega)]
    simp (disch := first | omega | (simp only [RY] <;> omega) | decide) only [↓RD, RZ, eq_self, Int.reduceToNat, Int.reduceAdd, Nat.reduceAdd, Nat.reduceSub, Nat.reduceMul, Nat.reduceLeDiff, eg]
    rw [List.take_length]
    rfl
def phv : PH → V
 | .err e => .tup [.int .u64 0, .int .u64 0, .int .i64 0, .int .i64 (e : Nat)]
 | .ok kid ctr n => .tup [.int .u64 (kid : Nat), .int .u64 (ctr : Nat), .int .i64 (n : Nat), .int .i64 0]
theorem Parse_h_ok {lo : Nat} {H : Heap} {v : V} {l : List Nat} (hv : By lo H v l) (h8 : Ok8 l) (hl : l.length ≤ 1125899906842624) : Ok (sem T zbT [v]) H fun r H' => r = phv (parse l) ∧ H' = H := by
 refine zfF ?_
 unfold zeO
 have ez : (((l.length : Nat) : Int) == 0) = decide (l.length = 0) := by
  by_cases h : l.length = 0
  ·rw [h]; rfl
  ·rw [decide_eq_false h]
   have : ¬ ((l.length : Nat) : Int) = 0 := by omega
   simpa using this
 simp (disch := first | omega | (simp only [RY] <;> omega) | decide) only [↓RD, RZ, eq_self, Int.reduceToNat, Int.reduceAdd, Nat.reduceAdd, Nat.reduceSub, Nat.reduceMul, Nat.reduceLeDiff, hv.vlen, ez]
 rw [okI_def]
 refine zby (fun h => ?_) (fun h => ?_)
 ·simp (disch := first | omega | (simp only [RY] <;> omega) | decide) only [↓RD, RZ, eq_self, Int.reduceToNat, Int.reduceAdd, Nat.reduceAdd, Nat.reduceSub, Nat.reduceMul, Nat.reduceLeDiff]
  unfold parse
  rw [if_pos h]; rfl
 ·obtain ⟨p, hp, hld, -⟩ := by_at hv (i := 0) (by omega) (by omega)
  simp only [Int.toNat_zero] at hld
  have g8 := getD_lt h8 0
  unfold parse
  rw [if_neg h]
  generalize l.getD 0 0 = x at *
  have a15 : x &&& 15 = x % 16 := Nat.and_two_pow_sub_one_eq_mod x 4
  have e4 : shr x 4 = x / 16 := by rw [shr_def, Nat.shiftRight_eq_div_pow]
  have x1 := size_eq (x := x / 16) (by omega)
  have x2 := size_eq (x := x % 16) (by omega)
  have p1 : psz (x / 16) ≤ 8 := by unfold psz; split <;> omega
  have p2 : psz (x % 16) ≤ 8 := by unfold psz; split <;> omega
  have e1 : (1 : Int) + ((psz (x / 16) : Nat) : Int) = ((1 + psz (x / 16) : Nat) : Int) := by omega
  have e2 : ((1 + psz (x / 16) : Nat) : Int) + ((psz (x % 16) : Nat) : Int) = ((1 + psz (x / 16) + psz (x % 16) : Nat) : Int) := by omega
  simp (disch := first | omega | (simp only [RY] <;> omega) | decide) only [↓RD, RZ, eq_self, Int.reduceToNat, Int.reduceAdd, Nat.reduceAdd, Nat.reduceSub, Nat.reduceMul, Nat.reduceLeDiff, hp, hld, e4, a15, x1, x2, e1, e2, hv.vlen]
  rw [okI_def]
  refine zby (fun h1 => ?_) (fun h1 => ?_)
  ·simp (disch := first | omega | (simp only [RY] <;> omega) | decide) only [↓RD, RZ, eq_self, Int.reduceToNat, Int.reduceAdd, Nat.reduceAdd, Nat.reduceSub, Nat.reduceMul, Nat.reduceLeDiff]
   rw [if_pos (by omega)]; rfl
  ·rw [if_neg (by omega)]
   obtain ⟨va, ha, -, -, hva, -⟩ := by_slice hv (x := 1) (y := ((1 + psz (x / 16) : Nat) : Int)) (by omega) (by omega) (by omega)
   obtain ⟨vb, hb, -, -, hvb, -⟩ := by_slice hv (x := ((1 + psz (x / 16) : Nat) : Int)) (y := ((1 + psz (x / 16) + psz (x % 16) : Nat) : Int)) (by omega) (by omega) (by omega)
   simp only [Int.toNat_natCast, Int.toNat_one] at hva hvb
   rw [← List.drop_take] at hva hvb
   have la : ((l.take (1 + psz (x / 16))).drop 1).length = psz (x / 16) := by rw [List.length_drop, List.length_take]; omega
   have lb : ((l.take (1 + psz (x / 16) + psz (x % 16))).drop (1 + psz (x / 16))).length = psz (x % 16) := by rw [List.length_drop, List.length_take]; omega
   have k1 := @zb0 _ _ _ _ (number_h_ok (by omega) hva ((h8.take _).drop _) la)
   have k2 := @zb0 _ _ _ _ (number_h_ok (by omega) hvb ((h8.take _).drop _) lb)
   simp (disch := first | omega | (simp only [RY] <;> omega) | decide) only [↓RD, RZ, eq_self, Int.reduceToNat, Int.reduceAdd, Nat.reduceAdd, Nat.reduceSub, Nat.reduceMul, Nat.reduceLeDiff, ha, hb, k1, k2]
   generalize (l.take (1 + psz (x / 16))).drop 1 = ya at *
   generalize (l.take (1 + psz (x / 16) + psz (x % 16))).drop (1 + psz (x / 16)) = yb at *
   cases q1 : pfine (x / 16) ya with
   | false =>
    simp (disch := first | omega | (simp only [RY] <;> omega) | decide) only [↓RD, RZ, eq_self, Int.reduceToNat, Int.reduceAdd, Nat.reduceAdd, Nat.reduceSub, Nat.reduceMul, Nat.reduceLeDiff, Bool.not_false]
    rw [q1]; rfl
   | true =>
    cases q2 : pfine (x % 16) yb with
    | false =>
     simp (disch := first | omega | (simp only [RY] <;> omega) | decide) only [↓RD, RZ, eq_self, Int.reduceToNat, Int.reduceAdd, Nat.reduceAdd, Nat.reduceSub, Nat.reduceMul, Nat.reduceLeDiff, Bool.not_true, Bool.not_false]
     rw [q1, q2]; rfl
    | true =>
     simp (disch := first | omega | (simp only [RY] <;> omega) | decide) only [↓RD, RZ, eq_self, Int.reduceToNat, Int.reduceAdd, Nat.reduceAdd, Nat.reduceSub, Nat.reduceMul, Nat.reduceLeDiff, Bool.not_true, Bool.not_false]
     rw [q1, q2]; rfl
end Go.Ax.SU
