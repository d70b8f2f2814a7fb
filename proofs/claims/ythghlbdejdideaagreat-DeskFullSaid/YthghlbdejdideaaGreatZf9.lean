/-
  Texts of mine, put together by program (wip/slim.py), for law_deskFull: part 9.
-/
import Derived.Test.YthghlbdejdideaaGreatZf8
noncomputable section
set_option linter.unusedVariables false
set_option linter.unusedSimpArgs false
set_option linter.defProp false
set_option maxRecDepth 100000
/- CiS1 -/
namespace Go.Ax.Cc
open Go.Proofs
def zBb (G:Sem') (t1 t0:V) (L:List V):M Res :=
 (M.lift (Ax.bin .lss (L.getD 0 .undef) (V.int .i64 64))).bind fun t7 =>
 M.ite t7
 (M.blk 1 (
 (M.lift (Ax.nilck t1)).bind fun t12 =>
 (M.lift (Ax.faddr 1470 t12)).bind fun t13 =>
 (G zcA [(V.int .i64 32)]).bind fun t11 =>
 (M.lift (Ax.iaddr (some 64) 1 t13 (L.getD 0 .undef))).bind fun t14 =>
 (mstore 1 t14 t11).bind fun _ =>
 M.pure (.nrm [])) fun _ =>
 (M.lift (Ax.bin .add (L.getD 0 .undef) (V.int .i64 1))).bind fun t15 =>
 M.pure (.nrm [t15]))
 (M.pure (.ex 0 []))
def zya (G:Sem'):M Res :=
 (G zdu [(V.int .i64 11)]).bind fun t3 =>
 (M.lift (Ax.build [(V.bool false),(V.bool false),(V.bool false),(V.bool false),(V.bool false),(V.bool false),(V.bool false),(V.bool false),(V.int .i64 0),(V.int .i64 0),(V.int .i64 0),(V.int .i64 0),(V.int .i64 0),(V.int .i64 0),(V.int .i64 0),(V.int .i64 0),(V.int .i64 0),(V.bool false),(V.int .i64 0),(V.int .i64 0),(V.int .i64 0),(V.int .i64 0),(V.int .i64 0),(V.int .i64 0),(V.int .i64 0),(V.int .i64 0),(V.int .i64 0),(V.int .i64 0),(V.int .i64 0),(V.int .i64 0),(V.int .i64 0),(V.int .i64 0),(V.int .i64 0),(V.int .i64 0),(V.int .i64 0),(V.int .i64 0),(V.int .i64 0),(V.int .i64 0),(V.bool false),(V.bool false),(V.int .u32 0),(V.int .i64 0),(V.int .i64 0),(V.int .i64 0),V.nils,(V.int .i64 0),V.nils,V.nils,(V.int .u32 0),V.nils,(V.bool false),(V.int .u32 0),(V.int .i64 0),(V.int .i64 0),(V.int .i64 0),V.nils,(V.int .i64 0),V.nils,V.nils,(V.int .u32 0),V.nils,(V.bool false),(V.int .u32 0),(V.int .i64 0),(V.int .i64 0),(V.int .i64 0),V.nils,(V.int .i64 0),V.nils,V.nils,(V.int .u32 0),V.nils,(V.bool false),(V.int .u32 0),(V.int .i64 0),(V.int .i64 0),(V.int .i64 0),V.nils,(V.int .i64 0),V.nils,V.nils,(V.int .u32 0),V.nils,(V.bool false),(V.int .u32 0),(V.int .i64 0),(V.int .i64 0),(V.int .i64 0),V.nils,(V.int .i64 0),V.nils,V.nils,(V.int .u32 0),V.nils,(V.bool false),(V.int .u32 0),(V.int .i64 0),(V.int .i64 0),(V.int .i64 0),V.nils,(V.int .i64 0),V.nils,V.nils,(V.int .u32 0),V.nils,(V.bool false),(V.int .u32 0),(V.int .i64 0),(V.int .i64 0),(V.int .i64 0),V.nils,(V.int .i64 0),V.nils,V.nils,(V.int .u32 0),V.nils,(V.bool false),(V.int .u32 0),(V.int .i64 0),(V.int .i64 0),(V.int .i64 0),V.nils,(V.int .i64 0),V.nils,V.nils,(V.int .u32 0),V.nils,(V.bool false),(V.int .u32 0),(V.int .i64 0),(V.int .i64 0),(V.int .i64 0),V.nils,(V.int .i64 0),V.nils,V.nils,(V.int .u32 0),V.nils,(V.bool false),(V.int .u32 0),(V.int .i64 0),(V.int .i64 0),(V.int .i64 0),V.nils,(V.int .i64 0),V.nils,V.nils,(V.int .u32 0),V.nils,(V.bool false),(V.int .u32 0),(V.int .i64 0),(V.int .i64 0),(V.int .i64 0),V.nils,(V.int .i64 0),V.nils,V.nils,(V.int .u32 0),V.nils,(V.bool false),(V.int .u32 0),(V.int .i64 0),(V.int .i64 0),(V.int .i64 0),V.nils,(V.int .i64 0),V.nils,V.nils,(V.int .u32 0),V.nils,(V.bool false),(V.int .u32 0),(V.int .i64 0),(V.int .i64 0),(V.int .i64 0),V.nils,(V.int .i64 0),V.nils,V.nils,(V.int .u32 0),V.nils,(V.bool false),(V.int .u32 0),(V.int .i64 0),(V.int .i64 0),(V.int .i64 0),V.nils,(V.int .i64 0),V.nils,V.nils,(V.int .u32 0),V.nils,(V.bool false),(V.int .u32 0),(V.int .i64 0),(V.int .i64 0),(V.int .i64 0),V.nils,(V.int .i64 0),V.nils,V.nils,(V.int .u32 0),V.nils,(V.bool false),(V.int .u32 0),(V.int .i64 0),(V.int .i64 0),(V.int .i64 0),V.nils,(V.int .i64 0),V.nils,V.nils,(V.int .u32 0),V.nils,(V.bool false),(V.int .u32 0),(V.int .i64 0),(V.int .i64 0),(V.int .i64 0),V.nils,(V.int .i64 0),V.nils,V.nils,(V.int .u32 0),V.nils,(V.bool false),(V.int .u32 0),(V.int .i64 0),(V.int .i64 0),(V.int .i64 0),V.nils,(V.int .i64 0),V.nils,V.nils,(V.int .u32 0),V.nils,(V.bool false),(V.int .u32 0),(V.int .i64 0),(V.int .i64 0),(V.int .i64 0),V.nils,(V.int .i64 0),V.nils,V.nils,(V.int .u32 0),V.nils,(V.bool false),(V.int .u32 0),(V.int .i64 0),(V.int .i64 0),(V.int .i64 0),V.nils,(V.int .i64 0),V.nils,V.nils,(V.int .u32 0),V.nils,(V.bool false),(V.int .u32 0),(V.int .i64 0),(V.int .i64 0),(V.int .i64 0),V.nils,(V.int .i64 0),V.nils,V.nils,(V.int .u32 0),V.nils,(V.bool false),(V.int .u32 0),(V.int .i64 0),(V.int .i64 0),(V.int .i64 0),V.nils,(V.int .i64 0),V.nils,V.nils,(V.int .u32 0),V.nils,(V.bool false),(V.int .u32 0),(V.int .i64 0),(V.int .i64 0),(V.int .i64 0),V.nils,(V.int .i64 0),V.nils,V.nils,(V.int .u32 0),V.nils,(V.bool false),(V.int .u32 0),(V.int .i64 0),(V.int .i64 0),(V.int .i64 0),V.nils,(V.int .i64 0),V.nils,V.nils,(V.int .u32 0),V.nils,V.nilp,V.nilp,V.nilp,V.nilp,V.nilp,V.nilp,V.nilp,V.nilp,V.nilp,V.nilp,V.nilp,V.nilp,V.nilp,V.nilp,V.nilp,V.nilp,V.nilp,V.nilp,V.nilp,V.nilp,V.nilp,V.nilp,V.nilp,V.nilp,V.nilp,V.nilp,V.nilp,V.nilp,V.nilp,V.nilp,V.nilp,V.nilp,V.nilp,V.nilp,V.nilp,V.nilp,V.nilp,V.nilp,V.nilp,V.nilp,V.nilp,V.nilp,V.nilp,V.nilp,V.nilp,V.nilp,V.nilp,V.nilp,V.nilp,V.nilp,V.nilp,V.nilp,V.nilp,V.nilp,V.nilp,V.nilp,V.nilp,V.nilp,V.nilp,V.nilp,V.nilp,V.nilp,V.nilp,V.nilp,(V.bool false),(V.bool false),(V.bool false),(V.bool false),(V.bool false),(V.bool false),(V.bool false),(V.bool false),(V.int .i64 0),(V.int .i64 0),(V.int .i64 0),(V.int .i64 0),(V.int .i64 0),(V.int .i64 0),(V.int .i64 0),(V.int .i64 0),(V.int .i64 0),(V.bool false),(V.int .i64 0),(V.int .i64 0),(V.int .i64 0),(V.int .i64 0),(V.int .i64 0),(V.int .i64 0),(V.int .i64 0),(V.int .i64 0),(V.int .i64 0),(V.int .i64 0),(V.int .i64 0),(V.int .i64 0),(V.int .i64 0),(V.int .i64 0),(V.int .i64 0),(V.int .i64 0),(V.int .i64 0),(V.int .i64 0),(V.int .i64 0),(V.int .i64 0),(V.bool false),(V.bool false),(V.int .u32 0),(V.int .i64 0),(V.int .i64 0),(V.int .i64 0),V.nils,(V.int .i64 0),V.nils,V.nils,(V.int .u32 0),V.nils,(V.bool false),(V.int .u32 0),(V.int .i64 0),(V.int .i64 0),(V.int .i64 0),V.nils,(V.int .i64 0),V.nils,V.nils,(V.int .u32 0),V.nils,(V.bool false),(V.int .u32 0),(V.int .i64 0),(V.int .i64 0),(V.int .i64 0),V.nils,(V.int .i64 0),V.nils,V.nils,(V.int .u32 0),V.nils,(V.bool false),(V.int .u32 0),(V.int .i64 0),(V.int .i64 0),(V.int .i64 0),V.nils,(V.int .i64 0),V.nils,V.nils,(V.int .u32 0),V.nils,(V.bool false),(V.int .u32 0),(V.int .i64 0),(V.int .i64 0),(V.int .i64 0),V.nils,(V.int .i64 0),V.nils,V.nils,(V.int .u32 0),V.nils,(V.bool false),(V.int .u32 0),(V.int .i64 0),(V.int .i64 0),(V.int .i64 0),V.nils,(V.int .i64 0),V.nils,V.nils,(V.int .u32 0),V.nils,(V.bool false),(V.int .u32 0),(V.int .i64 0),(V.int .i64 0),(V.int .i64 0),V.nils,(V.int .i64 0),V.nils,V.nils,(V.int .u32 0),V.nils,(V.bool false),(V.int .u32 0),(V.int .i64 0),(V.int .i64 0),(V.int .i64 0),V.nils,(V.int .i64 0),V.nils,V.nils,(V.int .u32 0),V.nils,(V.bool false),(V.int .u32 0),(V.int .i64 0),(V.int .i64 0),(V.int .i64 0),V.nils,(V.int .i64 0),V.nils,V.nils,(V.int .u32 0),V.nils,(V.bool false),(V.int .u32 0),(V.int .i64 0),(V.int .i64 0),(V.int .i64 0),V.nils,(V.int .i64 0),V.nils,V.nils,(V.int .u32 0),V.nils,(V.bool false),(V.int .u32 0),(V.int .i64 0),(V.int .i64 0),(V.int .i64 0),V.nils,(V.int .i64 0),V.nils,V.nils,(V.int .u32 0),V.nils,(V.bool false),(V.int .u32 0),(V.int .i64 0),(V.int .i64 0),(V.int .i64 0),V.nils,(V.int .i64 0),V.nils,V.nils,(V.int .u32 0),V.nils,(V.bool false),(V.int .u32 0),(V.int .i64 0),(V.int .i64 0),(V.int .i64 0),V.nils,(V.int .i64 0),V.nils,V.nils,(V.int .u32 0),V.nils,(V.bool false),(V.int .u32 0),(V.int .i64 0),(V.int .i64 0),(V.int .i64 0),V.nils,(V.int .i64 0),V.nils,V.nils,(V.int .u32 0),V.nils,(V.bool false),(V.int .u32 0),(V.int .i64 0),(V.int .i64 0),(V.int .i64 0),V.nils,(V.int .i64 0),V.nils,V.nils,(V.int .u32 0),V.nils,(V.bool false),(V.int .u32 0),(V.int .i64 0),(V.int .i64 0),(V.int .i64 0),V.nils,(V.int .i64 0),V.nils,V.nils,(V.int .u32 0),V.nils,(V.bool false),(V.int .u32 0),(V.int .i64 0),(V.int .i64 0),(V.int .i64 0),V.nils,(V.int .i64 0),V.nils,V.nils,(V.int .u32 0),V.nils,(V.bool false),(V.int .u32 0),(V.int .i64 0),(V.int .i64 0),(V.int .i64 0),V.nils,(V.int .i64 0),V.nils,V.nils,(V.int .u32 0),V.nils,(V.bool false),(V.int .u32 0),(V.int .i64 0),(V.int .i64 0),(V.int .i64 0),V.nils,(V.int .i64 0),V.nils,V.nils,(V.int .u32 0),V.nils,(V.bool false),(V.int .u32 0),(V.int .i64 0),(V.int .i64 0),(V.int .i64 0),V.nils,(V.int .i64 0),V.nils,V.nils,(V.int .u32 0),V.nils,(V.bool false),(V.int .u32 0),(V.int .i64 0),(V.int .i64 0),(V.int .i64 0),V.nils,(V.int .i64 0),V.nils,V.nils,(V.int .u32 0),V.nils,(V.bool false),(V.int .u32 0),(V.int .i64 0),(V.int .i64 0),(V.int .i64 0),V.nils,(V.int .i64 0),V.nils,V.nils,(V.int .u32 0),V.nils,(V.bool false),(V.int .u32 0),(V.int .i64 0),(V.int .i64 0),(V.int .i64 0),V.nils,(V.int .i64 0),V.nils,V.nils,(V.int .u32 0),V.nils,(V.bool false),(V.int .u32 0),(V.int .i64 0),(V.int .i64 0),(V.int .i64 0),V.nils,(V.int .i64 0),V.nils,V.nils,(V.int .u32 0),V.nils,V.nilp,V.nilp,V.nilp,V.nilp,V.nilp,V.nilp,V.nilp,V.nilp,V.nilp,V.nilp,V.nilp,V.nilp,V.nilp,V.nilp,V.nilp,V.nilp,V.nilp,V.nilp,V.nilp,V.nilp,V.nilp,V.nilp,V.nilp,V.nilp,V.nilp,V.nilp,V.nilp,V.nilp,V.nilp,V.nilp,V.nilp,V.nilp,V.nilp,V.nilp,V.nilp,V.nilp,V.nilp,V.nilp,V.nilp,V.nilp,V.nilp,V.nilp,V.nilp,V.nilp,V.nilp,V.nilp,V.nilp,V.nilp,V.nilp,V.nilp,V.nilp,V.nilp,V.nilp,V.nilp,V.nilp,V.nilp,V.nilp,V.nilp,V.nilp,V.nilp,V.nilp,V.nilp,V.nilp,V.nilp,(V.bool false),(V.bool false),(V.bool false),(V.bool false),(V.bool false),(V.bool false),(V.bool false),(V.bool false),(V.int .i64 0),(V.int .i64 0),(V.int .i64 0),(V.int .i64 0),(V.int .i64 0),(V.int .i64 0),(V.int .i64 0),(V.int .i64 0),(V.int .i64 0),(V.bool false),(V.int .i64 0),(V.int .i64 0),(V.int .i64 0),(V.int .i64 0),(V.int .i64 0),(V.int .i64 0),(V.int .i64 0),(V.int .i64 0),(V.int .i64 0),(V.int .i64 0),(V.int .i64 0),(V.int .i64 0),(V.int .i64 0),(V.int .i64 0),(V.int .i64 0),(V.int .i64 0),(V.int .i64 0),(V.int .i64 0),(V.int .i64 0),(V.int .i64 0),(V.bool false),(V.bool false),(V.int .u32 0),(V.int .i64 0),(V.int .i64 0),(V.int .i64 0),V.nils,(V.int .i64 0),V.nils,V.nils,(V.int .u32 0),V.nils,(V.bool false),(V.int .u32 0),(V.int .i64 0),(V.int .i64 0),(V.int .i64 0),V.nils,(V.int .i64 0),V.nils,V.nils,(V.int .u32 0),V.nils,(V.bool false),(V.int .u32 0),(V.int .i64 0),(V.int .i64 0),(V.int .i64 0),V.nils,(V.int .i64 0),V.nils,V.nils,(V.int .u32 0),V.nils,(V.bool false),(V.int .u32 0),(V.int .i64 0),(V.int .i64 0),(V.int .i64 0),V.nils,(V.int .i64 0),V.nils,V.nils,(V.int .u32 0),V.nils,(V.bool false),(V.int .u32 0),(V.int .i64 0),(V.int .i64 0),(V.int .i64 0),V.nils,(V.int .i64 0),V.nils,V.nils,(V.int .u32 0),V.nils,(V.bool false),(V.int .u32 0),(V.int .i64 0),(V.int .i64 0),(V.int .i64 0),V.nils,(V.int .i64 0),V.nils,V.nils,(V.int .u32 0),V.nils,(V.bool false),(V.int .u32 0),(V.int .i64 0),(V.int .i64 0),(V.int .i64 0),V.nils,(V.int .i64 0),V.nils,V.nils,(V.int .u32 0),V.nils,(V.bool false),(V.int .u32 0),(V.int .i64 0),(V.int .i64 0),(V.int .i64 0),V.nils,(V.int .i64 0),V.nils,V.nils,(V.int .u32 0),V.nils,(V.bool false),(V.int .u32 0),(V.int .i64 0),(V.int .i64 0),(V.int .i64 0),V.nils,(V.int .i64 0),V.nils,V.nils,(V.int .u32 0),V.nils,(V.bool false),(V.int .u32 0),(V.int .i64 0),(V.int .i64 0),(V.int .i64 0),V.nils,(V.int .i64 0),V.nils,V.nils,(V.int .u32 0),V.nils,(V.bool false),(V.int .u32 0),(V.int .i64 0),(V.int .i64 0),(V.int .i64 0),V.nils,(V.int .i64 0),V.nils,V.nils,(V.int .u32 0),V.nils,(V.bool false),(V.int .u32 0),(V.int .i64 0),(V.int .i64 0),(V.int .i64 0),V.nils,(V.int .i64 0),V.nils,V.nils,(V.int .u32 0),V.nils,(V.bool false),(V.int .u32 0),(V.int .i64 0),(V.int .i64 0),(V.int .i64 0),V.nils,(V.int .i64 0),V.nils,V.nils,(V.int .u32 0),V.nils,(V.bool false),(V.int .u32 0),(V.int .i64 0),(V.int .i64 0),(V.int .i64 0),V.nils,(V.int .i64 0),V.nils,V.nils,(V.int .u32 0),V.nils,(V.bool false),(V.int .u32 0),(V.int .i64 0),(V.int .i64 0),(V.int .i64 0),V.nils,(V.int .i64 0),V.nils,V.nils,(V.int .u32 0),V.nils,(V.bool false),(V.int .u32 0),(V.int .i64 0),(V.int .i64 0),(V.int .i64 0),V.nils,(V.int .i64 0),V.nils,V.nils,(V.int .u32 0),V.nils,(V.bool false),(V.int .u32 0),(V.int .i64 0),(V.int .i64 0),(V.int .i64 0),V.nils,(V.int .i64 0),V.nils,V.nils,(V.int .u32 0),V.nils,(V.bool false),(V.int .u32 0),(V.int .i64 0),(V.int .i64 0),(V.int .i64 0),V.nils,(V.int .i64 0),V.nils,V.nils,(V.int .u32 0),V.nils,(V.bool false),(V.int .u32 0),(V.int .i64 0),(V.int .i64 0),(V.int .i64 0),V.nils,(V.int .i64 0),V.nils,V.nils,(V.int .u32 0),V.nils,(V.bool false),(V.int .u32 0),(V.int .i64 0),(V.int .i64 0),(V.int .i64 0),V.nils,(V.int .i64 0),V.nils,V.nils,(V.int .u32 0),V.nils,(V.bool false),(V.int .u32 0),(V.int .i64 0),(V.int .i64 0),(V.int .i64 0),V.nils,(V.int .i64 0),V.nils,V.nils,(V.int .u32 0),V.nils,(V.bool false),(V.int .u32 0),(V.int .i64 0),(V.int .i64 0),(V.int .i64 0),V.nils,(V.int .i64 0),V.nils,V.nils,(V.int .u32 0),V.nils,(V.bool false),(V.int .u32 0),(V.int .i64 0),(V.int .i64 0),(V.int .i64 0),V.nils,(V.int .i64 0),V.nils,V.nils,(V.int .u32 0),V.nils,(V.bool false),(V.int .u32 0),(V.int .i64 0),(V.int .i64 0),(V.int .i64 0),V.nils,(V.int .i64 0),V.nils,V.nils,(V.int .u32 0),V.nils,V.nilp,V.nilp,V.nilp,V.nilp,V.nilp,V.nilp,V.nilp,V.nilp,V.nilp,V.nilp,V.nilp,V.nilp,V.nilp,V.nilp,V.nilp,V.nilp,V.nilp,V.nilp,V.nilp,V.nilp,V.nilp,V.nilp,V.nilp,V.nilp,V.nilp,V.nilp,V.nilp,V.nilp,V.nilp,V.nilp,V.nilp,V.nilp,V.nilp,V.nilp,V.nilp,V.nilp,V.nilp,V.nilp,V.nilp,V.nilp,V.nilp,V.nilp,V.nilp,V.nilp,V.nilp,V.nilp,V.nilp,V.nilp,V.nilp,V.nilp,V.nilp,V.nilp,V.nilp,V.nilp,V.nilp,V.nilp,V.nilp,V.nilp,V.nilp,V.nilp,V.nilp,V.nilp,V.nilp,V.nilp,(V.bool false),(V.bool false),(V.bool false),(V.bool false),(V.bool false),(V.bool false),(V.bool false),(V.bool false),(V.int .i64 0),(V.int .i64 0),(V.int .i64 0),(V.int .i64 0),(V.int .i64 0),(V.int .i64 0),(V.int .i64 0),(V.int .i64 0),(V.int .i64 0),(V.bool false),(V.int .i64 0),(V.int .i64 0),(V.int .i64 0),(V.int .i64 0),(V.int .i64 0),(V.int .i64 0),(V.int .i64 0),(V.int .i64 0),(V.int .i64 0),(V.int .i64 0),(V.int .i64 0),(V.int .i64 0),(V.int .i64 0),(V.int .i64 0),(V.int .i64 0),(V.int .i64 0),(V.int .i64 0),(V.int .i64 0),(V.int .i64 0),(V.int .i64 0),(V.bool false),(V.bool false),(V.int .u32 0),(V.int .i64 0),(V.int .i64 0),(V.int .i64 0),V.nils,(V.int .i64 0),V.nils,V.nils,(V.int .u32 0),V.nils,(V.bool false),(V.int .u32 0),(V.int .i64 0),(V.int .i64 0),(V.int .i64 0),V.nils,(V.int .i64 0),V.nils,V.nils,(V.int .u32 0),V.nils,(V.bool false),(V.int .u32 0),(V.int .i64 0),(V.int .i64 0),(V.int .i64 0),V.nils,(V.int .i64 0),V.nils,V.nils,(V.int .u32 0),V.nils,(V.bool false),(V.int .u32 0),(V.int .i64 0),(V.int .i64 0),(V.int .i64 0),V.nils,(V.int .i64 0),V.nils,V.nils,(V.int .u32 0),V.nils,(V.bool false),(V.int .u32 0),(V.int .i64 0),(V.int .i64 0),(V.int .i64 0),V.nils,(V.int .i64 0),V.nils,V.nils,(V.int .u32 0),V.nils,(V.bool false),(V.int .u32 0),(V.int .i64 0),(V.int .i64 0),(V.int .i64 0),V.nils,(V.int .i64 0),V.nils,V.nils,(V.int .u32 0),V.nils,(V.bool false),(V.int .u32 0),(V.int .i64 0),(V.int .i64 0),(V.int .i64 0),V.nils,(V.int .i64 0),V.nils,V.nils,(V.int .u32 0),V.nils,(V.bool false),(V.int .u32 0),(V.int .i64 0),(V.int .i64 0),(V.int .i64 0),V.nils,(V.int .i64 0),V.nils,V.nils,(V.int .u32 0),V.nils,(V.bool false),(V.int .u32 0),(V.int .i64 0),(V.int .i64 0),(V.int .i64 0),V.nils,(V.int .i64 0),V.nils,V.nils,(V.int .u32 0),V.nils,(V.bool false),(V.int .u32 0),(V.int .i64 0),(V.int .i64 0),(V.int .i64 0),V.nils,(V.int .i64 0),V.nils,V.nils,(V.int .u32 0),V.nils,(V.bool false),(V.int .u32 0),(V.int .i64 0),(V.int .i64 0),(V.int .i64 0),V.nils,(V.int .i64 0),V.nils,V.nils,(V.int .u32 0),V.nils,(V.bool false),(V.int .u32 0),(V.int .i64 0),(V.int .i64 0),(V.int .i64 0),V.nils,(V.int .i64 0),V.nils,V.nils,(V.int .u32 0),V.nils,(V.bool false),(V.int .u32 0),(V.int .i64 0),(V.int .i64 0),(V.int .i64 0),V.nils,(V.int .i64 0),V.nils,V.nils,(V.int .u32 0),V.nils,(V.bool false),(V.int .u32 0),(V.int .i64 0),(V.int .i64 0),(V.int .i64 0),V.nils,(V.int .i64 0),V.nils,V.nils,(V.int .u32 0),V.nils,(V.bool false),(V.int .u32 0),(V.int .i64 0),(V.int .i64 0),(V.int .i64 0),V.nils,(V.int .i64 0),V.nils,V.nils,(V.int .u32 0),V.nils,(V.bool false),(V.int .u32 0),(V.int .i64 0),(V.int .i64 0),(V.int .i64 0),V.nils,(V.int .i64 0),V.nils,V.nils,(V.int .u32 0),V.nils,(V.bool false),(V.int .u32 0),(V.int .i64 0),(V.int .i64 0),(V.int .i64 0),V.nils,(V.int .i64 0),V.nils,V.nils,(V.int .u32 0),V.nils,(V.bool false),(V.int .u32 0),(V.int .i64 0),(V.int .i64 0),(V.int .i64 0),V.nils,(V.int .i64 0),V.nils,V.nils,(V.int .u32 0),V.nils,(V.bool false),(V.int .u32 0),(V.int .i64 0),(V.int .i64 0),(V.int .i64 0),V.nils,(V.int .i64 0),V.nils,V.nils,(V.int .u32 0),V.nils,(V.bool false),(V.int .u32 0),(V.int .i64 0),(V.int .i64 0),(V.int .i64 0),V.nils,(V.int .i64 0),V.nils,V.nils,(V.int .u32 0),V.nils,(V.bool false),(V.int .u32 0),(V.int .i64 0),(V.int .i64 0),(V.int .i64 0),V.nils,(V.int .i64 0),V.nils,V.nils,(V.int .u32 0),V.nils,(V.bool false),(V.int .u32 0),(V.int .i64 0),(V.int .i64 0),(V.int .i64 0),V.nils,(V.int .i64 0),V.nils,V.nils,(V.int .u32 0),V.nils,(V.bool false),(V.int .u32 0),(V.int .i64 0),(V.int .i64 0),(V.int .i64 0),V.nils,(V.int .i64 0),V.nils,V.nils,(V.int .u32 0),V.nils,(V.bool false),(V.int .u32 0),(V.int .i64 0),(V.int .i64 0),(V.int .i64 0),V.nils,(V.int .i64 0),V.nils,V.nils,(V.int .u32 0),V.nils,V.nilp,V.nilp,V.nilp,V.nilp,V.nilp,V.nilp,V.nilp,V.nilp,V.nilp,V.nilp,V.nilp,V.nilp,V.nilp,V.nilp,V.nilp,V.nilp,V.nilp,V.nilp,V.nilp,V.nilp,V.nilp,V.nilp,V.nilp,V.nilp,V.nilp,V.nilp,V.nilp,V.nilp,V.nilp,V.nilp,V.nilp,V.nilp,V.nilp,V.nilp,V.nilp,V.nilp,V.nilp,V.nilp,V.nilp,V.nilp,V.nilp,V.nilp,V.nilp,V.nilp,V.nilp,V.nilp,V.nilp,V.nilp,V.nilp,V.nilp,V.nilp,V.nilp,V.nilp,V.nilp,V.nilp,V.nilp,V.nilp,V.nilp,V.nilp,V.nilp,V.nilp,V.nilp,V.nilp,V.nilp,(V.int .i64 0),V.nils,V.nilp,V.nilp,V.nilp,V.nilp,V.nilp,V.nilp,V.nilp,V.nilp,V.nilp,V.nilp,V.nilp,V.nilp,V.nilp,V.nilp,V.nilp,V.nilp,V.nilp,V.nilp,V.nilp,V.nilp,V.nilp,V.nilp,V.nilp,V.nilp,V.nilp,V.nilp,V.nilp,V.nilp,V.nilp,V.nilp,V.nilp,V.nilp,V.nilp,V.nilp,V.nilp,V.nilp,V.nilp,V.nilp,V.nilp,V.nilp,V.nilp,V.nilp,V.nilp,V.nilp,V.nilp,V.nilp,V.nilp,V.nilp,V.nilp,V.nilp,V.nilp,V.nilp,V.nilp,V.nilp,V.nilp,V.nilp,V.nilp,V.nilp,V.nilp,V.nilp,V.nilp,V.nilp,V.nilp,V.nilp,V.nilp] [(1534,1,t3)])).bind fun t4 =>
 (mbox ztJ t4).bind fun t5 =>
 M.blk 0 (
 M.iter (zBb G t5 V.nilp) [(V.int .i64 0)]) fun _ =>
 M.pure (.ret [t5])
def zqe:Fn':=(T zeS).getD noF
theorem zBT:T zeS = some zqe:=by kernel_rfl
theorem zCO (G:Sem'):execK G zqe.rv zqe.body [] [] (params 0 []) = zya G:=by kernel_rfl
def ztE (G:Sem'):List V → M V
 | []=>fin (zya G)
 | _=>M.fail
theorem zD2 {g:Sem'} (hg:Sims g (sem T)) (args:List V):Sim (ztE g args) (sem T zeS args):=by
 unfold ztE;split
 ·exact zaf zBT (Nat.le_of_ble_eq_true (by kernel_rfl)) hg (zCO g)
 ·exact zaa
def zhR (G:Sem'):M Res :=
 (G zeS []).bind fun t9 =>
 (M.lift (eqr .ptr false t9 V.nilp)).bind fun t11 =>
 M.ite t11
 (M.pure (.ret [(V.bool false)]))
 ((mslit zaj 1 [(V.int .u8 0)] [(0,1,(V.int .u8 120))]).bind fun t14 =>
 (mremark zaj t14).bind fun t15 =>
 (M.lift (Ax.build [(V.int .i64 0),(V.int .i64 0),(V.int .i64 0),V.nils] [(0,1,(V.int .i64 1)),(1,1,(V.int .i64 5)),(3,1,t15)])).bind fun t16 =>
 (G zaY [t9,t16]).bind fun t17 =>
 (M.lift (Ax.ext 0 t17)).bind fun t18 =>
 (M.lift (Ax.ext 1 t17)).bind fun t19 =>
 (G zbb [t9,(V.int .i64 2)]).bind fun t21 =>
 (M.lift (Ax.build [(V.int .i64 0),(V.int .i64 0),(V.int .i64 0),(V.int .i64 0),(V.int .i64 0),(V.int .i64 0),V.nils] [(0,1,(V.int .i64 1))])).bind fun t24 =>
 (G zaK [t24]).bind fun t25 =>
 (M.lift (Ax.build [(V.int .i64 0),(V.int .i64 0),(V.int .i64 0),V.nils] [(0,1,(V.int .i64 2)),(1,1,(V.int .i64 5)),(3,1,t25)])).bind fun t26 =>
 (G zaY [t9,t26]).bind fun t27 =>
 (M.lift (Ax.ext 0 t27)).bind fun t28 =>
 (M.lift (Ax.ext 1 t27)).bind fun t29 =>
 (G zdB [t9,(V.int .i64 0)]).bind fun t32 =>
 (M.lift (Ax.ext 0 t32)).bind fun t33 =>
 (M.lift (Ax.ext 1 t32)).bind fun t34 =>
 (mbox zbS (V.agg [(V.bool false),(V.bool false),(V.bool false),(V.bool false),(V.bool false),(V.bool false),(V.bool false),(V.bool false),(V.int .i64 0),(V.int .i64 0),(V.int .i64 0),(V.int .i64 0),(V.int .i64 0),(V.int .i64 0),(V.int .i64 0),(V.int .i64 0),(V.int .i64 0),(V.bool false),(V.int .i64 0),(V.int .i64 0),(V.int .i64 0),(V.int .i64 0),(V.int .i64 0),(V.int .i64 0),(V.int .i64 0),(V.int .i64 0),(V.int .i64 0),(V.int .i64 0),(V.int .i64 0),(V.int .i64 0),(V.int .i64 0),(V.int .i64 0),(V.int .i64 0),(V.int .i64 0),(V.int .i64 0),(V.int .i64 0),(V.int .i64 0),(V.int .i64 0),(V.bool false)])).bind fun t7 =>
 (mstore 39 t7 t33).bind fun _ =>
 (M.lift (Ax.bin .eql t19 (V.int .i64 0))).bind fun t36 =>
 (guarded [(0,t36)] (some (0,true)) (M.pure t21)).bind fun t38 =>
 (guarded [(0,t36)] (some (0,true)) (M.lift (Ax.bin .eql t38 (V.int .i64 1)))).bind fun t39 =>
 (M.lift (Ax.pick t36 t39 (V.bool false))).bind fun t40 =>
 (guarded [(0,t40)] (some (0,true)) (M.pure t29)).bind fun t42 =>
 (guarded [(0,t40)] (some (0,true)) (M.lift (Ax.bin .eql t42 (V.int .i64 0)))).bind fun t43 =>
 (M.lift (Ax.pick t40 t43 (V.bool false))).bind fun t44 =>
 (guarded [(0,t44)] (some (0,true)) (M.pure t9)).bind fun t46 =>
 (guarded [(0,t44)] (some (0,true)) (G zaU [t46,(V.int .i64 5)])).bind fun t47 =>
 (guarded [(0,t44)] (some (0,true)) (M.lift (Ax.bin .eql t47 (V.int .i64 1)))).bind fun t48 =>
 (M.lift (Ax.pick t44 t48 (V.bool false))).bind fun t49 =>
 (guarded [(0,t49)] (some (0,true)) (M.pure t34)).bind fun t51 =>
 (M.lift (Ax.pick t49 t51 (V.bool false))).bind fun t52 =>
 (guarded [(0,t52)] (some (0,true)) (M.lift (Ax.faddr 0 t7))).bind fun t54 =>
 (guarded [(0,t52)] (some (0,true)) (M.lift (Ax.faddr 0 t54))).bind fun t55 =>
 (guarded [(0,t52)] (some (0,true)) (M.lift (Ax.iaddr (some 8) 1 t55 (V.int .i64 0)))).bind fun t56 =>
 (guarded [(0,t52)] (some (0,true)) (mload none t56)).bind fun t57 =>
 (M.lift (Ax.pick t52 t57 (V.bool false))).bind fun t58 =>
 (guarded [(0,t58)] (some (0,true)) (M.lift (Ax.faddr 0 t7))).bind fun t60 =>
 (guarded [(0,t58)] (some (0,true)) (M.lift (Ax.faddr 8 t60))).bind fun t61 =>
 (guarded [(0,t58)] (some (0,true)) (M.lift (Ax.iaddr (some 8) 1 t61 (V.int .i64 0)))).bind fun t62 =>
 (guarded [(0,t58)] (some (0,true)) (mload none t62)).bind fun t63 =>
 (guarded [(0,t58)] (some (0,true)) (M.lift (Ax.bin .eql t63 (V.int .i64 5)))).bind fun t64 =>
 (M.lift (Ax.pick t58 t64 (V.bool false))).bind fun t65 =>
 M.pure (.ret [t65]))
def zeP:Fn':=(T zbn).getD noF
theorem zl8:T zbn = some zeP:=by kernel_rfl
theorem zmH (G:Sem'):execK G zeP.rv zeP.body [] [] (params 0 []) = zhR G:=by kernel_rfl
def zfs (G:Sem'):List V → M V
 | []=>fin (zhR G)
 | _=>M.fail
theorem znv {g:Sem'} (hg:Sims g (sem T)) (args:List V):Sim (zfs g args) (sem T zbn args):=by
 unfold zfs;split
 ·exact zaf zl8 (Nat.le_of_ble_eq_true (by kernel_rfl)) hg (zmH g)
 ·exact zaa
def zhQ (G:Sem') (t0 t1 t2:V):M Res :=
 (M.lift (Ax.build [(V.int .i64 0),(V.int .i64 0),(V.int .i64 0),(V.int .i64 0),(V.int .i64 0),(V.int .i64 0),V.nils] [(0,1,(V.int .i64 1)),(1,1,t2)])).bind fun t15 =>
 (G zaK [t15]).bind fun t16 =>
 (M.lift (Ax.build [(V.int .i64 0),(V.int .i64 0),(V.int .i64 0),V.nils] [(0,1,(V.int .i64 2)),(1,1,t1),(3,1,t16)])).bind fun t17 =>
 (G zaY [t0,t17]).bind fun t18 =>
 (M.lift (Ax.build [(V.int .i64 0),(V.int .i64 0),(V.int .i64 0),V.nils] [(0,1,(V.int .i64 5)),(1,1,t1),(2,1,(V.int .i64 32))])).bind fun t22 =>
 (G zaY [t0,t22]).bind fun t23 =>
 (M.lift (Ax.ext 0 t23)).bind fun t24 =>
 (M.lift (Ax.ext 1 t23)).bind fun t25 =>
 (M.lift (Ax.bin .neq t25 (V.int .i64 0))).bind fun t27 =>
 (guarded [(0,t27)] (some (0,false)) (M.pure t24)).bind fun t29 =>
 (guarded [(0,t27)] (some (0,false)) (M.lift (vlen t29))).bind fun t30 =>
 (guarded [(0,t27)] (some (0,false)) (M.lift (Ax.bin .eql t30 (V.int .i64 0)))).bind fun t31 =>
 (M.lift (Ax.pick t27 (V.bool true) t31)).bind fun t32 =>
 M.ite t32
 (M.pure (.ret [(V.int .i64 0),(V.bool false)]))
 ((M.lift (vlen t24)).bind fun t36 =>
 (M.lift (Ax.bin .sub t36 (V.int .i64 1))).bind fun t37 =>
 (M.lift (Ax.iaddr none 3 t24 t37)).bind fun t38 =>
 (M.lift (Ax.faddr 2 t38)).bind fun t39 =>
 (mload none t39).bind fun t40 =>
 (G zaP [t40]).bind fun t41 =>
 (M.lift (Ax.ext 0 t41)).bind fun t42 =>
 (M.lift (Ax.ext 1 t41)).bind fun t43 =>
 (mbox zad (V.agg [(V.int .i64 0),(V.int .i64 0),(V.int .i64 0),(V.int .i64 0),(V.int .i64 0),(V.int .i64 0),V.nils])).bind fun t10 =>
 (mstore 7 t10 t42).bind fun _ =>
 (M.lift (Ax.faddr 2 t10)).bind fun t44 =>
 (mload none t44).bind fun t45 =>
 (M.lift (Ax.bin .eql t43 (V.int .i64 0))).bind fun t47 =>
 (guarded [(0,t47)] (some (0,true)) (M.lift (Ax.faddr 0 t10))).bind fun t49 =>
 (guarded [(0,t47)] (some (0,true)) (mload none t49)).bind fun t50 =>
 (guarded [(0,t47)] (some (0,true)) (M.lift (Ax.bin .eql t50 (V.int .i64 17)))).bind fun t51 =>
 (M.lift (Ax.pick t47 t51 (V.bool false))).bind fun t52 =>
 (guarded [(0,t52)] (some (0,true)) (M.lift (Ax.faddr 1 t10))).bind fun t54 =>
 (guarded [(0,t52)] (some (0,true)) (mload none t54)).bind fun t55 =>
 (guarded [(0,t52)] (some (0,true)) (M.pure t2)).bind fun t56 =>
 (guarded [(0,t52)] (some (0,true)) (M.lift (Ax.bin .eql t55 t56))).bind fun t57 =>
 (M.lift (Ax.pick t52 t57 (V.bool false))).bind fun t58 =>
 M.pure (.ret [t45,t58]))
def zeO:Fn':=(T zco).getD noF
theorem zl7:T zco = some zeO:=by kernel_rfl
theorem zmG (G:Sem') (t0 t1 t2:V):execK G zeO.rv zeO.body [] [] (params 0 [t0,t1,t2]) = zhQ G t0 t1 t2:=by kernel_rfl
def zfr (G:Sem'):List V → M V
 | [t0,t1,t2]=>fin (zhQ G t0 t1 t2)
 | _=>M.fail
theorem znu {g:Sem'} (hg:Sims g (sem T)) (args:List V):Sim (zfr g args) (sem T zco args):=by
 unfold zfr;split
 ·exact zaf zl7 (Nat.le_of_ble_eq_true (by kernel_rfl)) hg (zmG g _ _ _)
 ·exact zaa
def znl (G:Sem') (t0 t1:V):M Res :=
 (mbox zbS (V.agg [(V.bool false),(V.bool false),(V.bool false),(V.bool false),(V.bool false),(V.bool false),(V.bool false),(V.bool false),(V.int .i64 0),(V.int .i64 0),(V.int .i64 0),(V.int .i64 0),(V.int .i64 0),(V.int .i64 0),(V.int .i64 0),(V.int .i64 0),(V.int .i64 0),(V.bool false),(V.int .i64 0),(V.int .i64 0),(V.int .i64 0),(V.int .i64 0),(V.int .i64 0),(V.int .i64 0),(V.int .i64 0),(V.int .i64 0),(V.int .i64 0),(V.int .i64 0),(V.int .i64 0),(V.int .i64 0),(V.int .i64 0),(V.int .i64 0),(V.int .i64 0),(V.int .i64 0),(V.int .i64 0),(V.int .i64 0),(V.int .i64 0),(V.int .i64 0),(V.bool false)])).bind fun t4 =>
 (M.lift (Ax.bin .lss t1 (V.int .i64 0))).bind fun t7 =>
 (guarded [(0,t7)] (some (0,false)) (M.pure t1)).bind fun t9 =>
 (guarded [(0,t7)] (some (0,false)) (M.lift (Ax.bin .geq t9 (V.int .i64 4)))).bind fun t10 =>
 (M.lift (Ax.pick t7 (V.bool true) t10)).bind fun t11 =>
 M.ite t11
 ((M.lift (Ax.build [(V.bool false),(V.bool false),(V.bool false),(V.bool false),(V.bool false),(V.bool false),(V.bool false),(V.bool false),(V.int .i64 0),(V.int .i64 0),(V.int .i64 0),(V.int .i64 0),(V.int .i64 0),(V.int .i64 0),(V.int .i64 0),(V.int .i64 0),(V.int .i64 0),(V.bool false),(V.int .i64 0),(V.int .i64 0),(V.int .i64 0),(V.int .i64 0),(V.int .i64 0),(V.int .i64 0),(V.int .i64 0),(V.int .i64 0),(V.int .i64 0),(V.int .i64 0),(V.int .i64 0),(V.int .i64 0),(V.int .i64 0),(V.int .i64 0),(V.int .i64 0),(V.int .i64 0),(V.int .i64 0),(V.int .i64 0),(V.int .i64 0),(V.int .i64 0),(V.bool false)] [])).bind fun t12 =>
 (mstore 39 t4 t12).bind fun _ =>
 (mload (some 39) t4).bind fun r0 =>
 M.pure (.ret [r0,(V.bool false)]))
 ((M.lift (Ax.nilck t0)).bind fun t15 =>
 (M.lift (Ax.faddr 0 t15)).bind fun t16 =>
 (M.lift (Ax.iaddr (some 4) 367 t16 t1)).bind fun t17 =>
 (M.lift (Ax.faddr 0 t17)).bind fun t18 =>
 (mload (some 39) t18).bind fun t19 =>
 (mstore 39 t4 t19).bind fun _ =>
 (mload (some 39) t4).bind fun r0 =>
 M.pure (.ret [r0,(V.bool true)]))
def zic:Fn':=(T zdB).getD noF
theorem zsy:T zdB = some zic:=by kernel_rfl
theorem ztq (G:Sem') (t0 t1:V):execK G zic.rv zic.body [] [] (params 0 [t0,t1]) = znl G t0 t1:=by kernel_rfl
def zjB (G:Sem'):List V → M V
 | [t0,t1]=>fin (znl G t0 t1)
 | _=>M.fail
theorem zuG {g:Sem'} (hg:Sims g (sem T)) (args:List V):Sim (zjB g args) (sem T zdB args):=by
 unfold zjB;split
 ·exact zaf zsy (Nat.le_of_ble_eq_true (by kernel_rfl)) hg (ztq g _ _)
 ·exact zaa
def f_desk_Desk_Do (G:Sem') (t0 t1:V):M Res :=
 (mbox zd4 t1).bind fun t3 =>
 (M.lift (Ax.faddr 0 t3)).bind fun t6 =>
 (mload none t6).bind fun t7 =>
 (M.lift (Ax.bin .lss t7 (V.int .i64 1))).bind fun t8 =>
 (guarded [(0,t8)] (some (0,false)) (M.lift (Ax.faddr 0 t3))).bind fun t10 =>
 (guarded [(0,t8)] (some (0,false)) (mload none t10)).bind fun t11 =>
 (guarded [(0,t8)] (some (0,false)) (M.lift (Ax.bin .gtr t11 (V.int .i64 5)))).bind fun t12 =>
 (M.lift (Ax.pick t8 (V.bool true) t12)).bind fun t13 =>
 (guarded [(0,t13)] (some (0,false)) (M.lift (Ax.faddr 0 t3))).bind fun t15 =>
 (guarded [(0,t13)] (some (0,false)) (mload none t15)).bind fun t16 =>
 (guarded [(0,t13)] (some (0,false)) (M.lift (Ax.bin .neq t16 (V.int .i64 3)))).bind fun t17 =>
 (guarded [(0,t13)] (some (0,false)) (M.pure t17)).bind fun t18 =>
 (guarded [(0,t18)] (some (0,true)) (M.lift (Ax.faddr 0 t3))).bind fun t19 =>
 (guarded [(0,t18)] (some (0,true)) (mload none t19)).bind fun t20 =>
 (guarded [(0,t18)] (some (0,true)) (M.lift (Ax.bin .neq t20 (V.int .i64 4)))).bind fun t21 =>
 (guarded [(0,t13)] (some (0,false)) (M.lift (Ax.pick t18 t21 (V.bool false)))).bind fun t22 =>
 (guarded [(0,t13)] (some (0,false)) (M.pure t22)).bind fun t23 =>
 (guarded [(0,t23)] (some (0,true)) (M.lift (Ax.faddr 1 t3))).bind fun t24 =>
 (guarded [(0,t23)] (some (0,true)) (mload none t24)).bind fun t25 =>
 (guarded [(0,t23)] (some (0,true)) (G zcg [t25])).bind fun t26 =>
 (guarded [(0,t23)] (some (0,true)) (M.lift (Ax.un .not t26))).bind fun t27 =>
 (guarded [(0,t13)] (some (0,false)) (M.lift (Ax.pick t23 t27 (V.bool false)))).bind fun t28 =>
 (M.lift (Ax.pick t13 (V.bool true) t28)).bind fun t29 =>
 M.ite t29
 (M.pure (.ret [V.nils,(V.int .i64 1)]))
 ((M.lift (Ax.faddr 0 t3)).bind fun t30 =>
 (mload none t30).bind fun t31 =>
 M.blk 0 (
 (M.lift (Ax.bin .eql t31 (V.int .i64 1))).bind fun t47 =>
 M.join (M.ite t47
 ((M.lift (Ax.faddr 1 t3)).bind fun t49 =>
 (mload none t49).bind fun t50 =>
 (M.lift (Ax.faddr 3 t3)).bind fun t51 =>
 (mload none t51).bind fun t52 =>
 (G zbV [t0,t50,t52]).bind fun t53 =>
 M.pure (.nrm []))
 ((M.lift (Ax.bin .eql t31 (V.int .i64 2))).bind fun t55 =>
 M.join (M.ite t55
 ((M.lift (Ax.faddr 1 t3)).bind fun t57 =>
 (mload none t57).bind fun t58 =>
 (M.lift (Ax.faddr 3 t3)).bind fun t59 =>
 (mload none t59).bind fun t60 =>
 (G zbk [t0,t58,t60]).bind fun t61 =>
 M.pure (.nrm []))
 ((M.lift (Ax.bin .eql t31 (V.int .i64 3))).bind fun t63 =>
 M.join (M.ite t63
 ((M.lift (Ax.faddr 2 t3)).bind fun t64 =>
 (mload none t64).bind fun t65 =>
 (M.lift (Ax.bin .lss t65 (V.int .i64 0))).bind fun t66 =>
 (guarded [(0,t66)] (some (0,false)) (M.lift (Ax.faddr 2 t3))).bind fun t68 =>
 (guarded [(0,t66)] (some (0,false)) (mload none t68)).bind fun t69 =>
 (guarded [(0,t66)] (some (0,false)) (M.lift (Ax.bin .gtr t69 (V.int .i64 100000)))).bind fun t70 =>
 (M.lift (Ax.pick t66 (V.bool true) t70)).bind fun t71 =>
 M.ite t71
 (M.pure (.ret [V.nils,(V.int .i64 1)]))
 ((M.lift (Ax.faddr 2 t3)).bind fun t73 =>
 (mload none t73).bind fun t74 =>
 (G zcO [t0,t74]).bind fun t75 =>
 M.pure (.nrm [])))
 ((M.lift (Ax.bin .eql t31 (V.int .i64 4))).bind fun t77 =>
 M.ite t77
 ((M.lift (Ax.faddr 2 t3)).bind fun t78 =>
 (mload none t78).bind fun t79 =>
 (M.lift (Ax.bin .lss t79 (V.int .i64 0))).bind fun t80 =>
 (guarded [(0,t80)] (some (0,false)) (M.lift (Ax.faddr 2 t3))).bind fun t82 =>
 (guarded [(0,t80)] (some (0,false)) (mload none t82)).bind fun t83 =>
 (guarded [(0,t80)] (some (0,false)) (M.lift (Ax.bin .gtr t83 (V.int .i64 4294967295)))).bind fun t84 =>
 (M.lift (Ax.pick t80 (V.bool true) t84)).bind fun t85 =>
 M.ite t85
 (M.pure (.ret [V.nils,(V.int .i64 1)]))
 ((M.lift (Ax.nilck t0)).bind fun t87 =>
 (M.lift (Ax.faddr 1469 t87)).bind fun t88 =>
 (mload none t88).bind fun t89 =>
 (M.lift (vlen t89)).bind fun t90 =>
 (M.lift (Ax.bin .geq t90 (V.int .i64 16))).bind fun t91 =>
 M.ite t91
 (M.pure (.ret [V.nils,(V.int .i64 5)]))
 ((M.lift (Ax.nilck t0)).bind fun t94 =>
 (M.lift (Ax.faddr 1469 t94)).bind fun t95 =>
 (mload none t95).bind fun t96 =>
 (M.lift (Ax.faddr 2 t3)).bind fun t97 =>
 (mload none t97).bind fun t98 =>
 (M.lift (Ax.cint .u32 t98)).bind fun t99 =>
 (mslit zej 1 [(V.int .u32 0)] [(0,1,t99)]).bind fun t100 =>
 (mappend zej 1 4 t96 t100).bind fun t101 =>
 (M.lift (Ax.nilck t0)).bind fun t102 =>
 (M.lift (Ax.faddr 1469 t102)).bind fun t103 =>
 (mstore 1 t103 t101).bind fun _ =>
 M.pure (.nrm []))))
 ((M.lift (Ax.faddr 2 t3)).bind fun t32 =>
 (mload none t32).bind fun t33 =>
 (M.lift (Ax.bin .lss t33 (V.int .i64 0))).bind fun t34 =>
 (guarded [(0,t34)] (some (0,false)) (M.lift (Ax.faddr 2 t3))).bind fun t36 =>
 (guarded [(0,t34)] (some (0,false)) (mload none t36)).bind fun t37 =>
 (guarded [(0,t34)] (some (0,false)) (M.lift (Ax.bin .gtr t37 (V.int .i64 32)))).bind fun t38 =>
 (M.lift (Ax.pick t34 (V.bool true) t38)).bind fun t39 =>
 M.ite t39
 (M.pure (.ret [V.nils,(V.int .i64 1)]))
 ((M.lift (Ax.faddr 1 t3)).bind fun t41 =>
 (mload none t41).bind fun t42 =>
 (M.lift (Ax.faddr 2 t3)).bind fun t43 =>
 (mload none t43).bind fun t44 =>
 (G zba [t0,t42,t44]).bind fun t45 =>
 M.pure (.ret [t45,(V.int .i64 0)]))))) fun _ =>
 M.pure (.nrm []))) fun _ =>
 M.pure (.nrm []))) fun _ =>
 M.pure (.nrm [])) fun _ =>
 M.pure (.ret [V.nils,(V.int .i64 0)]))
def ir_desk_Desk_Do:Fn':=(T zaY).getD noF
theorem tb_desk_Desk_Do:T zaY = some ir_desk_Desk_Do:=by kernel_rfl
theorem eq_desk_Desk_Do (G:Sem') (t0 t1:V):execK G ir_desk_Desk_Do.rv ir_desk_Desk_Do.body [] [] (params 0 [t0,t1]) = f_desk_Desk_Do G t0 t1:=by kernel_rfl
def zly (G:Sem'):List V → M V
 | [t0,t1]=>fin (f_desk_Desk_Do G t0 t1)
 | _=>M.fail
theorem zxj {g:Sem'} (hg:Sims g (sem T)) (args:List V):Sim (zly g args) (sem T zaY args):=by
 unfold zly;split
 ·exact zaf tb_desk_Desk_Do (Nat.le_of_ble_eq_true (by kernel_rfl)) hg (eq_desk_Desk_Do g _ _)
 ·exact zaa
def f_desk_Desk_Count (G:Sem') (t0 t1:V):M Res :=
 (M.lift (Ax.nilck t0)).bind fun t6 =>
 (M.lift (Ax.faddr 1534 t6)).bind fun t7 =>
 (mload none t7).bind fun t8 =>
 (G zbw [t8,t1]).bind fun t10 =>
 M.pure (.ret [t10])
def ir_desk_Desk_Count:Fn':=(T zbb).getD noF
theorem tb_desk_Desk_Count:T zbb = some ir_desk_Desk_Count:=by kernel_rfl
theorem eq_desk_Desk_Count (G:Sem') (t0 t1:V):execK G ir_desk_Desk_Count.rv ir_desk_Desk_Count.body [] [] (params 0 [t0,t1]) = f_desk_Desk_Count G t0 t1:=by kernel_rfl
def ziH (G:Sem'):List V → M V
 | [t0,t1]=>fin (f_desk_Desk_Count G t0 t1)
 | _=>M.fail
theorem zsS {g:Sem'} (hg:Sims g (sem T)) (args:List V):Sim (ziH g args) (sem T zbb args):=by
 unfold ziH;split
 ·exact zaf tb_desk_Desk_Count (Nat.le_of_ble_eq_true (by kernel_rfl)) hg (eq_desk_Desk_Count g _ _)
 ·exact zaa
def f_desk_Desk_Waits (G:Sem') (t0 t1:V):M Res :=
 (G zcg [t1]).bind fun t6 =>
 (M.lift (Ax.un .not t6)).bind fun t7 =>
 M.ite t7
 (M.pure (.ret [(V.int .i64 0)]))
 ((M.lift (Ax.nilck t0)).bind fun t10 =>
 (M.lift (Ax.faddr 1470 t10)).bind fun t11 =>
 (M.lift (Ax.iaddr (some 64) 1 t11 t1)).bind fun t12 =>
 (mload none t12).bind fun t13 =>
 (G zaN [t13]).bind fun t14 =>
 M.pure (.ret [t14]))
def ir_desk_Desk_Waits:Fn':=(T zaU).getD noF
theorem tb_desk_Desk_Waits:T zaU = some ir_desk_Desk_Waits:=by kernel_rfl
theorem eq_desk_Desk_Waits (G:Sem') (t0 t1:V):execK G ir_desk_Desk_Waits.rv ir_desk_Desk_Waits.body [] [] (params 0 [t0,t1]) = f_desk_Desk_Waits G t0 t1:=by kernel_rfl
def ziG (G:Sem'):List V → M V
 | [t0,t1]=>fin (f_desk_Desk_Waits G t0 t1)
 | _=>M.fail
theorem zsR {g:Sem'} (hg:Sims g (sem T)) (args:List V):Sim (ziG g args) (sem T zaU args):=by
 unfold ziG;split
 ·exact zaf tb_desk_Desk_Waits (Nat.le_of_ble_eq_true (by kernel_rfl)) hg (eq_desk_Desk_Waits g _ _)
 ·exact zaa
def f_palanquinref16_Parse (G:Sem') (t0:V):M Res :=
 (mbox zad (V.agg [(V.int .i64 0),(V.int .i64 0),(V.int .i64 0),(V.int .i64 0),(V.int .i64 0),(V.int .i64 0),V.nils])).bind fun t2 =>
 (M.lift (vlen t0)).bind fun t7 =>
 (M.lift (Ax.bin .lss t7 (V.int .i64 11))).bind fun t8 =>
 M.ite t8
 ((M.lift (Ax.build [(V.int .i64 0),(V.int .i64 0),(V.int .i64 0),(V.int .i64 0),(V.int .i64 0),(V.int .i64 0),V.nils] [])).bind fun t9 =>
 (mstore 7 t2 t9).bind fun _ =>
 (mload (some 7) t2).bind fun r0 =>
 M.pure (.ret [r0,(V.int .i64 3)]))
 ((M.lift (Ax.iaddr none 1 t0 (V.int .i64 0))).bind fun t11 =>
 (mload none t11).bind fun t12 =>
 (M.lift (Ax.cint .i64 t12)).bind fun t13 =>
 (M.lift (Ax.iaddr none 1 t0 (V.int .i64 1))).bind fun t15 =>
 (mload none t15).bind fun t16 =>
 (M.lift (Ax.cint .i64 t16)).bind fun t17 =>
 (M.lift (Ax.iaddr none 1 t0 (V.int .i64 2))).bind fun t19 =>
 (mload none t19).bind fun t20 =>
 (M.lift (Ax.cint .i64 t20)).bind fun t21 =>
 M.getH.bind fun h0 =>
 (G zai [t0,(V.int .i64 3)]).bind fun t23 =>
 M.getH.bind fun h0' =>
 (M.unch t19 h0 h0').bind fun _ =>
 (M.unch t15 h0 h0').bind fun _ =>
 (M.unch t11 h0 h0').bind fun _ =>
 M.getH.bind fun h1 =>
 (G zai [t0,(V.int .i64 5)]).bind fun t25 =>
 M.getH.bind fun h1' =>
 (M.unch t19 h1 h1').bind fun _ =>
 (M.unch t15 h1 h1').bind fun _ =>
 (M.unch t11 h1 h1').bind fun _ =>
 M.getH.bind fun h2 =>
 (G zai [t0,(V.int .i64 7)]).bind fun t27 =>
 M.getH.bind fun h2' =>
 (M.unch t19 h2 h2').bind fun _ =>
 (M.unch t15 h2 h2').bind fun _ =>
 (M.unch t11 h2 h2').bind fun _ =>
 (M.lift (Ax.build [(V.int .i64 0),(V.int .i64 0),(V.int .i64 0),(V.int .i64 0),(V.int .i64 0),(V.int .i64 0),V.nils] [(0,1,t13),(1,1,t17),(2,1,t21),(3,1,t23),(4,1,t25),(5,1,t27),(6,1,V.nils)])).bind fun t28 =>
 (mbox zad (V.agg [(V.int .i64 0),(V.int .i64 0),(V.int .i64 0),(V.int .i64 0),(V.int .i64 0),(V.int .i64 0),V.nils])).bind fun t4 =>
 (mstore 7 t4 t28).bind fun _ =>
 (G zai [t0,(V.int .i64 9)]).bind fun t30 =>
 M.blk 0 (
 (M.lift (Ax.bin .gtr t30 (V.int .i64 200))).bind fun t33 =>
 M.ite t33
 ((M.lift (Ax.build [(V.int .i64 0),(V.int .i64 0),(V.int .i64 0),(V.int .i64 0),(V.int .i64 0),(V.int .i64 0),V.nils] [])).bind fun t34 =>
 (mstore 7 t2 t34).bind fun _ =>
 (mload (some 7) t2).bind fun r0 =>
 M.pure (.ret [r0,(V.int .i64 4)]))
 ((M.lift (vlen t0)).bind fun t38 =>
 (M.lift (Ax.bin .sub t38 (V.int .i64 11))).bind fun t39 =>
 (M.lift (Ax.bin .gtr t30 t39)).bind fun t40 =>
 M.ite t40
 ((M.lift (Ax.build [(V.int .i64 0),(V.int .i64 0),(V.int .i64 0),(V.int .i64 0),(V.int .i64 0),(V.int .i64 0),V.nils] [])).bind fun t41 =>
 (mstore 7 t2 t41).bind fun _ =>
 (mload (some 7) t2).bind fun r0 =>
 M.pure (.ret [r0,(V.int .i64 3)]))
 ((M.lift (vlen t0)).bind fun t45 =>
 (M.lift (Ax.bin .sub t45 (V.int .i64 11))).bind fun t46 =>
 (M.lift (Ax.bin .lss t30 t46)).bind fun t47 =>
 M.ite t47
 ((M.lift (Ax.build [(V.int .i64 0),(V.int .i64 0),(V.int .i64 0),(V.int .i64 0),(V.int .i64 0),(V.int .i64 0),V.nils] [])).bind fun t48 =>
 (mstore 7 t2 t48).bind fun _ =>
 (mload (some 7) t2).bind fun r0 =>
 M.pure (.ret [r0,(V.int .i64 2)]))
 (M.pure (.nrm []))))) fun _ =>
 (mslit zaj 0 [(V.int .u8 0)] []).bind fun t49 =>
 (M.lift (zbr .sl 1 t0 (some (V.int .i64 11)) none none)).bind fun t51 =>
 (mappend zaj 1 1 t49 t51).bind fun t52 =>
 (M.lift (Ax.faddr 6 t4)).bind fun t53 =>
 (mstore 1 t53 t52).bind fun _ =>
 (mload (some 7) t4).bind fun t54 =>
 (G zak [t54]).bind fun t55 =>
 (M.lift (Ax.un .not t55)).bind fun t56 =>
 M.ite t56
 ((M.lift (Ax.build [(V.int .i64 0),(V.int .i64 0),(V.int .i64 0),(V.int .i64 0),(V.int .i64 0),(V.int .i64 0),V.nils] [])).bind fun t57 =>
 (mstore 7 t2 t57).bind fun _ =>
 (mload (some 7) t2).bind fun r0 =>
 M.pure (.ret [r0,(V.int .i64 2)]))
 ((mload (some 7) t4).bind fun t58 =>
 (mstore 7 t2 t58).bind fun _ =>
 (mload (some 7) t2).bind fun r0 =>
 M.pure (.ret [r0,(V.int .i64 0)])))
def ir_palanquinref16_Parse:Fn':=(T zaP).getD noF
theorem tb_palanquinref16_Parse:T zaP = some ir_palanquinref16_Parse:=by kernel_rfl
theorem eq_palanquinref16_Parse (G:Sem') (t0:V):execK G ir_palanquinref16_Parse.rv ir_palanquinref16_Parse.body [] [] (params 0 [t0]) = f_palanquinref16_Parse G t0:=by kernel_rfl
def zfp (G:Sem'):List V → M V
 | [t0]=>fin (f_palanquinref16_Parse G t0)
 | _=>M.fail
theorem zns {g:Sem'} (hg:Sims g (sem T)) (args:List V):Sim (zfp g args) (sem T zaP args):=by
 unfold zfp;split
 ·exact zaf tb_palanquinref16_Parse (Nat.le_of_ble_eq_true (by kernel_rfl)) hg (eq_palanquinref16_Parse g _)
 ·exact zaa
def f_palanquinlaw27_says (G:Sem') (t0:V):M Res :=
 (mbox zad t0).bind fun t1 =>
 (mload (some 7) t1).bind fun t6 =>
 (G zaQ [t6]).bind fun t7 =>
 (M.lift (Ax.ext 0 t7)).bind fun t8 =>
 (M.lift (Ax.ext 1 t7)).bind fun t9 =>
 M.pure (.ret [t8])
def ir_palanquinlaw27_says:Fn':=(T zaK).getD noF
theorem tb_palanquinlaw27_says:T zaK = some ir_palanquinlaw27_says:=by kernel_rfl
theorem eq_palanquinlaw27_says (G:Sem') (t0:V):execK G ir_palanquinlaw27_says.rv ir_palanquinlaw27_says.body [] [] (params 0 [t0]) = f_palanquinlaw27_says G t0:=by kernel_rfl
def zfM (G:Sem'):List V → M V
 | [t0]=>fin (f_palanquinlaw27_says G t0)
 | _=>M.fail
theorem znJ {g:Sem'} (hg:Sims g (sem T)) (args:List V):Sim (zfM g args) (sem T zaK args):=by
 unfold zfM;split
 ·exact zaf tb_palanquinlaw27_says (Nat.le_of_ble_eq_true (by kernel_rfl)) hg (eq_palanquinlaw27_says g _)
 ·exact zaa
def zzn (G:Sem') (t18 t1:V) (L:List V):M Res :=
 (M.lift (Ax.bin .lss (L.getD 0 .undef) (V.int .i64 8))).bind fun t20 =>
 M.ite t20
 (M.blk 1 (
 (M.lift (Ax.index 8 1 none t18 (L.getD 0 .undef))).bind fun t22 =>
 (M.lift (Ax.un .not t22)).bind fun t24 =>
 (guarded [(0,t24)] (some (0,true)) (M.pure (L.getD 0 .undef))).bind fun t26 =>
 (guarded [(0,t24)] (some (0,true)) (M.lift (Ax.faddr 22 t1))).bind fun t27 =>
 (guarded [(0,t24)] (some (0,true)) (M.lift (Ax.iaddr (some 8) 1 t27 t26))).bind fun t28 =>
 (guarded [(0,t24)] (some (0,true)) (mload none t28)).bind fun t29 =>
 (guarded [(0,t24)] (some (0,true)) (M.lift (Ax.bin .neq t29 (V.int .i64 0)))).bind fun t30 =>
 (guarded [(0,t24)] (some (0,true)) (M.pure t30)).bind fun t31 =>
 (guarded [(0,t31)] (some (0,false)) (M.pure (L.getD 0 .undef))).bind fun t32 =>
 (guarded [(0,t31)] (some (0,false)) (M.lift (Ax.faddr 30 t1))).bind fun t33 =>
 (guarded [(0,t31)] (some (0,false)) (M.lift (Ax.iaddr (some 8) 1 t33 t32))).bind fun t34 =>
 (guarded [(0,t31)] (some (0,false)) (mload none t34)).bind fun t35 =>
 (guarded [(0,t31)] (some (0,false)) (M.lift (Ax.bin .neq t35 (V.int .i64 0)))).bind fun t36 =>
 (guarded [(0,t24)] (some (0,true)) (M.lift (Ax.pick t31 (V.bool true) t36))).bind fun t37 =>
 (M.lift (Ax.pick t24 t37 (V.bool false))).bind fun t38 =>
 (guarded [(0,t38)] (some (0,false)) (M.pure (L.getD 0 .undef))).bind fun t40 =>
 (guarded [(0,t38)] (some (0,false)) (M.lift (Ax.faddr 30 t1))).bind fun t41 =>
 (guarded [(0,t38)] (some (0,false)) (M.lift (Ax.iaddr (some 8) 1 t41 t40))).bind fun t42 =>
 (guarded [(0,t38)] (some (0,false)) (mload none t42)).bind fun t43 =>
 (guarded [(0,t38)] (some (0,false)) (M.lift (Ax.bin .lss t43 (V.int .i64 0)))).bind fun t44 =>
 (M.lift (Ax.pick t38 (V.bool true) t44)).bind fun t45 =>
 (guarded [(0,t45)] (some (0,false)) (M.pure (L.getD 0 .undef))).bind fun t47 =>
 (guarded [(0,t45)] (some (0,false)) (M.lift (Ax.faddr 30 t1))).bind fun t48 =>
 (guarded [(0,t45)] (some (0,false)) (M.lift (Ax.iaddr (some 8) 1 t48 t47))).bind fun t49 =>
 (guarded [(0,t45)] (some (0,false)) (mload none t49)).bind fun t50 =>
 (guarded [(0,t45)] (some (0,false)) (M.lift (Ax.faddr 16 t1))).bind fun t51 =>
 (guarded [(0,t45)] (some (0,false)) (M.lift (Ax.faddr 0 t51))).bind fun t52 =>
 (guarded [(0,t45)] (some (0,false)) (mload none t52)).bind fun t53 =>
 (guarded [(0,t45)] (some (0,false)) (M.lift (Ax.bin .gtr t50 t53))).bind fun t54 =>
 (M.lift (Ax.pick t45 (V.bool true) t54)).bind fun t55 =>
 M.ite t55
 (M.pure (.ret [(V.bool false)]))
 (M.pure (.nrm []))) fun _ =>
 (M.lift (Ax.bin .add (L.getD 0 .undef) (V.int .i64 1))).bind fun t56 =>
 M.pure (.nrm [t56]))
 (M.pure (.ex 0 []))
def zwe (G:Sem') (t0:V):M Res :=
 (mbox zbS t0).bind fun t1 =>
 (M.lift (Ax.faddr 0 t1)).bind fun t6 =>
 (mload (some 16) t6).bind fun t7 =>
 (G zbs [t7]).bind fun t8 =>
 (M.lift (Ax.un .not t8)).bind fun t9 =>
 (guarded [(0,t9)] (some (0,false)) (M.lift (Ax.faddr 16 t1))).bind fun t11 =>
 (guarded [(0,t9)] (some (0,false)) (mload (some 6) t11)).bind fun t12 =>
 (guarded [(0,t9)] (some (0,false)) (G zcX [t12])).bind fun t13 =>
 (guarded [(0,t9)] (some (0,false)) (M.lift (Ax.un .not t13))).bind fun t14 =>
 (M.lift (Ax.pick t9 (V.bool true) t14)).bind fun t15 =>
 M.ite t15
 (M.pure (.ret [(V.bool false)]))
 ((M.lift (Ax.faddr 0 t1)).bind fun t16 =>
 (M.lift (Ax.faddr 0 t16)).bind fun t17 =>
 (mload (some 8) t17).bind fun t18 =>
 M.blk 0 (
 M.iter (zzn G t18 t1) [(V.int .i64 0)]) fun _ =>
 (M.lift (Ax.faddr 0 t1)).bind fun t57 =>
 (mload (some 16) t57).bind fun t58 =>
 (G zdm [t58]).bind fun t59 =>
 (M.lift (Ax.faddr 16 t1)).bind fun t60 =>
 (M.lift (Ax.faddr 1 t60)).bind fun t61 =>
 (mload none t61).bind fun t62 =>
 (M.lift (Ax.un .not t62)).bind fun t63 =>
 (guarded [(0,t63)] (some (0,false)) (M.lift (Ax.faddr 16 t1))).bind fun t65 =>
 (guarded [(0,t63)] (some (0,false)) (M.lift (Ax.faddr 3 t65))).bind fun t66 =>
 (guarded [(0,t63)] (some (0,false)) (mload none t66)).bind fun t67 =>
 (guarded [(0,t63)] (some (0,false)) (M.pure t59)).bind fun t68 =>
 (guarded [(0,t63)] (some (0,false)) (M.lift (Ax.bin .andNot t67 t68))).bind fun t69 =>
 (guarded [(0,t63)] (some (0,false)) (M.lift (Ax.bin .eql t69 (V.int .i64 0)))).bind fun t70 =>
 (M.lift (Ax.pick t63 (V.bool true) t70)).bind fun t71 =>
 (guarded [(0,t71)] (some (0,true)) (M.lift (Ax.faddr 38 t1))).bind fun t73 =>
 (guarded [(0,t71)] (some (0,true)) (mload none t73)).bind fun t74 =>
 (guarded [(0,t71)] (some (0,true)) (M.lift (Ax.un .not t74))).bind fun t75 =>
 (guarded [(0,t71)] (some (0,true)) (M.pure t75)).bind fun t76 =>
 (guarded [(0,t76)] (some (0,false)) (M.pure t59)).bind fun t77 =>
 (guarded [(0,t76)] (some (0,false)) (M.lift (Ax.bin .eql t77 (V.int .i64 0)))).bind fun t78 =>
 (guarded [(0,t71)] (some (0,true)) (M.lift (Ax.pick t76 (V.bool true) t78))).bind fun t79 =>
 (M.lift (Ax.pick t71 t79 (V.bool false))).bind fun t80 =>
 M.pure (.ret [t80]))
def zn4:Fn':=(T zeE).getD noF
theorem zz8:T zeE = some zn4:=by kernel_rfl
theorem zBr (G:Sem') (t0:V):execK G zn4.rv zn4.body [] [] (params 0 [t0]) = zwe G t0:=by kernel_rfl
def zqJ (G:Sem'):List V → M V
 | [t0]=>fin (zwe G t0)
 | _=>M.fail
theorem zCd {g:Sem'} (hg:Sims g (sem T)) (args:List V):Sim (zqJ g args) (sem T zeE args):=by
 unfold zqJ;split
 ·exact zaf zz8 (Nat.le_of_ble_eq_true (by kernel_rfl)) hg (zBr g _)
 ·exact zaa
def zm7 (G:Sem') (t0:V):M Res :=
 (M.lift (Ax.minmax true t0 [(V.int .i64 0)])).bind fun t4 =>
 (M.lift (Ax.minmax false t4 [(V.int .i64 100)])).bind fun t5 =>
 (mmkslice zfA 8 [(V.int .i64 0)] t5 t5).bind fun t6 =>
 (M.lift (Ax.build [V.nils] [(0,1,t6)])).bind fun t7 =>
 (mbox zkX t7).bind fun t8 =>
 M.pure (.ret [t8])
def zhY:Fn':=(T zdu).getD noF
theorem zsk:T zdu = some zhY:=by kernel_rfl
theorem ztc (G:Sem') (t0:V):execK G zhY.rv zhY.body [] [] (params 0 [t0]) = zm7 G t0:=by kernel_rfl
def zjk (G:Sem'):List V → M V
 | [t0]=>fin (zm7 G t0)
 | _=>M.fail
theorem zup {g:Sem'} (hg:Sims g (sem T)) (args:List V):Sim (zjk g args) (sem T zdu args):=by
 unfold zjk;split
 ·exact zaf zsk (Nat.le_of_ble_eq_true (by kernel_rfl)) hg (ztc g _)
 ·exact zaa
def zj9 (G:Sem') (t0:V):M Res :=
 (M.lift (Ax.minmax true t0 [(V.int .i64 1)])).bind fun t4 =>
 (M.lift (Ax.minmax false t4 [(V.int .i64 1000)])).bind fun t5 =>
 (M.lift (Ax.build [(V.int .i64 0),V.nils] [(0,1,t5)])).bind fun t6 =>
 (mbox ziN t6).bind fun t7 =>
 M.pure (.ret [t7])
def zge:Fn':=(T zcA).getD noF
theorem zpd:T zcA = some zge:=by kernel_rfl
theorem zpu (G:Sem') (t0:V):execK G zge.rv zge.body [] [] (params 0 [t0]) = zj9 G t0:=by kernel_rfl
def zgO (G:Sem'):List V → M V
 | [t0]=>fin (zj9 G t0)
 | _=>M.fail
theorem zpW {g:Sem'} (hg:Sims g (sem T)) (args:List V):Sim (zgO g args) (sem T zcA args):=by
 unfold zgO;split
 ·exact zaf zpd (Nat.le_of_ble_eq_true (by kernel_rfl)) hg (zpu g _)
 ·exact zaa
def f_desk_addr (G:Sem') (t0:V):M Res :=
 (M.lift (Ax.bin .geq t0 (V.int .i64 0))).bind fun t4 =>
 (guarded [(0,t4)] (some (0,true)) (M.pure t0)).bind fun t6 =>
 (guarded [(0,t4)] (some (0,true)) (M.lift (Ax.bin .leq t6 (V.int .i64 63)))).bind fun t7 =>
 (M.lift (Ax.pick t4 t7 (V.bool false))).bind fun t8 =>
 M.pure (.ret [t8])
def ir_desk_addr:Fn':=(T zcg).getD noF
theorem tb_desk_addr:T zcg = some ir_desk_addr:=by kernel_rfl
theorem eq_desk_addr (G:Sem') (t0:V):execK G ir_desk_addr.rv ir_desk_addr.body [] [] (params 0 [t0]) = f_desk_addr G t0:=by kernel_rfl
def zqO (G:Sem'):List V → M V
 | [t0]=>fin (f_desk_addr G t0)
 | _=>M.fail
theorem zCi {g:Sem'} (hg:Sims g (sem T)) (args:List V):Sim (zqO g args) (sem T zcg args):=by
 unfold zqO;split
 ·exact zaf tb_desk_addr (Nat.le_of_ble_eq_true (by kernel_rfl)) hg (eq_desk_addr g _)
 ·exact zaa
def zjH (G:Sem') (t0 t1 t2:V):M Res :=
 (M.lift (vlen t2)).bind fun t12 =>
 (M.lift (Ax.bin .gtr t12 (V.int .i64 1200))).bind fun t13 =>
 M.ite t13
 ((M.lift (Ax.nilck t0)).bind fun t15 =>
 (M.lift (Ax.faddr 1534 t15)).bind fun t16 =>
 (mload none t16).bind fun t17 =>
 (G zax [t17,(V.int .i64 1)]).bind fun t18 =>
 M.pure (.ret []))
 ((G za9 [t0,t1]).bind fun t22 =>
 (M.lift (Ax.ext 0 t22)).bind fun t23 =>
 (M.lift (Ax.ext 1 t22)).bind fun t24 =>
 (M.lift (Ax.ext 2 t22)).bind fun t25 =>
 (M.lift (Ax.un .not t25)).bind fun t27 =>
 M.ite t27
 ((M.lift (Ax.nilck t0)).bind fun t29 =>
 (M.lift (Ax.faddr 1534 t29)).bind fun t30 =>
 (mload none t30).bind fun t31 =>
 (G zax [t31,(V.int .i64 2)]).bind fun t32 =>
 M.pure (.ret []))
 ((G zb5 [t0,t23,t1]).bind fun t36 =>
 (G zij [t2]).bind fun t38 =>
 M.ite t38
 ((G zcB [t0,t23,t24,t2]).bind fun t43 =>
 M.pure (.ret []))
 ((G zcN [t23,t24,t2]).bind fun t48 =>
 (M.lift (Ax.ext 0 t48)).bind fun t49 =>
 (M.lift (Ax.ext 1 t48)).bind fun t50 =>
 (mbox zkY (V.agg [(V.bool false),(V.int .i64 0),(V.int .u16 0),(V.int .u32 0),(V.int .u32 0),V.nils,(V.int .i64 0),V.nils,(V.int .i64 0),V.nils,(V.int .i64 0),(V.int .i64 0),(V.bool false),(V.bool false),(V.int .i64 0),(V.int .u16 0),(V.bool false),(V.int .i64 0),(V.int .i64 0),V.nils,(V.int .i64 0),V.nils,V.nils,(V.bool false),(V.int .u32 0),(V.bool false),(V.bool false),(V.bool false),V.nils,V.nils,V.nils])).bind fun t9 =>
 (mstore 31 t9 t49).bind fun _ =>
 (M.lift (Ax.bin .neq t50 (V.int .i64 0))).bind fun t52 =>
 M.ite t52
 ((M.lift (Ax.nilck t0)).bind fun t54 =>
 (M.lift (Ax.faddr 1534 t54)).bind fun t55 =>
 (mload none t55).bind fun t56 =>
 (G zax [t56,t50]).bind fun t58 =>
 M.pure (.ret []))
 ((mload (some 31) t9).bind fun t62 =>
 (G zc8 [t0,t23,t24,t62]).bind fun t63 =>
 M.pure (.ret [])))))
def zfE:Fn':=(T zbV).getD noF
theorem znE:T zbV = some zfE:=by kernel_rfl
theorem zoB (G:Sem') (t0 t1 t2:V):execK G zfE.rv zfE.body [] [] (params 0 [t0,t1,t2]) = zjH G t0 t1 t2:=by kernel_rfl
def zgn (G:Sem'):List V → M V
 | [t0,t1,t2]=>fin (zjH G t0 t1 t2)
 | _=>M.fail
theorem zpm {g:Sem'} (hg:Sims g (sem T)) (args:List V):Sim (zgn g args) (sem T zbV args):=by
 unfold zgn;split
 ·exact zaf znE (Nat.le_of_ble_eq_true (by kernel_rfl)) hg (zoB g _ _ _)
 ·exact zaa
def f_desk_Desk_note (G:Sem') (t0 t1 t2:V):M Res :=
 (G zcp [t2]).bind fun t13 =>
 (M.lift (Ax.ext 0 t13)).bind fun t14 =>
 (M.lift (Ax.ext 1 t13)).bind fun t15 =>
 (mbox zag (V.agg [(V.int .i64 0),(V.int .i64 0),(V.int .i64 0),(V.int .i64 0),(V.int .i64 0),(V.int .i64 0),V.nils])).bind fun t6 =>
 (mstore 7 t6 t14).bind fun _ =>
 (M.lift (Ax.bin .eql t15 (V.int .i64 0))).bind fun t17 =>
 (guarded [(0,t17)] (some (0,true)) (M.lift (Ax.faddr 0 t6))).bind fun t19 =>
 (guarded [(0,t17)] (some (0,true)) (mload none t19)).bind fun t20 =>
 (guarded [(0,t17)] (some (0,true)) (M.lift (Ax.bin .gtr t20 (V.int .i64 9)))).bind fun t21 =>
 (M.lift (Ax.pick t17 t21 (V.bool false))).bind fun t22 =>
 M.join (M.ite t22
 (M.pure (.nrm [(V.int .i64 1)]))
 (M.pure (.nrm [t15]))) fun L0 =>
 (M.lift (Ax.bin .neq (L0.getD 0 .undef) (V.int .i64 0))).bind fun t24 =>
 M.ite t24
 ((G zbx [t0,t1,(L0.getD 0 .undef),(V.int .i64 0)]).bind fun t28 =>
 M.pure (.ret []))
 ((G za9 [t0,t1]).bind fun t32 =>
 (M.lift (Ax.ext 0 t32)).bind fun t33 =>
 (M.lift (Ax.ext 1 t32)).bind fun t34 =>
 (M.lift (Ax.ext 2 t32)).bind fun t35 =>
 M.join (M.ite t35
 ((G zb5 [t0,t33,t1]).bind fun t40 =>
 M.pure (.nrm []))
 (M.pure (.nrm []))) fun _ =>
 M.blk 0 (
 (M.lift (Ax.faddr 0 t6)).bind fun t47 =>
 (mload none t47).bind fun t48 =>
 (M.lift (Ax.bin .eql t48 (V.int .i64 1))).bind fun t49 =>
 (guarded [(0,t49)] (some (0,true)) (M.pure t35)).bind fun t51 =>
 (M.lift (Ax.pick t49 t51 (V.bool false))).bind fun t52 =>
 M.join (M.ite t52
 (M.pure (.nrm [(V.int .i64 7)]))
 ((M.lift (Ax.faddr 0 t6)).bind fun t54 =>
 (mload none t54).bind fun t55 =>
 (M.lift (Ax.bin .eql t55 (V.int .i64 1))).bind fun t56 =>
 M.join (M.ite t56
 ((mload (some 7) t6).bind fun t59 =>
 (G zcR [t0,t1,t59]).bind fun t60 =>
 M.pure (.nrm [t60]))
 ((M.lift (Ax.un .not t35)).bind fun t63 =>
 M.join (M.ite t63
 (M.pure (.nrm [(V.int .i64 6)]))
 ((mload (some 7) t6).bind fun t44 =>
 (G zcP [t0,t33,t34,t44]).bind fun t45 =>
 M.pure (.nrm [t45]))) fun L2 =>
 M.pure (.nrm [(L2.getD 0 .undef)]))) fun L3 =>
 M.pure (.nrm [(L3.getD 0 .undef)]))) fun L4 =>
 M.pure (.nrm [(L4.getD 0 .undef)])) fun L5 =>
 (M.lift (Ax.bin .neq (L5.getD 0 .undef) (V.int .i64 0))).bind fun t65 =>
 M.join (M.ite t65
 ((M.lift (Ax.faddr 0 t6)).bind fun t69 =>
 (mload none t69).bind fun t70 =>
 (G zbx [t0,t1,(L5.getD 0 .undef),t70]).bind fun t71 =>
 M.pure (.nrm []))
 (M.pure (.nrm []))) fun _ =>
 M.pure (.ret []))
def ir_desk_Desk_note:Fn':=(T zbk).getD noF
theorem tb_desk_Desk_note:T zbk = some ir_desk_Desk_note:=by kernel_rfl
theorem eq_desk_Desk_note (G:Sem') (t0 t1 t2:V):execK G ir_desk_Desk_note.rv ir_desk_Desk_note.body [] [] (params 0 [t0,t1,t2]) = f_desk_Desk_note G t0 t1 t2:=by kernel_rfl
def zjx (G:Sem'):List V → M V
 | [t0,t1,t2]=>fin (f_desk_Desk_note G t0 t1 t2)
 | _=>M.fail
theorem zuC {g:Sem'} (hg:Sims g (sem T)) (args:List V):Sim (zjx g args) (sem T zbk args):=by
 unfold zjx;split
 ·exact zaf tb_desk_Desk_note (Nat.le_of_ble_eq_true (by kernel_rfl)) hg (eq_desk_Desk_note g _ _ _)
 ·exact zaa
end Go.Ax.Cc
/- CiS2 -/
namespace Go.Ax.Cc
open Go.Proofs
def zrQ (G:Sem') (t0:V) (L:List V):M Res :=
 (M.lift (Ax.bin .lss (L.getD 0 .undef) (V.int .i64 4))).bind fun t16 =>
 M.ite t16
 (M.blk 1 (
 (M.lift (Ax.nilck t0)).bind fun t20 =>
 (M.lift (Ax.faddr 0 t20)).bind fun t21 =>
 (M.lift (Ax.iaddr (some 4) 367 t21 (L.getD 0 .undef))).bind fun t22 =>
 (M.lift (Ax.nilck t22)).bind fun t24 =>
 (M.lift (Ax.faddr 0 t24)).bind fun t25 =>
 (mload (some 39) t25).bind fun t26 =>
 (mbox zbS (V.agg [(V.bool false),(V.bool false),(V.bool false),(V.bool false),(V.bool false),(V.bool false),(V.bool false),(V.bool false),(V.int .i64 0),(V.int .i64 0),(V.int .i64 0),(V.int .i64 0),(V.int .i64 0),(V.int .i64 0),(V.int .i64 0),(V.int .i64 0),(V.int .i64 0),(V.bool false),(V.int .i64 0),(V.int .i64 0),(V.int .i64 0),(V.int .i64 0),(V.int .i64 0),(V.int .i64 0),(V.int .i64 0),(V.int .i64 0),(V.int .i64 0),(V.int .i64 0),(V.int .i64 0),(V.int .i64 0),(V.int .i64 0),(V.int .i64 0),(V.int .i64 0),(V.int .i64 0),(V.int .i64 0),(V.int .i64 0),(V.int .i64 0),(V.int .i64 0),(V.bool false)])).bind fun t6 =>
 (mstore 39 t6 t26).bind fun _ =>
 (M.lift (Ax.nilck t22)).bind fun t30 =>
 (M.lift (Ax.faddr 0 t30)).bind fun t31 =>
 (mload (some 39) t31).bind fun t32 =>
 (M.lift (Ax.nilck t0)).bind fun t34 =>
 (M.lift (Ax.faddr 1468 t34)).bind fun t35 =>
 (mload none t35).bind fun t36 =>
 (G zg3 [t32,t36]).bind fun t37 =>
 (M.lift (Ax.ext 0 t37)).bind fun t38 =>
 (M.lift (Ax.nilck t22)).bind fun t40 =>
 (M.lift (Ax.faddr 0 t40)).bind fun t41 =>
 (mstore 39 t41 t38).bind fun _ =>
 (M.lift (Ax.ext 1 t37)).bind fun t39 =>
 (mload (some 39) t6).bind fun t44 =>
 (G zch [t0,t22,t44]).bind fun t45 =>
 M.pure (.nrm [])) fun _ =>
 (M.lift (Ax.bin .add (L.getD 0 .undef) (V.int .i64 1))).bind fun t46 =>
 M.pure (.nrm [t46]))
 (M.pure (.ex 0 []))
def znf (G:Sem') (t0 t1:V):M Res :=
 (M.lift (Ax.nilck t0)).bind fun t8 =>
 (M.lift (Ax.faddr 1468 t8)).bind fun t9 =>
 (mload none t9).bind fun t10 =>
 (M.lift (Ax.bin .add t10 t1)).bind fun t12 =>
 (M.lift (Ax.nilck t0)).bind fun t13 =>
 (M.lift (Ax.faddr 1468 t13)).bind fun t14 =>
 (mstore 1 t14 t12).bind fun _ =>
 M.blk 0 (
 M.iter (zrQ G t0) [(V.int .i64 0)]) fun _ =>
 M.pure (.ret [])
def zh6:Fn':=(T zcO).getD noF
theorem zss:T zcO = some zh6:=by kernel_rfl
theorem ztk (G:Sem') (t0 t1:V):execK G zh6.rv zh6.body [] [] (params 0 [t0,t1]) = znf G t0 t1:=by kernel_rfl
def zjt (G:Sem'):List V → M V
 | [t0,t1]=>fin (znf G t0 t1)
 | _=>M.fail
theorem zuy {g:Sem'} (hg:Sims g (sem T)) (args:List V):Sim (zjt g args) (sem T zcO args):=by
 unfold zjt;split
 ·exact zaf zss (Nat.le_of_ble_eq_true (by kernel_rfl)) hg (ztk g _ _)
 ·exact zaa
def f_desk_Desk_taken_0 (G:Sem') (t10 t0 t1 t6:V) (L:List V):M Res :=
 (M.lift (Ax.bin .lss (L.getD 1 .undef) t10)).bind fun t12 =>
 M.ite t12
 (M.blk 1 (
 (M.lift (Ax.nilck t0)).bind fun t16 =>
 (M.lift (Ax.faddr 1470 t16)).bind fun t17 =>
 (M.lift (Ax.iaddr (some 64) 1 t17 t1)).bind fun t18 =>
 (mload none t18).bind fun t19 =>
 (G zaB [t19]).bind fun t20 =>
 (M.lift (Ax.ext 0 t20)).bind fun t21 =>
 (M.lift (Ax.ext 1 t20)).bind fun t22 =>
 (mbox zbD (V.agg [(V.int .i64 0),(V.int .i64 0),V.nils])).bind fun t8 =>
 (mstore 3 t8 t21).bind fun _ =>
 (M.lift (Ax.un .not t22)).bind fun t24 =>
 M.ite t24
 (M.pure (.ex 0 [(L.getD 0 .undef)]))
 ((mload (some 3) t8).bind fun t26 =>
 (mslit zbD 1 [(V.int .i64 0),(V.int .i64 0),V.nils] [(0,3,t26)]).bind fun t27 =>
 (mappend zbD 3 40 (L.getD 0 .undef) t27).bind fun t28 =>
 M.pure (.nrm [t28]))) fun L0 =>
 (M.lift (Ax.bin .add (L.getD 1 .undef) (V.int .i64 1))).bind fun t29 =>
 M.pure (.nrm [(L0.getD 0 .undef),t29]))
 (M.pure (.ex 0 [(L.getD 0 .undef)]))
def f_desk_Desk_taken (G:Sem') (t0 t1 t2:V):M Res :=
 M.blk 0 (
 M.iter (f_desk_Desk_taken_0 G t2 t0 t1 V.nils) [V.nils,(V.int .i64 0)]) fun L1 =>
 M.pure (.ret [(L1.getD 0 .undef)])
def ir_desk_Desk_taken:Fn':=(T zba).getD noF
theorem tb_desk_Desk_taken:T zba = some ir_desk_Desk_taken:=by kernel_rfl
theorem eq_desk_Desk_taken (G:Sem') (t0 t1 t2:V):execK G ir_desk_Desk_taken.rv ir_desk_Desk_taken.body [] [] (params 0 [t0,t1,t2]) = f_desk_Desk_taken G t0 t1 t2:=by kernel_rfl
def ziA (G:Sem'):List V → M V
 | [t0,t1,t2]=>fin (f_desk_Desk_taken G t0 t1 t2)
 | _=>M.fail
theorem zsL {g:Sem'} (hg:Sims g (sem T)) (args:List V):Sim (ziA g args) (sem T zba args):=by
 unfold ziA;split
 ·exact zaf tb_desk_Desk_taken (Nat.le_of_ble_eq_true (by kernel_rfl)) hg (eq_desk_Desk_taken g _ _ _)
 ·exact zaa
def f_post_Counts_Of (G:Sem') (t0 t1:V):M Res :=
 (M.lift (Ax.bin .lss t1 (V.int .i64 0))).bind fun t6 =>
 (guarded [(0,t6)] (some (0,false)) (M.pure t1)).bind fun t8 =>
 (guarded [(0,t6)] (some (0,false)) (M.pure t0)).bind fun t9 =>
 (guarded [(0,t6)] (some (0,false)) (M.lift (Ax.nilck t9))).bind fun t10 =>
 (guarded [(0,t6)] (some (0,false)) (M.lift (Ax.faddr 0 t10))).bind fun t11 =>
 (guarded [(0,t6)] (some (0,false)) (mload none t11)).bind fun t12 =>
 (guarded [(0,t6)] (some (0,false)) (M.lift (vlen t12))).bind fun t13 =>
 (guarded [(0,t6)] (some (0,false)) (M.lift (Ax.bin .geq t8 t13))).bind fun t14 =>
 (M.lift (Ax.pick t6 (V.bool true) t14)).bind fun t15 =>
 M.ite t15
 (M.pure (.ret [(V.int .i64 0)]))
 ((M.lift (Ax.nilck t0)).bind fun t17 =>
 (M.lift (Ax.faddr 0 t17)).bind fun t18 =>
 (mload none t18).bind fun t19 =>
 (M.lift (Ax.iaddr none 1 t19 t1)).bind fun t21 =>
 (G zaM [t21]).bind fun t22 =>
 M.pure (.ret [t22]))
def ir_post_Counts_Of:Fn':=(T zbw).getD noF
theorem tb_post_Counts_Of:T zbw = some ir_post_Counts_Of:=by kernel_rfl
theorem eq_post_Counts_Of (G:Sem') (t0 t1:V):execK G ir_post_Counts_Of.rv ir_post_Counts_Of.body [] [] (params 0 [t0,t1]) = f_post_Counts_Of G t0 t1:=by kernel_rfl
def zjl (G:Sem'):List V → M V
 | [t0,t1]=>fin (f_post_Counts_Of G t0 t1)
 | _=>M.fail
theorem zuq {g:Sem'} (hg:Sims g (sem T)) (args:List V):Sim (zjl g args) (sem T zbw args):=by
 unfold zjl;split
 ·exact zaf tb_post_Counts_Of (Nat.le_of_ble_eq_true (by kernel_rfl)) hg (eq_post_Counts_Of g _ _)
 ·exact zaa
def f_post_Post_desk_Out_Len (G:Sem') (t0:V):M Res :=
 (M.lift (Ax.nilck t0)).bind fun t4 =>
 (M.lift (Ax.faddr 1 t4)).bind fun t5 =>
 (mload none t5).bind fun t6 =>
 (M.lift (vlen t6)).bind fun t7 =>
 M.pure (.ret [t7])
def ir_post_Post_desk_Out_Len:Fn':=(T zaN).getD noF
theorem tb_post_Post_desk_Out_Len:T zaN = some ir_post_Post_desk_Out_Len:=by kernel_rfl
theorem eq_post_Post_desk_Out_Len (G:Sem') (t0:V):execK G ir_post_Post_desk_Out_Len.rv ir_post_Post_desk_Out_Len.body [] [] (params 0 [t0]) = f_post_Post_desk_Out_Len G t0:=by kernel_rfl
def zez (G:Sem'):List V → M V
 | [t0]=>fin (f_post_Post_desk_Out_Len G t0)
 | _=>M.fail
theorem zlF {g:Sem'} (hg:Sims g (sem T)) (args:List V):Sim (zez g args) (sem T zaN args):=by
 unfold zez;split
 ·exact zaf tb_post_Post_desk_Out_Len (Nat.le_of_ble_eq_true (by kernel_rfl)) hg (eq_post_Post_desk_Out_Len g _)
 ·exact zaa
def f_palanquinref16_two (G:Sem') (t0 t1:V):M Res :=
 (M.lift (Ax.iaddr none 1 t0 t1)).bind fun t7 =>
 (mload none t7).bind fun t8 =>
 (M.lift (Ax.cint .i64 t8)).bind fun t9 =>
 (M.lift (Ax.bin .shl t9 (V.int .u64 8))).bind fun t10 =>
 (M.lift (Ax.bin .add t1 (V.int .i64 1))).bind fun t13 =>
 (M.lift (Ax.iaddr none 1 t0 t13)).bind fun t14 =>
 (mload none t14).bind fun t15 =>
 (M.lift (Ax.cint .i64 t15)).bind fun t16 =>
 (M.lift (Ax.bin .or t10 t16)).bind fun t17 =>
 M.pure (.ret [t17])
def ir_palanquinref16_two:Fn':=(T zai).getD noF
theorem tb_palanquinref16_two:T zai = some ir_palanquinref16_two:=by kernel_rfl
theorem eq_palanquinref16_two (G:Sem') (t0 t1:V):execK G ir_palanquinref16_two.rv ir_palanquinref16_two.body [] [] (params 0 [t0,t1]) = f_palanquinref16_two G t0 t1:=by kernel_rfl
def zgk (G:Sem'):List V → M V
 | [t0,t1]=>fin (f_palanquinref16_two G t0 t1)
 | _=>M.fail
theorem zpj {g:Sem'} (hg:Sims g (sem T)) (args:List V):Sim (zgk g args) (sem T zai args):=by
 unfold zgk;split
 ·exact zaf tb_palanquinref16_two (Nat.le_of_ble_eq_true (by kernel_rfl)) hg (eq_palanquinref16_two g _ _)
 ·exact zaa
def f_palanquinref16_Good (G:Sem') (t0:V):M Res :=
 (mbox zad t0).bind fun t1 =>
 (M.lift (Ax.faddr 0 t1)).bind fun t5 =>
 (mload none t5).bind fun t6 =>
 (G zas [t6]).bind fun t7 =>
 (M.lift (Ax.bin .eql t7 (V.str ⟨#[]⟩))).bind fun t9 =>
 (guarded [(0,t9)] (some (0,false)) (M.lift (Ax.faddr 1 t1))).bind fun t11 =>
 (guarded [(0,t9)] (some (0,false)) (mload none t11)).bind fun t12 =>
 (guarded [(0,t9)] (some (0,false)) (G zah [t12,(V.int .i64 0),(V.int .i64 3)])).bind fun t13 =>
 (guarded [(0,t9)] (some (0,false)) (M.lift (Ax.un .not t13))).bind fun t14 =>
 (M.lift (Ax.pick t9 (V.bool true) t14)).bind fun t15 =>
 (guarded [(0,t15)] (some (0,false)) (M.lift (Ax.faddr 2 t1))).bind fun t17 =>
 (guarded [(0,t15)] (some (0,false)) (mload none t17)).bind fun t18 =>
 (guarded [(0,t15)] (some (0,false)) (G zah [t18,(V.int .i64 0),(V.int .i64 7)])).bind fun t19 =>
 (guarded [(0,t15)] (some (0,false)) (M.lift (Ax.un .not t19))).bind fun t20 =>
 (M.lift (Ax.pick t15 (V.bool true) t20)).bind fun t21 =>
 (guarded [(0,t21)] (some (0,false)) (M.lift (Ax.faddr 3 t1))).bind fun t23 =>
 (guarded [(0,t21)] (some (0,false)) (mload none t23)).bind fun t24 =>
 (guarded [(0,t21)] (some (0,false)) (G zah [t24,(V.int .i64 0),(V.int .i64 65535)])).bind fun t25 =>
 (guarded [(0,t21)] (some (0,false)) (M.lift (Ax.un .not t25))).bind fun t26 =>
 (M.lift (Ax.pick t21 (V.bool true) t26)).bind fun t27 =>
 (guarded [(0,t27)] (some (0,false)) (M.lift (Ax.faddr 4 t1))).bind fun t29 =>
 (guarded [(0,t27)] (some (0,false)) (mload none t29)).bind fun t30 =>
 (guarded [(0,t27)] (some (0,false)) (G zah [t30,(V.int .i64 0),(V.int .i64 65535)])).bind fun t31 =>
 (guarded [(0,t27)] (some (0,false)) (M.lift (Ax.un .not t31))).bind fun t32 =>
 (M.lift (Ax.pick t27 (V.bool true) t32)).bind fun t33 =>
 (guarded [(0,t33)] (some (0,false)) (M.lift (Ax.faddr 5 t1))).bind fun t35 =>
 (guarded [(0,t33)] (some (0,false)) (mload none t35)).bind fun t36 =>
 (guarded [(0,t33)] (some (0,false)) (G zah [t36,(V.int .i64 0),(V.int .i64 65535)])).bind fun t37 =>
 (guarded [(0,t33)] (some (0,false)) (M.lift (Ax.un .not t37))).bind fun t38 =>
 (M.lift (Ax.pick t33 (V.bool true) t38)).bind fun t39 =>
 (guarded [(0,t39)] (some (0,false)) (M.lift (Ax.faddr 6 t1))).bind fun t41 =>
 (guarded [(0,t39)] (some (0,false)) (mload none t41)).bind fun t42 =>
 (guarded [(0,t39)] (some (0,false)) (M.lift (vlen t42))).bind fun t43 =>
 (guarded [(0,t39)] (some (0,false)) (M.lift (Ax.bin .gtr t43 (V.int .i64 200)))).bind fun t44 =>
 (M.lift (Ax.pick t39 (V.bool true) t44)).bind fun t45 =>
 M.ite t45
 (M.pure (.ret [(V.bool false)]))
 ((G zae [t7,(V.int .u8 114)]).bind fun t47 =>
 (M.lift (Ax.un .not t47)).bind fun t48 =>
 (guarded [(0,t48)] (some (0,true)) (M.lift (Ax.faddr 1 t1))).bind fun t50 =>
 (guarded [(0,t48)] (some (0,true)) (mload none t50)).bind fun t51 =>
 (guarded [(0,t48)] (some (0,true)) (M.lift (Ax.bin .neq t51 (V.int .i64 0)))).bind fun t52 =>
 (M.lift (Ax.pick t48 t52 (V.bool false))).bind fun t53 =>
 (guarded [(0,t53)] (some (0,false)) (M.pure t7)).bind fun t55 =>
 (guarded [(0,t53)] (some (0,false)) (G zae [t55,(V.int .u8 115)])).bind fun t56 =>
 (guarded [(0,t53)] (some (0,false)) (M.lift (Ax.un .not t56))).bind fun t57 =>
 (guarded [(0,t53)] (some (0,false)) (M.pure t57)).bind fun t58 =>
 (guarded [(0,t58)] (some (0,true)) (M.lift (Ax.faddr 2 t1))).bind fun t59 =>
 (guarded [(0,t58)] (some (0,true)) (mload none t59)).bind fun t60 =>
 (guarded [(0,t58)] (some (0,true)) (M.lift (Ax.bin .neq t60 (V.int .i64 0)))).bind fun t61 =>
 (guarded [(0,t53)] (some (0,false)) (M.lift (Ax.pick t58 t61 (V.bool false)))).bind fun t62 =>
 (M.lift (Ax.pick t53 (V.bool true) t62)).bind fun t63 =>
 (guarded [(0,t63)] (some (0,false)) (M.pure t7)).bind fun t65 =>
 (guarded [(0,t63)] (some (0,false)) (G zae [t65,(V.int .u8 101)])).bind fun t66 =>
 (guarded [(0,t63)] (some (0,false)) (M.lift (Ax.un .not t66))).bind fun t67 =>
 (guarded [(0,t63)] (some (0,false)) (M.pure t67)).bind fun t68 =>
 (guarded [(0,t68)] (some (0,true)) (M.lift (Ax.faddr 3 t1))).bind fun t69 =>
 (guarded [(0,t68)] (some (0,true)) (mload none t69)).bind fun t70 =>
 (guarded [(0,t68)] (some (0,true)) (M.lift (Ax.bin .neq t70 (V.int .i64 0)))).bind fun t71 =>
 (guarded [(0,t63)] (some (0,false)) (M.lift (Ax.pick t68 t71 (V.bool false)))).bind fun t72 =>
 (M.lift (Ax.pick t63 (V.bool true) t72)).bind fun t73 =>
 (guarded [(0,t73)] (some (0,false)) (M.pure t7)).bind fun t75 =>
 (guarded [(0,t73)] (some (0,false)) (G zae [t75,(V.int .u8 110)])).bind fun t76 =>
 (guarded [(0,t73)] (some (0,false)) (M.lift (Ax.un .not t76))).bind fun t77 =>
 (guarded [(0,t73)] (some (0,false)) (M.pure t77)).bind fun t78 =>
 (guarded [(0,t78)] (some (0,true)) (M.lift (Ax.faddr 4 t1))).bind fun t79 =>
 (guarded [(0,t78)] (some (0,true)) (mload none t79)).bind fun t80 =>
 (guarded [(0,t78)] (some (0,true)) (M.lift (Ax.bin .neq t80 (V.int .i64 0)))).bind fun t81 =>
 (guarded [(0,t73)] (some (0,false)) (M.lift (Ax.pick t78 t81 (V.bool false)))).bind fun t82 =>
 (M.lift (Ax.pick t73 (V.bool true) t82)).bind fun t83 =>
 (guarded [(0,t83)] (some (0,false)) (M.pure t7)).bind fun t85 =>
 (guarded [(0,t83)] (some (0,false)) (G zae [t85,(V.int .u8 109)])).bind fun t86 =>
 (guarded [(0,t83)] (some (0,false)) (M.lift (Ax.un .not t86))).bind fun t87 =>
 (guarded [(0,t83)] (some (0,false)) (M.pure t87)).bind fun t88 =>
 (guarded [(0,t88)] (some (0,true)) (M.lift (Ax.faddr 5 t1))).bind fun t89 =>
 (guarded [(0,t88)] (some (0,true)) (mload none t89)).bind fun t90 =>
 (guarded [(0,t88)] (some (0,true)) (M.lift (Ax.bin .neq t90 (V.int .i64 0)))).bind fun t91 =>
 (guarded [(0,t83)] (some (0,false)) (M.lift (Ax.pick t88 t91 (V.bool false)))).bind fun t92 =>
 (M.lift (Ax.pick t83 (V.bool true) t92)).bind fun t93 =>
 (guarded [(0,t93)] (some (0,false)) (M.pure t7)).bind fun t95 =>
 (guarded [(0,t93)] (some (0,false)) (G zae [t95,(V.int .u8 98)])).bind fun t96 =>
 (guarded [(0,t93)] (some (0,false)) (M.lift (Ax.un .not t96))).bind fun t97 =>
 (guarded [(0,t93)] (some (0,false)) (M.pure t97)).bind fun t98 =>
 (guarded [(0,t98)] (some (0,true)) (M.lift (Ax.faddr 6 t1))).bind fun t99 =>
 (guarded [(0,t98)] (some (0,true)) (mload none t99)).bind fun t100 =>
 (guarded [(0,t98)] (some (0,true)) (M.lift (vlen t100))).bind fun t101 =>
 (guarded [(0,t98)] (some (0,true)) (M.lift (Ax.bin .gtr t101 (V.int .i64 0)))).bind fun t102 =>
 (guarded [(0,t93)] (some (0,false)) (M.lift (Ax.pick t98 t102 (V.bool false)))).bind fun t103 =>
 (M.lift (Ax.pick t93 (V.bool true) t103)).bind fun t104 =>
 M.ite t104
 (M.pure (.ret [(V.bool false)]))
 ((M.lift (Ax.faddr 4 t1)).bind fun t105 =>
 (mload none t105).bind fun t106 =>
 (M.lift (Ax.bin .lss t106 (V.int .i64 256))).bind fun t107 =>
 M.join (M.ite t107
 ((M.lift (Ax.faddr 4 t1)).bind fun t108 =>
 (mload none t108).bind fun t109 =>
 (M.lift (Ax.faddr 2 t1)).bind fun t110 =>
 (mload none t110).bind fun t111 =>
 (M.lift (Ax.cint .u64 t111)).bind fun t112 =>
 (M.lift (Ax.bin .shr t109 t112)).bind fun t113 =>
 (M.lift (Ax.bin .and t113 (V.int .i64 1))).bind fun t114 =>
 (M.lift (Ax.bin .eql t114 (V.int .i64 1))).bind fun t115 =>
 M.pure (.nrm [t115]))
 (M.pure (.nrm [(V.bool false)]))) fun L0 =>
 (M.lift (Ax.faddr 0 t1)).bind fun t116 =>
 (mload none t116).bind fun t117 =>
 M.blk 0 (
 (M.lift (Ax.bin .eql t117 (V.int .i64 4))).bind fun t119 =>
 M.ite t119
 ((M.lift (Ax.faddr 4 t1)).bind fun t120 =>
 (mload none t120).bind fun t121 =>
 (M.lift (Ax.bin .lss t121 (V.int .i64 3))).bind fun t122 =>
 (guarded [(0,t122)] (some (0,true)) (M.lift (Ax.faddr 6 t1))).bind fun t124 =>
 (guarded [(0,t122)] (some (0,true)) (mload none t124)).bind fun t125 =>
 (guarded [(0,t122)] (some (0,true)) (M.lift (vlen t125))).bind fun t126 =>
 (guarded [(0,t122)] (some (0,true)) (M.lift (Ax.bin .eql t126 (V.int .i64 4)))).bind fun t127 =>
 (M.lift (Ax.pick t122 t127 (V.bool false))).bind fun t128 =>
 M.pure (.ret [t128]))
 ((M.lift (Ax.bin .eql t117 (V.int .i64 5))).bind fun t130 =>
 M.ite t130
 ((M.lift (Ax.faddr 4 t1)).bind fun t131 =>
 (mload none t131).bind fun t132 =>
 (M.lift (Ax.bin .lss t132 (V.int .i64 4))).bind fun t133 =>
 (guarded [(0,t133)] (some (0,true)) (M.lift (Ax.faddr 5 t1))).bind fun t135 =>
 (guarded [(0,t133)] (some (0,true)) (mload none t135)).bind fun t136 =>
 (guarded [(0,t133)] (some (0,true)) (M.lift (Ax.bin .lss t136 (V.int .i64 8)))).bind fun t137 =>
 (M.lift (Ax.pick t133 t137 (V.bool false))).bind fun t138 =>
 M.pure (.ret [t138]))
 ((M.lift (Ax.bin .eql t117 (V.int .i64 7))).bind fun t140 =>
 M.join (M.ite t140
 (M.pure (.nrm [t140]))
 ((M.lift (Ax.bin .eql t117 (V.int .i64 21))).bind fun t141 =>
 M.pure (.nrm [t141]))) fun L1 =>
 M.ite (L1.getD 0 .undef)
 ((M.lift (Ax.faddr 4 t1)).bind fun t142 =>
 (mload none t142).bind fun t143 =>
 (M.lift (Ax.bin .lss t143 (V.int .i64 32))).bind fun t144 =>
 (guarded [(0,t144)] (some (0,true)) (M.lift (Ax.faddr 6 t1))).bind fun t146 =>
 (guarded [(0,t144)] (some (0,true)) (mload none t146)).bind fun t147 =>
 (guarded [(0,t144)] (some (0,true)) (M.lift (vlen t147))).bind fun t148 =>
 (guarded [(0,t144)] (some (0,true)) (M.lift (Ax.bin .gtr t148 (V.int .i64 0)))).bind fun t149 =>
 (M.lift (Ax.pick t144 t149 (V.bool false))).bind fun t150 =>
 M.pure (.ret [t150]))
 ((M.lift (Ax.bin .eql t117 (V.int .i64 17))).bind fun t152 =>
 M.ite t152
 ((M.lift (Ax.faddr 4 t1)).bind fun t153 =>
 (mload none t153).bind fun t154 =>
 (M.lift (Ax.bin .lss t154 (V.int .i64 256))).bind fun t155 =>
 (guarded [(0,t155)] (some (0,true)) (M.pure (L0.getD 0 .undef))).bind fun t157 =>
 (M.lift (Ax.pick t155 t157 (V.bool false))).bind fun t158 =>
 (guarded [(0,t158)] (some (0,true)) (M.lift (Ax.faddr 5 t1))).bind fun t160 =>
 (guarded [(0,t158)] (some (0,true)) (mload none t160)).bind fun t161 =>
 (guarded [(0,t158)] (some (0,true)) (M.lift (Ax.faddr 3 t1))).bind fun t162 =>
 (guarded [(0,t158)] (some (0,true)) (mload none t162)).bind fun t163 =>
 (guarded [(0,t158)] (some (0,true)) (M.lift (Ax.bin .geq t161 t163))).bind fun t164 =>
 (M.lift (Ax.pick t158 t164 (V.bool false))).bind fun t165 =>
 (guarded [(0,t165)] (some (0,true)) (mload (some 7) t1)).bind fun t167 =>
 (guarded [(0,t165)] (some (0,true)) (G zbF [t167])).bind fun t168 =>
 (M.lift (Ax.pick t165 t168 (V.bool false))).bind fun t169 =>
 M.pure (.ret [t169]))
 ((M.lift (Ax.bin .eql t117 (V.int .i64 18))).bind fun t171 =>
 M.ite t171
 ((M.lift (Ax.faddr 4 t1)).bind fun t172 =>
 (mload none t172).bind fun t173 =>
 (G zah [t173,(V.int .i64 1),(V.int .i64 13)]).bind fun t174 =>
 (guarded [(0,t174)] (some (0,true)) (M.lift (Ax.faddr 5 t1))).bind fun t176 =>
 (guarded [(0,t174)] (some (0,true)) (mload none t176)).bind fun t177 =>
 (guarded [(0,t174)] (some (0,true)) (M.lift (Ax.bin .leq t177 (V.int .i64 9)))).bind fun t178 =>
 (M.lift (Ax.pick t174 t178 (V.bool false))).bind fun t179 =>
 M.pure (.ret [t179]))
 ((M.lift (Ax.bin .eql t117 (V.int .i64 19))).bind fun t181 =>
 M.ite t181
 ((M.lift (Ax.faddr 4 t1)).bind fun t182 =>
 (mload none t182).bind fun t183 =>
 (M.lift (Ax.bin .lss t183 (V.int .i64 256))).bind fun t184 =>
 (guarded [(0,t184)] (some (0,true)) (M.pure (L0.getD 0 .undef))).bind fun t186 =>
 (M.lift (Ax.pick t184 t186 (V.bool false))).bind fun t187 =>
 (guarded [(0,t187)] (some (0,true)) (M.lift (Ax.faddr 5 t1))).bind fun t189 =>
 (guarded [(0,t187)] (some (0,true)) (mload none t189)).bind fun t190 =>
 (guarded [(0,t187)] (some (0,true)) (M.lift (Ax.bin .leq t190 (V.int .i64 63)))).bind fun t191 =>
 (M.lift (Ax.pick t187 t191 (V.bool false))).bind fun t192 =>
 M.pure (.ret [t192]))
 ((M.lift (Ax.bin .eql t117 (V.int .i64 20))).bind fun t194 =>
 M.ite t194
 ((M.lift (Ax.faddr 4 t1)).bind fun t195 =>
 (mload none t195).bind fun t196 =>
 (M.lift (Ax.bin .lss t196 (V.int .i64 256))).bind fun t197 =>
 (guarded [(0,t197)] (some (0,true)) (M.pure (L0.getD 0 .undef))).bind fun t199 =>
 (guarded [(0,t197)] (some (0,true)) (M.lift (Ax.un .not t199))).bind fun t200 =>
 (M.lift (Ax.pick t197 t200 (V.bool false))).bind fun t201 =>
 M.pure (.ret [t201]))
 ((M.lift (Ax.bin .eql t117 (V.int .i64 24))).bind fun t203 =>
 M.ite t203
 ((M.lift (Ax.faddr 6 t1)).bind fun t204 =>
 (mload none t204).bind fun t205 =>
 (M.lift (vlen t205)).bind fun t206 =>
 (M.lift (Ax.bin .eql t206 (V.int .i64 4))).bind fun t207 =>
 M.pure (.ret [t207]))
 (M.pure (.nrm [])))))))))) fun _ =>
 M.pure (.ret [(V.bool true)])))
def ir_palanquinref16_Good:Fn':=(T zak).getD noF
theorem tb_palanquinref16_Good:T zak = some ir_palanquinref16_Good:=by kernel_rfl
theorem eq_palanquinref16_Good (G:Sem') (t0:V):execK G ir_palanquinref16_Good.rv ir_palanquinref16_Good.body [] [] (params 0 [t0]) = f_palanquinref16_Good G t0:=by kernel_rfl
def zfL (G:Sem'):List V → M V
 | [t0]=>fin (f_palanquinref16_Good G t0)
 | _=>M.fail
theorem znI {g:Sem'} (hg:Sims g (sem T)) (args:List V):Sim (zfL g args) (sem T zak args):=by
 unfold zfL;split
 ·exact zaf tb_palanquinref16_Good (Nat.le_of_ble_eq_true (by kernel_rfl)) hg (eq_palanquinref16_Good g _)
 ·exact zaa
def f_palanquinref16_Bytes (G:Sem') (t0:V):M Res :=
 (mbox zad t0).bind fun t1 =>
 (mload (some 7) t1).bind fun t5 =>
 (G zak [t5]).bind fun t6 =>
 (M.lift (Ax.un .not t6)).bind fun t7 =>
 M.ite t7
 (M.pure (.ret [V.nils,(V.int .i64 1)]))
 ((M.lift (Ax.faddr 0 t1)).bind fun t8 =>
 (mload none t8).bind fun t9 =>
 (M.lift (Ax.cint .u8 t9)).bind fun t10 =>
 (M.lift (Ax.faddr 1 t1)).bind fun t11 =>
 (mload none t11).bind fun t12 =>
 (M.lift (Ax.cint .u8 t12)).bind fun t13 =>
 (M.lift (Ax.faddr 2 t1)).bind fun t14 =>
 (mload none t14).bind fun t15 =>
 (M.lift (Ax.cint .u8 t15)).bind fun t16 =>
 (mslit zaj 3 [(V.int .u8 0)] [(0,1,t10),(1,1,t13),(2,1,t16)]).bind fun t17 =>
 (M.lift (Ax.faddr 3 t1)).bind fun t19 =>
 (mload none t19).bind fun t20 =>
 (M.lift (Ax.cint .u64 t20)).bind fun t21 =>
 (G zaD [t17,t21,(V.int .i64 2)]).bind fun t22 =>
 (M.lift (Ax.faddr 4 t1)).bind fun t24 =>
 (mload none t24).bind fun t25 =>
 (M.lift (Ax.cint .u64 t25)).bind fun t26 =>
 (G zaD [t22,t26,(V.int .i64 2)]).bind fun t27 =>
 (M.lift (Ax.faddr 5 t1)).bind fun t29 =>
 (mload none t29).bind fun t30 =>
 (M.lift (Ax.cint .u64 t30)).bind fun t31 =>
 (G zaD [t27,t31,(V.int .i64 2)]).bind fun t32 =>
 (M.lift (Ax.faddr 6 t1)).bind fun t34 =>
 (mload none t34).bind fun t35 =>
 (M.lift (vlen t35)).bind fun t36 =>
 (M.lift (Ax.cint .u64 t36)).bind fun t37 =>
 (M.lift (Ax.faddr 6 t1)).bind fun t39 =>
 (mload none t39).bind fun t40 =>
 M.getH.bind fun h0 =>
 (G zaD [t32,t37,(V.int .i64 2)]).bind fun t38 =>
 M.getH.bind fun h0' =>
 (M.unch t39 h0 h0').bind fun _ =>
 (mappend zaj 1 1 t38 t40).bind fun t41 =>
 M.pure (.ret [t41,(V.int .i64 0)]))
def ir_palanquinref16_Bytes:Fn':=(T zaQ).getD noF
theorem tb_palanquinref16_Bytes:T zaQ = some ir_palanquinref16_Bytes:=by kernel_rfl
theorem eq_palanquinref16_Bytes (G:Sem') (t0:V):execK G ir_palanquinref16_Bytes.rv ir_palanquinref16_Bytes.body [] [] (params 0 [t0]) = f_palanquinref16_Bytes G t0:=by kernel_rfl
def zfq (G:Sem'):List V → M V
 | [t0]=>fin (f_palanquinref16_Bytes G t0)
 | _=>M.fail
theorem znt {g:Sem'} (hg:Sims g (sem T)) (args:List V):Sim (zfq g args) (sem T zaQ args):=by
 unfold zfq;split
 ·exact zaf tb_palanquinref16_Bytes (Nat.le_of_ble_eq_true (by kernel_rfl)) hg (eq_palanquinref16_Bytes g _)
 ·exact zaa
def f_palanquinref1_U_0 (G:Sem') (t1 t6:V) (L:List V):M Res :=
 (M.lift (Ax.bin .geq (L.getD 1 .undef) (V.int .i64 0))).bind fun t15 =>
 M.ite t15
 (M.blk 1 (
 (M.lift (Ax.bin .mul (V.int .i64 8) (L.getD 1 .undef))).bind fun t21 =>
 (M.lift (Ax.cint .u64 t21)).bind fun t22 =>
 (M.lift (Ax.bin .shr t1 t22)).bind fun t23 =>
 (M.lift (Ax.cint .u8 t23)).bind fun t24 =>
 (mslit zaj 1 [(V.int .u8 0)] [(0,1,t24)]).bind fun t25 =>
 (mappend zaj 1 1 (L.getD 0 .undef) t25).bind fun t26 =>
 M.pure (.nrm [t26])) fun L0 =>
 (M.lift (Ax.bin .sub (L.getD 1 .undef) (V.int .i64 1))).bind fun t17 =>
 M.pure (.nrm [(L0.getD 0 .undef),t17]))
 (M.pure (.ex 0 [(L.getD 0 .undef)]))
def f_palanquinref1_U (G:Sem') (t0 t1 t2:V):M Res :=
 (mslit zaj 0 [(V.int .u8 0)] []).bind fun t9 =>
 (mappend zaj 1 1 t9 t0).bind fun t11 =>
 (M.lift (Ax.bin .sub t2 (V.int .i64 1))).bind fun t13 =>
 M.blk 0 (
 M.iter (f_palanquinref1_U_0 G t1 V.nils) [t11,t13]) fun L1 =>
 M.pure (.ret [(L1.getD 0 .undef)])
def ir_palanquinref1_U:Fn':=(T zaD).getD noF
theorem tb_palanquinref1_U:T zaD = some ir_palanquinref1_U:=by kernel_rfl
theorem eq_palanquinref1_U (G:Sem') (t0 t1 t2:V):execK G ir_palanquinref1_U.rv ir_palanquinref1_U.body [] [] (params 0 [t0,t1,t2]) = f_palanquinref1_U G t0 t1 t2:=by kernel_rfl
def zit (G:Sem'):List V → M V
 | [t0,t1,t2]=>fin (f_palanquinref1_U G t0 t1 t2)
 | _=>M.fail
theorem zsE {g:Sem'} (hg:Sims g (sem T)) (args:List V):Sim (zit g args) (sem T zaD args):=by
 unfold zit;split
 ·exact zaf tb_palanquinref1_U (Nat.le_of_ble_eq_true (by kernel_rfl)) hg (eq_palanquinref1_U g _ _ _)
 ·exact zaa
def zm8 (G:Sem') (t0:V):M Res :=
 (M.lift (Ax.nilck t0)).bind fun t4 =>
 (M.lift (Ax.faddr 0 t4)).bind fun t5 =>
 (mload none t5).bind fun t6 =>
 M.pure (.ret [t6])
def zhZ:Fn':=(T zcf).getD noF
theorem zsl:T zcf = some zhZ:=by kernel_rfl
theorem ztd (G:Sem') (t0:V):execK G zhZ.rv zhZ.body [] [] (params 0 [t0]) = zm8 G t0:=by kernel_rfl
def zjm (G:Sem'):List V → M V
 | [t0]=>fin (zm8 G t0)
 | _=>M.fail
theorem zur {g:Sem'} (hg:Sims g (sem T)) (args:List V):Sim (zjm g args) (sem T zcf args):=by
 unfold zjm;split
 ·exact zaf zsl (Nat.le_of_ble_eq_true (by kernel_rfl)) hg (ztd g _)
 ·exact zaa
def f_slots_Good_0 (G:Sem') (t8 t1:V) (L:List V):M Res :=
 (M.lift (Ax.bin .lss (L.getD 0 .undef) (V.int .i64 8))).bind fun t10 =>
 M.ite t10
 (M.blk 1 (
 (M.lift (Ax.index 8 1 none t8 (L.getD 0 .undef))).bind fun t12 =>
 (M.lift (Ax.faddr 0 t1)).bind fun t14 =>
 (M.lift (Ax.iaddr (some 8) 1 t14 (L.getD 0 .undef))).bind fun t15 =>
 (mload none t15).bind fun t16 =>
 (M.lift (Ax.un .not t16)).bind fun t17 =>
 M.ite t17
 ((M.lift (Ax.bin .neq t12 (V.int .i64 0))).bind fun t19 =>
 M.ite t19
 (M.pure (.ret [(V.bool false)]))
 (M.pure (.ex 1 [])))
 ((mload (some 16) t1).bind fun t21 =>
 (G zbM [t21,t12]).bind fun t23 =>
 (M.lift (Ax.ext 0 t23)).bind fun t24 =>
 (M.lift (Ax.ext 1 t23)).bind fun t25 =>
 (M.lift (Ax.bin .neq t24 (L.getD 0 .undef))).bind fun t28 =>
 (guarded [(0,t28)] (some (0,false)) (M.pure t12)).bind fun t30 =>
 (guarded [(0,t28)] (some (0,false)) (G zb8 [t30])).bind fun t31 =>
 (guarded [(0,t28)] (some (0,false)) (M.lift (Ax.un .not t31))).bind fun t32 =>
 (M.lift (Ax.pick t28 (V.bool true) t32)).bind fun t33 =>
 M.ite t33
 (M.pure (.ret [(V.bool false)]))
 (M.pure (.nrm [])))) fun _ =>
 (M.lift (Ax.bin .add (L.getD 0 .undef) (V.int .i64 1))).bind fun t34 =>
 M.pure (.nrm [t34]))
 (M.pure (.ex 0 []))
def f_slots_Good (G:Sem') (t0:V):M Res :=
 (mbox zav t0).bind fun t1 =>
 (M.lift (Ax.faddr 8 t1)).bind fun t7 =>
 (mload (some 8) t7).bind fun t8 =>
 M.blk 0 (
 M.iter (f_slots_Good_0 G t8 t1) [(V.int .i64 0)]) fun _ =>
 M.pure (.ret [(V.bool true)])
def ir_slots_Good:Fn':=(T zbs).getD noF
theorem tb_slots_Good:T zbs = some ir_slots_Good:=by kernel_rfl
theorem eq_slots_Good (G:Sem') (t0:V):execK G ir_slots_Good.rv ir_slots_Good.body [] [] (params 0 [t0]) = f_slots_Good G t0:=by kernel_rfl
def zoM (G:Sem'):List V → M V
 | [t0]=>fin (f_slots_Good G t0)
 | _=>M.fail
theorem zAp {g:Sem'} (hg:Sims g (sem T)) (args:List V):Sim (zoM g args) (sem T zbs args):=by
 unfold zoM;split
 ·exact zaf tb_slots_Good (Nat.le_of_ble_eq_true (by kernel_rfl)) hg (eq_slots_Good g _)
 ·exact zaa
def zt5 (G:Sem') (t0:V):M Res :=
 (mbox zbX t0).bind fun t1 =>
 (M.lift (Ax.faddr 0 t1)).bind fun t3 =>
 (mload none t3).bind fun t4 =>
 (M.lift (Ax.bin .lss t4 (V.int .i64 0))).bind fun t5 =>
 (guarded [(0,t5)] (some (0,false)) (M.lift (Ax.faddr 0 t1))).bind fun t7 =>
 (guarded [(0,t5)] (some (0,false)) (mload none t7)).bind fun t8 =>
 (guarded [(0,t5)] (some (0,false)) (M.lift (Ax.bin .gtr t8 (V.int .i64 65535)))).bind fun t9 =>
 (M.lift (Ax.pick t5 (V.bool true) t9)).bind fun t10 =>
 M.ite t10
 (M.pure (.ret [(V.bool false)]))
 ((M.lift (Ax.faddr 1 t1)).bind fun t11 =>
 (mload none t11).bind fun t12 =>
 (M.lift (Ax.un .not t12)).bind fun t13 =>
 M.ite t13
 ((mload (some 6) t1).bind fun t14 =>
 (M.lift (Ax.faddr 0 t1)).bind fun t15 =>
 (mload none t15).bind fun t16 =>
 (M.lift (Ax.build [(V.int .i64 0),(V.bool false),(V.int .i64 0),(V.int .i64 0),(V.int .i64 0),(V.int .i64 0)] [(0,1,t16)])).bind fun t17 =>
 (M.lift (eqr (.st [.int,.bool,.int,.int,.int,.int]) false t14 t17)).bind fun t18 =>
 M.pure (.ret [t18]))
 ((M.lift (Ax.faddr 2 t1)).bind fun t19 =>
 (mload none t19).bind fun t20 =>
 (M.lift (Ax.faddr 0 t1)).bind fun t21 =>
 (mload none t21).bind fun t22 =>
 (M.lift (Ax.bin .gtr t20 t22)).bind fun t23 =>
 (guarded [(0,t23)] (some (0,true)) (M.lift (Ax.faddr 2 t1))).bind fun t25 =>
 (guarded [(0,t23)] (some (0,true)) (mload none t25)).bind fun t26 =>
 (guarded [(0,t23)] (some (0,true)) (M.lift (Ax.bin .leq t26 (V.int .i64 65535)))).bind fun t27 =>
 (M.lift (Ax.pick t23 t27 (V.bool false))).bind fun t28 =>
 (guarded [(0,t28)] (some (0,true)) (M.lift (Ax.faddr 3 t1))).bind fun t30 =>
 (guarded [(0,t28)] (some (0,true)) (mload none t30)).bind fun t31 =>
 (guarded [(0,t28)] (some (0,true)) (M.lift (Ax.bin .geq t31 (V.int .i64 1)))).bind fun t32 =>
 (M.lift (Ax.pick t28 t32 (V.bool false))).bind fun t33 =>
 (guarded [(0,t33)] (some (0,true)) (M.lift (Ax.faddr 3 t1))).bind fun t35 =>
 (guarded [(0,t33)] (some (0,true)) (mload none t35)).bind fun t36 =>
 (guarded [(0,t33)] (some (0,true)) (M.lift (Ax.bin .leq t36 (V.int .i64 255)))).bind fun t37 =>
 (M.lift (Ax.pick t33 t37 (V.bool false))).bind fun t38 =>
 (guarded [(0,t38)] (some (0,true)) (M.lift (Ax.faddr 4 t1))).bind fun t40 =>
 (guarded [(0,t38)] (some (0,true)) (mload none t40)).bind fun t41 =>
 (guarded [(0,t38)] (some (0,true)) (M.lift (Ax.faddr 3 t1))).bind fun t42 =>
 (guarded [(0,t38)] (some (0,true)) (mload none t42)).bind fun t43 =>
 (guarded [(0,t38)] (some (0,true)) (M.lift (Ax.bin .andNot t41 t43))).bind fun t44 =>
 (guarded [(0,t38)] (some (0,true)) (M.lift (Ax.bin .eql t44 (V.int .i64 0)))).bind fun t45 =>
 (M.lift (Ax.pick t38 t45 (V.bool false))).bind fun t46 =>
 (guarded [(0,t46)] (some (0,true)) (M.lift (Ax.faddr 4 t1))).bind fun t48 =>
 (guarded [(0,t46)] (some (0,true)) (mload none t48)).bind fun t49 =>
 (guarded [(0,t46)] (some (0,true)) (M.lift (Ax.faddr 3 t1))).bind fun t50 =>
 (guarded [(0,t46)] (some (0,true)) (mload none t50)).bind fun t51 =>
 (guarded [(0,t46)] (some (0,true)) (M.lift (Ax.bin .neq t49 t51))).bind fun t52 =>
 (M.lift (Ax.pick t46 t52 (V.bool false))).bind fun t53 =>
 M.pure (.ret [t53])))
def zmx:Fn':=(T zcX).getD noF
theorem zyz:T zcX = some zmx:=by kernel_rfl
theorem zzF (G:Sem') (t0:V):execK G zmx.rv zmx.body [] [] (params 0 [t0]) = zt5 G t0:=by kernel_rfl
def zoZ (G:Sem'):List V → M V
 | [t0]=>fin (zt5 G t0)
 | _=>M.fail
theorem zAC {g:Sem'} (hg:Sims g (sem T)) (args:List V):Sim (zoZ g args) (sem T zcX args):=by
 unfold zoZ;split
 ·exact zaf zyz (Nat.le_of_ble_eq_true (by kernel_rfl)) hg (zzF g _)
 ·exact zaa
def zxs (G:Sem') (t10 t2:V) (L:List V):M Res :=
 (M.lift (Ax.bin .lss (L.getD 1 .undef) (V.int .i64 8))).bind fun t12 =>
 M.ite t12
 (M.blk 1 (
 (M.lift (Ax.index 8 1 none t10 (L.getD 1 .undef))).bind fun t14 =>
 M.join (M.ite t14
 ((M.lift (Ax.bin .shl (V.int .i64 1) (L.getD 1 .undef))).bind fun t18 =>
 (M.lift (Ax.bin .or (L.getD 0 .undef) t18)).bind fun t19 =>
 M.pure (.nrm [t19]))
 (M.pure (.nrm [(L.getD 0 .undef)]))) fun L0 =>
 M.pure (.nrm [(L0.getD 0 .undef)])) fun L1 =>
 (M.lift (Ax.bin .add (L.getD 1 .undef) (V.int .i64 1))).bind fun t20 =>
 M.pure (.nrm [(L1.getD 0 .undef),t20]))
 (M.pure (.ex 0 [(L.getD 0 .undef)]))
def ztT (G:Sem') (t0:V):M Res :=
 (mbox zav t0).bind fun t1 =>
 (mload (some 16) t1).bind fun t6 =>
 (G zbs [t6]).bind fun t7 =>
 (M.lift (Ax.un .not t7)).bind fun t8 =>
 M.ite t8
 (M.pure (.ret [(V.int .i64 0)]))
 ((M.lift (Ax.faddr 0 t1)).bind fun t9 =>
 (mload (some 8) t9).bind fun t10 =>
 M.blk 0 (
 M.iter (zxs G t10 (V.int .i64 0)) [(V.int .i64 0),(V.int .i64 0)]) fun L2 =>
 M.pure (.ret [(L2.getD 0 .undef)]))
def zml:Fn':=(T zdm).getD noF
theorem zyn:T zdm = some zml:=by kernel_rfl
theorem zzt (G:Sem') (t0:V):execK G zml.rv zml.body [] [] (params 0 [t0]) = ztT G t0:=by kernel_rfl
def zoL (G:Sem'):List V → M V
 | [t0]=>fin (ztT G t0)
 | _=>M.fail
theorem zAo {g:Sem'} (hg:Sims g (sem T)) (args:List V):Sim (zoL g args) (sem T zdm args):=by
 unfold zoL;split
 ·exact zaf zyn (Nat.le_of_ble_eq_true (by kernel_rfl)) hg (zzt g _)
 ·exact zaa
def f_post_Counts_One (G:Sem') (t0 t1:V):M Res :=
 (M.lift (Ax.bin .geq t1 (V.int .i64 0))).bind fun t5 =>
 (guarded [(0,t5)] (some (0,true)) (M.pure t1)).bind fun t7 =>
 (guarded [(0,t5)] (some (0,true)) (M.pure t0)).bind fun t8 =>
 (guarded [(0,t5)] (some (0,true)) (M.lift (Ax.nilck t8))).bind fun t9 =>
 (guarded [(0,t5)] (some (0,true)) (M.lift (Ax.faddr 0 t9))).bind fun t10 =>
 (guarded [(0,t5)] (some (0,true)) (mload none t10)).bind fun t11 =>
 (guarded [(0,t5)] (some (0,true)) (M.lift (vlen t11))).bind fun t12 =>
 (guarded [(0,t5)] (some (0,true)) (M.lift (Ax.bin .lss t7 t12))).bind fun t13 =>
 (M.lift (Ax.pick t5 t13 (V.bool false))).bind fun t14 =>
 M.join (M.ite t14
 ((M.lift (Ax.nilck t0)).bind fun t16 =>
 (M.lift (Ax.faddr 0 t16)).bind fun t17 =>
 (mload none t17).bind fun t18 =>
 (M.lift (Ax.iaddr none 1 t18 t1)).bind fun t20 =>
 (G zaT [t20,(V.int .i64 1)]).bind fun t21 =>
 M.pure (.nrm []))
 (M.pure (.nrm []))) fun _ =>
 M.pure (.ret [])
def ir_post_Counts_One:Fn':=(T zax).getD noF
theorem tb_post_Counts_One:T zax = some ir_post_Counts_One:=by kernel_rfl
theorem eq_post_Counts_One (G:Sem') (t0 t1:V):execK G ir_post_Counts_One.rv ir_post_Counts_One.body [] [] (params 0 [t0,t1]) = f_post_Counts_One G t0 t1:=by kernel_rfl
def zis (G:Sem'):List V → M V
 | [t0,t1]=>fin (f_post_Counts_One G t0 t1)
 | _=>M.fail
theorem zsD {g:Sem'} (hg:Sims g (sem T)) (args:List V):Sim (zis g args) (sem T zax args):=by
 unfold zis;split
 ·exact zaf tb_post_Counts_One (Nat.le_of_ble_eq_true (by kernel_rfl)) hg (eq_post_Counts_One g _ _)
 ·exact zaa
def f_desk_Desk_where_0 (G:Sem') (t1 t0:V) (L:List V):M Res :=
 (M.lift (Ax.bin .lss (L.getD 0 .undef) (V.int .i64 4))).bind fun t11 =>
 M.ite t11
 (M.blk 1 (
 (M.lift (Ax.nilck t0)).bind fun t16 =>
 (M.lift (Ax.faddr 0 t16)).bind fun t17 =>
 (M.lift (Ax.iaddr (some 4) 367 t17 (L.getD 0 .undef))).bind fun t18 =>
 (M.lift (Ax.faddr 0 t18)).bind fun t19 =>
 (M.lift (Ax.faddr 0 t19)).bind fun t20 =>
 (mload (some 16) t20).bind fun t21 =>
 (G zb9 [t21,t1]).bind fun t23 =>
 (M.lift (Ax.ext 0 t23)).bind fun t24 =>
 (M.lift (Ax.ext 1 t23)).bind fun t25 =>
 M.ite t25
 ((M.lift (Ax.nilck t0)).bind fun t29 =>
 (M.lift (Ax.faddr 0 t29)).bind fun t30 =>
 (M.lift (Ax.iaddr (some 4) 367 t30 (L.getD 0 .undef))).bind fun t31 =>
 M.pure (.ret [t31,t24,(V.bool true)]))
 (M.pure (.nrm []))) fun _ =>
 (M.lift (Ax.bin .add (L.getD 0 .undef) (V.int .i64 1))).bind fun t33 =>
 M.pure (.nrm [t33]))
 (M.pure (.ex 0 []))
def f_desk_Desk_where (G:Sem') (t0 t1:V):M Res :=
 M.blk 0 (
 M.iter (f_desk_Desk_where_0 G t1 t0) [(V.int .i64 0)]) fun _ =>
 M.pure (.ret [V.nilp,(V.int .i64 0),(V.bool false)])
def ir_desk_Desk_where:Fn':=(T za9).getD noF
theorem tb_desk_Desk_where:T za9 = some ir_desk_Desk_where:=by kernel_rfl
theorem eq_desk_Desk_where (G:Sem') (t0 t1:V):execK G ir_desk_Desk_where.rv ir_desk_Desk_where.body [] [] (params 0 [t0,t1]) = f_desk_Desk_where G t0 t1:=by kernel_rfl
def ziz (G:Sem'):List V → M V
 | [t0,t1]=>fin (f_desk_Desk_where G t0 t1)
 | _=>M.fail
theorem zsK {g:Sem'} (hg:Sims g (sem T)) (args:List V):Sim (ziz g args) (sem T za9 args):=by
 unfold ziz;split
 ·exact zaf tb_desk_Desk_where (Nat.le_of_ble_eq_true (by kernel_rfl)) hg (eq_desk_Desk_where g _ _)
 ·exact zaa
def zlU (G:Sem') (t0 t1 t2:V):M Res :=
 (M.lift (Ax.nilck t1)).bind fun t9 =>
 (M.lift (Ax.faddr 0 t9)).bind fun t10 =>
 (mload (some 39) t10).bind fun t11 =>
 (M.lift (Ax.nilck t0)).bind fun t14 =>
 (M.lift (Ax.faddr 1468 t14)).bind fun t15 =>
 (mload none t15).bind fun t16 =>
 (G zf1 [t11,t2,t16]).bind fun t17 =>
 (M.lift (Ax.ext 0 t17)).bind fun t18 =>
 (M.lift (Ax.nilck t1)).bind fun t20 =>
 (M.lift (Ax.faddr 0 t20)).bind fun t21 =>
 (mstore 39 t21 t18).bind fun _ =>
 (M.lift (Ax.ext 1 t17)).bind fun t19 =>
 M.pure (.ret [])
def zhs:Fn':=(T zb5).getD noF
theorem zq5:T zb5 = some zhs:=by kernel_rfl
theorem zr9 (G:Sem') (t0 t1 t2:V):execK G zhs.rv zhs.body [] [] (params 0 [t0,t1,t2]) = zlU G t0 t1 t2:=by kernel_rfl
def ziD (G:Sem'):List V → M V
 | [t0,t1,t2]=>fin (zlU G t0 t1 t2)
 | _=>M.fail
theorem zsO {g:Sem'} (hg:Sims g (sem T)) (args:List V):Sim (ziD g args) (sem T zb5 args):=by
 unfold ziD;split
 ·exact zaf zq5 (Nat.le_of_ble_eq_true (by kernel_rfl)) hg (zr9 g _ _ _)
 ·exact zaa
def zA7 (G:Sem') (t0:V):M Res :=
 (M.lift (vlen t0)).bind fun t4 =>
 (M.lift (Ax.bin .geq t4 (V.int .i64 2))).bind fun t5 =>
 (guarded [(0,t5)] (some (0,true)) (M.pure t0)).bind fun t7 =>
 (guarded [(0,t5)] (some (0,true)) (M.lift (Ax.iaddr none 1 t7 (V.int .i64 1)))).bind fun t8 =>
 (guarded [(0,t5)] (some (0,true)) (mload none t8)).bind fun t9 =>
 (guarded [(0,t5)] (some (0,true)) (M.lift (Ax.bin .geq t9 (V.int .u8 192)))).bind fun t10 =>
 (M.lift (Ax.pick t5 t10 (V.bool false))).bind fun t11 =>
 (guarded [(0,t11)] (some (0,true)) (M.pure t0)).bind fun t13 =>
 (guarded [(0,t11)] (some (0,true)) (M.lift (Ax.iaddr none 1 t13 (V.int .i64 1)))).bind fun t14 =>
 (guarded [(0,t11)] (some (0,true)) (mload none t14)).bind fun t15 =>
 (guarded [(0,t11)] (some (0,true)) (M.lift (Ax.bin .leq t15 (V.int .u8 223)))).bind fun t16 =>
 (M.lift (Ax.pick t11 t16 (V.bool false))).bind fun t17 =>
 M.pure (.ret [t17])
def zs3:Fn':=(T zij).getD noF
theorem zDF:T zij = some zs3:=by kernel_rfl
theorem zEv (G:Sem') (t0:V):execK G zs3.rv zs3.body [] [] (params 0 [t0]) = zA7 G t0:=by kernel_rfl
def zwC (G:Sem'):List V → M V
 | [t0]=>fin (zA7 G t0)
 | _=>M.fail
theorem zFm {g:Sem'} (hg:Sims g (sem T)) (args:List V):Sim (zwC g args) (sem T zij args):=by
 unfold zwC;split
 ·exact zaf zDF (Nat.le_of_ble_eq_true (by kernel_rfl)) hg (zEv g _)
 ·exact zaa
def zop (G:Sem') (t55 t54 t0 t1 t2:V) (L:List V):M Res :=
 (M.lift (Ax.bin .lss (L.getD 0 .undef) t55)).bind fun t57 =>
 M.ite t57
 (M.blk 4 (
 (M.lift (Ax.iaddr none 2 t54 (L.getD 0 .undef))).bind fun t58 =>
 (mload (some 2) t58).bind fun t59 =>
 (mbox zl3 (V.agg [(V.int .u32 0),(V.int .u8 0)])).bind fun t13 =>
 (mstore 2 t13 t59).bind fun _ =>
 (M.lift (Ax.faddr 0 t13)).bind fun t63 =>
 (mload none t63).bind fun t64 =>
 (G zcQ [t0,t1,t2,t64]).bind fun t65 =>
 M.pure (.nrm [])) fun _ =>
 (M.lift (Ax.bin .add (L.getD 0 .undef) (V.int .i64 1))).bind fun t66 =>
 M.pure (.nrm [t66]))
 (M.pure (.ex 3 []))
def zoo (G:Sem') (t71 t70 t0 t1 t2 t11:V) (L:List V):M Res :=
 (M.lift (Ax.bin .lss (L.getD 0 .undef) t71)).bind fun t73 =>
 M.ite t73
 (M.blk 6 (
 (M.lift (Ax.iaddr none 1 t70 (L.getD 0 .undef))).bind fun t74 =>
 (mload none t74).bind fun t75 =>
 (mload (some 16) t11).bind fun t80 =>
 (G zg0 [t80]).bind fun t81 =>
 (G zdz [t0,t1,t2,t75,t81]).bind fun t82 =>
 M.pure (.nrm [])) fun _ =>
 (M.lift (Ax.bin .add (L.getD 0 .undef) (V.int .i64 1))).bind fun t83 =>
 M.pure (.nrm [t83]))
 (M.pure (.ex 5 []))
def zon (G:Sem') (t29 t28 t0 t1 t2:V) (L:List V):M Res :=
 (M.lift (Ax.bin .lss (L.getD 0 .undef) t29)).bind fun t31 =>
 M.ite t31
 (M.blk 1 (
 (M.lift (Ax.iaddr none 16 t28 (L.getD 0 .undef))).bind fun t32 =>
 (mload (some 16) t32).bind fun t33 =>
 (mbox za2 (V.agg [(V.int .i64 0),(V.int .u32 0),(V.int .u32 0),(V.int .u64 0),(V.int .u32 0),(V.int .u32 0),(V.int .u32 0),V.nils,V.nils,V.nils,(V.int .i64 0),(V.int .u32 0),V.nils,(V.int .i64 0),(V.int .i64 0),V.nils])).bind fun t11 =>
 (mstore 16 t11 t33).bind fun _ =>
 (M.lift (Ax.faddr 0 t11)).bind fun t34 =>
 (mload none t34).bind fun t35 =>
 M.blk 2 (
 (M.lift (Ax.bin .eql t35 (V.int .i64 3))).bind fun t37 =>
 M.join (M.ite t37
 ((mload (some 16) t11).bind fun t41 =>
 (G zc9 [t0,t1,t2,t41]).bind fun t42 =>
 M.pure (.nrm []))
 ((M.lift (Ax.bin .eql t35 (V.int .i64 4))).bind fun t44 =>
 M.join (M.ite t44
 ((M.lift (Ax.faddr 2 t11)).bind fun t48 =>
 (mload none t48).bind fun t49 =>
 (G zcQ [t0,t1,t2,t49]).bind fun t50 =>
 M.pure (.nrm []))
 ((M.lift (Ax.bin .eql t35 (V.int .i64 5))).bind fun t52 =>
 M.join (M.ite t52
 ((M.lift (Ax.faddr 9 t11)).bind fun t53 =>
 (mload none t53).bind fun t54 =>
 (M.lift (vlen t54)).bind fun t55 =>
 M.blk 3 (
 M.iter (zop G t55 t54 t0 t1 t2) [(V.int .i64 0)]) fun _ =>
 M.pure (.nrm []))
 ((M.lift (Ax.bin .eql t35 (V.int .i64 6))).bind fun t68 =>
 M.join (M.ite t68
 ((M.lift (Ax.faddr 12 t11)).bind fun t69 =>
 (mload none t69).bind fun t70 =>
 (M.lift (vlen t70)).bind fun t71 =>
 M.blk 5 (
 M.iter (zoo G t71 t70 t0 t1 t2 t11) [(V.int .i64 0)]) fun _ =>
 M.pure (.nrm []))
 (M.pure (.nrm []))) fun _ =>
 M.pure (.nrm []))) fun _ =>
 M.pure (.nrm []))) fun _ =>
 M.pure (.nrm []))) fun _ =>
 M.pure (.nrm [])) fun _ =>
 M.pure (.nrm [])) fun _ =>
 (M.lift (Ax.bin .add (L.getD 0 .undef) (V.int .i64 1))).bind fun t84 =>
 M.pure (.nrm [t84]))
 (M.pure (.ex 0 []))
def zka (G:Sem') (t0 t1 t2 t3:V):M Res :=
 (G zfY [t3]).bind fun t18 =>
 (M.lift (Ax.ext 0 t18)).bind fun t19 =>
 (M.lift (Ax.ext 1 t18)).bind fun t20 =>
 (M.lift (Ax.bin .neq t20 (V.int .i64 0))).bind fun t22 =>
 M.ite t22
 ((M.lift (Ax.nilck t0)).bind fun t24 =>
 (M.lift (Ax.faddr 1534 t24)).bind fun t25 =>
 (mload none t25).bind fun t26 =>
 (G zax [t26,(V.int .i64 3)]).bind fun t27 =>
 M.pure (.ret []))
 ((M.lift (vlen t19)).bind fun t29 =>
 M.blk 0 (
 M.iter (zon G t29 t19 t0 t1 t2) [(V.int .i64 0)]) fun _ =>
 M.pure (.ret []))
def zgf:Fn':=(T zcB).getD noF
theorem zpe:T zcB = some zgf:=by kernel_rfl
theorem zpv (G:Sem') (t0 t1 t2 t3:V):execK G zgf.rv zgf.body [] [] (params 0 [t0,t1,t2,t3]) = zka G t0 t1 t2 t3:=by kernel_rfl
def zgQ (G:Sem'):List V → M V
 | [t0,t1,t2,t3]=>fin (zka G t0 t1 t2 t3)
 | _=>M.fail
theorem zpY {g:Sem'} (hg:Sims g (sem T)) (args:List V):Sim (zgQ g args) (sem T zcB args):=by
 unfold zgQ;split
 ·exact zaf zpe (Nat.le_of_ble_eq_true (by kernel_rfl)) hg (zpv g _ _ _ _)
 ·exact zaa
def zkS (G:Sem') (t0 t1 t2:V):M Res :=
 (mbox zkY (V.agg [(V.bool false),(V.int .i64 0),(V.int .u16 0),(V.int .u32 0),(V.int .u32 0),V.nils,(V.int .i64 0),V.nils,(V.int .i64 0),V.nils,(V.int .i64 0),(V.int .i64 0),(V.bool false),(V.bool false),(V.int .i64 0),(V.int .u16 0),(V.bool false),(V.int .i64 0),(V.int .i64 0),V.nils,(V.int .i64 0),V.nils,V.nils,(V.bool false),(V.int .u32 0),(V.bool false),(V.bool false),(V.bool false),V.nils,V.nils,V.nils])).bind fun t6 =>
 (G zgX [t2]).bind fun t24 =>
 (M.lift (Ax.ext 0 t24)).bind fun t25 =>
 (M.lift (Ax.ext 1 t24)).bind fun t26 =>
 (mbox zbC (V.agg [(V.bool false),(V.int .i64 0),(V.int .u16 0),(V.int .u32 0),(V.int .u32 0),V.nils,(V.int .i64 0),V.nils,(V.int .i64 0),V.nils])).bind fun t8 =>
 (mstore 10 t8 t25).bind fun _ =>
 (M.lift (Ax.bin .neq t26 (V.int .i64 0))).bind fun t28 =>
 M.ite t28
 ((M.lift (Ax.build [(V.bool false),(V.int .i64 0),(V.int .u16 0),(V.int .u32 0),(V.int .u32 0),V.nils,(V.int .i64 0),V.nils,(V.int .i64 0),V.nils,(V.int .i64 0),(V.int .i64 0),(V.bool false),(V.bool false),(V.int .i64 0),(V.int .u16 0),(V.bool false),(V.int .i64 0),(V.int .i64 0),V.nils,(V.int .i64 0),V.nils,V.nils,(V.bool false),(V.int .u32 0),(V.bool false),(V.bool false),(V.bool false),V.nils,V.nils,V.nils] [])).bind fun t29 =>
 (mstore 31 t6 t29).bind fun _ =>
 (mload (some 31) t6).bind fun r0 =>
 M.pure (.ret [r0,(V.int .i64 3)]))
 ((M.lift (Ax.faddr 4 t8)).bind fun t33 =>
 (mload none t33).bind fun t34 =>
 (G zcb [t0,t1,t34]).bind fun t35 =>
 (M.lift (Ax.ext 0 t35)).bind fun t36 =>
 (M.lift (Ax.ext 1 t35)).bind fun t37 =>
 (M.lift (Ax.un .not t37)).bind fun t39 =>
 M.ite t39
 ((M.lift (Ax.build [(V.bool false),(V.int .i64 0),(V.int .u16 0),(V.int .u32 0),(V.int .u32 0),V.nils,(V.int .i64 0),V.nils,(V.int .i64 0),V.nils,(V.int .i64 0),(V.int .i64 0),(V.bool false),(V.bool false),(V.int .i64 0),(V.int .u16 0),(V.bool false),(V.int .i64 0),(V.int .i64 0),V.nils,(V.int .i64 0),V.nils,V.nils,(V.bool false),(V.int .u32 0),(V.bool false),(V.bool false),(V.bool false),V.nils,V.nils,V.nils] [])).bind fun t40 =>
 (mstore 31 t6 t40).bind fun _ =>
 (mload (some 31) t6).bind fun r0 =>
 M.pure (.ret [r0,(V.int .i64 4)]))
 ((M.lift (Ax.faddr 9 t8)).bind fun t42 =>
 (mload none t42).bind fun t43 =>
 (G zeu [t43]).bind fun t44 =>
 (M.lift (Ax.ext 0 t44)).bind fun t45 =>
 (M.lift (Ax.ext 1 t44)).bind fun t46 =>
 (M.lift (Ax.ext 2 t44)).bind fun t47 =>
 (M.lift (Ax.ext 3 t44)).bind fun t48 =>
 (G zg9 [t45]).bind fun t51 =>
 (M.lift (Ax.ext 0 t51)).bind fun t52 =>
 (M.lift (Ax.ext 1 t51)).bind fun t53 =>
 (M.lift (Ax.ext 2 t51)).bind fun t54 =>
 (M.lift (Ax.ext 3 t51)).bind fun t55 =>
 (M.lift (Ax.bin .neq t48 (V.int .i64 0))).bind fun t57 =>
 (guarded [(0,t57)] (some (0,false)) (M.pure t55)).bind fun t59 =>
 (guarded [(0,t57)] (some (0,false)) (M.lift (Ax.un .not t59))).bind fun t60 =>
 (M.lift (Ax.pick t57 (V.bool true) t60)).bind fun t61 =>
 M.ite t61
 ((M.lift (Ax.build [(V.bool false),(V.int .i64 0),(V.int .u16 0),(V.int .u32 0),(V.int .u32 0),V.nils,(V.int .i64 0),V.nils,(V.int .i64 0),V.nils,(V.int .i64 0),(V.int .i64 0),(V.bool false),(V.bool false),(V.int .i64 0),(V.int .u16 0),(V.bool false),(V.int .i64 0),(V.int .i64 0),V.nils,(V.int .i64 0),V.nils,V.nils,(V.bool false),(V.int .u32 0),(V.bool false),(V.bool false),(V.bool false),V.nils,V.nils,V.nils] [])).bind fun t62 =>
 (mstore 31 t6 t62).bind fun _ =>
 (mload (some 31) t6).bind fun r0 =>
 M.pure (.ret [r0,(V.int .i64 5)]))
 ((M.lift (Ax.nilck t0)).bind fun t64 =>
 (M.lift (Ax.faddr 0 t64)).bind fun t65 =>
 (M.lift (Ax.faddr 16 t65)).bind fun t66 =>
 (M.lift (Ax.faddr 0 t66)).bind fun t67 =>
 (mload none t67).bind fun t68 =>
 (M.lift (Ax.bin .neq t54 t1)).bind fun t71 =>
 (guarded [(0,t71)] (some (0,false)) (M.pure t52)).bind fun t73 =>
 (guarded [(0,t71)] (some (0,false)) (M.pure t68)).bind fun t74 =>
 (guarded [(0,t71)] (some (0,false)) (M.lift (Ax.bin .neq t73 t74))).bind fun t75 =>
 (guarded [(0,t71)] (some (0,false)) (M.pure t75)).bind fun t76 =>
 (guarded [(0,t76)] (some (0,true)) (M.pure t52)).bind fun t77 =>
 (guarded [(0,t76)] (some (0,true)) (M.pure t68)).bind fun t78 =>
 (guarded [(0,t76)] (some (0,true)) (M.lift (Ax.bin .sub t78 (V.int .i64 1)))).bind fun t79 =>
 (guarded [(0,t76)] (some (0,true)) (M.lift (Ax.bin .neq t77 t79))).bind fun t80 =>
 (guarded [(0,t71)] (some (0,false)) (M.lift (Ax.pick t76 t80 (V.bool false)))).bind fun t81 =>
 (M.lift (Ax.pick t71 (V.bool true) t81)).bind fun t82 =>
 M.ite t82
 ((M.lift (Ax.build [(V.bool false),(V.int .i64 0),(V.int .u16 0),(V.int .u32 0),(V.int .u32 0),V.nils,(V.int .i64 0),V.nils,(V.int .i64 0),V.nils,(V.int .i64 0),(V.int .i64 0),(V.bool false),(V.bool false),(V.int .i64 0),(V.int .u16 0),(V.bool false),(V.int .i64 0),(V.int .i64 0),V.nils,(V.int .i64 0),V.nils,V.nils,(V.bool false),(V.int .u32 0),(V.bool false),(V.bool false),(V.bool false),V.nils,V.nils,V.nils] [])).bind fun t83 =>
 (mstore 31 t6 t83).bind fun _ =>
 (mload (some 31) t6).bind fun r0 =>
 M.pure (.ret [r0,(V.int .i64 6)]))
 ((mload (some 10) t8).bind fun t85 =>
 (G zgJ [t85,(V.int .i64 1)]).bind fun t86 =>
 (M.lift (Ax.ext 0 t86)).bind fun t87 =>
 (M.lift (Ax.ext 1 t86)).bind fun t88 =>
 (M.lift (Ax.un .not t88)).bind fun t90 =>
 M.ite t90
 ((M.lift (Ax.build [(V.bool false),(V.int .i64 0),(V.int .u16 0),(V.int .u32 0),(V.int .u32 0),V.nils,(V.int .i64 0),V.nils,(V.int .i64 0),V.nils,(V.int .i64 0),(V.int .i64 0),(V.bool false),(V.bool false),(V.int .i64 0),(V.int .u16 0),(V.bool false),(V.int .i64 0),(V.int .i64 0),V.nils,(V.int .i64 0),V.nils,V.nils,(V.bool false),(V.int .u32 0),(V.bool false),(V.bool false),(V.bool false),V.nils,V.nils,V.nils] [])).bind fun t91 =>
 (mstore 31 t6 t91).bind fun _ =>
 (mload (some 31) t6).bind fun r0 =>
 M.pure (.ret [r0,(V.int .i64 7)]))
 ((M.lift (Ax.nilck t0)).bind fun t95 =>
 (M.lift (Ax.faddr 39 t95)).bind fun t96 =>
 (M.lift (Ax.iaddr (some 8) 33 t96 t1)).bind fun t97 =>
 (M.lift (Ax.iaddr (some 3) 11 t97 t36)).bind fun t98 =>
 (mload (some 11) t98).bind fun t99 =>
 (mbox ziL (V.agg [(V.bool false),(V.int .u32 0),(V.int .i64 0),(V.int .i64 0),(V.int .i64 0),V.nils,(V.int .i64 0),V.nils,V.nils,(V.int .u32 0),V.nils])).bind fun t20 =>
 (mstore 11 t20 t99).bind fun _ =>
 (M.lift (Ax.faddr 3 t20)).bind fun t102 =>
 (mload (some 6) t102).bind fun t103 =>
 (G zev [t87,t103]).bind fun t104 =>
 (M.lift (Ax.ext 0 t104)).bind fun t105 =>
 (M.lift (Ax.ext 1 t104)).bind fun t106 =>
 (mbox zb7 (V.agg [(V.bool false),(V.bool false),(V.int .i64 0),(V.int .u16 0),(V.bool false),(V.int .i64 0),(V.int .i64 0),V.nils,(V.int .i64 0),V.nils,V.nils,(V.bool false),(V.int .u32 0),(V.bool false),(V.bool false),(V.bool false),V.nils,V.nils,V.nils])).bind fun t21 =>
 (mstore 19 t21 t105).bind fun _ =>
 (M.lift (Ax.bin .neq t106 (V.int .i64 0))).bind fun t108 =>
 M.ite t108
 ((M.lift (Ax.build [(V.bool false),(V.int .i64 0),(V.int .u16 0),(V.int .u32 0),(V.int .u32 0),V.nils,(V.int .i64 0),V.nils,(V.int .i64 0),V.nils,(V.int .i64 0),(V.int .i64 0),(V.bool false),(V.bool false),(V.int .i64 0),(V.int .u16 0),(V.bool false),(V.int .i64 0),(V.int .i64 0),V.nils,(V.int .i64 0),V.nils,V.nils,(V.bool false),(V.int .u32 0),(V.bool false),(V.bool false),(V.bool false),V.nils,V.nils,V.nils] [])).bind fun t109 =>
 (mstore 31 t6 t109).bind fun _ =>
 (mload (some 31) t6).bind fun r0 =>
 M.pure (.ret [r0,(V.int .i64 8)]))
 ((M.lift (Ax.faddr 10 t20)).bind fun t110 =>
 (mload none t110).bind fun t111 =>
 (M.lift (Ax.faddr 2 t8)).bind fun t112 =>
 (mload none t112).bind fun t113 =>
 (G zfK [t111,t113]).bind fun t114 =>
 M.ite t114
 ((M.lift (Ax.build [(V.bool false),(V.int .i64 0),(V.int .u16 0),(V.int .u32 0),(V.int .u32 0),V.nils,(V.int .i64 0),V.nils,(V.int .i64 0),V.nils,(V.int .i64 0),(V.int .i64 0),(V.bool false),(V.bool false),(V.int .i64 0),(V.int .u16 0),(V.bool false),(V.int .i64 0),(V.int .i64 0),V.nils,(V.int .i64 0),V.nils,V.nils,(V.bool false),(V.int .u32 0),(V.bool false),(V.bool false),(V.bool false),V.nils,V.nils,V.nils] [])).bind fun t115 =>
 (mstore 31 t6 t115).bind fun _ =>
 (mload (some 31) t6).bind fun r0 =>
 M.pure (.ret [r0,(V.int .i64 9)]))
 ((mload (some 10) t8).bind fun t116 =>
 (mload (some 19) t21).bind fun t119 =>
 (M.lift (Ax.build [(V.bool false),(V.int .i64 0),(V.int .u16 0),(V.int .u32 0),(V.int .u32 0),V.nils,(V.int .i64 0),V.nils,(V.int .i64 0),V.nils,(V.int .i64 0),(V.int .i64 0),(V.bool false),(V.bool false),(V.int .i64 0),(V.int .u16 0),(V.bool false),(V.int .i64 0),(V.int .i64 0),V.nils,(V.int .i64 0),V.nils,V.nils,(V.bool false),(V.int .u32 0),(V.bool false),(V.bool false),(V.bool false),V.nils,V.nils,V.nils] [(0,10,t116),(10,1,t36),(11,1,t52),(12,19,t119)])).bind fun t120 =>
 (mstore 31 t6 t120).bind fun _ =>
 (mload (some 31) t6).bind fun r0 =>
 M.pure (.ret [r0,(V.int .i64 0)]))))))))
def zgE:Fn':=(T zcN).getD noF
theorem zpQ:T zcN = some zgE:=by kernel_rfl
theorem zqp (G:Sem') (t0 t1 t2:V):execK G zgE.rv zgE.body [] [] (params 0 [t0,t1,t2]) = zkS G t0 t1 t2:=by kernel_rfl
def zhC (G:Sem'):List V → M V
 | [t0,t1,t2]=>fin (zkS G t0 t1 t2)
 | _=>M.fail
theorem zrd {g:Sem'} (hg:Sims g (sem T)) (args:List V):Sim (zhC g args) (sem T zcN args):=by
 unfold zhC;split
 ·exact zaf zpQ (Nat.le_of_ble_eq_true (by kernel_rfl)) hg (zqp g _ _ _)
 ·exact zaa
end Go.Ax.Cc
/- CiS3 -/
namespace Go.Ax.Cc
open Go.Proofs
def zqi (G:Sem') (t8 t0 t1 t2 t7:V) (L:List V):M Res :=
 (M.lift (Ax.bin .lss (L.getD 0 .undef) (V.int .i64 8))).bind fun t62 =>
 M.ite t62
 (M.blk 1 (
 (M.lift (Ax.nilck t1)).bind fun t67 =>
 (M.lift (Ax.faddr 303 t67)).bind fun t68 =>
 (M.lift (Ax.iaddr (some 8) 8 t68 (L.getD 0 .undef))).bind fun t69 =>
 (M.lift (Ax.iaddr (some 8) 1 t69 t2)).bind fun t70 =>
 (mload none t70).bind fun t71 =>
 (M.lift (eqr .ptr false t71 V.nilp)).bind fun t73 =>
 (guarded [(0,t73)] (some (0,false)) (M.lift (Ax.faddr 11 t7))).bind fun t75 =>
 (guarded [(0,t73)] (some (0,false)) (mload none t75)).bind fun t76 =>
 (guarded [(0,t73)] (some (0,false)) (M.pure t1)).bind fun t77 =>
 (guarded [(0,t73)] (some (0,false)) (M.pure (L.getD 0 .undef))).bind fun t78 =>
 (guarded [(0,t73)] (some (0,false)) (M.lift (Ax.nilck t77))).bind fun t79 =>
 (guarded [(0,t73)] (some (0,false)) (M.lift (Ax.faddr 0 t79))).bind fun t80 =>
 (guarded [(0,t73)] (some (0,false)) (M.lift (Ax.faddr 30 t80))).bind fun t81 =>
 (guarded [(0,t73)] (some (0,false)) (M.lift (Ax.iaddr (some 8) 1 t81 t78))).bind fun t82 =>
 (guarded [(0,t73)] (some (0,false)) (mload none t82)).bind fun t83 =>
 (guarded [(0,t73)] (some (0,false)) (M.lift (Ax.bin .lss t76 t83))).bind fun t84 =>
 (M.lift (Ax.pick t73 (V.bool true) t84)).bind fun t85 =>
 M.ite t85
 (M.pure (.ex 1 []))
 ((M.lift (Ax.faddr 10 t7)).bind fun t88 =>
 (mload none t88).bind fun t89 =>
 (M.lift (Ax.faddr 0 t7)).bind fun t90 =>
 (mload (some 10) t90).bind fun t91 =>
 (M.lift (Ax.faddr 12 t7)).bind fun t92 =>
 (mload (some 19) t92).bind fun t93 =>
 (M.lift (Ax.nilck t8)).bind fun t95 =>
 (M.lift (Ax.faddr 3 t95)).bind fun t96 =>
 (mload (some 6) t96).bind fun t97 =>
 (M.lift (Ax.nilck t8)).bind fun t99 =>
 (M.lift (Ax.faddr 9 t99)).bind fun t100 =>
 (mload none t100).bind fun t101 =>
 (M.lift (Ax.nilck t0)).bind fun t103 =>
 (M.lift (Ax.faddr 1468 t103)).bind fun t104 =>
 (mload none t104).bind fun t105 =>
 (G zc6 [t71,t89,t91,t93,t97,t101,t105]).bind fun t106 =>
 (M.lift (Ax.ext 0 t106)).bind fun t107 =>
 (mbox zvc (V.agg [V.nils,(V.int .i64 0),(V.bool false)])).bind fun t11 =>
 (mstore 3 t11 t107).bind fun _ =>
 (M.lift (Ax.ext 1 t106)).bind fun t108 =>
 M.blk 2 (
 (M.lift (Ax.bin .neq t108 (V.int .i64 0))).bind fun t111 =>
 M.join (M.ite t111
 (M.pure (.nrm []))
 ((M.lift (Ax.faddr 1 t11)).bind fun t113 =>
 (mload none t113).bind fun t114 =>
 (M.lift (Ax.bin .eql t114 (V.int .i64 0))).bind fun t115 =>
 M.join (M.ite t115
 ((M.lift (Ax.nilck t1)).bind fun t119 =>
 (M.lift (Ax.faddr 0 t119)).bind fun t120 =>
 (M.lift (Ax.faddr 0 t120)).bind fun t121 =>
 (M.lift (Ax.faddr 8 t121)).bind fun t122 =>
 (M.lift (Ax.iaddr (some 8) 1 t122 (L.getD 0 .undef))).bind fun t123 =>
 (mload none t123).bind fun t124 =>
 (M.lift (Ax.faddr 0 t11)).bind fun t125 =>
 (mload none t125).bind fun t126 =>
 (G za1 [t0,t124,(V.int .i64 1),t126]).bind fun t127 =>
 M.pure (.nrm []))
 ((M.lift (Ax.faddr 2 t11)).bind fun t129 =>
 (mload none t129).bind fun t130 =>
 M.join (M.ite t130
 ((M.lift (Ax.faddr 10 t7)).bind fun t134 =>
 (mload none t134).bind fun t135 =>
 M.getH.bind fun h0 =>
 (G zcf [t71]).bind fun t137 =>
 M.getH.bind fun h0' =>
 (M.unch t134 h0 h0').bind fun _ =>
 (G zbU [t0,t1,t2,t135,t137]).bind fun t138 =>
 M.pure (.nrm []))
 (M.pure (.nrm []))) fun _ =>
 M.pure (.nrm []))) fun _ =>
 M.pure (.nrm []))) fun _ =>
 M.pure (.nrm [])) fun _ =>
 M.pure (.nrm []))) fun _ =>
 (M.lift (Ax.bin .add (L.getD 0 .undef) (V.int .i64 1))).bind fun t139 =>
 M.pure (.nrm [t139]))
 (M.pure (.ex 0 []))
def zlS (G:Sem') (t0 t1 t2 t3:V):M Res :=
 (mbox zkY t3).bind fun t7 =>
 (M.lift (Ax.faddr 10 t7)).bind fun t15 =>
 (mload none t15).bind fun t16 =>
 (M.lift (Ax.nilck t1)).bind fun t17 =>
 (M.lift (Ax.faddr 39 t17)).bind fun t18 =>
 (M.lift (Ax.iaddr (some 8) 33 t18 t2)).bind fun t19 =>
 (M.lift (Ax.iaddr (some 3) 11 t19 t16)).bind fun t20 =>
 (M.lift (Ax.nilck t20)).bind fun t23 =>
 (M.lift (Ax.faddr 10 t23)).bind fun t24 =>
 (mload none t24).bind fun t25 =>
 (M.lift (Ax.faddr 0 t7)).bind fun t26 =>
 (M.lift (Ax.faddr 2 t26)).bind fun t27 =>
 (mload none t27).bind fun t28 =>
 (G zgK [t25,t28]).bind fun t29 =>
 (M.lift (Ax.nilck t20)).bind fun t30 =>
 (M.lift (Ax.faddr 10 t30)).bind fun t31 =>
 (mstore 1 t31 t29).bind fun _ =>
 (M.lift (Ax.faddr 12 t7)).bind fun t32 =>
 (M.lift (Ax.faddr 4 t32)).bind fun t33 =>
 (mload none t33).bind fun t34 =>
 M.join (M.ite t34
 ((M.lift (Ax.faddr 12 t7)).bind fun t36 =>
 (M.lift (Ax.faddr 5 t36)).bind fun t37 =>
 (mload (some 6) t37).bind fun t38 =>
 (M.lift (Ax.nilck t20)).bind fun t39 =>
 (M.lift (Ax.faddr 3 t39)).bind fun t40 =>
 (mstore 6 t40 t38).bind fun _ =>
 (M.lift (Ax.nilck t20)).bind fun t43 =>
 (M.lift (Ax.faddr 3 t43)).bind fun t44 =>
 (M.lift (Ax.faddr 1 t44)).bind fun t45 =>
 (mload none t45).bind fun t46 =>
 (M.lift (Ax.cint .u64 t46)).bind fun t47 =>
 (M.lift (Ax.bin .shl (V.int .u32 1) t47)).bind fun t48 =>
 (M.lift (Ax.bin .sub t48 (V.int .u32 1))).bind fun t49 =>
 (M.lift (Ax.nilck t20)).bind fun t50 =>
 (M.lift (Ax.faddr 9 t50)).bind fun t51 =>
 (mstore 1 t51 t49).bind fun _ =>
 M.pure (.nrm []))
 (M.pure (.nrm []))) fun _ =>
 (M.lift (Ax.faddr 12 t7)).bind fun t52 =>
 (M.lift (Ax.faddr 11 t52)).bind fun t53 =>
 (mload none t53).bind fun t54 =>
 M.join (M.ite t54
 ((M.lift (Ax.faddr 12 t7)).bind fun t56 =>
 (M.lift (Ax.faddr 12 t56)).bind fun t57 =>
 (mload none t57).bind fun t58 =>
 (M.lift (Ax.nilck t20)).bind fun t59 =>
 (M.lift (Ax.faddr 9 t59)).bind fun t60 =>
 (mstore 1 t60 t58).bind fun _ =>
 M.pure (.nrm []))
 (M.pure (.nrm []))) fun _ =>
 M.blk 0 (
 M.iter (zqi G t20 t0 t1 t2 t7) [(V.int .i64 0)]) fun _ =>
 M.pure (.ret [])
def zhq:Fn':=(T zc8).getD noF
theorem zq3:T zc8 = some zhq:=by kernel_rfl
theorem zr7 (G:Sem') (t0 t1 t2 t3:V):execK G zhq.rv zhq.body [] [] (params 0 [t0,t1,t2,t3]) = zlS G t0 t1 t2 t3:=by kernel_rfl
def ziB (G:Sem'):List V → M V
 | [t0,t1,t2,t3]=>fin (zlS G t0 t1 t2 t3)
 | _=>M.fail
theorem zsM {g:Sem'} (hg:Sims g (sem T)) (args:List V):Sim (ziB g args) (sem T zc8 args):=by
 unfold ziB;split
 ·exact zaf zq3 (Nat.le_of_ble_eq_true (by kernel_rfl)) hg (zr7 g _ _ _ _)
 ·exact zaa
def f_note_Parse (G:Sem') (t0:V):M Res :=
 (mbox zeI t0).bind fun t1 =>
 (mbox zag (V.agg [(V.int .i64 0),(V.int .i64 0),(V.int .i64 0),(V.int .i64 0),(V.int .i64 0),(V.int .i64 0),V.nils])).bind fun t2 =>
 (mload none t1).bind fun t8 =>
 (M.lift (vlen t8)).bind fun t9 =>
 (M.lift (Ax.bin .lss t9 (V.int .i64 11))).bind fun t10 =>
 M.ite t10
 ((M.lift (Ax.build [(V.int .i64 0),(V.int .i64 0),(V.int .i64 0),(V.int .i64 0),(V.int .i64 0),(V.int .i64 0),V.nils] [])).bind fun t11 =>
 (mstore 7 t2 t11).bind fun _ =>
 (mload (some 7) t2).bind fun r0 =>
 M.pure (.ret [r0,(V.int .i64 3)]))
 ((M.pure (.fn zbd [t1])).bind fun t12 =>
 (mload none t1).bind fun t13 =>
 (M.lift (Ax.iaddr none 1 t13 (V.int .i64 0))).bind fun t14 =>
 (mload none t14).bind fun t15 =>
 (M.lift (Ax.cint .i64 t15)).bind fun t16 =>
 (mload none t1).bind fun t17 =>
 (M.lift (Ax.iaddr none 1 t17 (V.int .i64 1))).bind fun t18 =>
 (mload none t18).bind fun t19 =>
 (M.lift (Ax.cint .i64 t19)).bind fun t20 =>
 (mload none t1).bind fun t21 =>
 (M.lift (Ax.iaddr none 1 t21 (V.int .i64 2))).bind fun t22 =>
 (mload none t22).bind fun t23 =>
 (M.lift (Ax.cint .i64 t23)).bind fun t24 =>
 M.getH.bind fun h0 =>
 (callv G t12 [(V.int .i64 3)]).bind fun t26 =>
 M.getH.bind fun h0' =>
 (M.unch t22 h0 h0').bind fun _ =>
 (M.unch t1 h0 h0').bind fun _ =>
 (M.unch t18 h0 h0').bind fun _ =>
 (M.unch t1 h0 h0').bind fun _ =>
 (M.unch t14 h0 h0').bind fun _ =>
 (M.unch t1 h0 h0').bind fun _ =>
 M.getH.bind fun h1 =>
 (callv G t12 [(V.int .i64 5)]).bind fun t28 =>
 M.getH.bind fun h1' =>
 (M.unch t22 h1 h1').bind fun _ =>
 (M.unch t1 h1 h1').bind fun _ =>
 (M.unch t18 h1 h1').bind fun _ =>
 (M.unch t1 h1 h1').bind fun _ =>
 (M.unch t14 h1 h1').bind fun _ =>
 (M.unch t1 h1 h1').bind fun _ =>
 M.getH.bind fun h2 =>
 (callv G t12 [(V.int .i64 7)]).bind fun t30 =>
 M.getH.bind fun h2' =>
 (M.unch t22 h2 h2').bind fun _ =>
 (M.unch t1 h2 h2').bind fun _ =>
 (M.unch t18 h2 h2').bind fun _ =>
 (M.unch t1 h2 h2').bind fun _ =>
 (M.unch t14 h2 h2').bind fun _ =>
 (M.unch t1 h2 h2').bind fun _ =>
 (M.lift (Ax.build [(V.int .i64 0),(V.int .i64 0),(V.int .i64 0),(V.int .i64 0),(V.int .i64 0),(V.int .i64 0),V.nils] [(0,1,t16),(1,1,t20),(2,1,t24),(3,1,t26),(4,1,t28),(5,1,t30)])).bind fun t31 =>
 (mbox zag (V.agg [(V.int .i64 0),(V.int .i64 0),(V.int .i64 0),(V.int .i64 0),(V.int .i64 0),(V.int .i64 0),V.nils])).bind fun t5 =>
 (mstore 7 t5 t31).bind fun _ =>
 (mload none t1).bind fun t34 =>
 (M.lift (zbr .sl 1 t34 (some (V.int .i64 11)) none none)).bind fun t35 =>
 M.getH.bind fun h3 =>
 (callv G t12 [(V.int .i64 9)]).bind fun t33 =>
 M.getH.bind fun h3' =>
 (M.unch t1 h3 h3').bind fun _ =>
 M.blk 0 (
 (M.lift (Ax.bin .gtr t33 (V.int .i64 200))).bind fun t38 =>
 M.ite t38
 ((M.lift (Ax.build [(V.int .i64 0),(V.int .i64 0),(V.int .i64 0),(V.int .i64 0),(V.int .i64 0),(V.int .i64 0),V.nils] [])).bind fun t39 =>
 (mstore 7 t2 t39).bind fun _ =>
 (mload (some 7) t2).bind fun r0 =>
 M.pure (.ret [r0,(V.int .i64 4)]))
 ((M.lift (vlen t35)).bind fun t43 =>
 (M.lift (Ax.bin .gtr t33 t43)).bind fun t44 =>
 M.ite t44
 ((M.lift (Ax.build [(V.int .i64 0),(V.int .i64 0),(V.int .i64 0),(V.int .i64 0),(V.int .i64 0),(V.int .i64 0),V.nils] [])).bind fun t45 =>
 (mstore 7 t2 t45).bind fun _ =>
 (mload (some 7) t2).bind fun r0 =>
 M.pure (.ret [r0,(V.int .i64 3)]))
 ((M.lift (vlen t35)).bind fun t49 =>
 (M.lift (Ax.bin .lss t33 t49)).bind fun t50 =>
 M.ite t50
 ((M.lift (Ax.build [(V.int .i64 0),(V.int .i64 0),(V.int .i64 0),(V.int .i64 0),(V.int .i64 0),(V.int .i64 0),V.nils] [])).bind fun t51 =>
 (mstore 7 t2 t51).bind fun _ =>
 (mload (some 7) t2).bind fun r0 =>
 M.pure (.ret [r0,(V.int .i64 2)]))
 (M.pure (.nrm []))))) fun _ =>
 (G zaI [t35]).bind fun t53 =>
 (M.lift (Ax.faddr 6 t5)).bind fun t54 =>
 (mstore 1 t54 t53).bind fun _ =>
 (mload (some 7) t5).bind fun t55 =>
 (G zce [t55]).bind fun t56 =>
 (M.lift (Ax.un .not t56)).bind fun t57 =>
 M.ite t57
 ((M.lift (Ax.build [(V.int .i64 0),(V.int .i64 0),(V.int .i64 0),(V.int .i64 0),(V.int .i64 0),(V.int .i64 0),V.nils] [])).bind fun t58 =>
 (mstore 7 t2 t58).bind fun _ =>
 (mload (some 7) t2).bind fun r0 =>
 M.pure (.ret [r0,(V.int .i64 2)]))
 ((mload (some 7) t5).bind fun t59 =>
 (mstore 7 t2 t59).bind fun _ =>
 (mload (some 7) t2).bind fun r0 =>
 M.pure (.ret [r0,(V.int .i64 0)])))
def ir_note_Parse:Fn':=(T zcp).getD noF
theorem tb_note_Parse:T zcp = some ir_note_Parse:=by kernel_rfl
theorem eq_note_Parse (G:Sem') (t0:V):execK G ir_note_Parse.rv ir_note_Parse.body [] [] (params 0 [t0]) = f_note_Parse G t0:=by kernel_rfl
def zo0 (G:Sem'):List V → M V
 | [t0]=>fin (f_note_Parse G t0)
 | _=>M.fail
theorem zAD {g:Sem'} (hg:Sims g (sem T)) (args:List V):Sim (zo0 g args) (sem T zcp args):=by
 unfold zo0;split
 ·exact zaf tb_note_Parse (Nat.le_of_ble_eq_true (by kernel_rfl)) hg (eq_note_Parse g _)
 ·exact zaa
def f_desk_Desk_no (G:Sem') (t0 t1 t2 t3:V):M Res :=
 (M.lift (Ax.build [(V.int .i64 0),(V.int .i64 0),(V.int .i64 0),(V.int .i64 0),(V.int .i64 0),(V.int .i64 0),V.nils] [(0,1,(V.int .i64 18)),(4,1,t2),(5,1,t3)])).bind fun t12 =>
 (G zaV [t0,t1,t12]).bind fun t13 =>
 M.pure (.ret [])
def ir_desk_Desk_no:Fn':=(T zbx).getD noF
theorem tb_desk_Desk_no:T zbx = some ir_desk_Desk_no:=by kernel_rfl
theorem eq_desk_Desk_no (G:Sem') (t0 t1 t2 t3:V):execK G ir_desk_Desk_no.rv ir_desk_Desk_no.body [] [] (params 0 [t0,t1,t2,t3]) = f_desk_Desk_no G t0 t1 t2 t3:=by kernel_rfl
def zlx (G:Sem'):List V → M V
 | [t0,t1,t2,t3]=>fin (f_desk_Desk_no G t0 t1 t2 t3)
 | _=>M.fail
theorem zxi {g:Sem'} (hg:Sims g (sem T)) (args:List V):Sim (zlx g args) (sem T zbx args):=by
 unfold zlx;split
 ·exact zaf tb_desk_Desk_no (Nat.le_of_ble_eq_true (by kernel_rfl)) hg (eq_desk_Desk_no g _ _ _ _)
 ·exact zaa
def zrS (G:Sem') (t47 t8 t6:V) (L:List V):M Res :=
 (M.lift (Ax.bin .lss (L.getD 1 .undef) (V.int .i64 8))).bind fun t49 =>
 M.ite t49
 (M.blk 1 (
 (M.lift (Ax.index 8 1 none t47 (L.getD 1 .undef))).bind fun t51 =>
 M.join (M.ite t51
 ((M.lift (Ax.faddr 0 t8)).bind fun t55 =>
 (M.lift (Ax.faddr 8 t55)).bind fun t56 =>
 (M.lift (Ax.iaddr (some 8) 1 t56 (L.getD 1 .undef))).bind fun t57 =>
 (mload none t57).bind fun t58 =>
 (M.lift (Ax.cint .u8 t58)).bind fun t59 =>
 (mslit zaj 1 [(V.int .u8 0)] [(0,1,t59)]).bind fun t60 =>
 (mappend zaj 1 1 (L.getD 0 .undef) t60).bind fun t61 =>
 M.pure (.nrm [t61]))
 ((mslit zaj 1 [(V.int .u8 0)] [(0,1,(V.int .u8 255))]).bind fun t63 =>
 (mappend zaj 1 1 (L.getD 0 .undef) t63).bind fun t64 =>
 M.pure (.nrm [t64]))) fun L0 =>
 M.pure (.nrm [(L0.getD 0 .undef)])) fun L1 =>
 (M.lift (Ax.bin .add (L.getD 1 .undef) (V.int .i64 1))).bind fun t65 =>
 M.pure (.nrm [(L1.getD 0 .undef),t65]))
 (M.pure (.ex 0 [(L.getD 0 .undef)]))
def znj (G:Sem') (t0 t1 t2:V):M Res :=
 (mbox zag t2).bind fun t5 =>
 (M.lift (Ax.faddr 1 t5)).bind fun t16 =>
 (mload none t16).bind fun t17 =>
 (M.lift (Ax.nilck t0)).bind fun t18 =>
 (M.lift (Ax.faddr 0 t18)).bind fun t19 =>
 (M.lift (Ax.iaddr (some 4) 367 t19 t17)).bind fun t20 =>
 (M.lift (Ax.nilck t20)).bind fun t23 =>
 (M.lift (Ax.faddr 0 t23)).bind fun t24 =>
 (mload (some 39) t24).bind fun t25 =>
 (M.lift (Ax.nilck t0)).bind fun t28 =>
 (M.lift (Ax.faddr 1468 t28)).bind fun t29 =>
 (mload none t29).bind fun t30 =>
 (G zg5 [t25,t1,t30]).bind fun t31 =>
 (M.lift (Ax.ext 0 t31)).bind fun t32 =>
 (mbox zbS (V.agg [(V.bool false),(V.bool false),(V.bool false),(V.bool false),(V.bool false),(V.bool false),(V.bool false),(V.bool false),(V.int .i64 0),(V.int .i64 0),(V.int .i64 0),(V.int .i64 0),(V.int .i64 0),(V.int .i64 0),(V.int .i64 0),(V.int .i64 0),(V.int .i64 0),(V.bool false),(V.int .i64 0),(V.int .i64 0),(V.int .i64 0),(V.int .i64 0),(V.int .i64 0),(V.int .i64 0),(V.int .i64 0),(V.int .i64 0),(V.int .i64 0),(V.int .i64 0),(V.int .i64 0),(V.int .i64 0),(V.int .i64 0),(V.int .i64 0),(V.int .i64 0),(V.int .i64 0),(V.int .i64 0),(V.int .i64 0),(V.int .i64 0),(V.int .i64 0),(V.bool false)])).bind fun t8 =>
 (mstore 39 t8 t32).bind fun _ =>
 (M.lift (Ax.ext 1 t31)).bind fun t33 =>
 (M.lift (Ax.ext 2 t31)).bind fun t34 =>
 (M.lift (Ax.bin .neq t34 (V.int .i64 0))).bind fun t36 =>
 M.ite t36
 (M.pure (.ret [t34]))
 ((mload (some 39) t8).bind fun t39 =>
 (M.lift (Ax.nilck t20)).bind fun t40 =>
 (M.lift (Ax.faddr 0 t40)).bind fun t41 =>
 (mstore 39 t41 t39).bind fun _ =>
 (M.lift (Ax.faddr 0 t8)).bind fun t42 =>
 (mload (some 16) t42).bind fun t43 =>
 (G zdm [t43]).bind fun t44 =>
 (M.lift (Ax.faddr 0 t8)).bind fun t45 =>
 (M.lift (Ax.faddr 0 t45)).bind fun t46 =>
 (mload (some 8) t46).bind fun t47 =>
 M.blk 0 (
 M.iter (zrS G t47 t8 (V.int .i64 0)) [V.nils,(V.int .i64 0)]) fun L2 =>
 (M.lift (Ax.faddr 1 t5)).bind fun t68 =>
 (mload none t68).bind fun t69 =>
 (M.lift (Ax.faddr 16 t8)).bind fun t71 =>
 (M.lift (Ax.faddr 0 t71)).bind fun t72 =>
 (mload none t72).bind fun t73 =>
 M.getH.bind fun h0 =>
 (G zdr [t20]).bind fun t76 =>
 M.getH.bind fun h0' =>
 (M.unch t72 h0 h0').bind fun _ =>
 (M.unch t68 h0 h0').bind fun _ =>
 (M.lift (Ax.build [(V.int .i64 0),(V.int .i64 0),(V.int .i64 0),(V.int .i64 0),(V.int .i64 0),(V.int .i64 0),V.nils] [(0,1,(V.int .i64 17)),(1,1,t69),(2,1,t33),(3,1,t73),(4,1,t44),(5,1,t76),(6,1,(L2.getD 0 .undef))])).bind fun t78 =>
 (G zaV [t0,t1,t78]).bind fun t79 =>
 (M.lift (Ax.faddr 16 t8)).bind fun t84 =>
 (M.lift (Ax.faddr 0 t84)).bind fun t85 =>
 (mload none t85).bind fun t86 =>
 (M.lift (Ax.build [(V.int .i64 0),(V.int .i64 0),(V.int .i64 0),(V.int .i64 0),(V.int .i64 0),(V.int .i64 0),V.nils] [(0,1,(V.int .i64 19)),(2,1,t33),(3,1,t86),(4,1,t44),(5,1,t1)])).bind fun t89 =>
 (G zcD [t0,t20,t33,t89]).bind fun t90 =>
 M.pure (.ret [(V.int .i64 0)]))
def zia:Fn':=(T zcR).getD noF
theorem zsw:T zcR = some zia:=by kernel_rfl
theorem zto (G:Sem') (t0 t1 t2:V):execK G zia.rv zia.body [] [] (params 0 [t0,t1,t2]) = znj G t0 t1 t2:=by kernel_rfl
def zjz (G:Sem'):List V → M V
 | [t0,t1,t2]=>fin (znj G t0 t1 t2)
 | _=>M.fail
theorem zuE {g:Sem'} (hg:Sims g (sem T)) (args:List V):Sim (zjz g args) (sem T zcR args):=by
 unfold zjz;split
 ·exact zaf zsw (Nat.le_of_ble_eq_true (by kernel_rfl)) hg (zto g _ _ _)
 ·exact zaa
def zng (G:Sem') (t0 t1 t2 t3:V):M Res :=
 (mbox zag t3).bind fun t7 =>
 (M.lift (Ax.nilck t1)).bind fun t14 =>
 (M.lift (Ax.faddr 0 t14)).bind fun t15 =>
 (mload (some 39) t15).bind fun t16 =>
 (M.lift (Ax.nilck t1)).bind fun t19 =>
 (M.lift (Ax.faddr 0 t19)).bind fun t20 =>
 (M.lift (Ax.faddr 0 t20)).bind fun t21 =>
 (M.lift (Ax.faddr 8 t21)).bind fun t22 =>
 (M.lift (Ax.iaddr (some 8) 1 t22 t2)).bind fun t23 =>
 (mload none t23).bind fun t24 =>
 (mbox zbS (V.agg [(V.bool false),(V.bool false),(V.bool false),(V.bool false),(V.bool false),(V.bool false),(V.bool false),(V.bool false),(V.int .i64 0),(V.int .i64 0),(V.int .i64 0),(V.int .i64 0),(V.int .i64 0),(V.int .i64 0),(V.int .i64 0),(V.int .i64 0),(V.int .i64 0),(V.bool false),(V.int .i64 0),(V.int .i64 0),(V.int .i64 0),(V.int .i64 0),(V.int .i64 0),(V.int .i64 0),(V.int .i64 0),(V.int .i64 0),(V.int .i64 0),(V.int .i64 0),(V.int .i64 0),(V.int .i64 0),(V.int .i64 0),(V.int .i64 0),(V.int .i64 0),(V.int .i64 0),(V.int .i64 0),(V.int .i64 0),(V.int .i64 0),(V.int .i64 0),(V.bool false)])).bind fun t9 =>
 M.getH.bind fun h0 =>
 (mstore 39 t9 t16).bind fun _ =>
 M.getH.bind fun h0' =>
 (M.unch t23 h0 h0').bind fun _ =>
 (M.lift (Ax.faddr 0 t7)).bind fun t25 =>
 (mload none t25).bind fun t26 =>
 M.blk 0 (
 (M.lift (Ax.bin .eql t26 (V.int .i64 2))).bind fun t28 =>
 M.join (M.ite t28
 ((M.lift (Ax.nilck t1)).bind fun t32 =>
 (M.lift (Ax.faddr 0 t32)).bind fun t33 =>
 (mload (some 39) t33).bind fun t34 =>
 (M.lift (Ax.nilck t0)).bind fun t37 =>
 (M.lift (Ax.faddr 1468 t37)).bind fun t38 =>
 (mload none t38).bind fun t39 =>
 (G zf0 [t34,t24,t39]).bind fun t40 =>
 (M.lift (Ax.ext 0 t40)).bind fun t41 =>
 (M.lift (Ax.nilck t1)).bind fun t43 =>
 (M.lift (Ax.faddr 0 t43)).bind fun t44 =>
 (mstore 39 t44 t41).bind fun _ =>
 (M.lift (Ax.ext 1 t40)).bind fun t42 =>
 (mload (some 39) t9).bind fun t47 =>
 (G zch [t0,t1,t47]).bind fun t48 =>
 M.pure (.nrm [t42]))
 ((M.lift (Ax.bin .eql t26 (V.int .i64 3))).bind fun t50 =>
 M.join (M.ite t50
 ((M.lift (Ax.nilck t1)).bind fun t54 =>
 (M.lift (Ax.faddr 0 t54)).bind fun t55 =>
 (mload (some 39) t55).bind fun t56 =>
 (M.lift (Ax.faddr 2 t7)).bind fun t58 =>
 (mload none t58).bind fun t59 =>
 (M.lift (Ax.nilck t0)).bind fun t61 =>
 (M.lift (Ax.faddr 1468 t61)).bind fun t62 =>
 (mload none t62).bind fun t63 =>
 (G zg4 [t56,t24,t59,t63]).bind fun t64 =>
 (M.lift (Ax.ext 0 t64)).bind fun t65 =>
 (M.lift (Ax.nilck t1)).bind fun t67 =>
 (M.lift (Ax.faddr 0 t67)).bind fun t68 =>
 (mstore 39 t68 t65).bind fun _ =>
 (M.lift (Ax.ext 1 t64)).bind fun t66 =>
 (mload (some 39) t9).bind fun t71 =>
 (G zch [t0,t1,t71]).bind fun t72 =>
 M.pure (.nrm [t66]))
 ((M.lift (Ax.bin .eql t26 (V.int .i64 4))).bind fun t74 =>
 M.ite t74
 ((mload (some 7) t7).bind fun t77 =>
 (G zdx [t1,t2,t77]).bind fun t78 =>
 M.pure (.ret [t78]))
 ((M.lift (Ax.bin .eql t26 (V.int .i64 5))).bind fun t80 =>
 M.ite t80
 ((mload (some 7) t7).bind fun t84 =>
 (G zdy [t0,t1,t2,t84]).bind fun t85 =>
 M.pure (.ret [t85]))
 ((M.lift (Ax.bin .eql t26 (V.int .i64 6))).bind fun t87 =>
 M.join (M.ite t87
 ((M.lift (Ax.faddr 2 t7)).bind fun t90 =>
 (mload none t90).bind fun t91 =>
 (M.lift (Ax.nilck t1)).bind fun t92 =>
 (M.lift (Ax.faddr 303 t92)).bind fun t93 =>
 (M.lift (Ax.iaddr (some 8) 8 t93 t2)).bind fun t94 =>
 (M.lift (Ax.iaddr (some 8) 1 t94 t91)).bind fun t95 =>
 (mload none t95).bind fun t96 =>
 (M.lift (eqr .ptr false t96 V.nilp)).bind fun t97 =>
 M.ite t97
 (M.pure (.ret [(V.int .i64 6)]))
 ((M.lift (Ax.faddr 2 t7)).bind fun t100 =>
 (mload none t100).bind fun t101 =>
 (M.lift (Ax.nilck t1)).bind fun t102 =>
 (M.lift (Ax.faddr 303 t102)).bind fun t103 =>
 (M.lift (Ax.iaddr (some 8) 8 t103 t2)).bind fun t104 =>
 (M.lift (Ax.iaddr (some 8) 1 t104 t101)).bind fun t105 =>
 (mstore 1 t105 V.nilp).bind fun _ =>
 M.pure (.nrm [(V.int .i64 0)])))
 ((M.lift (Ax.bin .eql t26 (V.int .i64 7))).bind fun t107 =>
 M.ite t107
 ((mload (some 7) t7).bind fun t111 =>
 (G zdY [t0,t1,t2,t111]).bind fun t112 =>
 M.pure (.ret [t112]))
 ((M.lift (Ax.bin .eql t26 (V.int .i64 8))).bind fun t114 =>
 M.join (M.ite t114
 ((M.lift (Ax.nilck t1)).bind fun t118 =>
 (M.lift (Ax.faddr 0 t118)).bind fun t119 =>
 (mload (some 39) t119).bind fun t120 =>
 (M.lift (Ax.faddr 3 t7)).bind fun t122 =>
 (mload none t122).bind fun t123 =>
 (G zg6 [t120,t24,t123]).bind fun t124 =>
 (M.lift (Ax.ext 0 t124)).bind fun t125 =>
 (M.lift (Ax.nilck t1)).bind fun t128 =>
 (M.lift (Ax.faddr 0 t128)).bind fun t129 =>
 (mstore 39 t129 t125).bind fun _ =>
 (M.lift (Ax.ext 1 t124)).bind fun t126 =>
 (M.lift (Ax.ext 2 t124)).bind fun t127 =>
 M.join (M.ite t126
 ((M.lift (Ax.nilck t1)).bind fun t134 =>
 (M.lift (Ax.faddr 0 t134)).bind fun t135 =>
 (M.lift (Ax.faddr 16 t135)).bind fun t136 =>
 (M.lift (Ax.faddr 0 t136)).bind fun t137 =>
 (mload none t137).bind fun t138 =>
 (M.lift (Ax.build [(V.int .i64 0),(V.int .i64 0),(V.int .i64 0),(V.int .i64 0),(V.int .i64 0),(V.int .i64 0),V.nils] [(0,1,(V.int .i64 22)),(3,1,t138)])).bind fun t139 =>
 (G zcD [t0,t1,(V.int .i64 (-1)),t139]).bind fun t140 =>
 M.pure (.nrm []))
 (M.pure (.nrm []))) fun _ =>
 M.pure (.nrm [t127]))
 (M.pure (.nrm [(V.int .i64 0)]))) fun L1 =>
 M.pure (.nrm [(L1.getD 0 .undef)])))) fun L2 =>
 M.pure (.nrm [(L2.getD 0 .undef)]))))) fun L3 =>
 M.pure (.nrm [(L3.getD 0 .undef)]))) fun L4 =>
 M.pure (.nrm [(L4.getD 0 .undef)])) fun L5 =>
 M.pure (.ret [(L5.getD 0 .undef)])
def zh7:Fn':=(T zcP).getD noF
theorem zst:T zcP = some zh7:=by kernel_rfl
theorem ztl (G:Sem') (t0 t1 t2 t3:V):execK G zh7.rv zh7.body [] [] (params 0 [t0,t1,t2,t3]) = zng G t0 t1 t2 t3:=by kernel_rfl
def zjv (G:Sem'):List V → M V
 | [t0,t1,t2,t3]=>fin (zng G t0 t1 t2 t3)
 | _=>M.fail
theorem zuA {g:Sem'} (hg:Sims g (sem T)) (args:List V):Sim (zjv g args) (sem T zcP args):=by
 unfold zjv;split
 ·exact zaf zst (Nat.le_of_ble_eq_true (by kernel_rfl)) hg (ztl g _ _ _ _)
 ·exact zaa
def zzm (G:Sem') (t25 t6 t7 t1 t2 t4 t5:V) (L:List V):M Res :=
 (M.lift (Ax.bin .lss (L.getD 0 .undef) (V.int .i64 8))).bind fun t27 =>
 M.ite t27
 (M.blk 1 (
 (M.lift (Ax.index 8 1 none t25 (L.getD 0 .undef))).bind fun t29 =>
 (M.lift (Ax.faddr 22 t6)).bind fun t32 =>
 (M.lift (Ax.iaddr (some 8) 1 t32 (L.getD 0 .undef))).bind fun t33 =>
 (mload none t33).bind fun t34 =>
 (M.lift (Ax.bin .geq t1 t34)).bind fun t35 =>
 (guarded [(0,t35)] (some (0,true)) (M.pure t1)).bind fun t37 =>
 (guarded [(0,t35)] (some (0,true)) (M.lift (Ax.cint .u64 t37))).bind fun t38 =>
 (guarded [(0,t35)] (some (0,true)) (M.pure (L.getD 0 .undef))).bind fun t39 =>
 (guarded [(0,t35)] (some (0,true)) (M.lift (Ax.faddr 22 t6))).bind fun t40 =>
 (guarded [(0,t35)] (some (0,true)) (M.lift (Ax.iaddr (some 8) 1 t40 t39))).bind fun t41 =>
 (guarded [(0,t35)] (some (0,true)) (mload none t41)).bind fun t42 =>
 (guarded [(0,t35)] (some (0,true)) (M.lift (Ax.cint .u64 t42))).bind fun t43 =>
 (guarded [(0,t35)] (some (0,true)) (M.lift (Ax.bin .sub t38 t43))).bind fun t44 =>
 (guarded [(0,t35)] (some (0,true)) (M.lift (Ax.bin .geq t44 (V.int .u64 500)))).bind fun t45 =>
 (M.lift (Ax.pick t35 t45 (V.bool false))).bind fun t46 =>
 (guarded [(0,t29)] (some (0,true)) (M.lift (Ax.faddr 38 t2))).bind fun t49 =>
 (guarded [(0,t29)] (some (0,true)) (mload none t49)).bind fun t50 =>
 (guarded [(0,t29)] (some (0,true)) (M.lift (Ax.un .not t50))).bind fun t51 =>
 (M.lift (Ax.pick t29 t51 (V.bool false))).bind fun t52 =>
 (guarded [(0,t52)] (some (0,true)) (M.pure t46)).bind fun t54 =>
 (guarded [(0,t52)] (some (0,true)) (M.pure t54)).bind fun t55 =>
 (guarded [(0,t55)] (some (0,false)) (M.pure t7)).bind fun t56 =>
 (guarded [(0,t55)] (some (0,false)) (M.pure (L.getD 0 .undef))).bind fun t57 =>
 (guarded [(0,t55)] (some (0,false)) (M.lift (Ax.bin .shr t56 t57))).bind fun t58 =>
 (guarded [(0,t55)] (some (0,false)) (M.lift (Ax.bin .and t58 (V.int .i64 1)))).bind fun t59 =>
 (guarded [(0,t55)] (some (0,false)) (M.lift (Ax.bin .eql t59 (V.int .i64 1)))).bind fun t60 =>
 (guarded [(0,t52)] (some (0,true)) (M.lift (Ax.pick t55 (V.bool true) t60))).bind fun t61 =>
 (M.lift (Ax.pick t52 t61 (V.bool false))).bind fun t62 =>
 M.join (M.ite t62
 ((mload (some 39) t2).bind fun t63 =>
 (G zdq [t63,(L.getD 0 .undef),t1]).bind fun t66 =>
 (mstore 39 t2 t66).bind fun _ =>
 M.pure (.nrm []))
 (M.pure (.nrm []))) fun _ =>
 M.pure (.nrm [])) fun _ =>
 (M.lift (Ax.bin .add (L.getD 0 .undef) (V.int .i64 1))).bind fun t67 =>
 M.pure (.nrm [t67]))
 (M.pure (.ex 0 []))
def zzl (G:Sem') (t70 t2 t4 t5:V) (L:List V):M Res :=
 (M.lift (Ax.bin .lss (L.getD 1 .undef) (V.int .i64 8))).bind fun t72 =>
 M.ite t72
 (M.blk 3 (
 (M.lift (Ax.index 8 1 none t70 (L.getD 1 .undef))).bind fun t74 =>
 (guarded [(0,t74)] (some (0,true)) (M.pure (L.getD 1 .undef))).bind fun t77 =>
 (guarded [(0,t74)] (some (0,true)) (M.lift (Ax.faddr 0 t2))).bind fun t78 =>
 (guarded [(0,t74)] (some (0,true)) (M.lift (Ax.faddr 0 t78))).bind fun t79 =>
 (guarded [(0,t74)] (some (0,true)) (M.lift (Ax.iaddr (some 8) 1 t79 t77))).bind fun t80 =>
 (guarded [(0,t74)] (some (0,true)) (mload none t80)).bind fun t81 =>
 (guarded [(0,t74)] (some (0,true)) (M.lift (Ax.un .not t81))).bind fun t82 =>
 (M.lift (Ax.pick t74 t82 (V.bool false))).bind fun t83 =>
 M.join (M.ite t83
 ((mslit zeX 1 [(V.int .i64 0)] [(0,1,(L.getD 1 .undef))]).bind fun t86 =>
 (mappend zeX 1 8 (L.getD 0 .undef) t86).bind fun t87 =>
 M.pure (.nrm [t87]))
 (M.pure (.nrm [(L.getD 0 .undef)]))) fun L3 =>
 M.pure (.nrm [(L3.getD 0 .undef)])) fun L4 =>
 (M.lift (Ax.bin .add (L.getD 1 .undef) (V.int .i64 1))).bind fun t88 =>
 M.pure (.nrm [(L4.getD 0 .undef),t88]))
 (M.pure (.ex 2 [(L.getD 0 .undef)]))
def zwa (G:Sem') (t0 t1:V):M Res :=
 (mbox zbS t0).bind fun t2 =>
 (mbox zbS (V.agg [(V.bool false),(V.bool false),(V.bool false),(V.bool false),(V.bool false),(V.bool false),(V.bool false),(V.bool false),(V.int .i64 0),(V.int .i64 0),(V.int .i64 0),(V.int .i64 0),(V.int .i64 0),(V.int .i64 0),(V.int .i64 0),(V.int .i64 0),(V.int .i64 0),(V.bool false),(V.int .i64 0),(V.int .i64 0),(V.int .i64 0),(V.int .i64 0),(V.int .i64 0),(V.int .i64 0),(V.int .i64 0),(V.int .i64 0),(V.int .i64 0),(V.int .i64 0),(V.int .i64 0),(V.int .i64 0),(V.int .i64 0),(V.int .i64 0),(V.int .i64 0),(V.int .i64 0),(V.int .i64 0),(V.int .i64 0),(V.int .i64 0),(V.int .i64 0),(V.bool false)])).bind fun t4 =>
 (mload (some 39) t2).bind fun t14 =>
 (G zeE [t14]).bind fun t15 =>
 (M.lift (Ax.un .not t15)).bind fun t16 =>
 M.ite t16
 ((mload (some 39) t2).bind fun t17 =>
 (mstore 39 t4 t17).bind fun _ =>
 (mload (some 39) t4).bind fun r0 =>
 M.pure (.ret [r0,V.nils]))
 ((mload (some 39) t2).bind fun t18 =>
 (M.lift (Ax.faddr 16 t2)).bind fun t19 =>
 (mload (some 6) t19).bind fun t20 =>
 M.getH.bind fun h0 =>
 (G zf2 [t20,t1]).bind fun t22 =>
 M.getH.bind fun h0' =>
 (M.unch t2 h0 h0').bind fun _ =>
 (mbox zbS (V.agg [(V.bool false),(V.bool false),(V.bool false),(V.bool false),(V.bool false),(V.bool false),(V.bool false),(V.bool false),(V.int .i64 0),(V.int .i64 0),(V.int .i64 0),(V.int .i64 0),(V.int .i64 0),(V.int .i64 0),(V.int .i64 0),(V.int .i64 0),(V.int .i64 0),(V.bool false),(V.int .i64 0),(V.int .i64 0),(V.int .i64 0),(V.int .i64 0),(V.int .i64 0),(V.int .i64 0),(V.int .i64 0),(V.int .i64 0),(V.int .i64 0),(V.int .i64 0),(V.int .i64 0),(V.int .i64 0),(V.int .i64 0),(V.int .i64 0),(V.int .i64 0),(V.int .i64 0),(V.int .i64 0),(V.int .i64 0),(V.int .i64 0),(V.int .i64 0),(V.bool false)])).bind fun t6 =>
 (mstore 39 t6 t18).bind fun _ =>
 (M.lift (Ax.faddr 0 t6)).bind fun t23 =>
 (M.lift (Ax.faddr 0 t23)).bind fun t24 =>
 (mload (some 8) t24).bind fun t25 =>
 M.blk 0 (
 M.iter (zzm G t25 t6 t22 t1 t2 t4 V.nils) [(V.int .i64 0)]) fun _ =>
 (M.lift (Ax.faddr 0 t6)).bind fun t68 =>
 (M.lift (Ax.faddr 0 t68)).bind fun t69 =>
 (mload (some 8) t69).bind fun t70 =>
 M.blk 2 (
 M.iter (zzl G t70 t2 t4 V.nils) [V.nils,(V.int .i64 0)]) fun L5 =>
 (mload (some 39) t2).bind fun t89 =>
 (mstore 39 t4 t89).bind fun _ =>
 (mload (some 39) t4).bind fun r0 =>
 M.pure (.ret [r0,(L5.getD 0 .undef)]))
def zn0:Fn':=(T zg3).getD noF
theorem zz4:T zg3 = some zn0:=by kernel_rfl
theorem zBn (G:Sem') (t0 t1:V):execK G zn0.rv zn0.body [] [] (params 0 [t0,t1]) = zwa G t0 t1:=by kernel_rfl
def zqF (G:Sem'):List V → M V
 | [t0,t1]=>fin (zwa G t0 t1)
 | _=>M.fail
theorem zB9 {g:Sem'} (hg:Sims g (sem T)) (args:List V):Sim (zqF g args) (sem T zg3 args):=by
 unfold zqF;split
 ·exact zaf zz4 (Nat.le_of_ble_eq_true (by kernel_rfl)) hg (zBn g _ _)
 ·exact zaa
def zrP (G:Sem') (t17 t1:V) (L:List V):M Res :=
 (M.lift (Ax.bin .lss (L.getD 1 .undef) (V.int .i64 8))).bind fun t19 =>
 M.ite t19
 (M.blk 1 (
 (M.lift (Ax.index 8 1 none t17 (L.getD 1 .undef))).bind fun t21 =>
 (guarded [(0,t21)] (some (0,true)) (M.pure t1)).bind fun t24 =>
 (guarded [(0,t21)] (some (0,true)) (M.pure (L.getD 1 .undef))).bind fun t25 =>
 (guarded [(0,t21)] (some (0,true)) (M.lift (Ax.nilck t24))).bind fun t26 =>
 (guarded [(0,t21)] (some (0,true)) (M.lift (Ax.faddr 0 t26))).bind fun t27 =>
 (guarded [(0,t21)] (some (0,true)) (M.lift (Ax.faddr 0 t27))).bind fun t28 =>
 (guarded [(0,t21)] (some (0,true)) (M.lift (Ax.faddr 0 t28))).bind fun t29 =>
 (guarded [(0,t21)] (some (0,true)) (M.lift (Ax.iaddr (some 8) 1 t29 t25))).bind fun t30 =>
 (guarded [(0,t21)] (some (0,true)) (mload none t30)).bind fun t31 =>
 (guarded [(0,t21)] (some (0,true)) (M.lift (Ax.un .not t31))).bind fun t32 =>
 (M.lift (Ax.pick t21 t32 (V.bool false))).bind fun t33 =>
 M.join (M.ite t33
 ((mslit zeX 1 [(V.int .i64 0)] [(0,1,(L.getD 1 .undef))]).bind fun t36 =>
 (mappend zeX 1 8 (L.getD 0 .undef) t36).bind fun t37 =>
 M.pure (.nrm [t37]))
 (M.pure (.nrm [(L.getD 0 .undef)]))) fun L0 =>
 M.pure (.nrm [(L0.getD 0 .undef)])) fun L1 =>
 (M.lift (Ax.bin .add (L.getD 1 .undef) (V.int .i64 1))).bind fun t38 =>
 M.pure (.nrm [(L1.getD 0 .undef),t38]))
 (M.pure (.ex 0 [(L.getD 0 .undef)]))
def zrO (G:Sem') (t1 t10:V) (L:List V):M Res :=
 (M.lift (Ax.bin .lss (L.getD 0 .undef) (V.int .i64 8))).bind fun t46 =>
 M.ite t46
 (M.blk 5 (
 (M.lift (Ax.nilck t1)).bind fun t54 =>
 (M.lift (Ax.faddr 303 t54)).bind fun t55 =>
 (M.lift (Ax.iaddr (some 8) 8 t55 t10)).bind fun t56 =>
 (M.lift (Ax.iaddr (some 8) 1 t56 (L.getD 0 .undef))).bind fun t57 =>
 (M.lift (Ax.nilck t1)).bind fun t58 =>
 (M.lift (Ax.faddr 303 t58)).bind fun t59 =>
 (M.lift (Ax.iaddr (some 8) 8 t59 (L.getD 0 .undef))).bind fun t60 =>
 (mstore 1 t57 V.nilp).bind fun _ =>
 (M.lift (Ax.iaddr (some 8) 1 t60 t10)).bind fun t61 =>
 (mstore 1 t61 V.nilp).bind fun _ =>
 M.pure (.nrm [])) fun _ =>
 (M.lift (Ax.bin .add (L.getD 0 .undef) (V.int .i64 1))).bind fun t62 =>
 M.pure (.nrm [t62]))
 (M.pure (.ex 4 []))
def zrN (G:Sem') (t40 t39 t1 t5 t0:V) (L:List V):M Res :=
 (M.lift (Ax.bin .lss (L.getD 0 .undef) t40)).bind fun t42 =>
 M.ite t42
 (M.blk 3 (
 (M.lift (Ax.iaddr none 1 t39 (L.getD 0 .undef))).bind fun t43 =>
 (mload none t43).bind fun t44 =>
 M.blk 4 (
 M.iter (zrO G t1 t44) [(V.int .i64 0)]) fun _ =>
 (M.lift (Ax.build [(V.bool false),(V.int .u32 0),(V.int .i64 0),(V.int .i64 0),(V.int .i64 0),V.nils,(V.int .i64 0),V.nils,V.nils,(V.int .u32 0),V.nils,(V.bool false),(V.int .u32 0),(V.int .i64 0),(V.int .i64 0),(V.int .i64 0),V.nils,(V.int .i64 0),V.nils,V.nils,(V.int .u32 0),V.nils,(V.bool false),(V.int .u32 0),(V.int .i64 0),(V.int .i64 0),(V.int .i64 0),V.nils,(V.int .i64 0),V.nils,V.nils,(V.int .u32 0),V.nils] [])).bind fun t65 =>
 (M.lift (Ax.nilck t1)).bind fun t66 =>
 (M.lift (Ax.faddr 39 t66)).bind fun t67 =>
 (M.lift (Ax.iaddr (some 8) 33 t67 t44)).bind fun t68 =>
 (mstore 33 t68 t65).bind fun _ =>
 (M.lift (Ax.faddr 0 t5)).bind fun t70 =>
 (M.lift (Ax.faddr 8 t70)).bind fun t71 =>
 (M.lift (Ax.iaddr (some 8) 1 t71 t44)).bind fun t72 =>
 (mload none t72).bind fun t73 =>
 (M.lift (Ax.nilck t0)).bind fun t76 =>
 (M.lift (Ax.faddr 1470 t76)).bind fun t77 =>
 (M.lift (Ax.iaddr (some 64) 1 t77 t73)).bind fun t78 =>
 (mload none t78).bind fun t79 =>
 (G zbv [t79]).bind fun t80 =>
 (M.lift (Ax.build [(V.int .i64 0),(V.int .i64 0),(V.int .i64 0),(V.int .i64 0),(V.int .i64 0),(V.int .i64 0),V.nils] [(0,1,(V.int .i64 23))])).bind fun t83 =>
 (G zaV [t0,t73,t83]).bind fun t84 =>
 M.pure (.nrm [])) fun _ =>
 (M.lift (Ax.bin .add (L.getD 0 .undef) (V.int .i64 1))).bind fun t85 =>
 M.pure (.nrm [t85]))
 (M.pure (.ex 2 []))
def zrM (G:Sem') (t87 t86 t0 t1:V) (L:List V):M Res :=
 (M.lift (Ax.bin .lss (L.getD 0 .undef) t87)).bind fun t89 =>
 M.ite t89
 (M.blk 7 (
 (M.lift (Ax.iaddr none 1 t86 (L.getD 0 .undef))).bind fun t90 =>
 (mload none t90).bind fun t91 =>
 (M.lift (Ax.nilck t1)).bind fun t99 =>
 (M.lift (Ax.faddr 0 t99)).bind fun t100 =>
 (M.lift (Ax.faddr 0 t100)).bind fun t101 =>
 (mload (some 16) t101).bind fun t102 =>
 M.getH.bind fun h0 =>
 (G zdr [t1]).bind fun t97 =>
 M.getH.bind fun h0' =>
 (M.unch t101 h0 h0').bind fun _ =>
 (G zdm [t102]).bind fun t103 =>
 (M.lift (Ax.build [(V.int .i64 0),(V.int .i64 0),(V.int .i64 0),(V.int .i64 0),(V.int .i64 0),(V.int .i64 0),V.nils] [(0,1,(V.int .i64 20)),(2,1,t91),(3,1,t97),(4,1,t103)])).bind fun t104 =>
 (G zcD [t0,t1,t91,t104]).bind fun t105 =>
 M.pure (.nrm [])) fun _ =>
 (M.lift (Ax.bin .add (L.getD 0 .undef) (V.int .i64 1))).bind fun t106 =>
 M.pure (.nrm [t106]))
 (M.pure (.ex 6 []))
def znd (G:Sem') (t0 t1 t2:V):M Res :=
 (mbox zbS t2).bind fun t5 =>
 (M.lift (Ax.faddr 0 t5)).bind fun t15 =>
 (M.lift (Ax.faddr 0 t15)).bind fun t16 =>
 (mload (some 8) t16).bind fun t17 =>
 M.blk 0 (
 M.iter (zrP G t17 t1) [V.nils,(V.int .i64 0)]) fun L2 =>
 (M.lift (vlen (L2.getD 0 .undef))).bind fun t40 =>
 M.blk 2 (
 M.iter (zrN G t40 (L2.getD 0 .undef) t1 t5 t0) [(V.int .i64 0)]) fun _ =>
 (M.lift (vlen (L2.getD 0 .undef))).bind fun t87 =>
 M.blk 6 (
 M.iter (zrM G t87 (L2.getD 0 .undef) t0 t1) [(V.int .i64 0)]) fun _ =>
 M.pure (.ret [])
def zh4:Fn':=(T zch).getD noF
theorem zsq:T zch = some zh4:=by kernel_rfl
theorem zti (G:Sem') (t0 t1 t2:V):execK G zh4.rv zh4.body [] [] (params 0 [t0,t1,t2]) = znd G t0 t1 t2:=by kernel_rfl
def zjr (G:Sem'):List V → M V
 | [t0,t1,t2]=>fin (znd G t0 t1 t2)
 | _=>M.fail
theorem zuw {g:Sem'} (hg:Sims g (sem T)) (args:List V):Sim (zjr g args) (sem T zch args):=by
 unfold zjr;split
 ·exact zaf zsq (Nat.le_of_ble_eq_true (by kernel_rfl)) hg (zti g _ _ _)
 ·exact zaa
def f_post_Post_desk_Out_Take (G:Sem') (t0:V):M Res :=
 (mbox zbD (V.agg [(V.int .i64 0),(V.int .i64 0),V.nils])).bind fun t2 =>
 (mbox zbD (V.agg [(V.int .i64 0),(V.int .i64 0),V.nils])).bind fun t4 =>
 (M.lift (Ax.nilck t0)).bind fun t7 =>
 (M.lift (Ax.faddr 1 t7)).bind fun t8 =>
 (mload none t8).bind fun t9 =>
 (M.lift (vlen t9)).bind fun t10 =>
 (M.lift (Ax.bin .eql t10 (V.int .i64 0))).bind fun t11 =>
 M.ite t11
 ((mload (some 3) t4).bind fun t12 =>
 (mstore 3 t2 t12).bind fun _ =>
 (mload (some 3) t2).bind fun r0 =>
 M.pure (.ret [r0,(V.bool false)]))
 ((M.lift (Ax.nilck t0)).bind fun t14 =>
 (M.lift (Ax.faddr 1 t14)).bind fun t15 =>
 (mload none t15).bind fun t16 =>
 (M.lift (Ax.iaddr none 3 t16 (V.int .i64 0))).bind fun t17 =>
 (mload (some 3) t17).bind fun t18 =>
 (mbox zbD (V.agg [(V.int .i64 0),(V.int .i64 0),V.nils])).bind fun t5 =>
 (mstore 3 t5 t18).bind fun _ =>
 (M.lift (Ax.nilck t0)).bind fun t21 =>
 (M.lift (Ax.faddr 1 t21)).bind fun t22 =>
 (mload none t22).bind fun t23 =>
 (M.lift (zbr .sl 3 t23 (some (V.int .i64 1)) none none)).bind fun t24 =>
 (M.lift (Ax.nilck t0)).bind fun t25 =>
 (M.lift (Ax.faddr 1 t25)).bind fun t26 =>
 (mstore 1 t26 t24).bind fun _ =>
 (mload (some 3) t5).bind fun t27 =>
 (mstore 3 t2 t27).bind fun _ =>
 (mload (some 3) t2).bind fun r0 =>
 M.pure (.ret [r0,(V.bool true)]))
def ir_post_Post_desk_Out_Take:Fn':=(T zaB).getD noF
theorem tb_post_Post_desk_Out_Take:T zaB = some ir_post_Post_desk_Out_Take:=by kernel_rfl
theorem eq_post_Post_desk_Out_Take (G:Sem') (t0:V):execK G ir_post_Post_desk_Out_Take.rv ir_post_Post_desk_Out_Take.body [] [] (params 0 [t0]) = f_post_Post_desk_Out_Take G t0:=by kernel_rfl
def zec (G:Sem'):List V → M V
 | [t0]=>fin (f_post_Post_desk_Out_Take G t0)
 | _=>M.fail
theorem zk0 {g:Sem'} (hg:Sims g (sem T)) (args:List V):Sim (zec g args) (sem T zaB args):=by
 unfold zec;split
 ·exact zaf tb_post_Post_desk_Out_Take (Nat.le_of_ble_eq_true (by kernel_rfl)) hg (eq_post_Post_desk_Out_Take g _)
 ·exact zaa
def f_sync_atomic_Int64_Load (G:Sem') (t0:V):M Res :=
 (M.lift (Ax.nilck t0)).bind fun t4 =>
 (M.lift (Ax.faddr 0 t4)).bind fun t5 =>
 (matoload .i64 t5).bind fun t6 =>
 M.pure (.ret [t6])
def ir_sync_atomic_Int64_Load:Fn':=(T zaM).getD noF
theorem tb_sync_atomic_Int64_Load:T zaM = some ir_sync_atomic_Int64_Load:=by kernel_rfl
theorem eq_sync_atomic_Int64_Load (G:Sem') (t0:V):execK G ir_sync_atomic_Int64_Load.rv ir_sync_atomic_Int64_Load.body [] [] (params 0 [t0]) = f_sync_atomic_Int64_Load G t0:=by kernel_rfl
def zex (G:Sem'):List V → M V
 | [t0]=>fin (f_sync_atomic_Int64_Load G t0)
 | _=>M.fail
theorem zlD {g:Sem'} (hg:Sims g (sem T)) (args:List V):Sim (zex g args) (sem T zaM args):=by
 unfold zex;split
 ·exact zaf tb_sync_atomic_Int64_Load (Nat.le_of_ble_eq_true (by kernel_rfl)) hg (eq_sync_atomic_Int64_Load g _)
 ·exact zaa
def f_palanquinref16_fields (G:Sem') (t0:V):M Res :=
 M.blk 0 (
 (M.lift (Ax.bin .eql t0 (V.int .i64 1))).bind fun t5 =>
 M.ite t5
 (M.pure (.ret [(V.str ⟨#[114]⟩)]))
 ((M.lift (Ax.bin .eql t0 (V.int .i64 2))).bind fun t7 =>
 M.join (M.ite t7
 (M.pure (.nrm [t7]))
 ((M.lift (Ax.bin .eql t0 (V.int .i64 9))).bind fun t8 =>
 M.join (M.ite t8
 (M.pure (.nrm [t8]))
 ((M.lift (Ax.bin .eql t0 (V.int .i64 23))).bind fun t9 =>
 M.pure (.nrm [t9]))) fun L0 =>
 M.pure (.nrm [(L0.getD 0 .undef)]))) fun L1 =>
 M.ite (L1.getD 0 .undef)
 (M.pure (.ret [(V.str ⟨#[45]⟩)]))
 ((M.lift (Ax.bin .eql t0 (V.int .i64 3))).bind fun t11 =>
 M.join (M.ite t11
 (M.pure (.nrm [t11]))
 ((M.lift (Ax.bin .eql t0 (V.int .i64 6))).bind fun t12 =>
 M.pure (.nrm [t12]))) fun L2 =>
 M.ite (L2.getD 0 .undef)
 (M.pure (.ret [(V.str ⟨#[115]⟩)]))
 ((M.lift (Ax.bin .eql t0 (V.int .i64 4))).bind fun t14 =>
 M.ite t14
 (M.pure (.ret [(V.str ⟨#[110,109,98]⟩)]))
 ((M.lift (Ax.bin .eql t0 (V.int .i64 5))).bind fun t16 =>
 M.ite t16
 (M.pure (.ret [(V.str ⟨#[115,110,109]⟩)]))
 ((M.lift (Ax.bin .eql t0 (V.int .i64 7))).bind fun t18 =>
 M.join (M.ite t18
 (M.pure (.nrm [t18]))
 ((M.lift (Ax.bin .eql t0 (V.int .i64 21))).bind fun t19 =>
 M.pure (.nrm [t19]))) fun L3 =>
 M.ite (L3.getD 0 .undef)
 (M.pure (.ret [(V.str ⟨#[115,101,110,98]⟩)]))
 ((M.lift (Ax.bin .eql t0 (V.int .i64 8))).bind fun t21 =>
 M.join (M.ite t21
 (M.pure (.nrm [t21]))
 ((M.lift (Ax.bin .eql t0 (V.int .i64 22))).bind fun t22 =>
 M.pure (.nrm [t22]))) fun L4 =>
 M.ite (L4.getD 0 .undef)
 (M.pure (.ret [(V.str ⟨#[101]⟩)]))
 ((M.lift (Ax.bin .eql t0 (V.int .i64 17))).bind fun t24 =>
 M.ite t24
 (M.pure (.ret [(V.str ⟨#[114,115,101,110,109,98]⟩)]))
 ((M.lift (Ax.bin .eql t0 (V.int .i64 18))).bind fun t26 =>
 M.ite t26
 (M.pure (.ret [(V.str ⟨#[110,109]⟩)]))
 ((M.lift (Ax.bin .eql t0 (V.int .i64 19))).bind fun t28 =>
 M.ite t28
 (M.pure (.ret [(V.str ⟨#[115,101,110,109]⟩)]))
 ((M.lift (Ax.bin .eql t0 (V.int .i64 20))).bind fun t30 =>
 M.ite t30
 (M.pure (.ret [(V.str ⟨#[115,101,110]⟩)]))
 ((M.lift (Ax.bin .eql t0 (V.int .i64 24))).bind fun t32 =>
 M.ite t32
 (M.pure (.ret [(V.str ⟨#[115,98]⟩)]))
 (M.pure (.nrm [])))))))))))))) fun _ =>
 M.pure (.ret [(V.str ⟨#[]⟩)])
def ir_palanquinref16_fields:Fn':=(T zas).getD noF
theorem tb_palanquinref16_fields:T zas = some ir_palanquinref16_fields:=by kernel_rfl
theorem eq_palanquinref16_fields (G:Sem') (t0:V):execK G ir_palanquinref16_fields.rv ir_palanquinref16_fields.body [] [] (params 0 [t0]) = f_palanquinref16_fields G t0:=by kernel_rfl
def zeV (G:Sem'):List V → M V
 | [t0]=>fin (f_palanquinref16_fields G t0)
 | _=>M.fail
theorem zmc {g:Sem'} (hg:Sims g (sem T)) (args:List V):Sim (zeV g args) (sem T zas args):=by
 unfold zeV;split
 ·exact zaf tb_palanquinref16_fields (Nat.le_of_ble_eq_true (by kernel_rfl)) hg (eq_palanquinref16_fields g _)
 ·exact zaa
def f_palanquinref16_in (G:Sem') (t0 t1 t2:V):M Res :=
 (M.lift (Ax.bin .geq t0 t1)).bind fun t9 =>
 (guarded [(0,t9)] (some (0,true)) (M.pure t0)).bind fun t11 =>
 (guarded [(0,t9)] (some (0,true)) (M.pure t2)).bind fun t12 =>
 (guarded [(0,t9)] (some (0,true)) (M.lift (Ax.bin .leq t11 t12))).bind fun t13 =>
 (M.lift (Ax.pick t9 t13 (V.bool false))).bind fun t14 =>
 M.pure (.ret [t14])
def ir_palanquinref16_in:Fn':=(T zah).getD noF
theorem tb_palanquinref16_in:T zah = some ir_palanquinref16_in:=by kernel_rfl
theorem eq_palanquinref16_in (G:Sem') (t0 t1 t2:V):execK G ir_palanquinref16_in.rv ir_palanquinref16_in.body [] [] (params 0 [t0,t1,t2]) = f_palanquinref16_in G t0 t1 t2:=by kernel_rfl
def zgP (G:Sem'):List V → M V
 | [t0,t1,t2]=>fin (f_palanquinref16_in G t0 t1 t2)
 | _=>M.fail
theorem zpX {g:Sem'} (hg:Sims g (sem T)) (args:List V):Sim (zgP g args) (sem T zah args):=by
 unfold zgP;split
 ·exact zaf tb_palanquinref16_in (Nat.le_of_ble_eq_true (by kernel_rfl)) hg (eq_palanquinref16_in g _ _ _)
 ·exact zaa
def f_palanquinref16_has_0 (G:Sem') (t0 t1:V) (L:List V):M Res :=
 (M.lift (Ax.slen t0)).bind fun t8 =>
 (M.lift (Ax.bin .lss (L.getD 0 .undef) t8)).bind fun t9 =>
 M.ite t9
 (M.blk 1 (
 (M.lift (Ax.sindex t0 (L.getD 0 .undef))).bind fun t14 =>
 (M.lift (Ax.bin .eql t14 t1)).bind fun t16 =>
 M.ite t16
 (M.pure (.ret [(V.bool true)]))
 (M.pure (.nrm []))) fun _ =>
 (M.lift (Ax.bin .add (L.getD 0 .undef) (V.int .i64 1))).bind fun t11 =>
 M.pure (.nrm [t11]))
 (M.pure (.ex 0 []))
def f_palanquinref16_has (G:Sem') (t0 t1:V):M Res :=
 M.blk 0 (
 M.iter (f_palanquinref16_has_0 G t0 t1) [(V.int .i64 0)]) fun _ =>
 M.pure (.ret [(V.bool false)])
def ir_palanquinref16_has:Fn':=(T zae).getD noF
theorem tb_palanquinref16_has:T zae = some ir_palanquinref16_has:=by kernel_rfl
theorem eq_palanquinref16_has (G:Sem') (t0 t1:V):execK G ir_palanquinref16_has.rv ir_palanquinref16_has.body [] [] (params 0 [t0,t1]) = f_palanquinref16_has G t0 t1:=by kernel_rfl
def zgl (G:Sem'):List V → M V
 | [t0,t1]=>fin (f_palanquinref16_has G t0 t1)
 | _=>M.fail
theorem zpk {g:Sem'} (hg:Sims g (sem T)) (args:List V):Sim (zgl g args) (sem T zae args):=by
 unfold zgl;split
 ·exact zaf tb_palanquinref16_has (Nat.le_of_ble_eq_true (by kernel_rfl)) hg (eq_palanquinref16_has g _ _)
 ·exact zaa
def zlM (G:Sem') (t1:V) (L:List V):M Res :=
 (M.lift (Ax.bin .lss (L.getD 0 .undef) (V.int .i64 8))).bind fun t10 =>
 M.ite t10
 (M.blk 1 (
 (M.lift (Ax.faddr 4 t1)).bind fun t13 =>
 (mload none t13).bind fun t14 =>
 (M.lift (Ax.cint .u64 (L.getD 0 .undef))).bind fun t16 =>
 (M.lift (Ax.bin .shr t14 t16)).bind fun t17 =>
 (M.lift (Ax.bin .and t17 (V.int .i64 1))).bind fun t18 =>
 (M.lift (Ax.bin .eql t18 (V.int .i64 1))).bind fun t19 =>
 (guarded [(0,t19)] (some (0,true)) (M.lift (Ax.faddr 6 t1))).bind fun t22 =>
 (guarded [(0,t19)] (some (0,true)) (mload none t22)).bind fun t23 =>
 (guarded [(0,t19)] (some (0,true)) (M.pure (L.getD 0 .undef))).bind fun t24 =>
 (guarded [(0,t19)] (some (0,true)) (M.lift (Ax.iaddr none 1 t23 t24))).bind fun t25 =>
 (guarded [(0,t19)] (some (0,true)) (mload none t25)).bind fun t26 =>
 (guarded [(0,t19)] (some (0,true)) (M.lift (Ax.bin .gtr t26 (V.int .u8 63)))).bind fun t27 =>
 (M.lift (Ax.pick t19 t27 (V.bool false))).bind fun t28 =>
 (guarded [(0,t28)] (some (0,false)) (M.pure t19)).bind fun t30 =>
 (guarded [(0,t28)] (some (0,false)) (M.lift (Ax.un .not t30))).bind fun t31 =>
 (guarded [(0,t28)] (some (0,false)) (M.pure t31)).bind fun t32 =>
 (guarded [(0,t32)] (some (0,true)) (M.lift (Ax.faddr 6 t1))).bind fun t33 =>
 (guarded [(0,t32)] (some (0,true)) (mload none t33)).bind fun t34 =>
 (guarded [(0,t32)] (some (0,true)) (M.pure (L.getD 0 .undef))).bind fun t35 =>
 (guarded [(0,t32)] (some (0,true)) (M.lift (Ax.iaddr none 1 t34 t35))).bind fun t36 =>
 (guarded [(0,t32)] (some (0,true)) (mload none t36)).bind fun t37 =>
 (guarded [(0,t32)] (some (0,true)) (M.lift (Ax.bin .neq t37 (V.int .u8 255)))).bind fun t38 =>
 (guarded [(0,t28)] (some (0,false)) (M.lift (Ax.pick t32 t38 (V.bool false)))).bind fun t39 =>
 (M.lift (Ax.pick t28 (V.bool true) t39)).bind fun t40 =>
 M.ite t40
 (M.pure (.ret [(V.bool false)]))
 (M.pure (.nrm []))) fun _ =>
 (M.lift (Ax.bin .add (L.getD 0 .undef) (V.int .i64 1))).bind fun t12 =>
 M.pure (.nrm [t12]))
 (M.pure (.ex 0 []))
def zhP (G:Sem') (t0:V):M Res :=
 (mbox zad t0).bind fun t1 =>
 (M.lift (Ax.faddr 6 t1)).bind fun t5 =>
 (mload none t5).bind fun t6 =>
 (M.lift (vlen t6)).bind fun t7 =>
 (M.lift (Ax.bin .neq t7 (V.int .i64 8))).bind fun t8 =>
 M.ite t8
 (M.pure (.ret [(V.bool false)]))
 (M.blk 0 (
 M.iter (zlM G t1) [(V.int .i64 0)]) fun _ =>
 M.pure (.ret [(V.bool true)]))
def zeN:Fn':=(T zbF).getD noF
theorem zl6:T zbF = some zeN:=by kernel_rfl
theorem zmF (G:Sem') (t0:V):execK G zeN.rv zeN.body [] [] (params 0 [t0]) = zhP G t0:=by kernel_rfl
def zfo (G:Sem'):List V → M V
 | [t0]=>fin (zhP G t0)
 | _=>M.fail
theorem znr {g:Sem'} (hg:Sims g (sem T)) (args:List V):Sim (zfo g args) (sem T zbF args):=by
 unfold zfo;split
 ·exact zaf zl6 (Nat.le_of_ble_eq_true (by kernel_rfl)) hg (zmF g _)
 ·exact zaa
def f_slots_find_0 (G:Sem') (t9 t2 t1:V) (L:List V):M Res :=
 (M.lift (Ax.bin .lss (L.getD 0 .undef) (V.int .i64 8))).bind fun t11 =>
 M.ite t11
 (M.blk 1 (
 (M.lift (Ax.index 8 1 none t9 (L.getD 0 .undef))).bind fun t13 =>
 (M.lift (Ax.faddr 0 t2)).bind fun t15 =>
 (M.lift (Ax.iaddr (some 8) 1 t15 (L.getD 0 .undef))).bind fun t16 =>
 (mload none t16).bind fun t17 =>
 (guarded [(0,t17)] (some (0,true)) (M.pure t1)).bind fun t19 =>
 (guarded [(0,t17)] (some (0,true)) (M.pure t13)).bind fun t20 =>
 (guarded [(0,t17)] (some (0,true)) (M.lift (Ax.bin .eql t19 t20))).bind fun t21 =>
 (M.lift (Ax.pick t17 t21 (V.bool false))).bind fun t22 =>
 M.ite t22
 (M.pure (.ret [(L.getD 0 .undef),(V.bool true)]))
 (M.pure (.nrm []))) fun _ =>
 (M.lift (Ax.bin .add (L.getD 0 .undef) (V.int .i64 1))).bind fun t24 =>
 M.pure (.nrm [t24]))
 (M.pure (.ex 0 []))
def f_slots_find (G:Sem') (t0 t1:V):M Res :=
 (mbox zav t0).bind fun t2 =>
 (M.lift (Ax.faddr 8 t2)).bind fun t8 =>
 (mload (some 8) t8).bind fun t9 =>
 M.blk 0 (
 M.iter (f_slots_find_0 G t9 t2 t1) [(V.int .i64 0)]) fun _ =>
 M.pure (.ret [(V.int .i64 0),(V.bool false)])
def ir_slots_find:Fn':=(T zbM).getD noF
theorem tb_slots_find:T zbM = some ir_slots_find:=by kernel_rfl
theorem eq_slots_find (G:Sem') (t0 t1:V):execK G ir_slots_find.rv ir_slots_find.body [] [] (params 0 [t0,t1]) = f_slots_find G t0 t1:=by kernel_rfl
def zoI (G:Sem'):List V → M V
 | [t0,t1]=>fin (f_slots_find G t0 t1)
 | _=>M.fail
theorem zAl {g:Sem'} (hg:Sims g (sem T)) (args:List V):Sim (zoI g args) (sem T zbM args):=by
 unfold zoI;split
 ·exact zaf tb_slots_find (Nat.le_of_ble_eq_true (by kernel_rfl)) hg (eq_slots_find g _ _)
 ·exact zaa
def f_slots_addr (G:Sem') (t0:V):M Res :=
 (M.lift (Ax.bin .geq t0 (V.int .i64 0))).bind fun t4 =>
 (guarded [(0,t4)] (some (0,true)) (M.pure t0)).bind fun t6 =>
 (guarded [(0,t4)] (some (0,true)) (M.lift (Ax.bin .leq t6 (V.int .i64 63)))).bind fun t7 =>
 (M.lift (Ax.pick t4 t7 (V.bool false))).bind fun t8 =>
 M.pure (.ret [t8])
def ir_slots_addr:Fn':=(T zb8).getD noF
theorem tb_slots_addr:T zb8 = some ir_slots_addr:=by kernel_rfl
theorem eq_slots_addr (G:Sem') (t0:V):execK G ir_slots_addr.rv ir_slots_addr.body [] [] (params 0 [t0]) = f_slots_addr G t0:=by kernel_rfl
def zoJ (G:Sem'):List V → M V
 | [t0]=>fin (f_slots_addr G t0)
 | _=>M.fail
theorem zAm {g:Sem'} (hg:Sims g (sem T)) (args:List V):Sim (zoJ g args) (sem T zb8 args):=by
 unfold zoJ;split
 ·exact zaf tb_slots_addr (Nat.le_of_ble_eq_true (by kernel_rfl)) hg (eq_slots_addr g _)
 ·exact zaa
def f_sync_atomic_Int64_Add (G:Sem') (t0 t1:V):M Res :=
 (M.lift (Ax.nilck t0)).bind fun t6 =>
 (M.lift (Ax.faddr 0 t6)).bind fun t7 =>
 (matoadd .i64 t7 t1).bind fun t9 =>
 M.pure (.ret [t9])
def ir_sync_atomic_Int64_Add:Fn':=(T zaT).getD noF
theorem tb_sync_atomic_Int64_Add:T zaT = some ir_sync_atomic_Int64_Add:=by kernel_rfl
theorem eq_sync_atomic_Int64_Add (G:Sem') (t0 t1:V):execK G ir_sync_atomic_Int64_Add.rv ir_sync_atomic_Int64_Add.body [] [] (params 0 [t0,t1]) = f_sync_atomic_Int64_Add G t0 t1:=by kernel_rfl
def zeU (G:Sem'):List V → M V
 | [t0,t1]=>fin (f_sync_atomic_Int64_Add G t0 t1)
 | _=>M.fail
theorem zmb {g:Sem'} (hg:Sims g (sem T)) (args:List V):Sim (zeU g args) (sem T zaT args):=by
 unfold zeU;split
 ·exact zaf tb_sync_atomic_Int64_Add (Nat.le_of_ble_eq_true (by kernel_rfl)) hg (eq_sync_atomic_Int64_Add g _ _)
 ·exact zaa
def f_slots_Find (G:Sem') (t0 t1:V):M Res :=
 (mbox zav t0).bind fun t2 =>
 (mload (some 16) t2).bind fun t6 =>
 (G zbs [t6]).bind fun t7 =>
 (M.lift (Ax.un .not t7)).bind fun t8 =>
 M.ite t8
 (M.pure (.ret [(V.int .i64 0),(V.bool false)]))
 ((mload (some 16) t2).bind fun t9 =>
 (G zbM [t9,t1]).bind fun t11 =>
 (M.lift (Ax.ext 0 t11)).bind fun t12 =>
 (M.lift (Ax.ext 1 t11)).bind fun t13 =>
 M.pure (.ret [t12,t13]))
def ir_slots_Find:Fn':=(T zb9).getD noF
theorem tb_slots_Find:T zb9 = some ir_slots_Find:=by kernel_rfl
theorem eq_slots_Find (G:Sem') (t0 t1:V):execK G ir_slots_Find.rv ir_slots_Find.body [] [] (params 0 [t0,t1]) = f_slots_Find G t0 t1:=by kernel_rfl
def zoO (G:Sem'):List V → M V
 | [t0,t1]=>fin (f_slots_Find G t0 t1)
 | _=>M.fail
theorem zAr {g:Sem'} (hg:Sims g (sem T)) (args:List V):Sim (zoO g args) (sem T zb9 args):=by
 unfold zoO;split
 ·exact zaf tb_slots_Find (Nat.le_of_ble_eq_true (by kernel_rfl)) hg (eq_slots_Find g _ _)
 ·exact zaa
def zt1 (G:Sem') (t0 t1 t2:V):M Res :=
 (mbox zbS t0).bind fun t3 =>
 (mbox zbS (V.agg [(V.bool false),(V.bool false),(V.bool false),(V.bool false),(V.bool false),(V.bool false),(V.bool false),(V.bool false),(V.int .i64 0),(V.int .i64 0),(V.int .i64 0),(V.int .i64 0),(V.int .i64 0),(V.int .i64 0),(V.int .i64 0),(V.int .i64 0),(V.int .i64 0),(V.bool false),(V.int .i64 0),(V.int .i64 0),(V.int .i64 0),(V.int .i64 0),(V.int .i64 0),(V.int .i64 0),(V.int .i64 0),(V.int .i64 0),(V.int .i64 0),(V.int .i64 0),(V.int .i64 0),(V.int .i64 0),(V.int .i64 0),(V.int .i64 0),(V.int .i64 0),(V.int .i64 0),(V.int .i64 0),(V.int .i64 0),(V.int .i64 0),(V.int .i64 0),(V.bool false)])).bind fun t6 =>
 (mload (some 39) t3).bind fun t11 =>
 (G zd7 [t11,t1]).bind fun t13 =>
 (M.lift (Ax.ext 0 t13)).bind fun t14 =>
 (M.lift (Ax.ext 1 t13)).bind fun t15 =>
 (M.lift (Ax.bin .neq t15 (V.int .i64 0))).bind fun t17 =>
 M.ite t17
 ((mload (some 39) t3).bind fun t18 =>
 (mstore 39 t6 t18).bind fun _ =>
 (mload (some 39) t6).bind fun r0 =>
 M.pure (.ret [r0,t15]))
 ((M.lift (Ax.faddr 22 t3)).bind fun t22 =>
 (M.lift (Ax.iaddr (some 8) 1 t22 t14)).bind fun t23 =>
 (mstore 1 t23 t2).bind fun _ =>
 (mload (some 39) t3).bind fun t24 =>
 (mstore 39 t6 t24).bind fun _ =>
 (mload (some 39) t6).bind fun r0 =>
 M.pure (.ret [r0,(V.int .i64 0)]))
def zmt:Fn':=(T zf1).getD noF
theorem zyv:T zf1 = some zmt:=by kernel_rfl
theorem zzB (G:Sem') (t0 t1 t2:V):execK G zmt.rv zmt.body [] [] (params 0 [t0,t1,t2]) = zt1 G t0 t1 t2:=by kernel_rfl
def zoV (G:Sem'):List V → M V
 | [t0,t1,t2]=>fin (zt1 G t0 t1 t2)
 | _=>M.fail
theorem zAy {g:Sem'} (hg:Sims g (sem T)) (args:List V):Sim (zoV g args) (sem T zf1 args):=by
 unfold zoV;split
 ·exact zaf zyv (Nat.le_of_ble_eq_true (by kernel_rfl)) hg (zzB g _ _ _)
 ·exact zaa
end Go.Ax.Cc
/- CiS4 -/
namespace Go.Ax.Cc
open Go.Proofs
def zxu (G:Sem') (L:List V):M Res :=
 (M.lift (vlen (L.getD 0 .undef))).bind fun t17 =>
 (M.lift (Ax.bin .gtr t17 (V.int .i64 0))).bind fun t18 =>
 M.ite t18
 (M.blk 2 (
 (M.lift (vlen (L.getD 0 .undef))).bind fun t20 =>
 (M.lift (Ax.bin .lss t20 (V.int .i64 4))).bind fun t21 =>
 M.ite t21
 (M.pure (.ret [V.nils,(V.int .i64 3)]))
 ((M.lift (Ax.iaddr none 1 (L.getD 0 .undef) (V.int .i64 0))).bind fun t23 =>
 (mload none t23).bind fun t24 =>
 (M.lift (Ax.bin .andNot t24 (V.int .u8 31))).bind fun t25 =>
 (M.lift (Ax.bin .neq t25 (V.int .u8 128))).bind fun t26 =>
 (guarded [(0,t26)] (some (0,false)) (M.pure (L.getD 0 .undef))).bind fun t28 =>
 (guarded [(0,t26)] (some (0,false)) (G zij [t28])).bind fun t29 =>
 (guarded [(0,t26)] (some (0,false)) (M.lift (Ax.un .not t29))).bind fun t30 =>
 (M.lift (Ax.pick t26 (V.bool true) t30)).bind fun t31 =>
 M.ite t31
 (M.pure (.ret [V.nils,(V.int .i64 2)]))
 ((M.lift (Ax.iaddr none 1 (L.getD 0 .undef) (V.int .i64 2))).bind fun t33 =>
 (mload none t33).bind fun t34 =>
 (M.lift (Ax.cint .i64 t34)).bind fun t35 =>
 (M.lift (Ax.bin .shl t35 (V.int .u64 8))).bind fun t36 =>
 (M.lift (Ax.iaddr none 1 (L.getD 0 .undef) (V.int .i64 3))).bind fun t38 =>
 (mload none t38).bind fun t39 =>
 (M.lift (Ax.cint .i64 t39)).bind fun t40 =>
 (M.lift (Ax.bin .or t36 t40)).bind fun t41 =>
 (M.lift (Ax.bin .mul (V.int .i64 4) t41)).bind fun t42 =>
 (M.lift (Ax.bin .add (V.int .i64 4) t42)).bind fun t43 =>
 (M.lift (vlen (L.getD 0 .undef))).bind fun t45 =>
 (M.lift (Ax.bin .lss t45 t43)).bind fun t47 =>
 M.ite t47
 (M.pure (.ret [V.nils,(V.int .i64 3)]))
 ((M.lift (Ax.iaddr none 1 (L.getD 0 .undef) (V.int .i64 1))).bind fun t50 =>
 (mload none t50).bind fun t51 =>
 (M.lift (Ax.cint .i64 t51)).bind fun t52 =>
 (M.lift (Ax.iaddr none 1 (L.getD 0 .undef) (V.int .i64 0))).bind fun t54 =>
 (mload none t54).bind fun t55 =>
 (M.lift (Ax.bin .and t55 (V.int .u8 31))).bind fun t56 =>
 (M.lift (Ax.cint .i64 t56)).bind fun t57 =>
 (M.lift (zbr .sl 1 (L.getD 0 .undef) (some (V.int .i64 4)) (some t43) none)).bind fun t60 =>
 (G ze9 [t52,t57,t60]).bind fun t61 =>
 (M.lift (Ax.ext 0 t61)).bind fun t62 =>
 (mbox za2 (V.agg [(V.int .i64 0),(V.int .u32 0),(V.int .u32 0),(V.int .u64 0),(V.int .u32 0),(V.int .u32 0),(V.int .u32 0),V.nils,V.nils,V.nils,(V.int .i64 0),(V.int .u32 0),V.nils,(V.int .i64 0),(V.int .i64 0),V.nils])).bind fun t6 =>
 (mstore 16 t6 t62).bind fun _ =>
 (M.lift (Ax.ext 1 t61)).bind fun t63 =>
 (M.lift (Ax.un .not t63)).bind fun t65 =>
 M.ite t65
 (M.pure (.ret [V.nils,(V.int .i64 2)]))
 ((mload (some 16) t6).bind fun t67 =>
 (mslit za2 1 [(V.int .i64 0),(V.int .u32 0),(V.int .u32 0),(V.int .u64 0),(V.int .u32 0),(V.int .u32 0),(V.int .u32 0),V.nils,V.nils,V.nils,(V.int .i64 0),(V.int .u32 0),V.nils,(V.int .i64 0),(V.int .i64 0),V.nils] [(0,16,t67)]).bind fun t68 =>
 (mappend za2 16 192 (L.getD 1 .undef) t68).bind fun t69 =>
 (M.lift (zbr .sl 1 (L.getD 0 .undef) (some t43) none none)).bind fun t72 =>
 M.pure (.nrm [t72,t69])))))) fun L1 =>
 M.pure (.nrm [(L1.getD 0 .undef),(L1.getD 1 .undef)]))
 (M.pure (.ex 1 [(L.getD 1 .undef)]))
def ztY (G:Sem') (t0:V):M Res :=
 M.blk 0 (
 (M.lift (vlen t0)).bind fun t10 =>
 (M.lift (Ax.bin .gtr t10 (V.int .i64 1200))).bind fun t11 =>
 M.ite t11
 (M.pure (.ret [V.nils,(V.int .i64 4)]))
 ((M.lift (vlen t0)).bind fun t14 =>
 (M.lift (Ax.bin .eql t14 (V.int .i64 0))).bind fun t15 =>
 M.ite t15
 (M.pure (.ret [V.nils,(V.int .i64 3)]))
 (M.pure (.nrm [])))) fun _ =>
 M.blk 1 (
 M.iter (zxu G) [t0,V.nils]) fun L2 =>
 M.pure (.ret [(L2.getD 0 .undef),(V.int .i64 0)])
def zmq:Fn':=(T zfY).getD noF
theorem zys:T zfY = some zmq:=by kernel_rfl
theorem zzy (G:Sem') (t0:V):execK G zmq.rv zmq.body [] [] (params 0 [t0]) = ztY G t0:=by kernel_rfl
def zoS (G:Sem'):List V → M V
 | [t0]=>fin (ztY G t0)
 | _=>M.fail
theorem zAv {g:Sem'} (hg:Sims g (sem T)) (args:List V):Sim (zoS g args) (sem T zfY args):=by
 unfold zoS;split
 ·exact zaf zys (Nat.le_of_ble_eq_true (by kernel_rfl)) hg (zzy g _)
 ·exact zaa
def zqj (G:Sem') (t38 t37 t0 t1 t2:V) (L:List V):M Res :=
 (M.lift (Ax.bin .lss (L.getD 0 .undef) t38)).bind fun t40 =>
 M.ite t40
 (M.blk 1 (
 (M.lift (Ax.iaddr none 1 t37 (L.getD 0 .undef))).bind fun t41 =>
 (mload none t41).bind fun t42 =>
 (M.lift (Ax.nilck t1)).bind fun t46 =>
 (M.lift (Ax.faddr 0 t46)).bind fun t47 =>
 (M.lift (Ax.faddr 0 t47)).bind fun t48 =>
 (M.lift (Ax.faddr 8 t48)).bind fun t49 =>
 (M.lift (Ax.iaddr (some 8) 1 t49 t2)).bind fun t50 =>
 (mload none t50).bind fun t51 =>
 (G za1 [t0,t51,(V.int .i64 1),t42]).bind fun t53 =>
 M.pure (.nrm [])) fun _ =>
 (M.lift (Ax.bin .add (L.getD 0 .undef) (V.int .i64 1))).bind fun t54 =>
 M.pure (.nrm [t54]))
 (M.pure (.ex 0 []))
def zlW (G:Sem') (t0 t1 t2 t3:V):M Res :=
 (mbox za2 t3).bind fun t7 =>
 (M.lift (Ax.faddr 2 t7)).bind fun t15 =>
 (mload none t15).bind fun t16 =>
 (G zb2 [t1,t2,t16]).bind fun t17 =>
 (M.lift (Ax.ext 0 t17)).bind fun t18 =>
 (M.lift (Ax.ext 1 t17)).bind fun t19 =>
 (M.lift (Ax.un .not t19)).bind fun t21 =>
 M.ite t21
 ((M.lift (Ax.nilck t0)).bind fun t23 =>
 (M.lift (Ax.faddr 1534 t23)).bind fun t24 =>
 (mload none t24).bind fun t25 =>
 (G zax [t25,(V.int .i64 4)]).bind fun t26 =>
 M.pure (.ret []))
 ((M.lift (Ax.nilck t1)).bind fun t30 =>
 (M.lift (Ax.faddr 303 t30)).bind fun t31 =>
 (M.lift (Ax.iaddr (some 8) 8 t31 t2)).bind fun t32 =>
 (M.lift (Ax.iaddr (some 8) 1 t32 t18)).bind fun t33 =>
 (mload none t33).bind fun t34 =>
 (M.lift (Ax.faddr 8 t7)).bind fun t35 =>
 (mload none t35).bind fun t36 =>
 (G zdw [t34,t36]).bind fun t37 =>
 (M.lift (vlen t37)).bind fun t38 =>
 M.blk 0 (
 M.iter (zqj G t38 t37 t0 t1 t2) [(V.int .i64 0)]) fun _ =>
 M.pure (.ret []))
def zhu:Fn':=(T zc9).getD noF
theorem zq7:T zc9 = some zhu:=by kernel_rfl
theorem zsb (G:Sem') (t0 t1 t2 t3:V):execK G zhu.rv zhu.body [] [] (params 0 [t0,t1,t2,t3]) = zlW G t0 t1 t2 t3:=by kernel_rfl
def ziF (G:Sem'):List V → M V
 | [t0,t1,t2,t3]=>fin (zlW G t0 t1 t2 t3)
 | _=>M.fail
theorem zsQ {g:Sem'} (hg:Sims g (sem T)) (args:List V):Sim (ziF g args) (sem T zc9 args):=by
 unfold ziF;split
 ·exact zaf zq7 (Nat.le_of_ble_eq_true (by kernel_rfl)) hg (zsb g _ _ _ _)
 ·exact zaa
def zni (G:Sem') (t0 t1 t2 t3:V):M Res :=
 (G zb2 [t1,t2,t3]).bind fun t14 =>
 (M.lift (Ax.ext 0 t14)).bind fun t15 =>
 (M.lift (Ax.ext 1 t14)).bind fun t16 =>
 (M.lift (Ax.un .not t16)).bind fun t18 =>
 M.ite t18
 ((M.lift (Ax.nilck t0)).bind fun t20 =>
 (M.lift (Ax.faddr 1534 t20)).bind fun t21 =>
 (mload none t21).bind fun t22 =>
 (G zax [t22,(V.int .i64 4)]).bind fun t23 =>
 M.pure (.ret []))
 ((G zcu [t0,t1,t2,t15]).bind fun t28 =>
 M.pure (.ret []))
def zh9:Fn':=(T zcQ).getD noF
theorem zsv:T zcQ = some zh9:=by kernel_rfl
theorem ztn (G:Sem') (t0 t1 t2 t3:V):execK G zh9.rv zh9.body [] [] (params 0 [t0,t1,t2,t3]) = zni G t0 t1 t2 t3:=by kernel_rfl
def zjy (G:Sem'):List V → M V
 | [t0,t1,t2,t3]=>fin (zni G t0 t1 t2 t3)
 | _=>M.fail
theorem zuD {g:Sem'} (hg:Sims g (sem T)) (args:List V):Sim (zjy g args) (sem T zcQ args):=by
 unfold zjy;split
 ·exact zaf zsv (Nat.le_of_ble_eq_true (by kernel_rfl)) hg (ztn g _ _ _ _)
 ·exact zaa
def zrR (G:Sem') (t34:V) (L:List V):M Res :=
 (M.lift (Ax.bin .lss (L.getD 1 .undef) (V.int .i64 3))).bind fun t36 =>
 M.ite t36
 (M.blk 1 (
 (M.lift (Ax.index 3 11 (some 11) t34 (L.getD 1 .undef))).bind fun t37 =>
 (mbox ziL (V.agg [(V.bool false),(V.int .u32 0),(V.int .i64 0),(V.int .i64 0),(V.int .i64 0),V.nils,(V.int .i64 0),V.nils,V.nils,(V.int .u32 0),V.nils])).bind fun t14 =>
 (mstore 11 t14 t37).bind fun _ =>
 (M.lift (Ax.faddr 0 t14)).bind fun t38 =>
 (mload none t38).bind fun t39 =>
 (M.lift (Ax.un .not t39)).bind fun t40 =>
 M.join (M.ite t40
 ((M.lift (Ax.faddr 2 t14)).bind fun t41 =>
 (mstore 1 t41 (V.int .i64 (-1))).bind fun _ =>
 M.pure (.nrm []))
 (M.pure (.nrm []))) fun _ =>
 (M.lift (Ax.faddr 2 t14)).bind fun t43 =>
 (mload none t43).bind fun t44 =>
 (mslit zeX 1 [(V.int .i64 0)] [(0,1,t44)]).bind fun t45 =>
 (mappend zeX 1 8 (L.getD 0 .undef) t45).bind fun t46 =>
 M.pure (.nrm [t46])) fun L1 =>
 (M.lift (Ax.bin .add (L.getD 1 .undef) (V.int .i64 1))).bind fun t47 =>
 M.pure (.nrm [(L1.getD 0 .undef),t47]))
 (M.pure (.ex 0 [(L.getD 0 .undef)]))
def znh (G:Sem') (t0 t1 t2 t3 t4:V):M Res :=
 (G zb2 [t1,t2,t3]).bind fun t19 =>
 (M.lift (Ax.ext 0 t19)).bind fun t20 =>
 (M.lift (Ax.ext 1 t19)).bind fun t21 =>
 (M.lift (Ax.un .not t21)).bind fun t23 =>
 M.ite t23
 ((M.lift (Ax.nilck t0)).bind fun t25 =>
 (M.lift (Ax.faddr 1534 t25)).bind fun t26 =>
 (mload none t26).bind fun t27 =>
 (G zax [t27,(V.int .i64 4)]).bind fun t28 =>
 M.pure (.ret []))
 ((M.lift (Ax.nilck t1)).bind fun t31 =>
 (M.lift (Ax.faddr 39 t31)).bind fun t32 =>
 (M.lift (Ax.iaddr (some 8) 33 t32 t20)).bind fun t33 =>
 (mload (some 33) t33).bind fun t34 =>
 M.blk 0 (
 M.iter (zrR G t34) [V.nils,(V.int .i64 0)]) fun L2 =>
 (M.lift (Ax.nilck t1)).bind fun t51 =>
 (M.lift (Ax.faddr 303 t51)).bind fun t52 =>
 (M.lift (Ax.iaddr (some 8) 8 t52 t2)).bind fun t53 =>
 (M.lift (Ax.iaddr (some 8) 1 t53 t20)).bind fun t54 =>
 (mload none t54).bind fun t55 =>
 M.getH.bind fun h0 =>
 (G zfc [t4,(L2.getD 0 .undef)]).bind fun t58 =>
 M.getH.bind fun h0' =>
 (M.unch t54 h0 h0').bind fun _ =>
 (G zdX [t55,t58]).bind fun t59 =>
 (G zct [t0,t1,t2,t20]).bind fun t64 =>
 M.pure (.ret []))
def zh8:Fn':=(T zdz).getD noF
theorem zsu:T zdz = some zh8:=by kernel_rfl
theorem ztm (G:Sem') (t0 t1 t2 t3 t4:V):execK G zh8.rv zh8.body [] [] (params 0 [t0,t1,t2,t3,t4]) = znh G t0 t1 t2 t3 t4:=by kernel_rfl
def zjw (G:Sem'):List V → M V
 | [t0,t1,t2,t3,t4]=>fin (znh G t0 t1 t2 t3 t4)
 | _=>M.fail
theorem zuB {g:Sem'} (hg:Sims g (sem T)) (args:List V):Sim (zjw g args) (sem T zdz args):=by
 unfold zjw;split
 ·exact zaf zsu (Nat.le_of_ble_eq_true (by kernel_rfl)) hg (ztm g _ _ _ _ _)
 ·exact zaa
def zv6 (G:Sem') (t0:V):M Res :=
 (mbox za2 t0).bind fun t1 =>
 (M.lift (Ax.faddr 11 t1)).bind fun t5 =>
 (mload none t5).bind fun t6 =>
 (M.lift (Ax.cint .u64 t6)).bind fun t7 =>
 (M.lift (Ax.faddr 10 t1)).bind fun t8 =>
 (mload none t8).bind fun t9 =>
 (M.lift (Ax.minmax true t9 [(V.int .i64 0)])).bind fun t10 =>
 (M.lift (Ax.minmax false t10 [(V.int .i64 64)])).bind fun t11 =>
 M.blk 0 (
 (M.lift (Ax.bin .eql t7 (V.int .u64 0))).bind fun t14 =>
 M.ite t14
 (M.pure (.ret [(V.int .u64 0)]))
 ((G zcr [t7]).bind fun t17 =>
 (M.lift (Ax.bin .add t17 t11)).bind fun t19 =>
 (M.lift (Ax.bin .gtr t19 (V.int .i64 64))).bind fun t20 =>
 M.ite t20
 (M.pure (.ret [(V.int .u64 18446744073709551615)]))
 (M.pure (.nrm [])))) fun _ =>
 (M.lift (Ax.bin .shl t7 t11)).bind fun t23 =>
 M.pure (.ret [t23])
def znW:Fn':=(T zg0).getD noF
theorem zz0:T zg0 = some znW:=by kernel_rfl
theorem zBj (G:Sem') (t0:V):execK G znW.rv znW.body [] [] (params 0 [t0]) = zv6 G t0:=by kernel_rfl
def zqB (G:Sem'):List V → M V
 | [t0]=>fin (zv6 G t0)
 | _=>M.fail
theorem zB5 {g:Sem'} (hg:Sims g (sem T)) (args:List V):Sim (zqB g args) (sem T zg0 args):=by
 unfold zqB;split
 ·exact zaf zz0 (Nat.le_of_ble_eq_true (by kernel_rfl)) hg (zBj g _)
 ·exact zaa
def zzd (G:Sem') (t5 t0 t4 t2:V) (L:List V):M Res :=
 (M.lift (Ax.bin .lss (L.getD 0 .undef) t5)).bind fun t62 =>
 M.ite t62
 (M.blk 2 (
 (M.lift (Ax.faddr 5 t4)).bind fun t65 =>
 (mload none t65).bind fun t66 =>
 (M.lift (Ax.bin .add (L.getD 0 .undef) (V.int .i64 4))).bind fun t70 =>
 (M.lift (zbr .sl 1 t0 (some (L.getD 0 .undef)) (some t70) none)).bind fun t71 =>
 M.getH.bind fun h3 =>
 (G zeq [t71]).bind fun t72 =>
 M.getH.bind fun h3' =>
 (M.unch t65 h3 h3').bind fun _ =>
 (mslit zej 1 [(V.int .u32 0)] [(0,1,t72)]).bind fun t73 =>
 (mappend zej 1 4 t66 t73).bind fun t74 =>
 (M.lift (Ax.faddr 5 t4)).bind fun t75 =>
 (mstore 1 t75 t74).bind fun _ =>
 M.pure (.nrm [])) fun _ =>
 (M.lift (Ax.bin .add (L.getD 0 .undef) (V.int .i64 4))).bind fun t64 =>
 M.pure (.nrm [t64]))
 (M.pure (.ex 1 []))
def zvZ (G:Sem') (t0:V):M Res :=
 (mbox zbC (V.agg [(V.bool false),(V.int .i64 0),(V.int .u16 0),(V.int .u32 0),(V.int .u32 0),V.nils,(V.int .i64 0),V.nils,(V.int .i64 0),V.nils])).bind fun t2 =>
 M.blk 0 (
 (M.lift (vlen t0)).bind fun t12 =>
 (M.lift (Ax.bin .gtr t12 (V.int .i64 1200))).bind fun t13 =>
 M.ite t13
 ((M.lift (Ax.build [(V.bool false),(V.int .i64 0),(V.int .u16 0),(V.int .u32 0),(V.int .u32 0),V.nils,(V.int .i64 0),V.nils,(V.int .i64 0),V.nils] [])).bind fun t14 =>
 (mstore 10 t2 t14).bind fun _ =>
 (mload (some 10) t2).bind fun r0 =>
 M.pure (.ret [r0,(V.int .i64 4)]))
 ((M.lift (vlen t0)).bind fun t17 =>
 (M.lift (Ax.bin .lss t17 (V.int .i64 12))).bind fun t18 =>
 M.ite t18
 ((M.lift (Ax.build [(V.bool false),(V.int .i64 0),(V.int .u16 0),(V.int .u32 0),(V.int .u32 0),V.nils,(V.int .i64 0),V.nils,(V.int .i64 0),V.nils] [])).bind fun t19 =>
 (mstore 10 t2 t19).bind fun _ =>
 (mload (some 10) t2).bind fun r0 =>
 M.pure (.ret [r0,(V.int .i64 3)]))
 ((M.lift (Ax.iaddr none 1 t0 (V.int .i64 0))).bind fun t22 =>
 (mload none t22).bind fun t23 =>
 (M.lift (Ax.bin .shr t23 (V.int .u64 6))).bind fun t24 =>
 (M.lift (Ax.bin .neq t24 (V.int .u8 2))).bind fun t25 =>
 M.ite t25
 ((M.lift (Ax.build [(V.bool false),(V.int .i64 0),(V.int .u16 0),(V.int .u32 0),(V.int .u32 0),V.nils,(V.int .i64 0),V.nils,(V.int .i64 0),V.nils] [])).bind fun t26 =>
 (mstore 10 t2 t26).bind fun _ =>
 (mload (some 10) t2).bind fun r0 =>
 M.pure (.ret [r0,(V.int .i64 2)]))
 (M.pure (.nrm []))))) fun _ =>
 (M.lift (Ax.iaddr none 1 t0 (V.int .i64 1))).bind fun t28 =>
 (mload none t28).bind fun t29 =>
 (M.lift (Ax.bin .and t29 (V.int .u8 128))).bind fun t30 =>
 (M.lift (Ax.bin .neq t30 (V.int .u8 0))).bind fun t31 =>
 (M.lift (Ax.iaddr none 1 t0 (V.int .i64 1))).bind fun t33 =>
 (mload none t33).bind fun t34 =>
 (M.lift (Ax.bin .andNot t34 (V.int .u8 128))).bind fun t35 =>
 (M.lift (Ax.cint .i64 t35)).bind fun t36 =>
 (M.lift (zbr .sl 1 t0 (some (V.int .i64 2)) (some (V.int .i64 4)) none)).bind fun t38 =>
 (M.lift (zbr .sl 1 t0 (some (V.int .i64 4)) (some (V.int .i64 8)) none)).bind fun t42 =>
 (M.lift (zbr .sl 1 t0 (some (V.int .i64 8)) (some (V.int .i64 12)) none)).bind fun t45 =>
 M.getH.bind fun h0 =>
 (G zeq [t38]).bind fun t39 =>
 M.getH.bind fun h0' =>
 (M.unch t33 h0 h0').bind fun _ =>
 (M.unch t28 h0 h0').bind fun _ =>
 M.getH.bind fun h1 =>
 (G zeq [t42]).bind fun t43 =>
 M.getH.bind fun h1' =>
 (M.unch t33 h1 h1').bind fun _ =>
 (M.unch t28 h1 h1').bind fun _ =>
 M.getH.bind fun h2 =>
 (G zeq [t45]).bind fun t46 =>
 M.getH.bind fun h2' =>
 (M.unch t33 h2 h2').bind fun _ =>
 (M.unch t28 h2 h2').bind fun _ =>
 (M.lift (Ax.cint .u16 t39)).bind fun t40 =>
 (M.lift (Ax.build [(V.bool false),(V.int .i64 0),(V.int .u16 0),(V.int .u32 0),(V.int .u32 0),V.nils,(V.int .i64 0),V.nils,(V.int .i64 0),V.nils] [(0,1,t31),(1,1,t36),(2,1,t40),(3,1,t43),(4,1,t46)])).bind fun t47 =>
 (mbox zbC (V.agg [(V.bool false),(V.int .i64 0),(V.int .u16 0),(V.int .u32 0),(V.int .u32 0),V.nils,(V.int .i64 0),V.nils,(V.int .i64 0),V.nils])).bind fun t4 =>
 (mstore 10 t4 t47).bind fun _ =>
 (M.lift (Ax.iaddr none 1 t0 (V.int .i64 0))).bind fun t49 =>
 (mload none t49).bind fun t50 =>
 (M.lift (Ax.bin .and t50 (V.int .u8 15))).bind fun t51 =>
 (M.lift (Ax.cint .i64 t51)).bind fun t52 =>
 (M.lift (Ax.bin .mul (V.int .i64 4) t52)).bind fun t53 =>
 (M.lift (Ax.bin .add (V.int .i64 12) t53)).bind fun t54 =>
 (M.lift (vlen t0)).bind fun t56 =>
 (M.lift (Ax.bin .lss t56 t54)).bind fun t58 =>
 M.ite t58
 ((M.lift (Ax.build [(V.bool false),(V.int .i64 0),(V.int .u16 0),(V.int .u32 0),(V.int .u32 0),V.nils,(V.int .i64 0),V.nils,(V.int .i64 0),V.nils] [])).bind fun t59 =>
 (mstore 10 t2 t59).bind fun _ =>
 (mload (some 10) t2).bind fun r0 =>
 M.pure (.ret [r0,(V.int .i64 3)]))
 (M.blk 1 (
 M.iter (zzd G t54 t0 t4 t2) [(V.int .i64 12)]) fun _ =>
 (M.lift (Ax.iaddr none 1 t0 (V.int .i64 0))).bind fun t77 =>
 (mload none t77).bind fun t78 =>
 (M.lift (Ax.bin .and t78 (V.int .u8 16))).bind fun t79 =>
 (M.lift (Ax.bin .neq t79 (V.int .u8 0))).bind fun t80 =>
 M.join (M.ite t80
 ((M.lift (zbr .sl 1 t0 (some t54) none none)).bind fun t84 =>
 (G zdT [t4,t84]).bind fun t85 =>
 (M.lift (Ax.ext 0 t85)).bind fun t86 =>
 (M.lift (Ax.ext 1 t85)).bind fun t87 =>
 (M.lift (Ax.bin .neq t87 (V.int .i64 0))).bind fun t89 =>
 M.ite t89
 ((M.lift (Ax.build [(V.bool false),(V.int .i64 0),(V.int .u16 0),(V.int .u32 0),(V.int .u32 0),V.nils,(V.int .i64 0),V.nils,(V.int .i64 0),V.nils] [])).bind fun t90 =>
 (mstore 10 t2 t90).bind fun _ =>
 (mload (some 10) t2).bind fun r0 =>
 M.pure (.ret [r0,t87]))
 ((M.lift (Ax.bin .add t54 t86)).bind fun t94 =>
 M.pure (.nrm [t94])))
 (M.pure (.nrm [t54]))) fun L3 =>
 (M.lift (zbr .sl 1 t0 (some (L3.getD 0 .undef)) none none)).bind fun t97 =>
 (M.lift (Ax.iaddr none 1 t0 (V.int .i64 0))).bind fun t99 =>
 (mload none t99).bind fun t100 =>
 (M.lift (Ax.bin .and t100 (V.int .u8 32))).bind fun t101 =>
 (M.lift (Ax.bin .neq t101 (V.int .u8 0))).bind fun t102 =>
 M.join (M.ite t102
 ((M.lift (vlen t0)).bind fun t105 =>
 (M.lift (Ax.bin .sub t105 (V.int .i64 1))).bind fun t106 =>
 (M.lift (Ax.iaddr none 1 t0 t106)).bind fun t107 =>
 (mload none t107).bind fun t108 =>
 (M.lift (Ax.cint .i64 t108)).bind fun t109 =>
 (M.lift (Ax.faddr 8 t4)).bind fun t110 =>
 (mstore 1 t110 t109).bind fun _ =>
 (M.lift (Ax.faddr 8 t4)).bind fun t111 =>
 (mload none t111).bind fun t112 =>
 (M.lift (Ax.bin .eql t112 (V.int .i64 0))).bind fun t113 =>
 (guarded [(0,t113)] (some (0,false)) (M.lift (Ax.faddr 8 t4))).bind fun t115 =>
 (guarded [(0,t113)] (some (0,false)) (mload none t115)).bind fun t116 =>
 (guarded [(0,t113)] (some (0,false)) (M.pure t97)).bind fun t117 =>
 (guarded [(0,t113)] (some (0,false)) (M.lift (vlen t117))).bind fun t118 =>
 (guarded [(0,t113)] (some (0,false)) (M.lift (Ax.bin .gtr t116 t118))).bind fun t119 =>
 (M.lift (Ax.pick t113 (V.bool true) t119)).bind fun t120 =>
 M.ite t120
 ((M.lift (Ax.build [(V.bool false),(V.int .i64 0),(V.int .u16 0),(V.int .u32 0),(V.int .u32 0),V.nils,(V.int .i64 0),V.nils,(V.int .i64 0),V.nils] [])).bind fun t121 =>
 (mstore 10 t2 t121).bind fun _ =>
 (mload (some 10) t2).bind fun r0 =>
 M.pure (.ret [r0,(V.int .i64 2)]))
 (M.pure (.nrm [])))
 (M.pure (.nrm []))) fun _ =>
 (M.lift (vlen t97)).bind fun t124 =>
 (M.lift (Ax.faddr 8 t4)).bind fun t125 =>
 (mload none t125).bind fun t126 =>
 (M.lift (Ax.bin .sub t124 t126)).bind fun t127 =>
 (M.lift (zbr .sl 1 t97 none (some t127) none)).bind fun t128 =>
 (G zaI [t128]).bind fun t129 =>
 (M.lift (Ax.faddr 9 t4)).bind fun t130 =>
 (mstore 1 t130 t129).bind fun _ =>
 (mload (some 10) t4).bind fun t131 =>
 (mstore 10 t2 t131).bind fun _ =>
 (mload (some 10) t2).bind fun r0 =>
 M.pure (.ret [r0,(V.int .i64 0)]))
def znR:Fn':=(T zgX).getD noF
theorem zzV:T zgX = some znR:=by kernel_rfl
theorem zBe (G:Sem') (t0:V):execK G znR.rv znR.body [] [] (params 0 [t0]) = zvZ G t0:=by kernel_rfl
def zqw (G:Sem'):List V → M V
 | [t0]=>fin (zvZ G t0)
 | _=>M.fail
theorem zB0 {g:Sem'} (hg:Sims g (sem T)) (args:List V):Sim (zqw g args) (sem T zgX args):=by
 unfold zqw;split
 ·exact zaf zzV (Nat.le_of_ble_eq_true (by kernel_rfl)) hg (zBe g _)
 ·exact zaa
def zpr (G:Sem') (t15 t2:V) (L:List V):M Res :=
 (M.lift (Ax.bin .lss (L.getD 0 .undef) (V.int .i64 3))).bind fun t17 =>
 M.ite t17
 (M.blk 1 (
 (M.lift (Ax.index 3 11 (some 11) t15 (L.getD 0 .undef))).bind fun t19 =>
 (mbox ziL (V.agg [(V.bool false),(V.int .u32 0),(V.int .i64 0),(V.int .i64 0),(V.int .i64 0),V.nils,(V.int .i64 0),V.nils,V.nils,(V.int .u32 0),V.nils])).bind fun t9 =>
 (mstore 11 t9 t19).bind fun _ =>
 (M.lift (Ax.faddr 0 t9)).bind fun t20 =>
 (mload none t20).bind fun t21 =>
 (guarded [(0,t21)] (some (0,true)) (M.lift (Ax.faddr 1 t9))).bind fun t23 =>
 (guarded [(0,t21)] (some (0,true)) (mload none t23)).bind fun t24 =>
 (guarded [(0,t21)] (some (0,true)) (M.pure t2)).bind fun t25 =>
 (guarded [(0,t21)] (some (0,true)) (M.lift (Ax.bin .eql t24 t25))).bind fun t26 =>
 (M.lift (Ax.pick t21 t26 (V.bool false))).bind fun t27 =>
 M.ite t27
 (M.pure (.ret [(L.getD 0 .undef),(V.bool true)]))
 (M.pure (.nrm []))) fun _ =>
 (M.lift (Ax.bin .add (L.getD 0 .undef) (V.int .i64 1))).bind fun t29 =>
 M.pure (.nrm [t29]))
 (M.pure (.ex 0 []))
def zkR (G:Sem') (t0 t1 t2:V):M Res :=
 (M.lift (Ax.nilck t0)).bind fun t12 =>
 (M.lift (Ax.faddr 39 t12)).bind fun t13 =>
 (M.lift (Ax.iaddr (some 8) 33 t13 t1)).bind fun t14 =>
 (mload (some 33) t14).bind fun t15 =>
 M.blk 0 (
 M.iter (zpr G t15 t2) [(V.int .i64 0)]) fun _ =>
 M.pure (.ret [(V.int .i64 0),(V.bool false)])
def zgD:Fn':=(T zcb).getD noF
theorem zpP:T zcb = some zgD:=by kernel_rfl
theorem zqo (G:Sem') (t0 t1 t2:V):execK G zgD.rv zgD.body [] [] (params 0 [t0,t1,t2]) = zkR G t0 t1 t2:=by kernel_rfl
def zhB (G:Sem'):List V → M V
 | [t0,t1,t2]=>fin (zkR G t0 t1 t2)
 | _=>M.fail
theorem zrc {g:Sem'} (hg:Sims g (sem T)) (args:List V):Sim (zhB g args) (sem T zcb args):=by
 unfold zhB;split
 ·exact zaf zpP (Nat.le_of_ble_eq_true (by kernel_rfl)) hg (zqo g _ _ _)
 ·exact zaa
def zpH (G:Sem') (t0:V):M Res :=
 (M.lift (vlen t0)).bind fun t13 =>
 (M.lift (Ax.bin .eql t13 (V.int .i64 0))).bind fun t14 =>
 M.ite t14
 (M.pure (.ret [(V.int .u64 0),(V.int .u64 0),(V.int .i64 0),(V.int .i64 3)]))
 ((M.lift (Ax.iaddr none 1 t0 (V.int .i64 0))).bind fun t16 =>
 (mload none t16).bind fun t17 =>
 (M.lift (Ax.bin .shr t17 (V.int .u64 4))).bind fun t18 =>
 (M.lift (Ax.iaddr none 1 t0 (V.int .i64 0))).bind fun t20 =>
 (mload none t20).bind fun t21 =>
 (M.lift (Ax.bin .and t21 (V.int .u8 15))).bind fun t22 =>
 (G zeb [t18]).bind fun t24 =>
 (M.lift (Ax.bin .add (V.int .i64 1) t24)).bind fun t25 =>
 (G zeb [t22]).bind fun t28 =>
 (M.lift (Ax.bin .add t25 t28)).bind fun t29 =>
 (M.lift (vlen t0)).bind fun t31 =>
 (M.lift (Ax.bin .lss t31 t29)).bind fun t33 =>
 M.ite t33
 (M.pure (.ret [(V.int .u64 0),(V.int .u64 0),(V.int .i64 0),(V.int .i64 3)]))
 ((M.lift (zbr .sl 1 t0 (some (V.int .i64 1)) (some t25) none)).bind fun t38 =>
 (G zde [t18,t38]).bind fun t39 =>
 (M.lift (Ax.ext 0 t39)).bind fun t40 =>
 (M.lift (Ax.ext 1 t39)).bind fun t41 =>
 (M.lift (zbr .sl 1 t0 (some t25) (some t29) none)).bind fun t47 =>
 (G zde [t22,t47]).bind fun t48 =>
 (M.lift (Ax.ext 0 t48)).bind fun t49 =>
 (M.lift (Ax.ext 1 t48)).bind fun t50 =>
 (M.lift (Ax.un .not t41)).bind fun t52 =>
 (guarded [(0,t52)] (some (0,false)) (M.pure t50)).bind fun t54 =>
 (guarded [(0,t52)] (some (0,false)) (M.lift (Ax.un .not t54))).bind fun t55 =>
 (M.lift (Ax.pick t52 (V.bool true) t55)).bind fun t56 =>
 M.ite t56
 (M.pure (.ret [(V.int .u64 0),(V.int .u64 0),(V.int .i64 0),(V.int .i64 2)]))
 (M.pure (.ret [t40,t49,t29,(V.int .i64 0)]))))
def zj3:Fn':=(T zeu).getD noF
theorem zvi:T zeu = some zj3:=by kernel_rfl
theorem zws (G:Sem') (t0:V):execK G zj3.rv zj3.body [] [] (params 0 [t0]) = zpH G t0:=by kernel_rfl
def zlw (G:Sem'):List V → M V
 | [t0]=>fin (zpH G t0)
 | _=>M.fail
theorem zxh {g:Sem'} (hg:Sims g (sem T)) (args:List V):Sim (zlw g args) (sem T zeu args):=by
 unfold zlw;split
 ·exact zaf zvi (Nat.le_of_ble_eq_true (by kernel_rfl)) hg (zws g _)
 ·exact zaa
def zwi (G:Sem') (t0:V):M Res :=
 (M.lift (Ax.bin .geq t0 (V.int .u64 16777216))).bind fun t7 =>
 M.ite t7
 (M.pure (.ret [(V.int .i64 0),(V.int .i64 0),(V.int .i64 0),(V.bool false)]))
 ((M.lift (Ax.bin .quo t0 (V.int .u64 256))).bind fun t9 =>
 (M.lift (Ax.cint .i64 t9)).bind fun t10 =>
 (M.lift (Ax.bin .rem t0 (V.int .u64 256))).bind fun t12 =>
 (M.lift (Ax.bin .quo t12 (V.int .u64 8))).bind fun t13 =>
 (M.lift (Ax.cint .i64 t13)).bind fun t14 =>
 (M.lift (Ax.bin .rem t0 (V.int .u64 8))).bind fun t16 =>
 (M.lift (Ax.cint .i64 t16)).bind fun t17 =>
 M.pure (.ret [t10,t14,t17,(V.bool true)]))
def zn7:Fn':=(T zg9).getD noF
theorem zAb:T zg9 = some zn7:=by kernel_rfl
theorem zBu (G:Sem') (t0:V):execK G zn7.rv zn7.body [] [] (params 0 [t0]) = zwi G t0:=by kernel_rfl
def zqN (G:Sem'):List V → M V
 | [t0]=>fin (zwi G t0)
 | _=>M.fail
theorem zCh {g:Sem'} (hg:Sims g (sem T)) (args:List V):Sim (zqN g args) (sem T zg9 args):=by
 unfold zqN;split
 ·exact zaf zAb (Nat.le_of_ble_eq_true (by kernel_rfl)) hg (zBu g _)
 ·exact zaa
def zx3 (G:Sem') (t0 t1:V):M Res :=
 (mbox zbC t0).bind fun t2 =>
 (mload (some 10) t2).bind fun t7 =>
 (G zj7 [t7,t1]).bind fun t9 =>
 (M.lift (Ax.bin .lss t9 (V.int .i64 0))).bind fun t11 =>
 M.ite t11
 (M.pure (.ret [V.nils,(V.bool false)]))
 ((M.lift (Ax.faddr 7 t2)).bind fun t12 =>
 (mload none t12).bind fun t13 =>
 (M.lift (Ax.iaddr none 2 t13 t9)).bind fun t15 =>
 (M.lift (Ax.faddr 1 t15)).bind fun t16 =>
 (mload none t16).bind fun t17 =>
 (G zaI [t17]).bind fun t18 =>
 M.pure (.ret [t18,(V.bool true)]))
def zp7:Fn':=(T zgJ).getD noF
theorem zBM:T zgJ = some zp7:=by kernel_rfl
theorem zCH (G:Sem') (t0 t1:V):execK G zp7.rv zp7.body [] [] (params 0 [t0,t1]) = zx3 G t0 t1:=by kernel_rfl
def ztx (G:Sem'):List V → M V
 | [t0,t1]=>fin (zx3 G t0 t1)
 | _=>M.fail
theorem zDV {g:Sem'} (hg:Sims g (sem T)) (args:List V):Sim (ztx g args) (sem T zgJ args):=by
 unfold ztx;split
 ·exact zaf zBM (Nat.le_of_ble_eq_true (by kernel_rfl)) hg (zCH g _ _)
 ·exact zaa
def zuO (G:Sem') (t6 t4:V) (_:List V):M Res :=
 (M.lift (Ax.nilck t6)).bind fun t123 =>
 (M.lift (Ax.faddr 1 t123)).bind fun t124 =>
 (mload none t124).bind fun t125 =>
 (M.lift (Ax.bin .eql t125 (V.int .i64 0))).bind fun t126 =>
 (guarded [(0,t126)] (some (0,true)) (M.pure t6)).bind fun t128 =>
 (guarded [(0,t126)] (some (0,true)) (M.lift (Ax.nilck t128))).bind fun t129 =>
 (guarded [(0,t126)] (some (0,true)) (M.lift (Ax.faddr 0 t129))).bind fun t130 =>
 (guarded [(0,t126)] (some (0,true)) (mload none t130)).bind fun t131 =>
 (guarded [(0,t126)] (some (0,true)) (G zcd [t131])).bind fun t132 =>
 (guarded [(0,t126)] (some (0,true)) (M.lift (Ax.bin .gtr t132 (V.int .i64 0)))).bind fun t133 =>
 (M.lift (Ax.pick t126 t133 (V.bool false))).bind fun t134 =>
 M.ite t134
 (M.blk 2 (
 (G zaC [t6]).bind fun t136 =>
 M.join (M.ite t136
 ((G za5 [t6,(V.int .i64 2)]).bind fun t138 =>
 M.pure (.nrm []))
 (M.pure (.nrm []))) fun _ =>
 M.pure (.nrm [])) fun _ =>
 M.pure (.nrm []))
 (M.pure (.ex 1 []))
def zpK (G:Sem') (t0 t1:V):M Res :=
 (mbox zan t1).bind fun t3 =>
 (mbox zb7 (V.agg [(V.bool false),(V.bool false),(V.int .i64 0),(V.int .u16 0),(V.bool false),(V.int .i64 0),(V.int .i64 0),V.nils,(V.int .i64 0),V.nils,V.nils,(V.bool false),(V.int .u32 0),(V.bool false),(V.bool false),(V.bool false),V.nils,V.nils,V.nils])).bind fun t4 =>
 (G zhb [t0]).bind fun t12 =>
 (M.lift (Ax.build [V.nilp,(V.int .i64 0)] [(0,1,t12)])).bind fun t13 =>
 (mbox zt9 t13).bind fun t14 =>
 (G zaC [t14]).bind fun t16 =>
 (G zaC [t14]).bind fun t18 =>
 (G zam [t14,(V.int .i64 6)]).bind fun t20 =>
 (G zam [t14,(V.int .i64 16)]).bind fun t22 =>
 (M.lift (Ax.cint .u16 t22)).bind fun t23 =>
 (M.lift (Ax.build [(V.bool false),(V.bool false),(V.int .i64 0),(V.int .u16 0),(V.bool false),(V.int .i64 0),(V.int .i64 0),V.nils,(V.int .i64 0),V.nils,V.nils,(V.bool false),(V.int .u32 0),(V.bool false),(V.bool false),(V.bool false),V.nils,V.nils,V.nils] [(0,1,t16),(1,1,t18),(2,1,t20),(3,1,t23)])).bind fun t24 =>
 (mbox zb7 (V.agg [(V.bool false),(V.bool false),(V.int .i64 0),(V.int .u16 0),(V.bool false),(V.int .i64 0),(V.int .i64 0),V.nils,(V.int .i64 0),V.nils,V.nils,(V.bool false),(V.int .u32 0),(V.bool false),(V.bool false),(V.bool false),V.nils,V.nils,V.nils])).bind fun t7 =>
 (mstore 19 t7 t24).bind fun _ =>
 (M.lift (vlen t0)).bind fun t26 =>
 (M.lift (Ax.bin .gtr t26 (V.int .i64 3))).bind fun t27 =>
 M.join (M.ite t27
 ((G zaC [t14]).bind fun t29 =>
 (G zaC [t14]).bind fun t31 =>
 (M.lift (Ax.faddr 4 t7)).bind fun t32 =>
 (mstore 1 t32 t29).bind fun _ =>
 (M.lift (Ax.faddr 11 t7)).bind fun t33 =>
 (mstore 1 t33 t31).bind fun _ =>
 (G zaC [t14]).bind fun t35 =>
 (G zaC [t14]).bind fun t37 =>
 (G zaC [t14]).bind fun t39 =>
 (M.lift (Ax.faddr 13 t7)).bind fun t40 =>
 (mstore 1 t40 t35).bind fun _ =>
 (M.lift (Ax.faddr 14 t7)).bind fun t41 =>
 (mstore 1 t41 t37).bind fun _ =>
 (M.lift (Ax.faddr 15 t7)).bind fun t42 =>
 (mstore 1 t42 t39).bind fun _ =>
 M.pure (.nrm []))
 (M.pure (.nrm []))) fun _ =>
 M.blk 0 (
 (M.lift (Ax.nilck t14)).bind fun t45 =>
 (M.lift (Ax.faddr 1 t45)).bind fun t46 =>
 (mload none t46).bind fun t47 =>
 (M.lift (Ax.bin .neq t47 (V.int .i64 0))).bind fun t48 =>
 M.ite t48
 ((M.lift (Ax.build [(V.bool false),(V.bool false),(V.int .i64 0),(V.int .u16 0),(V.bool false),(V.int .i64 0),(V.int .i64 0),V.nils,(V.int .i64 0),V.nils,V.nils,(V.bool false),(V.int .u32 0),(V.bool false),(V.bool false),(V.bool false),V.nils,V.nils,V.nils] [])).bind fun t49 =>
 (M.lift (Ax.nilck t14)).bind fun t51 =>
 (M.lift (Ax.faddr 1 t51)).bind fun t52 =>
 (mload none t52).bind fun t53 =>
 M.getH.bind fun h0 =>
 (mstore 19 t4 t49).bind fun _ =>
 M.getH.bind fun h0' =>
 (M.unch t52 h0 h0').bind fun _ =>
 (mload (some 19) t4).bind fun r0 =>
 M.pure (.ret [r0,t53]))
 ((M.lift (Ax.faddr 4 t7)).bind fun t55 =>
 (mload none t55).bind fun t56 =>
 M.join (M.ite t56
 ((G zbB [t14]).bind fun t58 =>
 (M.lift (Ax.faddr 5 t7)).bind fun t59 =>
 (mstore 6 t59 t58).bind fun _ =>
 M.pure (.nrm []))
 ((mload (some 6) t3).bind fun t61 =>
 (G zcY [t61]).bind fun t62 =>
 (M.lift (Ax.un .not t62)).bind fun t63 =>
 M.ite t63
 ((M.lift (Ax.build [(V.bool false),(V.bool false),(V.int .i64 0),(V.int .u16 0),(V.bool false),(V.int .i64 0),(V.int .i64 0),V.nils,(V.int .i64 0),V.nils,V.nils,(V.bool false),(V.int .u32 0),(V.bool false),(V.bool false),(V.bool false),V.nils,V.nils,V.nils] [])).bind fun t64 =>
 (mstore 19 t4 t64).bind fun _ =>
 (mload (some 19) t4).bind fun r0 =>
 M.pure (.ret [r0,(V.int .i64 2)]))
 (M.pure (.nrm [])))) fun _ =>
 M.pure (.nrm []))) fun _ =>
 (mload (some 19) t7).bind fun t65 =>
 (mload (some 6) t3).bind fun t66 =>
 (G zc2 [t65,t66]).bind fun t67 =>
 (mbox zan (V.agg [(V.int .i64 0),(V.int .i64 0),V.nils,(V.int .i64 0),V.nils,V.nils])).bind fun t8 =>
 (mstore 6 t8 t67).bind fun _ =>
 (M.lift (Ax.faddr 11 t7)).bind fun t68 =>
 (mload none t68).bind fun t69 =>
 (guarded [(0,t69)] (some (0,true)) (M.pure t14)).bind fun t71 =>
 (guarded [(0,t69)] (some (0,true)) (M.lift (Ax.nilck t71))).bind fun t72 =>
 (guarded [(0,t69)] (some (0,true)) (M.lift (Ax.faddr 1 t72))).bind fun t73 =>
 (guarded [(0,t69)] (some (0,true)) (mload none t73)).bind fun t74 =>
 (guarded [(0,t69)] (some (0,true)) (M.lift (Ax.bin .eql t74 (V.int .i64 0)))).bind fun t75 =>
 (M.lift (Ax.pick t69 t75 (V.bool false))).bind fun t76 =>
 M.join (M.ite t76
 ((M.lift (Ax.faddr 1 t8)).bind fun t78 =>
 (mload none t78).bind fun t79 =>
 (G zam [t14,t79]).bind fun t80 =>
 (M.lift (Ax.cint .u32 t80)).bind fun t81 =>
 (M.lift (Ax.faddr 12 t7)).bind fun t82 =>
 (mstore 1 t82 t81).bind fun _ =>
 M.pure (.nrm []))
 (M.pure (.nrm []))) fun _ =>
 (mload (some 6) t8).bind fun t84 =>
 (M.lift (Ax.faddr 2 t7)).bind fun t85 =>
 (mload none t85).bind fun t86 =>
 (G zcv [t84,t86]).bind fun t87 =>
 (M.lift (Ax.ext 0 t87)).bind fun t88 =>
 (M.lift (Ax.ext 1 t87)).bind fun t89 =>
 (mbox zaw (V.agg [(V.int .i64 0),(V.int .i64 0),V.nils,V.nils,V.nils])).bind fun t9 =>
 (mstore 5 t9 t88).bind fun _ =>
 (M.lift (Ax.un .not t89)).bind fun t91 =>
 M.join (M.ite t91
 ((G za5 [t14,(V.int .i64 2)]).bind fun t93 =>
 M.pure (.nrm []))
 (M.pure (.nrm []))) fun _ =>
 (M.lift (Ax.faddr 2 t9)).bind fun t94 =>
 (mload none t94).bind fun t95 =>
 (M.lift (Ax.faddr 3 t9)).bind fun t96 =>
 (mload none t96).bind fun t97 =>
 (M.lift (Ax.faddr 4 t9)).bind fun t98 =>
 (mload none t98).bind fun t99 =>
 (M.lift (Ax.faddr 16 t7)).bind fun t100 =>
 M.getH.bind fun h1 =>
 (mstore 1 t100 t95).bind fun _ =>
 M.getH.bind fun h1' =>
 (M.unch t98 h1 h1').bind fun _ =>
 (M.unch t96 h1 h1').bind fun _ =>
 (M.lift (Ax.faddr 17 t7)).bind fun t101 =>
 M.getH.bind fun h2 =>
 (mstore 1 t101 t97).bind fun _ =>
 M.getH.bind fun h2' =>
 (M.unch t98 h2 h2').bind fun _ =>
 (M.lift (Ax.faddr 18 t7)).bind fun t102 =>
 (mstore 1 t102 t99).bind fun _ =>
 (M.lift (Ax.faddr 13 t7)).bind fun t103 =>
 (mload none t103).bind fun t104 =>
 M.join (M.ite t104
 ((M.lift (Ax.faddr 1 t8)).bind fun t106 =>
 (mload none t106).bind fun t107 =>
 (G zbo [t14,t107,(V.int .i64 2)]).bind fun t108 =>
 (M.lift (Ax.faddr 16 t7)).bind fun t109 =>
 (mstore 1 t109 t108).bind fun _ =>
 M.pure (.nrm []))
 (M.pure (.nrm []))) fun _ =>
 (M.lift (Ax.faddr 14 t7)).bind fun t110 =>
 (mload none t110).bind fun t111 =>
 M.join (M.ite t111
 ((G zcC [t14]).bind fun t113 =>
 (M.lift (Ax.faddr 17 t7)).bind fun t114 =>
 (mstore 1 t114 t113).bind fun _ =>
 M.pure (.nrm []))
 (M.pure (.nrm []))) fun _ =>
 (M.lift (Ax.faddr 15 t7)).bind fun t115 =>
 (mload none t115).bind fun t116 =>
 M.join (M.ite t116
 ((M.lift (Ax.faddr 3 t8)).bind fun t118 =>
 (mload none t118).bind fun t119 =>
 (G zbo [t14,t119,(V.int .i64 8)]).bind fun t120 =>
 (M.lift (Ax.faddr 18 t7)).bind fun t121 =>
 (mstore 1 t121 t120).bind fun _ =>
 M.pure (.nrm []))
 (M.pure (.nrm []))) fun _ =>
 M.blk 1 (
 M.iter (zuO G t14 t4) []) fun _ =>
 (M.lift (Ax.nilck t14)).bind fun t140 =>
 (M.lift (Ax.faddr 1 t140)).bind fun t141 =>
 (mload none t141).bind fun t142 =>
 (M.lift (Ax.bin .neq t142 (V.int .i64 0))).bind fun t143 =>
 M.ite t143
 ((M.lift (Ax.build [(V.bool false),(V.bool false),(V.int .i64 0),(V.int .u16 0),(V.bool false),(V.int .i64 0),(V.int .i64 0),V.nils,(V.int .i64 0),V.nils,V.nils,(V.bool false),(V.int .u32 0),(V.bool false),(V.bool false),(V.bool false),V.nils,V.nils,V.nils] [])).bind fun t144 =>
 (M.lift (Ax.nilck t14)).bind fun t146 =>
 (M.lift (Ax.faddr 1 t146)).bind fun t147 =>
 (mload none t147).bind fun t148 =>
 M.getH.bind fun h3 =>
 (mstore 19 t4 t144).bind fun _ =>
 M.getH.bind fun h3' =>
 (M.unch t147 h3 h3').bind fun _ =>
 (mload (some 19) t4).bind fun r0 =>
 M.pure (.ret [r0,t148]))
 ((mload (some 19) t7).bind fun t149 =>
 (mstore 19 t4 t149).bind fun _ =>
 (mload (some 19) t4).bind fun r0 =>
 M.pure (.ret [r0,(V.int .i64 0)]))
def zj6:Fn':=(T zev).getD noF
theorem zvl:T zev = some zj6:=by kernel_rfl
theorem zwv (G:Sem') (t0 t1:V):execK G zj6.rv zj6.body [] [] (params 0 [t0,t1]) = zpK G t0 t1:=by kernel_rfl
def zlB (G:Sem'):List V → M V
 | [t0,t1]=>fin (zpK G t0 t1)
 | _=>M.fail
theorem zxm {g:Sem'} (hg:Sims g (sem T)) (args:List V):Sim (zlB g args) (sem T zev args):=by
 unfold zlB;split
 ·exact zaf zvl (Nat.le_of_ble_eq_true (by kernel_rfl)) hg (zwv g _ _)
 ·exact zaa
def zx6 (G:Sem') (t0 t1:V):M Res :=
 (G zaS [t0,t1]).bind fun t7 =>
 M.pure (.ret [t7])
def zqa:Fn':=(T zfK).getD noF
theorem zBP:T zfK = some zqa:=by kernel_rfl
theorem zCK (G:Sem') (t0 t1:V):execK G zqa.rv zqa.body [] [] (params 0 [t0,t1]) = zx6 G t0 t1:=by kernel_rfl
def ztA (G:Sem'):List V → M V
 | [t0,t1]=>fin (zx6 G t0 t1)
 | _=>M.fail
theorem zDY {g:Sem'} (hg:Sims g (sem T)) (args:List V):Sim (ztA g args) (sem T zfK args):=by
 unfold ztA;split
 ·exact zaf zBP (Nat.le_of_ble_eq_true (by kernel_rfl)) hg (zCK g _ _)
 ·exact zaa
def zA9 (G:Sem') (t5 t4:V) (L:List V):M Res :=
 (M.lift (Ax.bin .geq (L.getD 1 .undef) (V.int .i64 0))).bind fun t17 =>
 (guarded [(0,t17)] (some (0,true)) (M.pure (L.getD 0 .undef))).bind fun t19 =>
 (guarded [(0,t17)] (some (0,true)) (M.lift (vlen t19))).bind fun t20 =>
 (guarded [(0,t17)] (some (0,true)) (M.lift (Ax.bin .lss t20 (V.int .i64 256)))).bind fun t21 =>
 (M.lift (Ax.pick t17 t21 (V.bool false))).bind fun t22 =>
 M.ite t22
 (M.blk 1 (
 (M.lift (Ax.iaddr none 1 t5 (L.getD 1 .undef))).bind fun t28 =>
 (mload none t28).bind fun t29 =>
 (G zaS [(L.getD 0 .undef),t29]).bind fun t30 =>
 (M.lift (Ax.un .not t30)).bind fun t31 =>
 M.join (M.ite t31
 ((M.lift (Ax.iaddr none 1 t5 (L.getD 1 .undef))).bind fun t35 =>
 (mload none t35).bind fun t36 =>
 (mslit zfz 1 [(V.int .u16 0)] [(0,1,t36)]).bind fun t37 =>
 (mappend zfz 1 2 (L.getD 0 .undef) t37).bind fun t38 =>
 M.pure (.nrm [t38]))
 (M.pure (.nrm [(L.getD 0 .undef)]))) fun L0 =>
 M.pure (.nrm [(L0.getD 0 .undef)])) fun L1 =>
 (M.lift (Ax.bin .sub (L.getD 1 .undef) (V.int .i64 1))).bind fun t24 =>
 M.pure (.nrm [(L1.getD 0 .undef),t24]))
 (M.pure (.ex 0 [(L.getD 0 .undef)]))
def zx8 (G:Sem') (t0 t1:V):M Res :=
 (G zbj [t0]).bind fun t9 =>
 (mslit zfz 1 [(V.int .u16 0)] [(0,1,t1)]).bind fun t11 =>
 (mappend zfz 1 2 t9 t11).bind fun t12 =>
 (M.lift (vlen t12)).bind fun t14 =>
 (M.lift (Ax.bin .sub t14 (V.int .i64 1))).bind fun t15 =>
 M.blk 0 (
 M.iter (zA9 G t12 V.nils) [V.nils,t15]) fun L2 =>
 (G za6 [(L2.getD 0 .undef)]).bind fun t40 =>
 M.pure (.ret [(L2.getD 0 .undef)])
def zqc:Fn':=(T zgK).getD noF
theorem zBR:T zgK = some zqc:=by kernel_rfl
theorem zCM (G:Sem') (t0 t1:V):execK G zqc.rv zqc.body [] [] (params 0 [t0,t1]) = zx8 G t0 t1:=by kernel_rfl
def ztC (G:Sem'):List V → M V
 | [t0,t1]=>fin (zx8 G t0 t1)
 | _=>M.fail
theorem zD0 {g:Sem'} (hg:Sims g (sem T)) (args:List V):Sim (ztC g args) (sem T zgK args):=by
 unfold ztC;split
 ·exact zaf zBR (Nat.le_of_ble_eq_true (by kernel_rfl)) hg (zCM g _ _)
 ·exact zaa
def zlP (G:Sem') (t0 t1 t2 t3 t4 t5 t6:V):M Res :=
 (mbox zbC t2).bind fun t9 =>
 (mbox zb7 t3).bind fun t10 =>
 (mbox zan t4).bind fun t11 =>
 (mbox zvc (V.agg [V.nils,(V.int .i64 0),(V.bool false)])).bind fun t14 =>
 (mload (some 10) t9).bind fun t26 =>
 (G zfI [t26]).bind fun t27 =>
 (M.lift (Ax.ext 0 t27)).bind fun t28 =>
 (M.lift (Ax.ext 1 t27)).bind fun t29 =>
 (mload (some 10) t9).bind fun t31 =>
 (G zgJ [t31,(V.int .i64 1)]).bind fun t32 =>
 (M.lift (Ax.ext 0 t32)).bind fun t33 =>
 (M.lift (Ax.ext 1 t32)).bind fun t34 =>
 (M.lift (Ax.bin .lss t1 (V.int .i64 0))).bind fun t36 =>
 (guarded [(0,t36)] (some (0,false)) (M.pure t1)).bind fun t38 =>
 (guarded [(0,t36)] (some (0,false)) (M.lift (Ax.bin .geq t38 (V.int .i64 3)))).bind fun t39 =>
 (M.lift (Ax.pick t36 (V.bool true) t39)).bind fun t40 =>
 (guarded [(0,t40)] (some (0,false)) (M.pure t29)).bind fun t42 =>
 (guarded [(0,t40)] (some (0,false)) (M.lift (Ax.bin .neq t42 (V.int .i64 0)))).bind fun t43 =>
 (M.lift (Ax.pick t40 (V.bool true) t43)).bind fun t44 =>
 (guarded [(0,t44)] (some (0,false)) (M.pure t34)).bind fun t46 =>
 (guarded [(0,t44)] (some (0,false)) (M.lift (Ax.un .not t46))).bind fun t47 =>
 (M.lift (Ax.pick t44 (V.bool true) t47)).bind fun t48 =>
 (guarded [(0,t48)] (some (0,false)) (M.pure t33)).bind fun t50 =>
 (guarded [(0,t48)] (some (0,false)) (M.lift (vlen t50))).bind fun t51 =>
 (guarded [(0,t48)] (some (0,false)) (M.lift (Ax.bin .lss t51 (V.int .i64 3)))).bind fun t52 =>
 (M.lift (Ax.pick t48 (V.bool true) t52)).bind fun t53 =>
 (guarded [(0,t53)] (some (0,false)) (mload (some 19) t10)).bind fun t55 =>
 (guarded [(0,t53)] (some (0,false)) (mload (some 6) t11)).bind fun t56 =>
 (guarded [(0,t53)] (some (0,false)) (G zff [t55,t56])).bind fun t57 =>
 (guarded [(0,t53)] (some (0,false)) (M.lift (Ax.un .not t57))).bind fun t58 =>
 (M.lift (Ax.pick t53 (V.bool true) t58)).bind fun t59 =>
 M.ite t59
 ((M.lift (Ax.build [V.nils,(V.int .i64 0),(V.bool false)] [])).bind fun t60 =>
 (mstore 3 t14 t60).bind fun _ =>
 (mload (some 3) t14).bind fun r0 =>
 M.pure (.ret [r0,(V.int .i64 1)]))
 ((mload (some 10) t9).bind fun t63 =>
 (mload (some 19) t10).bind fun t64 =>
 (G zcM [t0,t1,t63,t64,t6]).bind fun t66 =>
 (M.lift (Ax.un .not t66)).bind fun t67 =>
 M.ite t67
 ((M.lift (Ax.build [V.nils,(V.int .i64 0),(V.bool false)] [(1,1,(V.int .i64 1))])).bind fun t68 =>
 (mstore 3 t14 t68).bind fun _ =>
 (mload (some 3) t14).bind fun r0 =>
 M.pure (.ret [r0,(V.int .i64 0)]))
 ((mload (some 19) t10).bind fun t70 =>
 (mload (some 6) t11).bind fun t71 =>
 (G zdW [t0,t70,t71,t5]).bind fun t73 =>
 (M.lift (Ax.bin .neq t73 (V.int .i64 0))).bind fun t75 =>
 M.ite t75
 ((M.lift (Ax.bin .eql t73 (V.int .i64 5))).bind fun t78 =>
 (M.lift (Ax.build [V.nils,(V.int .i64 0),(V.bool false)] [(1,1,t73),(2,1,t78)])).bind fun t79 =>
 (mstore 3 t14 t79).bind fun _ =>
 (mload (some 3) t14).bind fun r0 =>
 M.pure (.ret [r0,(V.int .i64 0)]))
 ((M.lift (Ax.faddr 0 t10)).bind fun t80 =>
 (mload none t80).bind fun t81 =>
 M.join (M.ite t81
 ((M.lift (Ax.nilck t0)).bind fun t84 =>
 (M.lift (Ax.faddr 13 t84)).bind fun t85 =>
 (mload none t85).bind fun t86 =>
 (M.lift (Ax.faddr 3 t10)).bind fun t87 =>
 (mload none t87).bind fun t88 =>
 (G zgK [t86,t88]).bind fun t89 =>
 (M.lift (Ax.nilck t0)).bind fun t90 =>
 (M.lift (Ax.faddr 13 t90)).bind fun t91 =>
 (mstore 1 t91 t89).bind fun _ =>
 M.pure (.nrm []))
 (M.pure (.nrm []))) fun _ =>
 (M.lift (Ax.nilck t0)).bind fun t94 =>
 (M.lift (Ax.faddr 6 t94)).bind fun t95 =>
 (mload (some 7) t95).bind fun t96 =>
 (M.lift (Ax.faddr 3 t9)).bind fun t97 =>
 (mload none t97).bind fun t98 =>
 (M.lift (Ax.faddr 3 t10)).bind fun t99 =>
 (mload none t99).bind fun t100 =>
 (G zif [t96,t98,t100,t6]).bind fun t102 =>
 (M.lift (Ax.ext 0 t102)).bind fun t103 =>
 (mbox ziM (V.agg [(V.bool false),(V.int .u16 0),(V.int .u32 0),(V.int .u32 0),(V.int .u16 0),(V.int .u16 0),(V.int .i64 0)])).bind fun t21 =>
 (mstore 7 t21 t103).bind fun _ =>
 (M.lift (Ax.ext 1 t102)).bind fun t104 =>
 (M.lift (Ax.ext 2 t102)).bind fun t105 =>
 (M.lift (Ax.ext 3 t102)).bind fun t106 =>
 (mload (some 7) t21).bind fun t108 =>
 (M.lift (Ax.nilck t0)).bind fun t109 =>
 (M.lift (Ax.faddr 6 t109)).bind fun t110 =>
 (mstore 7 t110 t108).bind fun _ =>
 (mload (some 10) t9).bind fun t112 =>
 M.getH.bind fun h0 =>
 (G zd1 [t33,t106]).bind fun t115 =>
 M.getH.bind fun h0' =>
 (M.unch t9 h0 h0').bind fun _ =>
 (G zjR [t112,(V.int .i64 1),t115]).bind fun t116 =>
 (M.lift (Ax.ext 0 t116)).bind fun t117 =>
 (mstore 10 t9 t117).bind fun _ =>
 (M.lift (Ax.ext 1 t116)).bind fun t118 =>
 (M.lift (Ax.nilck t0)).bind fun t122 =>
 (M.lift (Ax.faddr 0 t122)).bind fun t123 =>
 (mload none t123).bind fun t124 =>
 (M.lift (Ax.faddr 2 t9)).bind fun t125 =>
 M.getH.bind fun h1 =>
 (mstore 1 t125 t104).bind fun _ =>
 M.getH.bind fun h1' =>
 (M.unch t123 h1 h1').bind fun _ =>
 (M.lift (Ax.faddr 3 t9)).bind fun t126 =>
 M.getH.bind fun h2 =>
 (mstore 1 t126 t105).bind fun _ =>
 M.getH.bind fun h2' =>
 (M.unch t123 h2 h2').bind fun _ =>
 (M.lift (Ax.faddr 4 t9)).bind fun t127 =>
 (mstore 1 t127 t124).bind fun _ =>
 (mload (some 10) t9).bind fun t129 =>
 (G zfI [t129]).bind fun t130 =>
 (M.lift (Ax.ext 0 t130)).bind fun t131 =>
 (M.lift (Ax.ext 1 t130)).bind fun t132 =>
 (M.lift (Ax.nilck t0)).bind fun t134 =>
 (M.lift (Ax.faddr 14 t134)).bind fun t135 =>
 (mload none t135).bind fun t136 =>
 (G zdV [t136,t104,t131]).bind fun t139 =>
 (M.lift (Ax.build [V.nils,(V.int .i64 0),(V.bool false)] [(0,1,t131)])).bind fun t141 =>
 (mstore 3 t14 t141).bind fun _ =>
 (mload (some 3) t14).bind fun r0 =>
 M.pure (.ret [r0,(V.int .i64 0)]))))
def zhn:Fn':=(T zc6).getD noF
theorem zq0:T zc6 = some zhn:=by kernel_rfl
theorem zr4 (G:Sem') (t0 t1 t2 t3 t4 t5 t6:V):execK G zhn.rv zhn.body [] [] (params 0 [t0,t1,t2,t3,t4,t5,t6]) = zlP G t0 t1 t2 t3 t4 t5 t6:=by kernel_rfl
def ziw (G:Sem'):List V → M V
 | [t0,t1,t2,t3,t4,t5,t6]=>fin (zlP G t0 t1 t2 t3 t4 t5 t6)
 | _=>M.fail
theorem zsH {g:Sem'} (hg:Sims g (sem T)) (args:List V):Sim (ziw g args) (sem T zc6 args):=by
 unfold ziw;split
 ·exact zaf zq0 (Nat.le_of_ble_eq_true (by kernel_rfl)) hg (zr4 g _ _ _ _ _ _ _)
 ·exact zaa
def f_desk_Desk_tell (G:Sem') (t0 t1 t2 t3:V):M Res :=
 (M.lift (Ax.nilck t0)).bind fun t10 =>
 (M.lift (Ax.faddr 1470 t10)).bind fun t11 =>
 (M.lift (Ax.iaddr (some 64) 1 t11 t1)).bind fun t12 =>
 (mload none t12).bind fun t13 =>
 M.getH.bind fun h0 =>
 (G zaI [t3]).bind fun t17 =>
 M.getH.bind fun h0' =>
 (M.unch t12 h0 h0').bind fun _ =>
 (M.lift (Ax.build [(V.int .i64 0),(V.int .i64 0),V.nils] [(0,1,t1),(1,1,t2),(2,1,t17)])).bind fun t18 =>
 (G zaH [t13,t18]).bind fun t19 =>
 (M.lift (Ax.un .not t19)).bind fun t20 =>
 M.join (M.ite t20
 ((M.lift (Ax.nilck t0)).bind fun t22 =>
 (M.lift (Ax.faddr 1534 t22)).bind fun t23 =>
 (mload none t23).bind fun t24 =>
 (G zax [t24,(V.int .i64 10)]).bind fun t25 =>
 M.pure (.nrm []))
 (M.pure (.nrm []))) fun _ =>
 M.pure (.ret [])
def ir_desk_Desk_tell:Fn':=(T za1).getD noF
theorem tb_desk_Desk_tell:T za1 = some ir_desk_Desk_tell:=by kernel_rfl
theorem eq_desk_Desk_tell (G:Sem') (t0 t1 t2 t3:V):execK G ir_desk_Desk_tell.rv ir_desk_Desk_tell.body [] [] (params 0 [t0,t1,t2,t3]) = f_desk_Desk_tell G t0 t1 t2 t3:=by kernel_rfl
def zju (G:Sem'):List V → M V
 | [t0,t1,t2,t3]=>fin (f_desk_Desk_tell G t0 t1 t2 t3)
 | _=>M.fail
theorem zuz {g:Sem'} (hg:Sims g (sem T)) (args:List V):Sim (zju g args) (sem T za1 args):=by
 unfold zju;split
 ·exact zaf tb_desk_Desk_tell (Nat.le_of_ble_eq_true (by kernel_rfl)) hg (eq_desk_Desk_tell g _ _ _ _)
 ·exact zaa
def zjG (G:Sem') (t0 t1 t2 t3 t4:V):M Res :=
 (M.lift (Ax.nilck t1)).bind fun t16 =>
 (M.lift (Ax.faddr 39 t16)).bind fun t17 =>
 (M.lift (Ax.iaddr (some 8) 33 t17 t2)).bind fun t18 =>
 (M.lift (Ax.iaddr (some 3) 11 t18 t3)).bind fun t19 =>
 (mload (some 11) t19).bind fun t20 =>
 (mbox ziL (V.agg [(V.bool false),(V.int .u32 0),(V.int .i64 0),(V.int .i64 0),(V.int .i64 0),V.nils,(V.int .i64 0),V.nils,V.nils,(V.int .u32 0),V.nils])).bind fun t10 =>
 (mstore 11 t10 t20).bind fun _ =>
 (M.lift (Ax.faddr 0 t10)).bind fun t21 =>
 (mload none t21).bind fun t22 =>
 (M.lift (Ax.un .not t22)).bind fun t23 =>
 M.ite t23
 (M.pure (.ret []))
 ((M.lift (Ax.faddr 1 t10)).bind fun t26 =>
 (mload none t26).bind fun t27 =>
 (M.lift (Ax.build [(V.int .i64 0),(V.int .u32 0),(V.int .u32 0),(V.int .u64 0),(V.int .u32 0),(V.int .u32 0),(V.int .u32 0),V.nils,V.nils,V.nils,(V.int .i64 0),(V.int .u32 0),V.nils,(V.int .i64 0),(V.int .i64 0),V.nils] [(0,1,(V.int .i64 4)),(1,1,t4),(2,1,t27)])).bind fun t28 =>
 (mslit za2 1 [(V.int .i64 0),(V.int .u32 0),(V.int .u32 0),(V.int .u64 0),(V.int .u32 0),(V.int .u32 0),(V.int .u32 0),V.nils,V.nils,V.nils,(V.int .i64 0),(V.int .u32 0),V.nils,(V.int .i64 0),(V.int .i64 0),V.nils] [(0,16,t28)]).bind fun t29 =>
 (G zfZ [t29]).bind fun t30 =>
 (M.lift (Ax.ext 0 t30)).bind fun t31 =>
 (M.lift (Ax.ext 1 t30)).bind fun t32 =>
 (M.lift (Ax.nilck t1)).bind fun t36 =>
 (M.lift (Ax.faddr 0 t36)).bind fun t37 =>
 (M.lift (Ax.faddr 0 t37)).bind fun t38 =>
 (M.lift (Ax.faddr 8 t38)).bind fun t39 =>
 (M.lift (Ax.iaddr (some 8) 1 t39 t2)).bind fun t40 =>
 (mload none t40).bind fun t41 =>
 (G za1 [t0,t41,(V.int .i64 1),t31]).bind fun t43 =>
 M.pure (.ret []))
def zfD:Fn':=(T zbU).getD noF
theorem znD:T zbU = some zfD:=by kernel_rfl
theorem zoA (G:Sem') (t0 t1 t2 t3 t4:V):execK G zfD.rv zfD.body [] [] (params 0 [t0,t1,t2,t3,t4]) = zjG G t0 t1 t2 t3 t4:=by kernel_rfl
def zgm (G:Sem'):List V → M V
 | [t0,t1,t2,t3,t4]=>fin (zjG G t0 t1 t2 t3 t4)
 | _=>M.fail
theorem zpl {g:Sem'} (hg:Sims g (sem T)) (args:List V):Sim (zgm g args) (sem T zbU args):=by
 unfold zgm;split
 ·exact zaf znD (Nat.le_of_ble_eq_true (by kernel_rfl)) hg (zoA g _ _ _ _ _)
 ·exact zaa
def f_note_Parse_1 (G:Sem') (t0 t1:V):M Res :=
 (mload none t1).bind fun t4 =>
 (M.lift (Ax.iaddr none 1 t4 t0)).bind fun t6 =>
 (mload none t6).bind fun t7 =>
 (M.lift (Ax.cint .i64 t7)).bind fun t8 =>
 (M.lift (Ax.bin .shl t8 (V.int .u64 8))).bind fun t9 =>
 (mload none t1).bind fun t10 =>
 (M.lift (Ax.bin .add t0 (V.int .i64 1))).bind fun t12 =>
 (M.lift (Ax.iaddr none 1 t10 t12)).bind fun t13 =>
 (mload none t13).bind fun t14 =>
 (M.lift (Ax.cint .i64 t14)).bind fun t15 =>
 (M.lift (Ax.bin .or t9 t15)).bind fun t16 =>
 M.pure (.ret [t16])
def ir_note_Parse_1:Fn':=(T zbd).getD noF
theorem tb_note_Parse_1:T zbd = some ir_note_Parse_1:=by kernel_rfl
theorem eq_note_Parse_1 (G:Sem') (t0 t1:V):execK G ir_note_Parse_1.rv ir_note_Parse_1.body [] [] (params 0 [t0,t1]) = f_note_Parse_1 G t0 t1:=by kernel_rfl
def zlv (G:Sem'):List V → M V
 | [t0,t1]=>fin (f_note_Parse_1 G t0 t1)
 | _=>M.fail
theorem zxg {g:Sem'} (hg:Sims g (sem T)) (args:List V):Sim (zlv g args) (sem T zbd args):=by
 unfold zlv;split
 ·exact zaf tb_note_Parse_1 (Nat.le_of_ble_eq_true (by kernel_rfl)) hg (eq_note_Parse_1 g _ _)
 ·exact zaa
def f_bytes_Clone (G:Sem') (t0:V):M Res :=
 (M.lift (eqr .sl false t0 V.nils)).bind fun t4 =>
 M.ite t4
 (M.pure (.ret [V.nils]))
 ((mslit zaj 0 [(V.int .u8 0)] []).bind fun t5 =>
 (mappend zaj 1 1 t5 t0).bind fun t7 =>
 M.pure (.ret [t7]))
def ir_bytes_Clone:Fn':=(T zaI).getD noF
theorem tb_bytes_Clone:T zaI = some ir_bytes_Clone:=by kernel_rfl
theorem eq_bytes_Clone (G:Sem') (t0:V):execK G ir_bytes_Clone.rv ir_bytes_Clone.body [] [] (params 0 [t0]) = f_bytes_Clone G t0:=by kernel_rfl
def zmZ (G:Sem'):List V → M V
 | [t0]=>fin (f_bytes_Clone G t0)
 | _=>M.fail
theorem zyV {g:Sem'} (hg:Sims g (sem T)) (args:List V):Sim (zmZ g args) (sem T zaI args):=by
 unfold zmZ;split
 ·exact zaf tb_bytes_Clone (Nat.le_of_ble_eq_true (by kernel_rfl)) hg (eq_bytes_Clone g _)
 ·exact zaa
def f_note_Good (G:Sem') (t0:V):M Res :=
 (mbox zag t0).bind fun t1 =>
 (M.lift (Ax.faddr 0 t1)).bind fun t6 =>
 (mload none t6).bind fun t7 =>
 (G zet [t7]).bind fun t8 =>
 (M.lift (Ax.ext 0 t8)).bind fun t9 =>
 (M.lift (Ax.ext 1 t8)).bind fun t10 =>
 (mbox ze4 (V.agg [(V.int .i64 0),(V.int .i64 0),(V.int .i64 0),(V.int .i64 0),(V.int .i64 0),(V.int .i64 0),(V.int .i64 0)])).bind fun t3 =>
 (mstore 7 t3 t9).bind fun _ =>
 (M.lift (Ax.un .not t10)).bind fun t12 =>
 (guarded [(0,t12)] (some (0,false)) (M.lift (Ax.faddr 1 t1))).bind fun t14 =>
 (guarded [(0,t12)] (some (0,false)) (mload none t14)).bind fun t15 =>
 (guarded [(0,t12)] (some (0,false)) (M.lift (Ax.faddr 0 t3))).bind fun t16 =>
 (guarded [(0,t12)] (some (0,false)) (mload none t16)).bind fun t17 =>
 (guarded [(0,t12)] (some (0,false)) (G zaW [t15,t17])).bind fun t18 =>
 (guarded [(0,t12)] (some (0,false)) (M.lift (Ax.un .not t18))).bind fun t19 =>
 (M.lift (Ax.pick t12 (V.bool true) t19)).bind fun t20 =>
 (guarded [(0,t20)] (some (0,false)) (M.lift (Ax.faddr 2 t1))).bind fun t22 =>
 (guarded [(0,t20)] (some (0,false)) (mload none t22)).bind fun t23 =>
 (guarded [(0,t20)] (some (0,false)) (M.lift (Ax.faddr 1 t3))).bind fun t24 =>
 (guarded [(0,t20)] (some (0,false)) (mload none t24)).bind fun t25 =>
 (guarded [(0,t20)] (some (0,false)) (G zaW [t23,t25])).bind fun t26 =>
 (guarded [(0,t20)] (some (0,false)) (M.lift (Ax.un .not t26))).bind fun t27 =>
 (M.lift (Ax.pick t20 (V.bool true) t27)).bind fun t28 =>
 (guarded [(0,t28)] (some (0,false)) (M.lift (Ax.faddr 3 t1))).bind fun t30 =>
 (guarded [(0,t28)] (some (0,false)) (mload none t30)).bind fun t31 =>
 (guarded [(0,t28)] (some (0,false)) (M.lift (Ax.faddr 2 t3))).bind fun t32 =>
 (guarded [(0,t28)] (some (0,false)) (mload none t32)).bind fun t33 =>
 (guarded [(0,t28)] (some (0,false)) (G zaW [t31,t33])).bind fun t34 =>
 (guarded [(0,t28)] (some (0,false)) (M.lift (Ax.un .not t34))).bind fun t35 =>
 (M.lift (Ax.pick t28 (V.bool true) t35)).bind fun t36 =>
 (guarded [(0,t36)] (some (0,false)) (M.lift (Ax.faddr 4 t1))).bind fun t38 =>
 (guarded [(0,t36)] (some (0,false)) (mload none t38)).bind fun t39 =>
 (guarded [(0,t36)] (some (0,false)) (M.lift (Ax.faddr 3 t3))).bind fun t40 =>
 (guarded [(0,t36)] (some (0,false)) (mload none t40)).bind fun t41 =>
 (guarded [(0,t36)] (some (0,false)) (G zaW [t39,t41])).bind fun t42 =>
 (guarded [(0,t36)] (some (0,false)) (M.lift (Ax.un .not t42))).bind fun t43 =>
 (M.lift (Ax.pick t36 (V.bool true) t43)).bind fun t44 =>
 (guarded [(0,t44)] (some (0,false)) (M.lift (Ax.faddr 5 t1))).bind fun t46 =>
 (guarded [(0,t44)] (some (0,false)) (mload none t46)).bind fun t47 =>
 (guarded [(0,t44)] (some (0,false)) (M.lift (Ax.faddr 4 t3))).bind fun t48 =>
 (guarded [(0,t44)] (some (0,false)) (mload none t48)).bind fun t49 =>
 (guarded [(0,t44)] (some (0,false)) (G zaW [t47,t49])).bind fun t50 =>
 (guarded [(0,t44)] (some (0,false)) (M.lift (Ax.un .not t50))).bind fun t51 =>
 (M.lift (Ax.pick t44 (V.bool true) t51)).bind fun t52 =>
 (guarded [(0,t52)] (some (0,false)) (M.lift (Ax.faddr 6 t1))).bind fun t54 =>
 (guarded [(0,t52)] (some (0,false)) (mload none t54)).bind fun t55 =>
 (guarded [(0,t52)] (some (0,false)) (M.lift (vlen t55))).bind fun t56 =>
 (guarded [(0,t52)] (some (0,false)) (M.lift (Ax.faddr 5 t3))).bind fun t57 =>
 (guarded [(0,t52)] (some (0,false)) (mload none t57)).bind fun t58 =>
 (guarded [(0,t52)] (some (0,false)) (M.lift (Ax.bin .lss t56 t58))).bind fun t59 =>
 (M.lift (Ax.pick t52 (V.bool true) t59)).bind fun t60 =>
 (guarded [(0,t60)] (some (0,false)) (M.lift (Ax.faddr 6 t1))).bind fun t62 =>
 (guarded [(0,t60)] (some (0,false)) (mload none t62)).bind fun t63 =>
 (guarded [(0,t60)] (some (0,false)) (M.lift (vlen t63))).bind fun t64 =>
 (guarded [(0,t60)] (some (0,false)) (M.lift (Ax.faddr 6 t3))).bind fun t65 =>
 (guarded [(0,t60)] (some (0,false)) (mload none t65)).bind fun t66 =>
 (guarded [(0,t60)] (some (0,false)) (M.lift (Ax.bin .gtr t64 t66))).bind fun t67 =>
 (M.lift (Ax.pick t60 (V.bool true) t67)).bind fun t68 =>
 M.ite t68
 (M.pure (.ret [(V.bool false)]))
 ((M.lift (Ax.faddr 0 t1)).bind fun t69 =>
 (mload none t69).bind fun t70 =>
 M.blk 0 (
 (M.lift (Ax.bin .eql t70 (V.int .i64 17))).bind fun t72 =>
 M.ite t72
 ((mload (some 7) t1).bind fun t73 =>
 (G zdI [t73]).bind fun t74 =>
 M.pure (.ret [t74]))
 ((M.lift (Ax.bin .eql t70 (V.int .i64 18))).bind fun t76 =>
 M.ite t76
 ((M.lift (Ax.faddr 4 t1)).bind fun t77 =>
 (mload none t77).bind fun t78 =>
 (M.lift (Ax.bin .geq t78 (V.int .i64 1))).bind fun t79 =>
 M.pure (.ret [t79]))
 ((M.lift (Ax.bin .eql t70 (V.int .i64 19))).bind fun t81 =>
 M.ite t81
 ((M.lift (Ax.faddr 4 t1)).bind fun t82 =>
 (mload none t82).bind fun t83 =>
 (M.lift (Ax.faddr 2 t1)).bind fun t84 =>
 (mload none t84).bind fun t85 =>
 (M.lift (Ax.bin .shr t83 t85)).bind fun t86 =>
 (M.lift (Ax.bin .and t86 (V.int .i64 1))).bind fun t87 =>
 (M.lift (Ax.bin .eql t87 (V.int .i64 1))).bind fun t88 =>
 M.pure (.ret [t88]))
 ((M.lift (Ax.bin .eql t70 (V.int .i64 20))).bind fun t90 =>
 M.ite t90
 ((M.lift (Ax.faddr 4 t1)).bind fun t91 =>
 (mload none t91).bind fun t92 =>
 (M.lift (Ax.faddr 2 t1)).bind fun t93 =>
 (mload none t93).bind fun t94 =>
 (M.lift (Ax.bin .shr t92 t94)).bind fun t95 =>
 (M.lift (Ax.bin .and t95 (V.int .i64 1))).bind fun t96 =>
 (M.lift (Ax.bin .eql t96 (V.int .i64 0))).bind fun t97 =>
 M.pure (.ret [t97]))
 (M.pure (.nrm [])))))) fun _ =>
 M.pure (.ret [(V.bool true)]))
def ir_note_Good:Fn':=(T zce).getD noF
theorem tb_note_Good:T zce = some ir_note_Good:=by kernel_rfl
theorem eq_note_Good (G:Sem') (t0:V):execK G ir_note_Good.rv ir_note_Good.body [] [] (params 0 [t0]) = f_note_Good G t0:=by kernel_rfl
def zqM (G:Sem'):List V → M V
 | [t0]=>fin (f_note_Good G t0)
 | _=>M.fail
theorem zCg {g:Sem'} (hg:Sims g (sem T)) (args:List V):Sim (zqM g args) (sem T zce args):=by
 unfold zqM;split
 ·exact zaf tb_note_Good (Nat.le_of_ble_eq_true (by kernel_rfl)) hg (eq_note_Good g _)
 ·exact zaa
end Go.Ax.Cc
/- CiS5 -/
namespace Go.Ax.Cc
open Go.Proofs
def f_desk_Desk_say (G:Sem') (t0 t1 t2:V):M Res :=
 (mbox zag t2).bind fun t5 =>
 (mload (some 7) t5).bind fun t9 =>
 (G zcq [t9]).bind fun t10 =>
 (M.lift (Ax.ext 0 t10)).bind fun t11 =>
 (M.lift (Ax.ext 1 t10)).bind fun t12 =>
 (M.lift (Ax.bin .eql t12 (V.int .i64 0))).bind fun t14 =>
 M.join (M.ite t14
 ((G za1 [t0,t1,(V.int .i64 2),t11]).bind fun t18 =>
 M.pure (.nrm []))
 (M.pure (.nrm []))) fun _ =>
 M.pure (.ret [])
def ir_desk_Desk_say:Fn':=(T zaV).getD noF
theorem tb_desk_Desk_say:T zaV = some ir_desk_Desk_say:=by kernel_rfl
theorem eq_desk_Desk_say (G:Sem') (t0 t1 t2:V):execK G ir_desk_Desk_say.rv ir_desk_Desk_say.body [] [] (params 0 [t0,t1,t2]) = f_desk_Desk_say G t0 t1 t2:=by kernel_rfl
def zks (G:Sem'):List V → M V
 | [t0,t1,t2]=>fin (f_desk_Desk_say G t0 t1 t2)
 | _=>M.fail
theorem zvv {g:Sem'} (hg:Sims g (sem T)) (args:List V):Sim (zks g args) (sem T zaV args):=by
 unfold zks;split
 ·exact zaf tb_desk_Desk_say (Nat.le_of_ble_eq_true (by kernel_rfl)) hg (eq_desk_Desk_say g _ _ _)
 ·exact zaa
def zwc (G:Sem') (t0 t1 t2:V):M Res :=
 (mbox zbS t0).bind fun t3 =>
 (mbox zbS (V.agg [(V.bool false),(V.bool false),(V.bool false),(V.bool false),(V.bool false),(V.bool false),(V.bool false),(V.bool false),(V.int .i64 0),(V.int .i64 0),(V.int .i64 0),(V.int .i64 0),(V.int .i64 0),(V.int .i64 0),(V.int .i64 0),(V.int .i64 0),(V.int .i64 0),(V.bool false),(V.int .i64 0),(V.int .i64 0),(V.int .i64 0),(V.int .i64 0),(V.int .i64 0),(V.int .i64 0),(V.int .i64 0),(V.int .i64 0),(V.int .i64 0),(V.int .i64 0),(V.int .i64 0),(V.int .i64 0),(V.int .i64 0),(V.int .i64 0),(V.int .i64 0),(V.int .i64 0),(V.int .i64 0),(V.int .i64 0),(V.int .i64 0),(V.int .i64 0),(V.bool false)])).bind fun t6 =>
 M.blk 0 (
 (mload (some 39) t3).bind fun t14 =>
 (G zeE [t14]).bind fun t15 =>
 (M.lift (Ax.un .not t15)).bind fun t16 =>
 M.ite t16
 ((mload (some 39) t3).bind fun t17 =>
 (mstore 39 t6 t17).bind fun _ =>
 (mload (some 39) t6).bind fun r0 =>
 M.pure (.ret [r0,(V.int .i64 0),(V.int .i64 1)]))
 ((M.lift (Ax.faddr 38 t3)).bind fun t19 =>
 (mload none t19).bind fun t20 =>
 M.ite t20
 ((mload (some 39) t3).bind fun t21 =>
 (mstore 39 t6 t21).bind fun _ =>
 (mload (some 39) t6).bind fun r0 =>
 M.pure (.ret [r0,(V.int .i64 0),(V.int .i64 12)]))
 (M.pure (.nrm [])))) fun _ =>
 (M.lift (Ax.faddr 0 t3)).bind fun t23 =>
 (mload (some 16) t23).bind fun t24 =>
 (G zfU [t24,t1]).bind fun t26 =>
 (M.lift (Ax.ext 0 t26)).bind fun t27 =>
 (M.lift (Ax.ext 1 t26)).bind fun t28 =>
 (M.lift (Ax.ext 2 t26)).bind fun t29 =>
 (mbox zav (V.agg [(V.bool false),(V.bool false),(V.bool false),(V.bool false),(V.bool false),(V.bool false),(V.bool false),(V.bool false),(V.int .i64 0),(V.int .i64 0),(V.int .i64 0),(V.int .i64 0),(V.int .i64 0),(V.int .i64 0),(V.int .i64 0),(V.int .i64 0)])).bind fun t9 =>
 (mstore 16 t9 t27).bind fun _ =>
 (M.lift (Ax.bin .neq t29 (V.int .i64 0))).bind fun t31 =>
 M.ite t31
 ((mload (some 39) t3).bind fun t32 =>
 (mstore 39 t6 t32).bind fun _ =>
 (mload (some 39) t6).bind fun r0 =>
 M.pure (.ret [r0,(V.int .i64 0),t29]))
 ((M.lift (Ax.faddr 16 t3)).bind fun t35 =>
 (mload (some 6) t35).bind fun t36 =>
 (G zf3 [t36,t28]).bind fun t38 =>
 (M.lift (Ax.ext 0 t38)).bind fun t39 =>
 (M.lift (Ax.ext 1 t38)).bind fun t40 =>
 (mbox zbX (V.agg [(V.int .i64 0),(V.bool false),(V.int .i64 0),(V.int .i64 0),(V.int .i64 0),(V.int .i64 0)])).bind fun t12 =>
 (mstore 6 t12 t39).bind fun _ =>
 (M.lift (Ax.bin .neq t40 (V.int .i64 0))).bind fun t42 =>
 M.ite t42
 ((mload (some 39) t3).bind fun t43 =>
 (mstore 39 t6 t43).bind fun _ =>
 (mload (some 39) t6).bind fun r0 =>
 M.pure (.ret [r0,(V.int .i64 0),t40]))
 ((mload (some 16) t9).bind fun t45 =>
 (mload (some 6) t12).bind fun t46 =>
 (M.lift (Ax.faddr 0 t3)).bind fun t47 =>
 M.getH.bind fun h0 =>
 (mstore 16 t47 t45).bind fun _ =>
 M.getH.bind fun h0' =>
 (M.unch t12 h0 h0').bind fun _ =>
 (M.lift (Ax.faddr 16 t3)).bind fun t48 =>
 (mstore 6 t48 t46).bind fun _ =>
 (M.lift (Ax.faddr 0 t12)).bind fun t52 =>
 (mload none t52).bind fun t53 =>
 (M.lift (Ax.faddr 22 t3)).bind fun t54 =>
 (M.lift (Ax.iaddr (some 8) 1 t54 t28)).bind fun t55 =>
 (M.lift (Ax.faddr 30 t3)).bind fun t56 =>
 M.getH.bind fun h1 =>
 (mstore 1 t55 t2).bind fun _ =>
 M.getH.bind fun h1' =>
 (M.unch t52 h1 h1').bind fun _ =>
 (M.lift (Ax.iaddr (some 8) 1 t56 t28)).bind fun t57 =>
 (mstore 1 t57 t53).bind fun _ =>
 (mload (some 39) t3).bind fun t58 =>
 (mstore 39 t6 t58).bind fun _ =>
 (mload (some 39) t6).bind fun r0 =>
 M.pure (.ret [r0,t28,(V.int .i64 0)])))
def zn2:Fn':=(T zg5).getD noF
theorem zz6:T zg5 = some zn2:=by kernel_rfl
theorem zBp (G:Sem') (t0 t1 t2:V):execK G zn2.rv zn2.body [] [] (params 0 [t0,t1,t2]) = zwc G t0 t1 t2:=by kernel_rfl
def zqH (G:Sem'):List V → M V
 | [t0,t1,t2]=>fin (zwc G t0 t1 t2)
 | _=>M.fail
theorem zCb {g:Sem'} (hg:Sims g (sem T)) (args:List V):Sim (zqH g args) (sem T zg5 args):=by
 unfold zqH;split
 ·exact zaf zz6 (Nat.le_of_ble_eq_true (by kernel_rfl)) hg (zBp g _ _ _)
 ·exact zaa
def zrL (G:Sem') (t0:V):M Res :=
 (M.lift (Ax.nilck t0)).bind fun t4 =>
 (M.lift (Ax.faddr 0 t4)).bind fun t5 =>
 (M.lift (Ax.faddr 16 t5)).bind fun t6 =>
 (mload (some 6) t6).bind fun t7 =>
 (G zdH [t7]).bind fun t8 =>
 M.pure (.ret [t8])
def zli:Fn':=(T zdr).getD noF
theorem zw4:T zdr = some zli:=by kernel_rfl
theorem zxG (G:Sem') (t0:V):execK G zli.rv zli.body [] [] (params 0 [t0]) = zrL G t0:=by kernel_rfl
def zmT (G:Sem'):List V → M V
 | [t0]=>fin (zrL G t0)
 | _=>M.fail
theorem zyP {g:Sem'} (hg:Sims g (sem T)) (args:List V):Sim (zmT g args) (sem T zdr args):=by
 unfold zmT;split
 ·exact zaf zw4 (Nat.le_of_ble_eq_true (by kernel_rfl)) hg (zxG g _)
 ·exact zaa
def zs7 (G:Sem') (t15 t2 t0 t1 t7:V) (L:List V):M Res :=
 (M.lift (Ax.bin .lss (L.getD 0 .undef) (V.int .i64 8))).bind fun t17 =>
 M.ite t17
 (M.blk 1 (
 (M.lift (Ax.index 8 1 none t15 (L.getD 0 .undef))).bind fun t19 =>
 (guarded [(0,t19)] (some (0,true)) (M.pure (L.getD 0 .undef))).bind fun t22 =>
 (guarded [(0,t19)] (some (0,true)) (M.pure t2)).bind fun t23 =>
 (guarded [(0,t19)] (some (0,true)) (M.lift (Ax.bin .neq t22 t23))).bind fun t24 =>
 (M.lift (Ax.pick t19 t24 (V.bool false))).bind fun t25 =>
 M.join (M.ite t25
 ((M.lift (Ax.nilck t1)).bind fun t29 =>
 (M.lift (Ax.faddr 0 t29)).bind fun t30 =>
 (M.lift (Ax.faddr 0 t30)).bind fun t31 =>
 (M.lift (Ax.faddr 8 t31)).bind fun t32 =>
 (M.lift (Ax.iaddr (some 8) 1 t32 (L.getD 0 .undef))).bind fun t33 =>
 (mload none t33).bind fun t34 =>
 (mload (some 7) t7).bind fun t35 =>
 (G zaV [t0,t34,t35]).bind fun t36 =>
 M.pure (.nrm []))
 (M.pure (.nrm []))) fun _ =>
 M.pure (.nrm [])) fun _ =>
 (M.lift (Ax.bin .add (L.getD 0 .undef) (V.int .i64 1))).bind fun t37 =>
 M.pure (.nrm [t37]))
 (M.pure (.ex 0 []))
def zor (G:Sem') (t0 t1 t2 t3:V):M Res :=
 (mbox zag t3).bind fun t7 =>
 (M.lift (Ax.nilck t1)).bind fun t11 =>
 (M.lift (Ax.faddr 0 t11)).bind fun t12 =>
 (M.lift (Ax.faddr 0 t12)).bind fun t13 =>
 (M.lift (Ax.faddr 0 t13)).bind fun t14 =>
 (mload (some 8) t14).bind fun t15 =>
 M.blk 0 (
 M.iter (zs7 G t15 t2 t0 t1 t7) [(V.int .i64 0)]) fun _ =>
 M.pure (.ret [])
def zi9:Fn':=(T zcD).getD noF
theorem zuh:T zcD = some zi9:=by kernel_rfl
theorem zuW (G:Sem') (t0 t1 t2 t3:V):execK G zi9.rv zi9.body [] [] (params 0 [t0,t1,t2,t3]) = zor G t0 t1 t2 t3:=by kernel_rfl
def zku (G:Sem'):List V → M V
 | [t0,t1,t2,t3]=>fin (zor G t0 t1 t2 t3)
 | _=>M.fail
theorem zvx {g:Sem'} (hg:Sims g (sem T)) (args:List V):Sim (zku g args) (sem T zcD args):=by
 unfold zku;split
 ·exact zaf zuh (Nat.le_of_ble_eq_true (by kernel_rfl)) hg (zuW g _ _ _ _)
 ·exact zaa
def zt0 (G:Sem') (t0 t1 t2:V):M Res :=
 (mbox zbS t0).bind fun t3 =>
 (mbox zbS (V.agg [(V.bool false),(V.bool false),(V.bool false),(V.bool false),(V.bool false),(V.bool false),(V.bool false),(V.bool false),(V.int .i64 0),(V.int .i64 0),(V.int .i64 0),(V.int .i64 0),(V.int .i64 0),(V.int .i64 0),(V.int .i64 0),(V.int .i64 0),(V.int .i64 0),(V.bool false),(V.int .i64 0),(V.int .i64 0),(V.int .i64 0),(V.int .i64 0),(V.int .i64 0),(V.int .i64 0),(V.int .i64 0),(V.int .i64 0),(V.int .i64 0),(V.int .i64 0),(V.int .i64 0),(V.int .i64 0),(V.int .i64 0),(V.int .i64 0),(V.int .i64 0),(V.int .i64 0),(V.int .i64 0),(V.int .i64 0),(V.int .i64 0),(V.int .i64 0),(V.bool false)])).bind fun t6 =>
 (mload (some 39) t3).bind fun t11 =>
 (G zd7 [t11,t1]).bind fun t13 =>
 (M.lift (Ax.ext 0 t13)).bind fun t14 =>
 (M.lift (Ax.ext 1 t13)).bind fun t15 =>
 (M.lift (Ax.bin .neq t15 (V.int .i64 0))).bind fun t17 =>
 M.ite t17
 ((mload (some 39) t3).bind fun t18 =>
 (mstore 39 t6 t18).bind fun _ =>
 (mload (some 39) t6).bind fun r0 =>
 M.pure (.ret [r0,t15]))
 ((mload (some 39) t3).bind fun t20 =>
 (G zdq [t20,t14,t2]).bind fun t23 =>
 (mstore 39 t6 t23).bind fun _ =>
 (mload (some 39) t6).bind fun r0 =>
 M.pure (.ret [r0,(V.int .i64 0)]))
def zms:Fn':=(T zf0).getD noF
theorem zyu:T zf0 = some zms:=by kernel_rfl
theorem zzA (G:Sem') (t0 t1 t2:V):execK G zms.rv zms.body [] [] (params 0 [t0,t1,t2]) = zt0 G t0 t1 t2:=by kernel_rfl
def zoU (G:Sem'):List V → M V
 | [t0,t1,t2]=>fin (zt0 G t0 t1 t2)
 | _=>M.fail
theorem zAx {g:Sem'} (hg:Sims g (sem T)) (args:List V):Sim (zoU g args) (sem T zf0 args):=by
 unfold zoU;split
 ·exact zaf zyu (Nat.le_of_ble_eq_true (by kernel_rfl)) hg (zzA g _ _ _)
 ·exact zaa
def zwb (G:Sem') (t0 t1 t2 t3:V):M Res :=
 (mbox zbS t0).bind fun t4 =>
 (mbox zbS (V.agg [(V.bool false),(V.bool false),(V.bool false),(V.bool false),(V.bool false),(V.bool false),(V.bool false),(V.bool false),(V.int .i64 0),(V.int .i64 0),(V.int .i64 0),(V.int .i64 0),(V.int .i64 0),(V.int .i64 0),(V.int .i64 0),(V.int .i64 0),(V.int .i64 0),(V.bool false),(V.int .i64 0),(V.int .i64 0),(V.int .i64 0),(V.int .i64 0),(V.int .i64 0),(V.int .i64 0),(V.int .i64 0),(V.int .i64 0),(V.int .i64 0),(V.int .i64 0),(V.int .i64 0),(V.int .i64 0),(V.int .i64 0),(V.int .i64 0),(V.int .i64 0),(V.int .i64 0),(V.int .i64 0),(V.int .i64 0),(V.int .i64 0),(V.int .i64 0),(V.bool false)])).bind fun t8 =>
 (mload (some 39) t4).bind fun t17 =>
 (G zd7 [t17,t1]).bind fun t19 =>
 (M.lift (Ax.ext 0 t19)).bind fun t20 =>
 (M.lift (Ax.ext 1 t19)).bind fun t21 =>
 (M.lift (Ax.bin .neq t21 (V.int .i64 0))).bind fun t23 =>
 M.ite t23
 ((mload (some 39) t4).bind fun t24 =>
 (mstore 39 t8 t24).bind fun _ =>
 (mload (some 39) t8).bind fun r0 =>
 M.pure (.ret [r0,t21]))
 ((M.lift (Ax.faddr 0 t4)).bind fun t27 =>
 (mload (some 16) t27).bind fun t28 =>
 (G ze6 [t28]).bind fun t29 =>
 (M.lift (Ax.ext 0 t29)).bind fun t30 =>
 (M.lift (Ax.ext 1 t29)).bind fun t31 =>
 (M.lift (Ax.bin .neq t30 t20)).bind fun t34 =>
 M.ite t34
 ((mload (some 39) t4).bind fun t35 =>
 (mstore 39 t8 t35).bind fun _ =>
 (mload (some 39) t8).bind fun r0 =>
 M.pure (.ret [r0,(V.int .i64 13)]))
 ((M.lift (Ax.faddr 0 t4)).bind fun t37 =>
 (mload (some 16) t37).bind fun t38 =>
 (G zeQ [t38,t2]).bind fun t40 =>
 (M.lift (Ax.ext 0 t40)).bind fun t41 =>
 (M.lift (Ax.ext 1 t40)).bind fun t42 =>
 (mbox zav (V.agg [(V.bool false),(V.bool false),(V.bool false),(V.bool false),(V.bool false),(V.bool false),(V.bool false),(V.bool false),(V.int .i64 0),(V.int .i64 0),(V.int .i64 0),(V.int .i64 0),(V.int .i64 0),(V.int .i64 0),(V.int .i64 0),(V.int .i64 0)])).bind fun t14 =>
 (mstore 16 t14 t41).bind fun _ =>
 (M.lift (Ax.bin .neq t42 (V.int .i64 0))).bind fun t44 =>
 M.ite t44
 ((mload (some 39) t4).bind fun t45 =>
 (mstore 39 t8 t45).bind fun _ =>
 (mload (some 39) t8).bind fun r0 =>
 M.pure (.ret [r0,t42]))
 ((mload (some 39) t4).bind fun t47 =>
 (G zdq [t47,t2,t3]).bind fun t50 =>
 (mstore 39 t8 t50).bind fun _ =>
 (mload (some 39) t8).bind fun r0 =>
 M.pure (.ret [r0,(V.int .i64 0)]))))
def zn1:Fn':=(T zg4).getD noF
theorem zz5:T zg4 = some zn1:=by kernel_rfl
theorem zBo (G:Sem') (t0 t1 t2 t3:V):execK G zn1.rv zn1.body [] [] (params 0 [t0,t1,t2,t3]) = zwb G t0 t1 t2 t3:=by kernel_rfl
def zqG (G:Sem'):List V → M V
 | [t0,t1,t2,t3]=>fin (zwb G t0 t1 t2 t3)
 | _=>M.fail
theorem zCa {g:Sem'} (hg:Sims g (sem T)) (args:List V):Sim (zqG g args) (sem T zg4 args):=by
 unfold zqG;split
 ·exact zaf zz5 (Nat.le_of_ble_eq_true (by kernel_rfl)) hg (zBo g _ _ _ _)
 ·exact zaa
def znb (G:Sem') (t0 t1 t2:V):M Res :=
 (mbox zag t2).bind fun t5 =>
 (M.lift (Ax.faddr 6 t5)).bind fun t11 =>
 (mload none t11).bind fun t12 =>
 (M.lift (Ax.iaddr none 1 t12 (V.int .i64 0))).bind fun t13 =>
 (mload none t13).bind fun t14 =>
 (M.lift (Ax.cint .u32 t14)).bind fun t15 =>
 (M.lift (Ax.bin .shl t15 (V.int .u64 24))).bind fun t16 =>
 (M.lift (Ax.faddr 6 t5)).bind fun t17 =>
 (mload none t17).bind fun t18 =>
 (M.lift (Ax.iaddr none 1 t18 (V.int .i64 1))).bind fun t19 =>
 (mload none t19).bind fun t20 =>
 (M.lift (Ax.cint .u32 t20)).bind fun t21 =>
 (M.lift (Ax.bin .shl t21 (V.int .u64 16))).bind fun t22 =>
 (M.lift (Ax.bin .or t16 t22)).bind fun t23 =>
 (M.lift (Ax.faddr 6 t5)).bind fun t24 =>
 (mload none t24).bind fun t25 =>
 (M.lift (Ax.iaddr none 1 t25 (V.int .i64 2))).bind fun t26 =>
 (mload none t26).bind fun t27 =>
 (M.lift (Ax.cint .u32 t27)).bind fun t28 =>
 (M.lift (Ax.bin .shl t28 (V.int .u64 8))).bind fun t29 =>
 (M.lift (Ax.bin .or t23 t29)).bind fun t30 =>
 (M.lift (Ax.faddr 6 t5)).bind fun t31 =>
 (mload none t31).bind fun t32 =>
 (M.lift (Ax.iaddr none 1 t32 (V.int .i64 3))).bind fun t33 =>
 (mload none t33).bind fun t34 =>
 (M.lift (Ax.cint .u32 t34)).bind fun t35 =>
 (M.lift (Ax.bin .or t30 t35)).bind fun t36 =>
 (G zcb [t0,t1,t36]).bind fun t41 =>
 (M.lift (Ax.ext 0 t41)).bind fun t42 =>
 (M.lift (Ax.ext 1 t41)).bind fun t43 =>
 (guarded [(0,t43)] (some (0,true)) (M.pure t42)).bind fun t46 =>
 (guarded [(0,t43)] (some (0,true)) (M.lift (Ax.faddr 4 t5))).bind fun t47 =>
 (guarded [(0,t43)] (some (0,true)) (mload none t47)).bind fun t48 =>
 (guarded [(0,t43)] (some (0,true)) (M.lift (Ax.bin .neq t46 t48))).bind fun t49 =>
 (M.lift (Ax.pick t43 t49 (V.bool false))).bind fun t50 =>
 M.ite t50
 (M.pure (.ret [(V.int .i64 7)]))
 ((M.lift (Ax.faddr 4 t5)).bind fun t53 =>
 (mload none t53).bind fun t54 =>
 (M.lift (Ax.nilck t0)).bind fun t55 =>
 (M.lift (Ax.faddr 39 t55)).bind fun t56 =>
 (M.lift (Ax.iaddr (some 8) 33 t56 t1)).bind fun t57 =>
 (M.lift (Ax.iaddr (some 3) 11 t57 t54)).bind fun t58 =>
 (M.lift (Ax.nilck t58)).bind fun t60 =>
 (M.lift (Ax.faddr 0 t60)).bind fun t61 =>
 (mload none t61).bind fun t62 =>
 (M.lift (Ax.un .not t62)).bind fun t63 =>
 (guarded [(0,t63)] (some (0,false)) (M.pure t58)).bind fun t65 =>
 (guarded [(0,t63)] (some (0,false)) (M.lift (Ax.nilck t65))).bind fun t66 =>
 (guarded [(0,t63)] (some (0,false)) (M.lift (Ax.faddr 1 t66))).bind fun t67 =>
 (guarded [(0,t63)] (some (0,false)) (mload none t67)).bind fun t68 =>
 (guarded [(0,t63)] (some (0,false)) (M.pure t36)).bind fun t69 =>
 (guarded [(0,t63)] (some (0,false)) (M.lift (Ax.bin .neq t68 t69))).bind fun t70 =>
 (M.lift (Ax.pick t63 (V.bool true) t70)).bind fun t71 =>
 M.join (M.ite t71
 ((M.lift (Ax.build [(V.bool false),(V.int .u32 0),(V.int .i64 0),(V.int .i64 0),(V.int .i64 0),V.nils,(V.int .i64 0),V.nils,V.nils,(V.int .u32 0),V.nils] [(0,1,(V.bool true)),(1,1,t36)])).bind fun t74 =>
 (M.lift (Ax.nilck t58)).bind fun t75 =>
 (mstore 11 t75 t74).bind fun _ =>
 M.pure (.nrm []))
 (M.pure (.nrm []))) fun _ =>
 (M.lift (Ax.faddr 5 t5)).bind fun t77 =>
 (mload none t77).bind fun t78 =>
 (M.lift (Ax.nilck t58)).bind fun t79 =>
 (M.lift (Ax.faddr 2 t79)).bind fun t80 =>
 (mstore 1 t80 t78).bind fun _ =>
 M.pure (.ret [(V.int .i64 0)]))
def zh2:Fn':=(T zdx).getD noF
theorem zso:T zdx = some zh2:=by kernel_rfl
theorem ztg (G:Sem') (t0 t1 t2:V):execK G zh2.rv zh2.body [] [] (params 0 [t0,t1,t2]) = znb G t0 t1 t2:=by kernel_rfl
def zjp (G:Sem'):List V → M V
 | [t0,t1,t2]=>fin (znb G t0 t1 t2)
 | _=>M.fail
theorem zuu {g:Sem'} (hg:Sims g (sem T)) (args:List V):Sim (zjp g args) (sem T zdx args):=by
 unfold zjp;split
 ·exact zaf zso (Nat.le_of_ble_eq_true (by kernel_rfl)) hg (ztg g _ _ _)
 ·exact zaa
def zne (G:Sem') (t0 t1 t2 t3:V):M Res :=
 (mbox zag t3).bind fun t7 =>
 M.blk 0 (
 (M.lift (Ax.faddr 2 t7)).bind fun t14 =>
 (mload none t14).bind fun t15 =>
 (M.lift (Ax.nilck t1)).bind fun t16 =>
 (M.lift (Ax.faddr 0 t16)).bind fun t17 =>
 (M.lift (Ax.faddr 0 t17)).bind fun t18 =>
 (M.lift (Ax.faddr 0 t18)).bind fun t19 =>
 (M.lift (Ax.iaddr (some 8) 1 t19 t15)).bind fun t20 =>
 (mload none t20).bind fun t21 =>
 (M.lift (Ax.un .not t21)).bind fun t22 =>
 M.ite t22
 (M.pure (.ret [(V.int .i64 6)]))
 ((M.lift (Ax.faddr 2 t7)).bind fun t24 =>
 (mload none t24).bind fun t25 =>
 (M.lift (Ax.bin .eql t25 t2)).bind fun t27 =>
 M.ite t27
 (M.pure (.ret [(V.int .i64 1)]))
 (M.pure (.nrm [])))) fun _ =>
 (M.lift (Ax.faddr 2 t7)).bind fun t30 =>
 (mload none t30).bind fun t31 =>
 (M.lift (Ax.nilck t1)).bind fun t32 =>
 (M.lift (Ax.faddr 303 t32)).bind fun t33 =>
 (M.lift (Ax.iaddr (some 8) 8 t33 t2)).bind fun t34 =>
 (M.lift (Ax.iaddr (some 8) 1 t34 t31)).bind fun t35 =>
 (mload none t35).bind fun t36 =>
 (M.lift (eqr .ptr false t36 V.nilp)).bind fun t38 =>
 M.join (M.ite t38
 ((G zdA [t0,t1,t2]).bind fun t43 =>
 (M.lift (Ax.ext 0 t43)).bind fun t44 =>
 (M.lift (Ax.ext 1 t43)).bind fun t45 =>
 (M.lift (Ax.un .not t45)).bind fun t47 =>
 M.ite t47
 (M.pure (.ret [(V.int .i64 5)]))
 ((G zim [t44]).bind fun t49 =>
 (M.lift (Ax.faddr 2 t7)).bind fun t52 =>
 (mload none t52).bind fun t53 =>
 (M.lift (Ax.nilck t1)).bind fun t55 =>
 (M.lift (Ax.faddr 303 t55)).bind fun t56 =>
 (M.lift (Ax.iaddr (some 8) 8 t56 t2)).bind fun t57 =>
 (M.lift (Ax.iaddr (some 8) 1 t57 t53)).bind fun t58 =>
 (mstore 1 t58 t49).bind fun _ =>
 (M.lift (Ax.nilck t1)).bind fun t62 =>
 (M.lift (Ax.faddr 0 t62)).bind fun t63 =>
 (M.lift (Ax.faddr 0 t63)).bind fun t64 =>
 (M.lift (Ax.faddr 8 t64)).bind fun t65 =>
 (M.lift (Ax.iaddr (some 8) 1 t65 t2)).bind fun t66 =>
 (mload none t66).bind fun t67 =>
 (M.lift (Ax.faddr 2 t7)).bind fun t68 =>
 (mload none t68).bind fun t69 =>
 (M.lift (Ax.bin .shr t44 (V.int .u64 24))).bind fun t71 =>
 (M.lift (Ax.cint .u8 t71)).bind fun t72 =>
 (M.lift (Ax.bin .shr t44 (V.int .u64 16))).bind fun t74 =>
 (M.lift (Ax.cint .u8 t74)).bind fun t75 =>
 (M.lift (Ax.bin .shr t44 (V.int .u64 8))).bind fun t77 =>
 (M.lift (Ax.cint .u8 t77)).bind fun t78 =>
 (M.lift (Ax.cint .u8 t44)).bind fun t80 =>
 (mslit zaj 4 [(V.int .u8 0)] [(0,1,t72),(1,1,t75),(2,1,t78),(3,1,t80)]).bind fun t81 =>
 (M.lift (Ax.build [(V.int .i64 0),(V.int .i64 0),(V.int .i64 0),(V.int .i64 0),(V.int .i64 0),(V.int .i64 0),V.nils] [(0,1,(V.int .i64 24)),(2,1,t69),(6,1,t81)])).bind fun t82 =>
 (G zaV [t0,t67,t82]).bind fun t83 =>
 M.pure (.nrm [t49])))
 (M.pure (.nrm [t36]))) fun L1 =>
 (M.lift (Ax.faddr 4 t7)).bind fun t85 =>
 (mload none t85).bind fun t86 =>
 (M.lift (Ax.faddr 5 t7)).bind fun t87 =>
 (mload none t87).bind fun t88 =>
 (G zc7 [(L1.getD 0 .undef),t86,t88]).bind fun t89 =>
 (M.lift (Ax.faddr 2 t7)).bind fun t93 =>
 (mload none t93).bind fun t94 =>
 (G zct [t0,t1,t2,t94]).bind fun t95 =>
 M.pure (.ret [(V.int .i64 0)])
def zh5:Fn':=(T zdy).getD noF
theorem zsr:T zdy = some zh5:=by kernel_rfl
theorem ztj (G:Sem') (t0 t1 t2 t3:V):execK G zh5.rv zh5.body [] [] (params 0 [t0,t1,t2,t3]) = zne G t0 t1 t2 t3:=by kernel_rfl
def zjs (G:Sem'):List V → M V
 | [t0,t1,t2,t3]=>fin (zne G t0 t1 t2 t3)
 | _=>M.fail
theorem zux {g:Sem'} (hg:Sims g (sem T)) (args:List V):Sim (zjs g args) (sem T zdy args):=by
 unfold zjs;split
 ·exact zaf zsr (Nat.le_of_ble_eq_true (by kernel_rfl)) hg (ztj g _ _ _ _)
 ·exact zaa
def zoq (G:Sem') (t0 t1 t2 t3:V):M Res :=
 (mbox zag t3).bind fun t7 =>
 M.blk 0 (
 (M.lift (Ax.faddr 2 t7)).bind fun t11 =>
 (mload none t11).bind fun t12 =>
 (M.lift (Ax.nilck t1)).bind fun t13 =>
 (M.lift (Ax.faddr 0 t13)).bind fun t14 =>
 (M.lift (Ax.faddr 0 t14)).bind fun t15 =>
 (M.lift (Ax.faddr 0 t15)).bind fun t16 =>
 (M.lift (Ax.iaddr (some 8) 1 t16 t12)).bind fun t17 =>
 (mload none t17).bind fun t18 =>
 (M.lift (Ax.un .not t18)).bind fun t19 =>
 M.ite t19
 (M.pure (.ret [(V.int .i64 6)]))
 ((M.lift (Ax.faddr 2 t7)).bind fun t21 =>
 (mload none t21).bind fun t22 =>
 (M.lift (Ax.bin .eql t22 t2)).bind fun t24 =>
 M.ite t24
 (M.pure (.ret [(V.int .i64 1)]))
 ((M.lift (Ax.faddr 3 t7)).bind fun t26 =>
 (mload none t26).bind fun t27 =>
 (M.lift (Ax.nilck t1)).bind fun t29 =>
 (M.lift (Ax.faddr 0 t29)).bind fun t30 =>
 (M.lift (Ax.faddr 16 t30)).bind fun t31 =>
 (M.lift (Ax.faddr 0 t31)).bind fun t32 =>
 (mload none t32).bind fun t33 =>
 (M.lift (Ax.bin .neq t27 t33)).bind fun t34 =>
 (guarded [(0,t34)] (some (0,true)) (M.lift (Ax.faddr 3 t7))).bind fun t36 =>
 (guarded [(0,t34)] (some (0,true)) (mload none t36)).bind fun t37 =>
 (guarded [(0,t34)] (some (0,true)) (M.pure t1)).bind fun t38 =>
 M.getH.bind fun h0 =>
 (guarded [(0,t34)] (some (0,true)) (G zdr [t38])).bind fun t39 =>
 M.getH.bind fun h0' =>
 (M.unch t36 h0 h0').bind fun _ =>
 (guarded [(0,t34)] (some (0,true)) (M.lift (Ax.bin .neq t37 t39))).bind fun t40 =>
 (M.lift (Ax.pick t34 t40 (V.bool false))).bind fun t41 =>
 M.ite t41
 (M.pure (.ret [(V.int .i64 12)]))
 (M.pure (.nrm []))))) fun _ =>
 (M.lift (Ax.faddr 2 t7)).bind fun t44 =>
 (mload none t44).bind fun t45 =>
 (M.lift (Ax.nilck t1)).bind fun t46 =>
 (M.lift (Ax.faddr 0 t46)).bind fun t47 =>
 (M.lift (Ax.faddr 0 t47)).bind fun t48 =>
 (M.lift (Ax.faddr 8 t48)).bind fun t49 =>
 (M.lift (Ax.iaddr (some 8) 1 t49 t45)).bind fun t50 =>
 (mload none t50).bind fun t51 =>
 (M.lift (Ax.faddr 3 t7)).bind fun t53 =>
 (mload none t53).bind fun t54 =>
 (M.lift (Ax.faddr 4 t7)).bind fun t55 =>
 (mload none t55).bind fun t56 =>
 (M.lift (Ax.faddr 6 t7)).bind fun t57 =>
 (mload none t57).bind fun t58 =>
 (M.lift (Ax.build [(V.int .i64 0),(V.int .i64 0),(V.int .i64 0),(V.int .i64 0),(V.int .i64 0),(V.int .i64 0),V.nils] [(0,1,(V.int .i64 21)),(2,1,t2),(3,1,t54),(4,1,t56),(6,1,t58)])).bind fun t59 =>
 (G zaV [t0,t51,t59]).bind fun t60 =>
 M.pure (.ret [(V.int .i64 0)])
def zi8:Fn':=(T zdY).getD noF
theorem zug:T zdY = some zi8:=by kernel_rfl
theorem zuV (G:Sem') (t0 t1 t2 t3:V):execK G zi8.rv zi8.body [] [] (params 0 [t0,t1,t2,t3]) = zoq G t0 t1 t2 t3:=by kernel_rfl
def zkt (G:Sem'):List V → M V
 | [t0,t1,t2,t3]=>fin (zoq G t0 t1 t2 t3)
 | _=>M.fail
theorem zvw {g:Sem'} (hg:Sims g (sem T)) (args:List V):Sim (zkt g args) (sem T zdY args):=by
 unfold zkt;split
 ·exact zaf zug (Nat.le_of_ble_eq_true (by kernel_rfl)) hg (zuV g _ _ _ _)
 ·exact zaa
def zwd (G:Sem') (t0 t1 t2:V):M Res :=
 (mbox zbS t0).bind fun t3 =>
 (mbox zbS (V.agg [(V.bool false),(V.bool false),(V.bool false),(V.bool false),(V.bool false),(V.bool false),(V.bool false),(V.bool false),(V.int .i64 0),(V.int .i64 0),(V.int .i64 0),(V.int .i64 0),(V.int .i64 0),(V.int .i64 0),(V.int .i64 0),(V.int .i64 0),(V.int .i64 0),(V.bool false),(V.int .i64 0),(V.int .i64 0),(V.int .i64 0),(V.int .i64 0),(V.int .i64 0),(V.int .i64 0),(V.int .i64 0),(V.int .i64 0),(V.int .i64 0),(V.int .i64 0),(V.int .i64 0),(V.int .i64 0),(V.int .i64 0),(V.int .i64 0),(V.int .i64 0),(V.int .i64 0),(V.int .i64 0),(V.int .i64 0),(V.int .i64 0),(V.int .i64 0),(V.bool false)])).bind fun t6 =>
 (mload (some 39) t3).bind fun t14 =>
 (G zd7 [t14,t1]).bind fun t16 =>
 (M.lift (Ax.ext 0 t16)).bind fun t17 =>
 (M.lift (Ax.ext 1 t16)).bind fun t18 =>
 (M.lift (Ax.bin .neq t18 (V.int .i64 0))).bind fun t20 =>
 M.ite t20
 ((mload (some 39) t3).bind fun t21 =>
 (mstore 39 t6 t21).bind fun _ =>
 (mload (some 39) t6).bind fun r0 =>
 M.pure (.ret [r0,(V.bool false),t18]))
 ((M.lift (Ax.faddr 16 t3)).bind fun t24 =>
 (mload (some 6) t24).bind fun t25 =>
 (G zg7 [t25,t17,t2]).bind fun t28 =>
 (M.lift (Ax.ext 0 t28)).bind fun t29 =>
 (M.lift (Ax.ext 1 t28)).bind fun t30 =>
 (M.lift (Ax.ext 2 t28)).bind fun t31 =>
 (mbox zbX (V.agg [(V.int .i64 0),(V.bool false),(V.int .i64 0),(V.int .i64 0),(V.int .i64 0),(V.int .i64 0)])).bind fun t11 =>
 (mstore 6 t11 t29).bind fun _ =>
 (M.lift (Ax.bin .neq t31 (V.int .i64 0))).bind fun t33 =>
 M.ite t33
 ((mload (some 39) t3).bind fun t34 =>
 (mstore 39 t6 t34).bind fun _ =>
 (mload (some 39) t6).bind fun r0 =>
 M.pure (.ret [r0,(V.bool false),t31]))
 ((mload (some 6) t11).bind fun t36 =>
 (M.lift (Ax.faddr 16 t3)).bind fun t37 =>
 (mstore 6 t37 t36).bind fun _ =>
 (mload (some 39) t3).bind fun t38 =>
 (mstore 39 t6 t38).bind fun _ =>
 (mload (some 39) t6).bind fun r0 =>
 M.pure (.ret [r0,t30,(V.int .i64 0)])))
def zn3:Fn':=(T zg6).getD noF
theorem zz7:T zg6 = some zn3:=by kernel_rfl
theorem zBq (G:Sem') (t0 t1 t2:V):execK G zn3.rv zn3.body [] [] (params 0 [t0,t1,t2]) = zwd G t0 t1 t2:=by kernel_rfl
def zqI (G:Sem'):List V → M V
 | [t0,t1,t2]=>fin (zwd G t0 t1 t2)
 | _=>M.fail
theorem zCc {g:Sem'} (hg:Sims g (sem T)) (args:List V):Sim (zqI g args) (sem T zg6 args):=by
 unfold zqI;split
 ·exact zaf zz7 (Nat.le_of_ble_eq_true (by kernel_rfl)) hg (zBq g _ _ _)
 ·exact zaa
def zt3 (G:Sem') (t0 t1:V):M Res :=
 (mbox zbX t0).bind fun t2 =>
 (mload (some 6) t2).bind fun t5 =>
 (G zcX [t5]).bind fun t6 =>
 (M.lift (Ax.un .not t6)).bind fun t7 =>
 (guarded [(0,t7)] (some (0,false)) (M.lift (Ax.faddr 1 t2))).bind fun t9 =>
 (guarded [(0,t7)] (some (0,false)) (mload none t9)).bind fun t10 =>
 (guarded [(0,t7)] (some (0,false)) (M.lift (Ax.un .not t10))).bind fun t11 =>
 (M.lift (Ax.pick t7 (V.bool true) t11)).bind fun t12 =>
 (guarded [(0,t12)] (some (0,false)) (M.pure t1)).bind fun t14 =>
 (guarded [(0,t12)] (some (0,false)) (M.lift (Ax.faddr 5 t2))).bind fun t15 =>
 (guarded [(0,t12)] (some (0,false)) (mload none t15)).bind fun t16 =>
 (guarded [(0,t12)] (some (0,false)) (M.lift (Ax.bin .lss t14 t16))).bind fun t17 =>
 (M.lift (Ax.pick t12 (V.bool true) t17)).bind fun t18 =>
 (guarded [(0,t18)] (some (0,false)) (M.pure t1)).bind fun t20 =>
 (guarded [(0,t18)] (some (0,false)) (M.lift (Ax.cint .u64 t20))).bind fun t21 =>
 (guarded [(0,t18)] (some (0,false)) (M.lift (Ax.faddr 5 t2))).bind fun t22 =>
 (guarded [(0,t18)] (some (0,false)) (mload none t22)).bind fun t23 =>
 (guarded [(0,t18)] (some (0,false)) (M.lift (Ax.cint .u64 t23))).bind fun t24 =>
 (guarded [(0,t18)] (some (0,false)) (M.lift (Ax.bin .sub t21 t24))).bind fun t25 =>
 (guarded [(0,t18)] (some (0,false)) (M.lift (Ax.bin .lss t25 (V.int .u64 200)))).bind fun t26 =>
 (M.lift (Ax.pick t18 (V.bool true) t26)).bind fun t27 =>
 M.ite t27
 (M.pure (.ret [(V.int .i64 0)]))
 ((M.lift (Ax.faddr 3 t2)).bind fun t28 =>
 (mload none t28).bind fun t29 =>
 (M.lift (Ax.faddr 4 t2)).bind fun t30 =>
 (mload none t30).bind fun t31 =>
 (M.lift (Ax.bin .andNot t29 t31)).bind fun t32 =>
 M.pure (.ret [t32]))
def zmv:Fn':=(T zf2).getD noF
theorem zyx:T zf2 = some zmv:=by kernel_rfl
theorem zzD (G:Sem') (t0 t1:V):execK G zmv.rv zmv.body [] [] (params 0 [t0,t1]) = zt3 G t0 t1:=by kernel_rfl
def zoX (G:Sem'):List V → M V
 | [t0,t1]=>fin (zt3 G t0 t1)
 | _=>M.fail
theorem zAA {g:Sem'} (hg:Sims g (sem T)) (args:List V):Sim (zoX g args) (sem T zf2 args):=by
 unfold zoX;split
 ·exact zaf zyx (Nat.le_of_ble_eq_true (by kernel_rfl)) hg (zzD g _ _)
 ·exact zaa
def zrF (G:Sem') (t0 t1 t2:V):M Res :=
 (mbox zbS t0).bind fun t3 =>
 (mbox zbS (V.agg [(V.bool false),(V.bool false),(V.bool false),(V.bool false),(V.bool false),(V.bool false),(V.bool false),(V.bool false),(V.int .i64 0),(V.int .i64 0),(V.int .i64 0),(V.int .i64 0),(V.int .i64 0),(V.int .i64 0),(V.int .i64 0),(V.int .i64 0),(V.int .i64 0),(V.bool false),(V.int .i64 0),(V.int .i64 0),(V.int .i64 0),(V.int .i64 0),(V.int .i64 0),(V.int .i64 0),(V.int .i64 0),(V.int .i64 0),(V.int .i64 0),(V.int .i64 0),(V.int .i64 0),(V.int .i64 0),(V.int .i64 0),(V.int .i64 0),(V.int .i64 0),(V.int .i64 0),(V.int .i64 0),(V.int .i64 0),(V.int .i64 0),(V.int .i64 0),(V.bool false)])).bind fun t6 =>
 (M.lift (Ax.faddr 0 t3)).bind fun t10 =>
 (mload (some 16) t10).bind fun t11 =>
 (G zeQ [t11,t1]).bind fun t13 =>
 (M.lift (Ax.ext 0 t13)).bind fun t14 =>
 (M.lift (Ax.ext 1 t13)).bind fun t15 =>
 (M.lift (Ax.faddr 0 t3)).bind fun t16 =>
 (mstore 16 t16 t14).bind fun _ =>
 (M.lift (Ax.faddr 22 t3)).bind fun t19 =>
 (M.lift (Ax.iaddr (some 8) 1 t19 t1)).bind fun t20 =>
 (mstore 1 t20 (V.int .i64 0)).bind fun _ =>
 (M.lift (Ax.faddr 30 t3)).bind fun t21 =>
 (M.lift (Ax.iaddr (some 8) 1 t21 t1)).bind fun t22 =>
 (mstore 1 t22 (V.int .i64 0)).bind fun _ =>
 (M.lift (Ax.faddr 16 t3)).bind fun t24 =>
 (mload (some 6) t24).bind fun t25 =>
 (M.lift (Ax.faddr 0 t3)).bind fun t26 =>
 (mload (some 16) t26).bind fun t27 =>
 M.getH.bind fun h0 =>
 (G zdm [t27]).bind fun t28 =>
 M.getH.bind fun h0' =>
 (M.unch t24 h0 h0').bind fun _ =>
 (G zfb [t25,t28,t2]).bind fun t30 =>
 (M.lift (Ax.ext 0 t30)).bind fun t31 =>
 (mbox zbX (V.agg [(V.int .i64 0),(V.bool false),(V.int .i64 0),(V.int .i64 0),(V.int .i64 0),(V.int .i64 0)])).bind fun t7 =>
 (mstore 6 t7 t31).bind fun _ =>
 (M.lift (Ax.ext 1 t30)).bind fun t32 =>
 (M.lift (Ax.bin .neq t32 (V.int .i64 0))).bind fun t34 =>
 M.ite t34
 ((M.lift (Ax.faddr 16 t3)).bind fun t35 =>
 (M.lift (Ax.faddr 0 t35)).bind fun t36 =>
 (mload none t36).bind fun t37 =>
 (M.lift (Ax.build [(V.int .i64 0),(V.bool false),(V.int .i64 0),(V.int .i64 0),(V.int .i64 0),(V.int .i64 0)] [(0,1,t37)])).bind fun t38 =>
 (M.lift (Ax.build [(V.bool false),(V.bool false),(V.bool false),(V.bool false),(V.bool false),(V.bool false),(V.bool false),(V.bool false),(V.int .i64 0),(V.int .i64 0),(V.int .i64 0),(V.int .i64 0),(V.int .i64 0),(V.int .i64 0),(V.int .i64 0),(V.int .i64 0),(V.int .i64 0),(V.bool false),(V.int .i64 0),(V.int .i64 0),(V.int .i64 0),(V.int .i64 0),(V.int .i64 0),(V.int .i64 0),(V.int .i64 0),(V.int .i64 0),(V.int .i64 0),(V.int .i64 0),(V.int .i64 0),(V.int .i64 0),(V.int .i64 0),(V.int .i64 0),(V.int .i64 0),(V.int .i64 0),(V.int .i64 0),(V.int .i64 0),(V.int .i64 0),(V.int .i64 0),(V.bool false)] [(16,6,t38),(38,1,(V.bool true))])).bind fun t39 =>
 (mstore 39 t6 t39).bind fun _ =>
 (mload (some 39) t6).bind fun r0 =>
 M.pure (.ret [r0]))
 ((mload (some 6) t7).bind fun t40 =>
 (M.lift (Ax.faddr 16 t3)).bind fun t41 =>
 (mstore 6 t41 t40).bind fun _ =>
 (mload (some 39) t3).bind fun t42 =>
 (mstore 39 t6 t42).bind fun _ =>
 (mload (some 39) t6).bind fun r0 =>
 M.pure (.ret [r0]))
def zle:Fn':=(T zdq).getD noF
theorem zw0:T zdq = some zle:=by kernel_rfl
theorem zxC (G:Sem') (t0 t1 t2:V):execK G zle.rv zle.body [] [] (params 0 [t0,t1,t2]) = zrF G t0 t1 t2:=by kernel_rfl
def zmO (G:Sem'):List V → M V
 | [t0,t1,t2]=>fin (zrF G t0 t1 t2)
 | _=>M.fail
theorem zyK {g:Sem'} (hg:Sims g (sem T)) (args:List V):Sim (zmO g args) (sem T zdq args):=by
 unfold zmO;split
 ·exact zaf zw0 (Nat.le_of_ble_eq_true (by kernel_rfl)) hg (zxC g _ _ _)
 ·exact zaa
def zga (G:Sem') (t0:V):M Res :=
 (M.lift (Ax.nilck t0)).bind fun t3 =>
 (M.lift (Ax.faddr 1 t3)).bind fun t4 =>
 (mstore 1 t4 V.nils).bind fun _ =>
 M.pure (.ret [])
def zdF:Fn':=(T zbv).getD noF
theorem zjV:T zbv = some zdF:=by kernel_rfl
theorem zkl (G:Sem') (t0:V):execK G zdF.rv zdF.body [] [] (params 0 [t0]) = zga G t0:=by kernel_rfl
def zdS (G:Sem'):List V → M V
 | [t0]=>fin (zga G t0)
 | _=>M.fail
theorem zkE {g:Sem'} (hg:Sims g (sem T)) (args:List V):Sim (zdS g args) (sem T zbv args):=by
 unfold zdS;split
 ·exact zaf zjV (Nat.le_of_ble_eq_true (by kernel_rfl)) hg (zkl g _)
 ·exact zaa
def zv9 (G:Sem') (t0 t1:V):M Res :=
 (mbox zbS t0).bind fun t2 =>
 (mload (some 39) t2).bind fun t8 =>
 (G zeE [t8]).bind fun t9 =>
 (M.lift (Ax.un .not t9)).bind fun t10 =>
 M.ite t10
 (M.pure (.ret [(V.int .i64 0),(V.int .i64 1)]))
 ((M.lift (Ax.faddr 0 t2)).bind fun t12 =>
 (mload (some 16) t12).bind fun t13 =>
 (G zb9 [t13,t1]).bind fun t15 =>
 (M.lift (Ax.ext 0 t15)).bind fun t16 =>
 (M.lift (Ax.ext 1 t15)).bind fun t17 =>
 (M.lift (Ax.un .not t17)).bind fun t19 =>
 M.ite t19
 (M.pure (.ret [(V.int .i64 0),(V.int .i64 6)]))
 (M.pure (.ret [t16,(V.int .i64 0)])))
def znZ:Fn':=(T zd7).getD noF
theorem zz3:T zd7 = some znZ:=by kernel_rfl
theorem zBm (G:Sem') (t0 t1:V):execK G znZ.rv znZ.body [] [] (params 0 [t0,t1]) = zv9 G t0 t1:=by kernel_rfl
def zqE (G:Sem'):List V → M V
 | [t0,t1]=>fin (zv9 G t0 t1)
 | _=>M.fail
theorem zB8 {g:Sem'} (hg:Sims g (sem T)) (args:List V):Sim (zqE g args) (sem T zd7 args):=by
 unfold zqE;split
 ·exact zaf zz3 (Nat.le_of_ble_eq_true (by kernel_rfl)) hg (zBm g _ _)
 ·exact zaa
def zrC (G:Sem') (t0 t1 t2:V):M Res :=
 (mbox za2 (V.agg [(V.int .i64 0),(V.int .u32 0),(V.int .u32 0),(V.int .u64 0),(V.int .u32 0),(V.int .u32 0),(V.int .u32 0),V.nils,V.nils,V.nils,(V.int .i64 0),(V.int .u32 0),V.nils,(V.int .i64 0),(V.int .i64 0),V.nils])).bind fun t6 =>
 (G zfJ [t0,t1,t2]).bind fun t13 =>
 (M.lift (Ax.build [(V.int .i64 0),(V.int .u32 0),(V.int .u32 0),(V.int .u64 0),(V.int .u32 0),(V.int .u32 0),(V.int .u32 0),V.nils,V.nils,V.nils,(V.int .i64 0),(V.int .u32 0),V.nils,(V.int .i64 0),(V.int .i64 0),V.nils] [(0,1,t13)])).bind fun t14 =>
 (mbox za2 (V.agg [(V.int .i64 0),(V.int .u32 0),(V.int .u32 0),(V.int .u64 0),(V.int .u32 0),(V.int .u32 0),(V.int .u32 0),V.nils,V.nils,V.nils,(V.int .i64 0),(V.int .u32 0),V.nils,(V.int .i64 0),(V.int .i64 0),V.nils])).bind fun t8 =>
 (mstore 16 t8 t14).bind fun _ =>
 (M.lift (Ax.build [V.nils,(V.bool false)] [(0,1,t2)])).bind fun t16 =>
 (mbox zwR t16).bind fun t17 =>
 (M.lift (Ax.faddr 0 t8)).bind fun t18 =>
 (mload none t18).bind fun t19 =>
 (M.lift (Ax.bin .eql t19 (V.int .i64 7))).bind fun t20 =>
 M.ite t20
 ((G zaI [t2]).bind fun t24 =>
 (M.lift (Ax.faddr 13 t8)).bind fun t25 =>
 (mstore 1 t25 t0).bind fun _ =>
 (M.lift (Ax.faddr 14 t8)).bind fun t26 =>
 (mstore 1 t26 t1).bind fun _ =>
 (M.lift (Ax.faddr 15 t8)).bind fun t27 =>
 (mstore 1 t27 t24).bind fun _ =>
 (mload (some 16) t8).bind fun t28 =>
 (mstore 16 t6 t28).bind fun _ =>
 (mload (some 16) t6).bind fun r0 =>
 M.pure (.ret [r0,(V.bool true)]))
 ((G zaq [t17]).bind fun t30 =>
 (M.lift (Ax.faddr 1 t8)).bind fun t31 =>
 (mstore 1 t31 t30).bind fun _ =>
 (M.lift (Ax.faddr 0 t8)).bind fun t32 =>
 (mload none t32).bind fun t33 =>
 M.blk 0 (
 (M.lift (Ax.bin .eql t33 (V.int .i64 1))).bind fun t37 =>
 M.join (M.ite t37
 ((G zaO [t17,(V.int .i64 8)]).bind fun t39 =>
 (M.lift (Ax.faddr 3 t8)).bind fun t40 =>
 (mstore 1 t40 t39).bind fun _ =>
 (G zaq [t17]).bind fun t42 =>
 (G zaq [t17]).bind fun t44 =>
 (G zaq [t17]).bind fun t46 =>
 (M.lift (Ax.faddr 4 t8)).bind fun t47 =>
 (mstore 1 t47 t42).bind fun _ =>
 (M.lift (Ax.faddr 5 t8)).bind fun t48 =>
 (mstore 1 t48 t44).bind fun _ =>
 (M.lift (Ax.faddr 6 t8)).bind fun t49 =>
 (mstore 1 t49 t46).bind fun _ =>
 (G zbT [t17,t1]).bind fun t52 =>
 (M.lift (Ax.faddr 7 t8)).bind fun t53 =>
 (mstore 1 t53 t52).bind fun _ =>
 M.pure (.nrm []))
 ((M.lift (Ax.bin .eql t33 (V.int .i64 2))).bind fun t55 =>
 M.join (M.ite t55
 ((G zbT [t17,t1]).bind fun t58 =>
 (M.lift (Ax.faddr 7 t8)).bind fun t59 =>
 (mstore 1 t59 t58).bind fun _ =>
 M.pure (.nrm []))
 ((G zcz [t17,t8]).bind fun t35 =>
 M.pure (.nrm []))) fun _ =>
 M.pure (.nrm []))) fun _ =>
 M.pure (.nrm [])) fun _ =>
 (mload (some 16) t8).bind fun t60 =>
 (M.lift (Ax.nilck t17)).bind fun t62 =>
 (M.lift (Ax.faddr 1 t62)).bind fun t63 =>
 (mload none t63).bind fun t64 =>
 (M.lift (Ax.un .not t64)).bind fun t65 =>
 (guarded [(0,t65)] (some (0,true)) (M.pure t17)).bind fun t67 =>
 (guarded [(0,t65)] (some (0,true)) (M.lift (Ax.nilck t67))).bind fun t68 =>
 (guarded [(0,t65)] (some (0,true)) (M.lift (Ax.faddr 0 t68))).bind fun t69 =>
 (guarded [(0,t65)] (some (0,true)) (mload none t69)).bind fun t70 =>
 (guarded [(0,t65)] (some (0,true)) (M.lift (vlen t70))).bind fun t71 =>
 (guarded [(0,t65)] (some (0,true)) (M.lift (Ax.bin .eql t71 (V.int .i64 0)))).bind fun t72 =>
 (M.lift (Ax.pick t65 t72 (V.bool false))).bind fun t73 =>
 M.getH.bind fun h0 =>
 (mstore 16 t6 t60).bind fun _ =>
 M.getH.bind fun h0' =>
 (M.unch t69 h0 h0').bind fun _ =>
 (mload (some 16) t6).bind fun r0 =>
 M.pure (.ret [r0,t73]))
def zlb:Fn':=(T ze9).getD noF
theorem zwX:T ze9 = some zlb:=by kernel_rfl
theorem zxz (G:Sem') (t0 t1 t2:V):execK G zlb.rv zlb.body [] [] (params 0 [t0,t1,t2]) = zrC G t0 t1 t2:=by kernel_rfl
def zmL (G:Sem'):List V → M V
 | [t0,t1,t2]=>fin (zrC G t0 t1 t2)
 | _=>M.fail
theorem zyH {g:Sem'} (hg:Sims g (sem T)) (args:List V):Sim (zmL g args) (sem T ze9 args):=by
 unfold zmL;split
 ·exact zaf zwX (Nat.le_of_ble_eq_true (by kernel_rfl)) hg (zxz g _ _ _)
 ·exact zaa
def zrK (G:Sem') (t15 t2:V) (L:List V):M Res :=
 (M.lift (Ax.bin .lss (L.getD 0 .undef) (V.int .i64 8))).bind fun t17 =>
 M.ite t17
 (M.blk 1 (
 (M.lift (Ax.index 8 1 none t15 (L.getD 0 .undef))).bind fun t19 =>
 (M.lift (eqr .ptr true t19 V.nilp)).bind fun t21 =>
 (guarded [(0,t21)] (some (0,true)) (M.pure t19)).bind fun t23 =>
 (guarded [(0,t21)] (some (0,true)) (G zcf [t23])).bind fun t24 =>
 (guarded [(0,t21)] (some (0,true)) (M.pure t2)).bind fun t25 =>
 (guarded [(0,t21)] (some (0,true)) (M.lift (Ax.bin .eql t24 t25))).bind fun t26 =>
 (M.lift (Ax.pick t21 t26 (V.bool false))).bind fun t27 =>
 M.ite t27
 (M.pure (.ret [(L.getD 0 .undef),(V.bool true)]))
 (M.pure (.nrm []))) fun _ =>
 (M.lift (Ax.bin .add (L.getD 0 .undef) (V.int .i64 1))).bind fun t29 =>
 M.pure (.nrm [t29]))
 (M.pure (.ex 0 []))
def znc (G:Sem') (t0 t1 t2:V):M Res :=
 (M.lift (Ax.nilck t0)).bind fun t12 =>
 (M.lift (Ax.faddr 303 t12)).bind fun t13 =>
 (M.lift (Ax.iaddr (some 8) 8 t13 t1)).bind fun t14 =>
 (mload (some 8) t14).bind fun t15 =>
 M.blk 0 (
 M.iter (zrK G t15 t2) [(V.int .i64 0)]) fun _ =>
 M.pure (.ret [(V.int .i64 0),(V.bool false)])
def zh3:Fn':=(T zb2).getD noF
theorem zsp:T zb2 = some zh3:=by kernel_rfl
theorem zth (G:Sem') (t0 t1 t2:V):execK G zh3.rv zh3.body [] [] (params 0 [t0,t1,t2]) = znc G t0 t1 t2:=by kernel_rfl
def zjq (G:Sem'):List V → M V
 | [t0,t1,t2]=>fin (znc G t0 t1 t2)
 | _=>M.fail
theorem zuv {g:Sem'} (hg:Sims g (sem T)) (args:List V):Sim (zjq g args) (sem T zb2 args):=by
 unfold zjq;split
 ·exact zaf zsp (Nat.le_of_ble_eq_true (by kernel_rfl)) hg (zth g _ _ _)
 ·exact zaa
def zrI (G:Sem') (t12 t11 t0 t4:V) (L:List V):M Res :=
 (M.lift (Ax.bin .lss (L.getD 1 .undef) t12)).bind fun t14 =>
 M.ite t14
 (M.blk 1 (
 (M.lift (Ax.iaddr none 1 t11 (L.getD 1 .undef))).bind fun t15 =>
 (mload none t15).bind fun t16 =>
 (M.lift (Ax.nilck t0)).bind fun t19 =>
 (M.lift (Ax.faddr 14 t19)).bind fun t20 =>
 (mload none t20).bind fun t21 =>
 (G zdU [t21,t16]).bind fun t23 =>
 (M.lift (Ax.ext 0 t23)).bind fun t24 =>
 (M.lift (Ax.ext 1 t23)).bind fun t25 =>
 (guarded [(0,t25)] (some (0,true)) (M.pure (L.getD 0 .undef))).bind fun t28 =>
 (guarded [(0,t25)] (some (0,true)) (M.lift (vlen t28))).bind fun t29 =>
 (guarded [(0,t25)] (some (0,true)) (M.lift (Ax.bin .lss t29 (V.int .i64 64)))).bind fun t30 =>
 (M.lift (Ax.pick t25 t30 (V.bool false))).bind fun t31 =>
 M.join (M.ite t31
 ((mslit zeI 1 [V.nils] [(0,1,t24)]).bind fun t34 =>
 (mappend zeI 1 24 (L.getD 0 .undef) t34).bind fun t35 =>
 M.pure (.nrm [t35]))
 (M.pure (.nrm [(L.getD 0 .undef)]))) fun L0 =>
 M.pure (.nrm [(L0.getD 0 .undef)])) fun L1 =>
 (M.lift (Ax.bin .add (L.getD 1 .undef) (V.int .i64 1))).bind fun t36 =>
 M.pure (.nrm [(L1.getD 0 .undef),t36]))
 (M.pure (.ex 0 [(L.getD 0 .undef)]))
def zna (G:Sem') (t0 t1:V):M Res :=
 (G zg1 [t1]).bind fun t11 =>
 (M.lift (vlen t11)).bind fun t12 =>
 M.blk 0 (
 M.iter (zrI G t12 t11 t0 V.nils) [V.nils,(V.int .i64 0)]) fun L2 =>
 M.pure (.ret [(L2.getD 0 .undef)])
def zh1:Fn':=(T zdw).getD noF
theorem zsn:T zdw = some zh1:=by kernel_rfl
theorem ztf (G:Sem') (t0 t1:V):execK G zh1.rv zh1.body [] [] (params 0 [t0,t1]) = zna G t0 t1:=by kernel_rfl
def zjo (G:Sem'):List V → M V
 | [t0,t1]=>fin (zna G t0 t1)
 | _=>M.fail
theorem zut {g:Sem'} (hg:Sims g (sem T)) (args:List V):Sim (zjo g args) (sem T zdw args):=by
 unfold zjo;split
 ·exact zaf zsn (Nat.le_of_ble_eq_true (by kernel_rfl)) hg (ztf g _ _)
 ·exact zaa
def zlV (G:Sem') (t0 t1 t2 t3:V):M Res :=
 (M.lift (Ax.nilck t1)).bind fun t14 =>
 (M.lift (Ax.faddr 303 t14)).bind fun t15 =>
 (M.lift (Ax.iaddr (some 8) 8 t15 t2)).bind fun t16 =>
 (M.lift (Ax.iaddr (some 8) 1 t16 t3)).bind fun t17 =>
 (mload none t17).bind fun t18 =>
 (G zcs [t18]).bind fun t21 =>
 (M.lift (Ax.ext 0 t21)).bind fun t22 =>
 (M.lift (Ax.ext 1 t21)).bind fun t23 =>
 (M.lift (Ax.un .not t23)).bind fun t25 =>
 M.join (M.ite t25
 ((G zdv [t18]).bind fun t28 =>
 (M.lift (Ax.ext 0 t28)).bind fun t29 =>
 (M.lift (Ax.ext 1 t28)).bind fun t30 =>
 M.pure (.nrm [t29,t30]))
 (M.pure (.nrm [t22,t23]))) fun L0 =>
 M.join (M.ite (L0.getD 1 .undef)
 ((G zcf [t18]).bind fun t37 =>
 (G zbU [t0,t1,t3,(L0.getD 0 .undef),t37]).bind fun t38 =>
 M.pure (.nrm []))
 (M.pure (.nrm []))) fun _ =>
 M.pure (.ret [])
def zht:Fn':=(T zcu).getD noF
theorem zq6:T zcu = some zht:=by kernel_rfl
theorem zsa (G:Sem') (t0 t1 t2 t3:V):execK G zht.rv zht.body [] [] (params 0 [t0,t1,t2,t3]) = zlV G t0 t1 t2 t3:=by kernel_rfl
def ziE (G:Sem'):List V → M V
 | [t0,t1,t2,t3]=>fin (zlV G t0 t1 t2 t3)
 | _=>M.fail
theorem zsP {g:Sem'} (hg:Sims g (sem T)) (args:List V):Sim (ziE g args) (sem T zcu args):=by
 unfold ziE;split
 ·exact zaf zq6 (Nat.le_of_ble_eq_true (by kernel_rfl)) hg (zsa g _ _ _ _)
 ·exact zaa
def zol (G:Sem') (t0 t1:V):M Res :=
 (M.lift (Ax.nilck t0)).bind fun t9 =>
 (M.lift (Ax.faddr 3 t9)).bind fun t10 =>
 (mload (some 3) t10).bind fun t11 =>
 (G zin [t11,t1]).bind fun t13 =>
 (M.lift (Ax.ext 0 t13)).bind fun t14 =>
 (M.lift (Ax.ext 1 t13)).bind fun t15 =>
 (mbox zd5 (V.agg [(V.bool false),(V.int .i64 0),(V.int .i64 0)])).bind fun t5 =>
 (mstore 3 t5 t14).bind fun _ =>
 (mload (some 3) t5).bind fun t17 =>
 (M.lift (Ax.nilck t0)).bind fun t18 =>
 (M.lift (Ax.faddr 3 t18)).bind fun t19 =>
 (mstore 3 t19 t17).bind fun _ =>
 M.pure (.ret [t15])
def zi6:Fn':=(T zdX).getD noF
theorem zue:T zdX = some zi6:=by kernel_rfl
theorem zuT (G:Sem') (t0 t1:V):execK G zi6.rv zi6.body [] [] (params 0 [t0,t1]) = zol G t0 t1:=by kernel_rfl
def zkq (G:Sem'):List V → M V
 | [t0,t1]=>fin (zol G t0 t1)
 | _=>M.fail
theorem zvt {g:Sem'} (hg:Sims g (sem T)) (args:List V):Sim (zkq g args) (sem T zdX args):=by
 unfold zkq;split
 ·exact zaf zue (Nat.le_of_ble_eq_true (by kernel_rfl)) hg (zuT g _ _)
 ·exact zaa
def zwg (G:Sem') (t10 t9 t0 t4:V) (L:List V):M Res :=
 (M.lift (Ax.bin .lss (L.getD 2 .undef) t10)).bind fun t12 =>
 M.ite t12
 (M.blk 1 (
 (M.lift (Ax.iaddr none 1 t9 (L.getD 2 .undef))).bind fun t14 =>
 (mload none t14).bind fun t15 =>
 (M.lift (Ax.bin .lss t15 (V.int .i64 0))).bind fun t17 =>
 M.ite t17
 (M.pure (.ex 1 [(L.getD 0 .undef),(L.getD 1 .undef)]))
 ((M.lift (Ax.bin .lss (L.getD 1 .undef) (V.int .i64 0))).bind fun t19 =>
 M.join (M.ite t19
 (M.pure (.nrm [(L.getD 2 .undef)]))
 (M.pure (.nrm [(L.getD 1 .undef)]))) fun L0 =>
 (M.lift (Ax.cint .u64 t15)).bind fun t22 =>
 (M.lift (Ax.bin .quo t0 (V.int .u64 10000))).bind fun t24 =>
 (M.lift (Ax.bin .leq t22 t24)).bind fun t25 =>
 M.join (M.ite t25
 (M.pure (.nrm [(L.getD 2 .undef)]))
 (M.pure (.nrm [(L.getD 0 .undef)]))) fun L1 =>
 M.pure (.nrm [(L1.getD 0 .undef),(L0.getD 0 .undef)]))) fun L2 =>
 (M.lift (Ax.bin .add (L.getD 2 .undef) (V.int .i64 1))).bind fun t27 =>
 M.pure (.nrm [(L2.getD 0 .undef),(L2.getD 1 .undef),t27]))
 (M.pure (.ex 0 [(L.getD 0 .undef),(L.getD 1 .undef)]))
def zrH (G:Sem') (t0 t1:V):M Res :=
 (M.lift (vlen t1)).bind fun t10 =>
 M.blk 0 (
 M.iter (zwg G t10 t1 t0 (V.int .i64 0)) [(V.int .i64 (-1)),(V.int .i64 (-1)),(V.int .i64 0)]) fun L3 =>
 (M.lift (Ax.minmax true (L3.getD 0 .undef) [(L3.getD 1 .undef),(V.int .i64 0)])).bind fun t30 =>
 M.pure (.ret [t30])
def zlg:Fn':=(T zfc).getD noF
theorem zw2:T zfc = some zlg:=by kernel_rfl
theorem zxE (G:Sem') (t0 t1:V):execK G zlg.rv zlg.body [] [] (params 0 [t0,t1]) = zrH G t0 t1:=by kernel_rfl
def zmQ (G:Sem'):List V → M V
 | [t0,t1]=>fin (zrH G t0 t1)
 | _=>M.fail
theorem zyM {g:Sem'} (hg:Sims g (sem T)) (args:List V):Sim (zmQ g args) (sem T zfc args):=by
 unfold zmQ;split
 ·exact zaf zw2 (Nat.le_of_ble_eq_true (by kernel_rfl)) hg (zxE g _ _)
 ·exact zaa
def zlT (G:Sem') (t0 t1 t2 t3:V):M Res :=
 (M.lift (Ax.nilck t1)).bind fun t14 =>
 (M.lift (Ax.faddr 303 t14)).bind fun t15 =>
 (M.lift (Ax.iaddr (some 8) 8 t15 t2)).bind fun t16 =>
 (M.lift (Ax.iaddr (some 8) 1 t16 t3)).bind fun t17 =>
 (mload none t17).bind fun t18 =>
 (G zcs [t18]).bind fun t19 =>
 (M.lift (Ax.ext 0 t19)).bind fun t20 =>
 (M.lift (Ax.ext 1 t19)).bind fun t21 =>
 M.join (M.ite t21
 ((G zcu [t0,t1,t2,t3]).bind fun t27 =>
 M.pure (.nrm []))
 (M.pure (.nrm []))) fun _ =>
 M.pure (.ret [])
def zhr:Fn':=(T zct).getD noF
theorem zq4:T zct = some zhr:=by kernel_rfl
theorem zr8 (G:Sem') (t0 t1 t2 t3:V):execK G zhr.rv zhr.body [] [] (params 0 [t0,t1,t2,t3]) = zlT G t0 t1 t2 t3:=by kernel_rfl
def ziC (G:Sem'):List V → M V
 | [t0,t1,t2,t3]=>fin (zlT G t0 t1 t2 t3)
 | _=>M.fail
theorem zsN {g:Sem'} (hg:Sims g (sem T)) (args:List V):Sim (ziC g args) (sem T zct args):=by
 unfold ziC;split
 ·exact zaf zq4 (Nat.le_of_ble_eq_true (by kernel_rfl)) hg (zr8 g _ _ _ _)
 ·exact zaa
def zlN (G:Sem') (t0:V):M Res :=
 (M.lift (Ax.bin .geq t0 (V.int .u64 4294967296))).bind fun t4 =>
 M.join (M.ite t4
 ((M.lift (Ax.bin .shr t0 (V.int .u64 32))).bind fun t6 =>
 M.pure (.nrm [t6,(V.int .i64 32)]))
 (M.pure (.nrm [t0,(V.int .i64 0)]))) fun L0 =>
 (M.lift (Ax.bin .geq (L0.getD 0 .undef) (V.int .u64 65536))).bind fun t8 =>
 M.join (M.ite t8
 ((M.lift (Ax.bin .shr (L0.getD 0 .undef) (V.int .u64 16))).bind fun t10 =>
 (M.lift (Ax.bin .add (L0.getD 1 .undef) (V.int .i64 16))).bind fun t12 =>
 M.pure (.nrm [t10,t12]))
 (M.pure (.nrm [(L0.getD 0 .undef),(L0.getD 1 .undef)]))) fun L1 =>
 (M.lift (Ax.bin .geq (L1.getD 0 .undef) (V.int .u64 256))).bind fun t14 =>
 M.join (M.ite t14
 ((M.lift (Ax.bin .shr (L1.getD 0 .undef) (V.int .u64 8))).bind fun t16 =>
 (M.lift (Ax.bin .add (L1.getD 1 .undef) (V.int .i64 8))).bind fun t18 =>
 M.pure (.nrm [t16,t18]))
 (M.pure (.nrm [(L1.getD 0 .undef),(L1.getD 1 .undef)]))) fun L2 =>
 (M.lift (Ax.cint .u8 (L2.getD 0 .undef))).bind fun t21 =>
 (M.lift (Ax.sindex (V.str ⟨#[0,1,2,2,3,3,3,3,4,4,4,4,4,4,4,4,5,5,5,5,5,5,5,5,5,5,5,5,5,5,5,5,6,6,6,6,6,6,6,6,6,6,6,6,6,6,6,6,6,6,6,6,6,6,6,6,6,6,6,6,6,6,6,6,7,7,7,7,7,7,7,7,7,7,7,7,7,7,7,7,7,7,7,7,7,7,7,7,7,7,7,7,7,7,7,7,7,7,7,7,7,7,7,7,7,7,7,7,7,7,7,7,7,7,7,7,7,7,7,7,7,7,7,7,7,7,7,7,8,8,8,8,8,8,8,8,8,8,8,8,8,8,8,8,8,8,8,8,8,8,8,8,8,8,8,8,8,8,8,8,8,8,8,8,8,8,8,8,8,8,8,8,8,8,8,8,8,8,8,8,8,8,8,8,8,8,8,8,8,8,8,8,8,8,8,8,8,8,8,8,8,8,8,8,8,8,8,8,8,8,8,8,8,8,8,8,8,8,8,8,8,8,8,8,8,8,8,8,8,8,8,8,8,8,8,8,8,8,8,8,8,8,8,8,8,8,8,8,8,8,8,8,8,8,8,8]⟩) t21)).bind fun t22 =>
 (M.lift (Ax.cint .i64 t22)).bind fun t23 =>
 (M.lift (Ax.bin .add (L2.getD 1 .undef) t23)).bind fun t24 =>
 M.pure (.ret [t24])
def zhl:Fn':=(T zcr).getD noF
theorem zqY:T zcr = some zhl:=by kernel_rfl
theorem zr2 (G:Sem') (t0:V):execK G zhl.rv zhl.body [] [] (params 0 [t0]) = zlN G t0:=by kernel_rfl
def ziu (G:Sem'):List V → M V
 | [t0]=>fin (zlN G t0)
 | _=>M.fail
theorem zsF {g:Sem'} (hg:Sims g (sem T)) (args:List V):Sim (ziu g args) (sem T zcr args):=by
 unfold ziu;split
 ·exact zaf zqY (Nat.le_of_ble_eq_true (by kernel_rfl)) hg (zr2 g _)
 ·exact zaa
def zCC (G:Sem') (t7 t6 t2:V) (L:List V):M Res :=
 (M.lift (Ax.bin .lss (L.getD 1 .undef) t7)).bind fun t9 =>
 M.ite t9
 (M.blk 1 (
 (M.lift (Ax.iaddr none 1 t6 (L.getD 1 .undef))).bind fun t10 =>
 (mload none t10).bind fun t11 =>
 (M.lift (Ax.bin .shl (L.getD 0 .undef) (V.int .u64 8))).bind fun t13 =>
 (M.lift (Ax.cint .u32 t11)).bind fun t15 =>
 (M.lift (Ax.bin .or t13 t15)).bind fun t16 =>
 M.pure (.nrm [t16])) fun L0 =>
 (M.lift (Ax.bin .add (L.getD 1 .undef) (V.int .i64 1))).bind fun t17 =>
 M.pure (.nrm [(L0.getD 0 .undef),t17]))
 (M.pure (.ex 0 [(L.getD 0 .undef)]))
def zA3 (G:Sem') (t0:V):M Res :=
 (M.lift (vlen t0)).bind fun t7 =>
 M.blk 0 (
 M.iter (zCC G t7 t0 (V.int .u32 0)) [(V.int .u32 0),(V.int .i64 0)]) fun L1 =>
 M.pure (.ret [(L1.getD 0 .undef)])
def zs1:Fn':=(T zeq).getD noF
theorem zDD:T zeq = some zs1:=by kernel_rfl
theorem zEt (G:Sem') (t0:V):execK G zs1.rv zs1.body [] [] (params 0 [t0]) = zA3 G t0:=by kernel_rfl
def zwA (G:Sem'):List V → M V
 | [t0]=>fin (zA3 G t0)
 | _=>M.fail
theorem zFk {g:Sem'} (hg:Sims g (sem T)) (args:List V):Sim (zwA g args) (sem T zeq args):=by
 unfold zwA;split
 ·exact zaf zDD (Nat.le_of_ble_eq_true (by kernel_rfl)) hg (zEt g _)
 ·exact zaa
def zoe (G:Sem') (t0 t1:V):M Res :=
 (M.lift (vlen t1)).bind fun t10 =>
 (M.lift (Ax.bin .lss t10 (V.int .i64 4))).bind fun t11 =>
 M.ite t11
 (M.pure (.ret [(V.int .i64 0),(V.int .i64 3)]))
 ((M.lift (zbr .sl 1 t1 (some (V.int .i64 2)) (some (V.int .i64 4)) none)).bind fun t13 =>
 (G zeq [t13]).bind fun t14 =>
 (M.lift (Ax.cint .i64 t14)).bind fun t15 =>
 (M.lift (Ax.bin .mul (V.int .i64 4) t15)).bind fun t16 =>
 (M.lift (Ax.bin .add (V.int .i64 4) t16)).bind fun t17 =>
 (M.lift (vlen t1)).bind fun t19 =>
 (M.lift (Ax.bin .lss t19 t17)).bind fun t21 =>
 M.ite t21
 (M.pure (.ret [(V.int .i64 0),(V.int .i64 3)]))
 ((M.lift (zbr .sl 1 t1 none (some (V.int .i64 2)) none)).bind fun t24 =>
 (G zeq [t24]).bind fun t25 =>
 (M.lift (Ax.cint .i64 t25)).bind fun t26 =>
 (M.lift (Ax.nilck t0)).bind fun t27 =>
 (M.lift (Ax.faddr 6 t27)).bind fun t28 =>
 (mstore 1 t28 t26).bind fun _ =>
 (M.lift (Ax.nilck t0)).bind fun t30 =>
 (M.lift (Ax.faddr 6 t30)).bind fun t31 =>
 (mload none t31).bind fun t32 =>
 (M.lift (Ax.bin .neq t32 (V.int .i64 48862))).bind fun t33 =>
 (guarded [(0,t33)] (some (0,true)) (M.pure t0)).bind fun t35 =>
 (guarded [(0,t33)] (some (0,true)) (M.lift (Ax.nilck t35))).bind fun t36 =>
 (guarded [(0,t33)] (some (0,true)) (M.lift (Ax.faddr 6 t36))).bind fun t37 =>
 (guarded [(0,t33)] (some (0,true)) (mload none t37)).bind fun t38 =>
 (guarded [(0,t33)] (some (0,true)) (M.lift (Ax.bin .neq t38 (V.int .i64 4096)))).bind fun t39 =>
 (M.lift (Ax.pick t33 t39 (V.bool false))).bind fun t40 =>
 M.ite t40
 (M.pure (.ret [(V.int .i64 0),(V.int .i64 2)]))
 ((M.lift (Ax.nilck t0)).bind fun t43 =>
 (M.lift (Ax.faddr 6 t43)).bind fun t44 =>
 (mload none t44).bind fun t45 =>
 (M.lift (zbr .sl 1 t1 (some (V.int .i64 4)) (some t17) none)).bind fun t48 =>
 (G zig [t45,t48]).bind fun t49 =>
 (M.lift (Ax.ext 0 t49)).bind fun t50 =>
 (M.lift (Ax.ext 1 t49)).bind fun t51 =>
 (M.lift (Ax.un .not t51)).bind fun t53 =>
 M.ite t53
 (M.pure (.ret [(V.int .i64 0),(V.int .i64 2)]))
 ((M.lift (Ax.nilck t0)).bind fun t56 =>
 (M.lift (Ax.faddr 7 t56)).bind fun t57 =>
 (mstore 1 t57 t50).bind fun _ =>
 M.pure (.ret [t17,(V.int .i64 0)])))))
def zi2:Fn':=(T zdT).getD noF
theorem zua:T zdT = some zi2:=by kernel_rfl
theorem zuP (G:Sem') (t0 t1:V):execK G zi2.rv zi2.body [] [] (params 0 [t0,t1]) = zoe G t0 t1:=by kernel_rfl
def zkm (G:Sem'):List V → M V
 | [t0,t1]=>fin (zoe G t0 t1)
 | _=>M.fail
theorem zvp {g:Sem'} (hg:Sims g (sem T)) (args:List V):Sim (zkm g args) (sem T zdT args):=by
 unfold zkm;split
 ·exact zaf zua (Nat.le_of_ble_eq_true (by kernel_rfl)) hg (zuP g _ _)
 ·exact zaa
end Go.Ax.Cc
