/-
  DeskJoins: whatever the input, the law's function returns true and leaves its arguments as they were.
-/
import Derived.Test.YthghlbdejdideaaGreatZj9
import Derived.Test.YthghlbdejdideaaGreatRows
import Derived.Test.YthghlbdejdideaaGreatJfDeskJoins
namespace Go.Proofs.YthghlbdejdideaaGreat.deskJoins
open Go.ChangeShapes Go.WideShapes Go.ChangeAt Go.RowKit
set_option linter.unusedVariables false

set_option maxRecDepth 100000

theorem own : ownKnob Tryz.prog.godebug = none := by kernel_rfl

theorem contract (H : Type) (enc : TypeId × Value → H) (W : World) (base : Nat) (args : Array Value) (ds gs : List (DataW H)) (before : List MemPlace)
    (hval : ∀ (j : Nat) t v, Tryz.f4.params[j]? = some t → args[j]? = some v → Value.okWide Tryz.prog W .any base t v)
    (hW : DataW.Whole enc Tryz.prog Tryz.f4.params.toList Rows.deskJoinsSpec.vars false W args.toList ds gs before) :
    Calls Tryz.prog 4 args W fun e W' => ∃ v, e = .returned v ∧ Rows.deskJoinsSpec.post enc Tryz.prog Tryz.f4 false true false false W args v W' := by
  have hW' := hW
  obtain ⟨p, q, hA, hV, hbe, hz, hn⟩ := hW'
  have hl : ds.length = 2 := Ax.trodAll_len hA
  have hgs : gs = [] := (trodVars_none hV).1
  obtain ⟨us, h1, h2, h3⟩ := Ax.args_sh (n := 8) Tryz.f4.params.toList [(.sl (.int .u8)), (.int .u8)] args.toList ds p (by kernel_rfl) hA (fun j t v ht hv => hval j t v (Array.getElem?_toList.symm.trans ht) (Array.getElem?_toList.symm.trans hv))
  obtain ⟨H', hH⟩ := Ax.law_deskJoins us h1
  refine (Ax.call_true Ax.sound hH h2).mono fun e W' ⟨he, hbel⟩ => ?_
  subst he
  refine ⟨_, rfl, Ax.post_below hW rfl ?_ (by kernel_rfl) (by kernel_rfl) (by kernel_rfl) (by kernel_rfl) (tb := 4) (by kernel_rfl) Tryz.underlying4 hbel⟩
  clear hA hV hW
  match ds, hl with
  | [d0, d1], _ => rfl

theorem lifted (os : Os) (started : os.Started) (H : Type) (enc : TypeId × Value → H) :
    ReturnsInHanded {} Tryz.checked os 4 .any (Rows.deskJoinsSpec.pre6 enc Tryz.prog Tryz.f4 Rows.deskJoinsRow.domain false) (Rows.deskJoinsSpec.post enc Tryz.prog Tryz.f4 false true false false) := by
  refine returnsInHanded_of_change (C := Tryz.checked) own started (by kernel_rfl) Tryz.func4
    (ChangeSpec.witness6 (enc := enc) (C := Tryz.checked) false ⟨#[], #[.slice none 0 0, .int .u8 0], []⟩ 8 (by kernel_rfl) (by kernel_rfl) (by kernel_rfl) (by kernel_rfl)) ?_
  intro W base args ds gs before hval hW _ _
  exact contract H enc W base args ds gs before hval hW

theorem over : Rows.DeskJoinsSaid :=
  OpenClaim.holds_of_wide 4 Tryz.f4 rfl rfl rfl rfl rfl rfl rfl ⟨rfl, rfl, rfl, rfl, rfl⟩ rfl rfl rfl rfl rfl (by kernel_rfl) Tryz.func4 jf
    (of_decide_eq_true (by kernel_rfl)) (by unfold Func.isWrapper; first | (rw [if_pos (by decide +kernel)]; kernel_rfl) | (rw [if_neg (by decide +kernel)]; exact ⟨rfl, rfl⟩))
    (fun os started H enc _ => lifted os started H enc)

end Go.Proofs.YthghlbdejdideaaGreat.deskJoins
namespace Go.Proofs.YthghlbdejdideaaGreat
theorem deskJoins_holds : Rows.DeskJoinsSaid := deskJoins.over
end Go.Proofs.YthghlbdejdideaaGreat
