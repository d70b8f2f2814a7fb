/-
  WorldKnown: whatever the input, the law's function returns true and leaves its arguments as they were.
-/
import Derived.Test.YtjabaappgopdmaaGreatZw12
import Derived.Test.YtjabaappgopdmaaGreatRows
import Derived.Test.YtjabaappgopdmaaGreatJfWorldKnown
namespace Go.Proofs.YtjabaappgopdmaaGreat.worldKnown
open Go.ChangeShapes Go.WideShapes Go.ChangeAt Go.RowKit
set_option linter.unusedVariables false

set_option maxRecDepth 100000

theorem own : ownKnob Tryz.prog.godebug = none := by kernel_rfl

theorem contract (H : Type) (enc : TypeId × Value → H) (W : World) (base : Nat) (args : Array Value) (ds gs : List (DataW H)) (before : List MemPlace)
    (hval : ∀ (j : Nat) t v, Tryz.f3.params[j]? = some t → args[j]? = some v → Value.okWide Tryz.prog W .any base t v)
    (hW : DataW.Whole enc Tryz.prog Tryz.f3.params.toList Rows.worldKnownSpec.vars false W args.toList ds gs before) :
    Calls Tryz.prog 3 args W fun e W' => ∃ v, e = .returned v ∧ Rows.worldKnownSpec.post enc Tryz.prog Tryz.f3 false true false false W args v W' := by
  have hW' := hW
  obtain ⟨p, q, hA, hV, hbe, hz, hn⟩ := hW'
  have hl : ds.length = 0 := Ax.trodAll_len hA
  have hgs : gs = [] := (trodVars_none hV).1
  obtain ⟨us, h1, h2, h3⟩ := Ax.args_sh (n := 8) Tryz.f3.params.toList [] args.toList ds p (by kernel_rfl) hA (fun j t v ht hv => hval j t v (Array.getElem?_toList.symm.trans ht) (Array.getElem?_toList.symm.trans hv))
  obtain ⟨H', hH⟩ := Ax.law_worldKnown us h1
  refine (Ax.call_true Ax.sound hH h2).mono fun e W' ⟨he, hbel⟩ => ?_
  subst he
  refine ⟨_, rfl, Ax.post_below hW rfl ?_ (by kernel_rfl) (by kernel_rfl) (by kernel_rfl) (by kernel_rfl) (tb := 4) (by kernel_rfl) Tryz.underlying4 hbel⟩
  clear hA hV hW
  match ds, hl with
  | [], _ => rfl

theorem lifted (os : Os) (started : os.Started) (H : Type) (enc : TypeId × Value → H) :
    ReturnsInHanded {} Tryz.checked os 3 .any (Rows.worldKnownSpec.pre6 enc Tryz.prog Tryz.f3 Rows.worldKnownRow.domain false) (Rows.worldKnownSpec.post enc Tryz.prog Tryz.f3 false true false false) := by
  refine returnsInHanded_of_change (C := Tryz.checked) own started (by kernel_rfl) Tryz.func3
    (ChangeSpec.witness6 (enc := enc) (C := Tryz.checked) false ⟨#[], #[], []⟩ 8 (by kernel_rfl) (by kernel_rfl) (by kernel_rfl) (by kernel_rfl)) ?_
  intro W base args ds gs before hval hW _ _
  exact contract H enc W base args ds gs before hval hW

theorem over : Rows.WorldKnownSaid :=
  OpenClaim.holds_of_wide 3 Tryz.f3 rfl rfl rfl rfl rfl rfl rfl ⟨rfl, rfl, rfl, rfl, rfl⟩ rfl rfl rfl rfl rfl (by kernel_rfl) Tryz.func3 jf
    (of_decide_eq_true (by kernel_rfl)) (by unfold Func.isWrapper; first | (rw [if_pos (by decide +kernel)]; kernel_rfl) | (rw [if_neg (by decide +kernel)]; exact ⟨rfl, rfl⟩))
    (fun os started H enc _ => lifted os started H enc)

end Go.Proofs.YtjabaappgopdmaaGreat.worldKnown
namespace Go.Proofs.YtjabaappgopdmaaGreat
theorem worldKnown_holds : Rows.WorldKnownSaid := worldKnown.over
end Go.Proofs.YtjabaappgopdmaaGreat
