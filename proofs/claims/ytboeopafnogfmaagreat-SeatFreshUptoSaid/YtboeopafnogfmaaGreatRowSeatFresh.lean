/-
  SeatFresh: whatever the input, the law's function returns true and leaves its arguments as they were.
-/
import Derived.Test.YtboeopafnogfmaaGreatZf13
import Derived.Test.YtboeopafnogfmaaGreatRows
import Derived.Test.YtboeopafnogfmaaGreatJfSeatFresh
namespace Go.Proofs.YtboeopafnogfmaaGreat.seatFresh
open Go.ChangeShapes Go.WideShapes Go.ChangeAt Go.RowKit
set_option linter.unusedVariables false

set_option maxRecDepth 100000

theorem own : ownKnob Tryz.prog.godebug = none := by kernel_rfl

theorem contract (H : Type) (enc : TypeId × Value → H) (W : World) (base : Nat) (args : Array Value) (ds gs : List (DataW H)) (before : List MemPlace)
    (hval : ∀ (j : Nat) t v, Tryz.f5.params[j]? = some t → args[j]? = some v → Value.okWide Tryz.prog W .any base t v)
    (hW : DataW.Whole enc Tryz.prog Tryz.f5.params.toList Rows.seatFreshSpec.vars false W args.toList ds gs before) (hk : Rows.uptoSmall H (ds ++ gs) = true) :
    Calls Tryz.prog 5 args W fun e W' => ∃ v, e = .returned v ∧ Rows.seatFreshSpec.post enc Tryz.prog Tryz.f5 false true false false W args v W' := by
  have hW' := hW
  obtain ⟨p, q, hA, hV, hbe, hz, hn⟩ := hW'
  have hl : ds.length = 3 := Ax.trodAll_len hA
  have hgs : gs = [] := (trodVars_none hV).1
  obtain ⟨us, h1, h2, h3⟩ := Ax.args_sh (n := 8) Tryz.f5.params.toList [(.sl (.int .u8)), (.sl (.int .u8)), (.sl (.int .u8))] args.toList ds p (by kernel_rfl) hA (fun j t v ht hv => hval j t v (Array.getElem?_toList.symm.trans ht) (Array.getElem?_toList.symm.trans hv))
  have hb : Ax.V.blks us ≤ 1048576 := by
    subst hgs
    simp only [List.append_nil, Rows.uptoSmall, decide_eq_true_eq] at hk
    exact Nat.le_trans h3 hk
  obtain ⟨H', hH⟩ := Ax.law_seatFresh us h1 hb
  refine (Ax.call_true Ax.sound hH h2).mono fun e W' ⟨he, hbel⟩ => ?_
  subst he
  refine ⟨_, rfl, Ax.post_below hW rfl ?_ (by kernel_rfl) (by kernel_rfl) (by kernel_rfl) (by kernel_rfl) (tb := 4) (by kernel_rfl) Tryz.underlying4 hbel⟩
  clear hA hV hW hk
  match ds, hl with
  | [d0, d1, d2], _ => rfl

theorem lifted (os : Os) (started : os.Started) (H : Type) (enc : TypeId × Value → H) (F : Stop.Interp) :
    ReturnsInHanded {} Tryz.checked os 5 .any ((Rows.OpenSpec.upto Rows.seatFreshSpec).pre6 enc Tryz.prog Tryz.f5 Rows.seatFreshUptoRow.domain false) (((Rows.OpenSpec.upto Rows.seatFreshSpec).at F).post enc Tryz.prog Tryz.f5 false true false false) := by
  refine returnsInHanded_of_cond (C := Tryz.checked) (s := Rows.OpenSpec.upto Rows.seatFreshSpec) (k := Rows.uptoSmall) rfl own started (by kernel_rfl) Tryz.func5
    (OpenSpec.witness (enc := enc) (C := Tryz.checked) (s := Rows.OpenSpec.upto Rows.seatFreshSpec) (k := Rows.uptoSmall) rfl false ⟨#[], #[.slice none 0 0, .slice none 0 0, .slice none 0 0], []⟩ 8 (by kernel_rfl) (by kernel_rfl) (by kernel_rfl)
      (x := ([.nil, .nil, .nil], [], [])) (by kernel_rfl) rfl (by kernel_rfl)) ?_
  intro W base args ds gs before hval hW _ hk _
  exact contract H enc W base args ds gs before hval hW hk

theorem over : Rows.seatFreshUptoRow.holds Tryz.pinned (Rows.OpenSpec.upto Rows.seatFreshSpec) :=
  OpenClaim.holds_of_cond 5 Tryz.f5 rfl rfl rfl rfl rfl rfl rfl ⟨rfl, rfl, rfl, rfl, rfl⟩ rfl rfl rfl rfl rfl (by kernel_rfl) Tryz.func5 jf
    (of_decide_eq_true (by kernel_rfl)) (by unfold Func.isWrapper; first | (rw [if_pos (by decide +kernel)]; kernel_rfl) | (rw [if_neg (by decide +kernel)]; exact ⟨rfl, rfl⟩))
    (fun os started H enc _ F => lifted os started H enc F)

end Go.Proofs.YtboeopafnogfmaaGreat.seatFresh
namespace Go.Proofs.YtboeopafnogfmaaGreat
theorem seatFresh_holds : Rows.SeatFreshUptoSaid := seatFresh.over
end Go.Proofs.YtboeopafnogfmaaGreat
