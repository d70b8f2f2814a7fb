/-
  PickKnown, the plain law: the closed call answers true (computed).
-/
import Derived.Test.YtecklladobbpbaaCc
set_option maxRecDepth 100000
namespace Go.Ax

theorem known_pickKnown : Cc.yes (Cc.cs 40 fn_palanquinlaw20_PickKnown []) = true := by kernel_rfl

theorem law_pickKnown (us : List V) (h : TyArgs [] us) : ∃ H', sem T fn_palanquinlaw20_PickKnown us H0 = some (.bool true, H') := by
  cases us with
  | nil => exact Cc.yes_ok (Cc.sims_cs 40 _ _) known_pickKnown
  | cons u us => cases h

end Go.Ax
