/-
  DependKnown, the plain law: the closed call answers true (computed).
-/
import Derived.Test.YtcjakbkffnofcaaCc
set_option maxRecDepth 100000
namespace Go.Ax

theorem known_dependKnown : Cc.yes (Cc.cs 40 fn_palanquinlaw9_DependKnown []) = true := by kernel_rfl

theorem law_dependKnown (us : List V) (h : TyArgs [] us) : ∃ H', sem T fn_palanquinlaw9_DependKnown us H0 = some (.bool true, H') := by
  cases us with
  | nil => exact Cc.yes_ok (Cc.sims_cs 40 _ _) known_dependKnown
  | cons u us => cases h

end Go.Ax
