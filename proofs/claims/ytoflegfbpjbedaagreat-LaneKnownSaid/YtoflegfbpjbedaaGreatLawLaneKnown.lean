/-
  LaneKnown, the plain law: the closed call answers true (computed).
-/
import Derived.Test.YtoflegfbpjbedaaGreatCcK
set_option maxRecDepth 100000
namespace Go.Ax

theorem known_laneKnown : Cc.yes (Cc.cs 40 fn_palanquinlaw25_LaneKnown []) = true := by kernel_rfl

theorem law_laneKnown (us : List V) (h : TyArgs [] us) : ∃ H', sem T fn_palanquinlaw25_LaneKnown us H0 = some (.bool true, H') := by
  cases us with
  | nil => exact Cc.yes_ok (Cc.sims_cs 40 _ _) known_laneKnown
  | cons u us => cases h

end Go.Ax
