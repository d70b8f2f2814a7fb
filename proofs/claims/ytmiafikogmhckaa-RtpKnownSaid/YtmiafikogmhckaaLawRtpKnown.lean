/-
  RtpKnown, the plain law: the closed call answers true (computed).
-/
import Derived.Test.YtmiafikogmhckaaCcK
set_option maxRecDepth 100000
namespace Go.Ax

theorem known_rtpKnown : Cc.yes (Cc.cs 40 fn_palanquinlaw7_RtpKnown []) = true := by kernel_rfl

theorem law_rtpKnown (us : List V) (h : TyArgs [] us) : ∃ H', sem T fn_palanquinlaw7_RtpKnown us H0 = some (.bool true, H') := by
  cases us with
  | nil => exact Cc.yes_ok (Cc.sims_cs 40 _ _) known_rtpKnown
  | cons u us => cases h

end Go.Ax
