/-
  No cell of these rows narrows 'for every input' (looked for: loops, veiled, ifaces, maps, wideKeys, modest, calm, conditions, laid).
  DERIVED. THE GIVEN ROWS OF THIS SEAT. 8 by the template 'for every input the law returns true; each argument reads behind the call as it read before'; 0 by the template 'total and deterministic' (their statements: YtecklladobbpbaaTotals.lean).
  GIVEN WITH THE SEED: the statements are not yours to turn. If you find one false, say at which input.
  Laid BY PROGRAM, IN A SANDBOX (cutbox-rows.mjs): the forced cells as the released guide's own fill.sh prints them over the translation 850bef29229196f7… (all of the seat's roots in one cut). By AI agents, Wed Nov 11 2026. No macro, syntax, notation, axiom, sorry.
-/
import Derived.Test.YtecklladobbpbaaChecked
import GoSem.Claim
import GoSem.ClaimJoined
import GoSem.ClaimMapViews
import Derived.JoinedTies
import Derived.KernelRfl
namespace Go.Proofs.Ytecklladobbpbaa
/- THE CELL 'sum', in the pinned program and in every row, IS THE sha256 OF THE DUMP (.gsa) THAT YtecklladobbpbaaProg.lean LOADS. Nothing in Lean hashes anything: it is a label: what it is worth is what the hold of that sum in a sandbox is worth. -/
noncomputable def Try.pinned : Pinned := { name := "ytecklladobbpbaa", sum := "850bef29229196f769055a82a633ae3a35a7e7402ed9eb1e56ac5e0c93b002db", checked := Try.checked }
namespace Rows
def none {H : Type} : Left H := { results := [], args := [] }

/-- 'palanquinlaw20.PickKnown': WHATEVER THE INPUT: true; the input reads as it did. -/
def pickKnownSpec : ChangeSpec := { name := "pickKnown", fn := fun _ => fun
  | [] => { results := [.lit (.bool true)], args := [] }
  | _ => none }
def pickKnownRow : OpenClaim := { program := "ytecklladobbpbaa", sum := "850bef29229196f769055a82a633ae3a35a7e7402ed9eb1e56ac5e0c93b002db", func := "palanquin/palanquinlaw20.PickKnown", spec := "pickKnown", unfollowed := true, recurses := true, apart := false }
def PickKnownSaid : Prop := pickKnownRow.holds Try.pinned (OpenSpec.ofChange pickKnownSpec)

/-- ITS FALSE NEIGHBOUR: 'it returns false'. Refute it at one input. -/
def pickKnownWrong : ChangeSpec := { name := "pickKnown", fn := fun _ => fun
  | [] => { results := [.lit (.bool false)], args := [] }
  | _ => none }
def PickKnownWrongFalsely : Prop := pickKnownRow.holds Try.pinned (OpenSpec.ofChange pickKnownWrong)

/-- 'palanquinlaw20.PickSays': WHATEVER THE INPUT: true; the input reads as it did. -/
def pickSaysSpec : ChangeSpec := { name := "pickSays", fn := fun _ => fun
  | [d1, d2, d3, d4, d5, d6, d7, d8] => { results := [.lit (.bool true)], args := [d1, d2, d3, d4, d5, d6, d7, d8] }
  | _ => none }
def pickSaysRow : OpenClaim := { program := "ytecklladobbpbaa", sum := "850bef29229196f769055a82a633ae3a35a7e7402ed9eb1e56ac5e0c93b002db", func := "palanquin/palanquinlaw20.PickSays", spec := "pickSays", unfollowed := true, recurses := true, apart := false }
def PickSaysSaid : Prop := pickSaysRow.holds Try.pinned (OpenSpec.ofChange pickSaysSpec)

/-- ITS FALSE NEIGHBOUR: 'it returns false'. Refute it at one input. -/
def pickSaysWrong : ChangeSpec := { name := "pickSays", fn := fun _ => fun
  | [d1, d2, d3, d4, d5, d6, d7, d8] => { results := [.lit (.bool false)], args := [d1, d2, d3, d4, d5, d6, d7, d8] }
  | _ => none }
def PickSaysWrongFalsely : Prop := pickSaysRow.holds Try.pinned (OpenSpec.ofChange pickSaysWrong)

/-- 'palanquinlaw20.PickBest': WHATEVER THE INPUT: true; the input reads as it did. -/
def pickBestSpec : ChangeSpec := { name := "pickBest", fn := fun _ => fun
  | [d1, d2, d3, d4, d5] => { results := [.lit (.bool true)], args := [d1, d2, d3, d4, d5] }
  | _ => none }
def pickBestRow : OpenClaim := { program := "ytecklladobbpbaa", sum := "850bef29229196f769055a82a633ae3a35a7e7402ed9eb1e56ac5e0c93b002db", func := "palanquin/palanquinlaw20.PickBest", spec := "pickBest", unfollowed := true, recurses := true, apart := false }
def PickBestSaid : Prop := pickBestRow.holds Try.pinned (OpenSpec.ofChange pickBestSpec)

/-- ITS FALSE NEIGHBOUR: 'it returns false'. Refute it at one input. -/
def pickBestWrong : ChangeSpec := { name := "pickBest", fn := fun _ => fun
  | [d1, d2, d3, d4, d5] => { results := [.lit (.bool false)], args := [d1, d2, d3, d4, d5] }
  | _ => none }
def PickBestWrongFalsely : Prop := pickBestRow.holds Try.pinned (OpenSpec.ofChange pickBestWrong)

/-- 'palanquinlaw20.PickSource': WHATEVER THE INPUT: true; the input reads as it did. -/
def pickSourceSpec : ChangeSpec := { name := "pickSource", fn := fun _ => fun
  | [d1, d2, d3] => { results := [.lit (.bool true)], args := [d1, d2, d3] }
  | _ => none }
def pickSourceRow : OpenClaim := { program := "ytecklladobbpbaa", sum := "850bef29229196f769055a82a633ae3a35a7e7402ed9eb1e56ac5e0c93b002db", func := "palanquin/palanquinlaw20.PickSource", spec := "pickSource", unfollowed := true, recurses := true, apart := false }
def PickSourceSaid : Prop := pickSourceRow.holds Try.pinned (OpenSpec.ofChange pickSourceSpec)

/-- ITS FALSE NEIGHBOUR: 'it returns false'. Refute it at one input. -/
def pickSourceWrong : ChangeSpec := { name := "pickSource", fn := fun _ => fun
  | [d1, d2, d3] => { results := [.lit (.bool false)], args := [d1, d2, d3] }
  | _ => none }
def PickSourceWrongFalsely : Prop := pickSourceRow.holds Try.pinned (OpenSpec.ofChange pickSourceWrong)

/-- 'palanquinlaw25.LaneBroken': WHATEVER THE INPUT: true; the input reads as it did. -/
def laneBrokenSpec : ChangeSpec := { name := "laneBroken", fn := fun _ => fun
  | [d1, d2] => { results := [.lit (.bool true)], args := [d1, d2] }
  | _ => none }
def laneBrokenRow : OpenClaim := { program := "ytecklladobbpbaa", sum := "850bef29229196f769055a82a633ae3a35a7e7402ed9eb1e56ac5e0c93b002db", func := "palanquin/palanquinlaw25.LaneBroken", spec := "laneBroken", unfollowed := true, recurses := true, apart := false }
def LaneBrokenSaid : Prop := laneBrokenRow.holds Try.pinned (OpenSpec.ofChange laneBrokenSpec)

/-- ITS FALSE NEIGHBOUR: 'it returns false'. Refute it at one input. -/
def laneBrokenWrong : ChangeSpec := { name := "laneBroken", fn := fun _ => fun
  | [d1, d2] => { results := [.lit (.bool false)], args := [d1, d2] }
  | _ => none }
def LaneBrokenWrongFalsely : Prop := laneBrokenRow.holds Try.pinned (OpenSpec.ofChange laneBrokenWrong)

/-- 'palanquinlaw25.LaneWhole': WHATEVER THE INPUT: true; the input reads as it did. -/
def laneWholeSpec : ChangeSpec := { name := "laneWhole", fn := fun _ => fun
  | [d] => { results := [.lit (.bool true)], args := [d] }
  | _ => none }
def laneWholeRow : OpenClaim := { program := "ytecklladobbpbaa", sum := "850bef29229196f769055a82a633ae3a35a7e7402ed9eb1e56ac5e0c93b002db", func := "palanquin/palanquinlaw25.LaneWhole", spec := "laneWhole", unfollowed := true, recurses := true, apart := false }
def LaneWholeSaid : Prop := laneWholeRow.holds Try.pinned (OpenSpec.ofChange laneWholeSpec)

/-- ITS FALSE NEIGHBOUR: 'it returns false'. Refute it at one input. -/
def laneWholeWrong : ChangeSpec := { name := "laneWhole", fn := fun _ => fun
  | [d] => { results := [.lit (.bool false)], args := [d] }
  | _ => none }
def LaneWholeWrongFalsely : Prop := laneWholeRow.holds Try.pinned (OpenSpec.ofChange laneWholeWrong)

/-- 'palanquinlaw25.LaneTurns': WHATEVER THE INPUT: true; the input reads as it did. -/
def laneTurnsSpec : ChangeSpec := { name := "laneTurns", fn := fun _ => fun
  | [d] => { results := [.lit (.bool true)], args := [d] }
  | _ => none }
def laneTurnsRow : OpenClaim := { program := "ytecklladobbpbaa", sum := "850bef29229196f769055a82a633ae3a35a7e7402ed9eb1e56ac5e0c93b002db", func := "palanquin/palanquinlaw25.LaneTurns", spec := "laneTurns", unfollowed := true, recurses := true, apart := false }
def LaneTurnsSaid : Prop := laneTurnsRow.holds Try.pinned (OpenSpec.ofChange laneTurnsSpec)

/-- ITS FALSE NEIGHBOUR: 'it returns false'. Refute it at one input. -/
def laneTurnsWrong : ChangeSpec := { name := "laneTurns", fn := fun _ => fun
  | [d] => { results := [.lit (.bool false)], args := [d] }
  | _ => none }
def LaneTurnsWrongFalsely : Prop := laneTurnsRow.holds Try.pinned (OpenSpec.ofChange laneTurnsWrong)

/-- 'palanquinlaw25.LaneAgain': WHATEVER THE INPUT: true; the input reads as it did. -/
def laneAgainSpec : ChangeSpec := { name := "laneAgain", fn := fun _ => fun
  | [d1, d2, d3] => { results := [.lit (.bool true)], args := [d1, d2, d3] }
  | _ => none }
def laneAgainRow : OpenClaim := { program := "ytecklladobbpbaa", sum := "850bef29229196f769055a82a633ae3a35a7e7402ed9eb1e56ac5e0c93b002db", func := "palanquin/palanquinlaw25.LaneAgain", spec := "laneAgain", unfollowed := true, recurses := true, apart := false }
def LaneAgainSaid : Prop := laneAgainRow.holds Try.pinned (OpenSpec.ofChange laneAgainSpec)

/-- ITS FALSE NEIGHBOUR: 'it returns false'. Refute it at one input. -/
def laneAgainWrong : ChangeSpec := { name := "laneAgain", fn := fun _ => fun
  | [d1, d2, d3] => { results := [.lit (.bool false)], args := [d1, d2, d3] }
  | _ => none }
def LaneAgainWrongFalsely : Prop := laneAgainRow.holds Try.pinned (OpenSpec.ofChange laneAgainWrong)

/- THE SECOND FORM. 'bulk': how many values and letters a reading holds, each counted each time it is reached (what is shared counts as often as it is met; a slice's spare places count too). A statement '..UptoSaid' is the law's where the arguments, and the package variables that the reading takes, are together of bulk at most 1048576: NARROWER than '..Said'. Prove '..Said' where nothing that the law and all that it calls make is longer than what came in: it says more and counts as full. Else prove '..UptoSaid'. A law counts once. -/
mutual
def uptoBulk {H : Type} : DataW H → Nat
  | .lit (.string bytes) => bytes.length + 1
  | .lit _ => 1
  | .nil => 1
  | .ptr d => uptoBulk d + 1
  | .slice elems spare => uptoBulkAll elems + uptoBulkAll spare + 1
  | .agg parts => uptoBulkAll parts + 1
  | .iface _ d => uptoBulk d + 1
  | .map entries => uptoBulkEntries entries + 1
  | .held _ => 1
def uptoBulkAll {H : Type} : List (DataW H) → Nat
  | [] => 0
  | d :: r => uptoBulk d + uptoBulkAll r
def uptoBulkEntries {H : Type} : List (Lit × DataW H) → Nat
  | [] => 0
  | x :: r => uptoBulkEntry x + uptoBulkEntries r
def uptoBulkEntry {H : Type} : Lit × DataW H → Nat
  | (.string bytes, d) => bytes.length + uptoBulk d + 1
  | (_, d) => uptoBulk d + 1
 end
def uptoSmall : (H : Type) → List (DataW H) → Bool := fun _ ds => decide (uptoBulkAll ds ≤ 1048576)
def OpenSpec.upto (s : _root_.Go.ChangeSpec) : _root_.Go.OpenSpec := { _root_.Go.OpenSpec.ofChange s with cond := some uptoSmall }

/-- 'palanquinlaw20.PickKnown', WHERE WHAT IT READS IS OF BULK AT MOST 1048576: true; the input reads as it did. -/
def pickKnownUptoRow : OpenClaim := { program := "ytecklladobbpbaa", sum := "850bef29229196f769055a82a633ae3a35a7e7402ed9eb1e56ac5e0c93b002db", func := "palanquin/palanquinlaw20.PickKnown", spec := "pickKnown", unfollowed := true, recurses := true, apart := false, narrowed := true }
def PickKnownUptoSaid : Prop := pickKnownUptoRow.holds Try.pinned (OpenSpec.upto pickKnownSpec)

/-- 'palanquinlaw20.PickSays', WHERE WHAT IT READS IS OF BULK AT MOST 1048576: true; the input reads as it did. -/
def pickSaysUptoRow : OpenClaim := { program := "ytecklladobbpbaa", sum := "850bef29229196f769055a82a633ae3a35a7e7402ed9eb1e56ac5e0c93b002db", func := "palanquin/palanquinlaw20.PickSays", spec := "pickSays", unfollowed := true, recurses := true, apart := false, narrowed := true }
def PickSaysUptoSaid : Prop := pickSaysUptoRow.holds Try.pinned (OpenSpec.upto pickSaysSpec)

/-- 'palanquinlaw20.PickBest', WHERE WHAT IT READS IS OF BULK AT MOST 1048576: true; the input reads as it did. -/
def pickBestUptoRow : OpenClaim := { program := "ytecklladobbpbaa", sum := "850bef29229196f769055a82a633ae3a35a7e7402ed9eb1e56ac5e0c93b002db", func := "palanquin/palanquinlaw20.PickBest", spec := "pickBest", unfollowed := true, recurses := true, apart := false, narrowed := true }
def PickBestUptoSaid : Prop := pickBestUptoRow.holds Try.pinned (OpenSpec.upto pickBestSpec)

/-- 'palanquinlaw20.PickSource', WHERE WHAT IT READS IS OF BULK AT MOST 1048576: true; the input reads as it did. -/
def pickSourceUptoRow : OpenClaim := { program := "ytecklladobbpbaa", sum := "850bef29229196f769055a82a633ae3a35a7e7402ed9eb1e56ac5e0c93b002db", func := "palanquin/palanquinlaw20.PickSource", spec := "pickSource", unfollowed := true, recurses := true, apart := false, narrowed := true }
def PickSourceUptoSaid : Prop := pickSourceUptoRow.holds Try.pinned (OpenSpec.upto pickSourceSpec)

/-- 'palanquinlaw25.LaneBroken', WHERE WHAT IT READS IS OF BULK AT MOST 1048576: true; the input reads as it did. -/
def laneBrokenUptoRow : OpenClaim := { program := "ytecklladobbpbaa", sum := "850bef29229196f769055a82a633ae3a35a7e7402ed9eb1e56ac5e0c93b002db", func := "palanquin/palanquinlaw25.LaneBroken", spec := "laneBroken", unfollowed := true, recurses := true, apart := false, narrowed := true }
def LaneBrokenUptoSaid : Prop := laneBrokenUptoRow.holds Try.pinned (OpenSpec.upto laneBrokenSpec)

/-- 'palanquinlaw25.LaneWhole', WHERE WHAT IT READS IS OF BULK AT MOST 1048576: true; the input reads as it did. -/
def laneWholeUptoRow : OpenClaim := { program := "ytecklladobbpbaa", sum := "850bef29229196f769055a82a633ae3a35a7e7402ed9eb1e56ac5e0c93b002db", func := "palanquin/palanquinlaw25.LaneWhole", spec := "laneWhole", unfollowed := true, recurses := true, apart := false, narrowed := true }
def LaneWholeUptoSaid : Prop := laneWholeUptoRow.holds Try.pinned (OpenSpec.upto laneWholeSpec)

/-- 'palanquinlaw25.LaneTurns', WHERE WHAT IT READS IS OF BULK AT MOST 1048576: true; the input reads as it did. -/
def laneTurnsUptoRow : OpenClaim := { program := "ytecklladobbpbaa", sum := "850bef29229196f769055a82a633ae3a35a7e7402ed9eb1e56ac5e0c93b002db", func := "palanquin/palanquinlaw25.LaneTurns", spec := "laneTurns", unfollowed := true, recurses := true, apart := false, narrowed := true }
def LaneTurnsUptoSaid : Prop := laneTurnsUptoRow.holds Try.pinned (OpenSpec.upto laneTurnsSpec)

/-- 'palanquinlaw25.LaneAgain', WHERE WHAT IT READS IS OF BULK AT MOST 1048576: true; the input reads as it did. -/
def laneAgainUptoRow : OpenClaim := { program := "ytecklladobbpbaa", sum := "850bef29229196f769055a82a633ae3a35a7e7402ed9eb1e56ac5e0c93b002db", func := "palanquin/palanquinlaw25.LaneAgain", spec := "laneAgain", unfollowed := true, recurses := true, apart := false, narrowed := true }
def LaneAgainUptoSaid : Prop := laneAgainUptoRow.holds Try.pinned (OpenSpec.upto laneAgainSpec)

end Rows
end Go.Proofs.Ytecklladobbpbaa
