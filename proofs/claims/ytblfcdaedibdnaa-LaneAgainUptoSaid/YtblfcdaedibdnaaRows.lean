/-
  No cell of these rows narrows 'for every input' (looked for: loops, veiled, ifaces, maps, wideKeys, modest, calm, conditions, laid).
  DERIVED. THE GIVEN ROWS OF THIS SEAT. 11 by the template 'for every input the law returns true; each argument reads behind the call as it read before'; 0 by the template 'total and deterministic' (their statements: YtblfcdaedibdnaaTotals.lean).
  GIVEN WITH THE SEED: the statements are not yours to turn. If you find one false, say at which input.
  Laid BY PROGRAM, IN A SANDBOX (cutbox-rows.mjs): the forced cells as the released guide's own fill.sh prints them over the translation 38f5a8482a8c3288… (all of the seat's roots in one cut). By AI agents, Wed Nov 11 2026. No macro, syntax, notation, axiom, sorry.
-/
import Derived.Test.YtblfcdaedibdnaaChecked
import GoSem.Claim
import GoSem.ClaimJoined
import GoSem.ClaimMapViews
import Derived.JoinedTies
import Derived.KernelRfl
namespace Go.Proofs.Ytblfcdaedibdnaa
/- THE CELL 'sum', in the pinned program and in every row, IS THE sha256 OF THE DUMP (.gsa) THAT YtblfcdaedibdnaaProg.lean LOADS. Nothing in Lean hashes anything: it is a label: what it is worth is what the hold of that sum in a sandbox is worth. -/
noncomputable def Try.pinned : Pinned := { name := "ytblfcdaedibdnaa", sum := "38f5a8482a8c328889923cd03dfb7981f4a884bc0fed7ddd1a986f5b79f78173", checked := Try.checked }
namespace Rows
def none {H : Type} : Left H := { results := [], args := [] }

/-- 'palanquinlaw20.PickSays': WHATEVER THE INPUT: true; the input reads as it did. -/
def pickSaysSpec : ChangeSpec := { name := "pickSays", fn := fun _ => fun
  | [d1, d2, d3, d4, d5, d6, d7, d8] => { results := [.lit (.bool true)], args := [d1, d2, d3, d4, d5, d6, d7, d8] }
  | _ => none }
def pickSaysRow : OpenClaim := { program := "ytblfcdaedibdnaa", sum := "38f5a8482a8c328889923cd03dfb7981f4a884bc0fed7ddd1a986f5b79f78173", func := "palanquin/palanquinlaw20.PickSays", spec := "pickSays", unfollowed := true, recurses := true, apart := false }
def PickSaysSaid : Prop := pickSaysRow.holds Try.pinned (OpenSpec.ofChange pickSaysSpec)

/-- ITS FALSE NEIGHBOUR: 'it returns false'. Refute it at one input. -/
def pickSaysWrong : ChangeSpec := { name := "pickSays", fn := fun _ => fun
  | [d1, d2, d3, d4, d5, d6, d7, d8] => { results := [.lit (.bool false)], args := [d1, d2, d3, d4, d5, d6, d7, d8] }
  | _ => none }
def PickSaysWrongFalsely : Prop := pickSaysRow.holds Try.pinned (OpenSpec.ofChange pickSaysWrong)

/-- 'palanquinlaw20.PickBest': WHATEVER THE INPUT: true; the input reads as it did. -/
def pickBestSpec : ChangeSpec := { name := "pickBest", fn := fun _ => fun
  | [d1, d2, d3, d4, d5] => { results := [.lit (.bool true)], args := [d1, d2, d3, d4, d5] }
  | _ => none }
def pickBestRow : OpenClaim := { program := "ytblfcdaedibdnaa", sum := "38f5a8482a8c328889923cd03dfb7981f4a884bc0fed7ddd1a986f5b79f78173", func := "palanquin/palanquinlaw20.PickBest", spec := "pickBest", unfollowed := true, recurses := true, apart := false }
def PickBestSaid : Prop := pickBestRow.holds Try.pinned (OpenSpec.ofChange pickBestSpec)

/-- ITS FALSE NEIGHBOUR: 'it returns false'. Refute it at one input. -/
def pickBestWrong : ChangeSpec := { name := "pickBest", fn := fun _ => fun
  | [d1, d2, d3, d4, d5] => { results := [.lit (.bool false)], args := [d1, d2, d3, d4, d5] }
  | _ => none }
def PickBestWrongFalsely : Prop := pickBestRow.holds Try.pinned (OpenSpec.ofChange pickBestWrong)

/-- 'palanquinlaw9.DependSays': WHATEVER THE INPUT: true; the input reads as it did. -/
def dependSaysSpec : ChangeSpec := { name := "dependSays", fn := fun _ => fun
  | [d1, d2] => { results := [.lit (.bool true)], args := [d1, d2] }
  | _ => none }
def dependSaysRow : OpenClaim := { program := "ytblfcdaedibdnaa", sum := "38f5a8482a8c328889923cd03dfb7981f4a884bc0fed7ddd1a986f5b79f78173", func := "palanquin/palanquinlaw9.DependSays", spec := "dependSays", unfollowed := true, recurses := true, apart := false }
def DependSaysSaid : Prop := dependSaysRow.holds Try.pinned (OpenSpec.ofChange dependSaysSpec)

/-- ITS FALSE NEIGHBOUR: 'it returns false'. Refute it at one input. -/
def dependSaysWrong : ChangeSpec := { name := "dependSays", fn := fun _ => fun
  | [d1, d2] => { results := [.lit (.bool false)], args := [d1, d2] }
  | _ => none }
def DependSaysWrongFalsely : Prop := dependSaysRow.holds Try.pinned (OpenSpec.ofChange dependSaysWrong)

/-- 'palanquinlaw9.DependLayers': WHATEVER THE INPUT: true; the input reads as it did. -/
def dependLayersSpec : ChangeSpec := { name := "dependLayers", fn := fun _ => fun
  | [d1, d2] => { results := [.lit (.bool true)], args := [d1, d2] }
  | _ => none }
def dependLayersRow : OpenClaim := { program := "ytblfcdaedibdnaa", sum := "38f5a8482a8c328889923cd03dfb7981f4a884bc0fed7ddd1a986f5b79f78173", func := "palanquin/palanquinlaw9.DependLayers", spec := "dependLayers", unfollowed := true, recurses := true, apart := false }
def DependLayersSaid : Prop := dependLayersRow.holds Try.pinned (OpenSpec.ofChange dependLayersSpec)

/-- ITS FALSE NEIGHBOUR: 'it returns false'. Refute it at one input. -/
def dependLayersWrong : ChangeSpec := { name := "dependLayers", fn := fun _ => fun
  | [d1, d2] => { results := [.lit (.bool false)], args := [d1, d2] }
  | _ => none }
def DependLayersWrongFalsely : Prop := dependLayersRow.holds Try.pinned (OpenSpec.ofChange dependLayersWrong)

/-- 'palanquinlaw25.LaneBroken': WHATEVER THE INPUT: true; the input reads as it did. -/
def laneBrokenSpec : ChangeSpec := { name := "laneBroken", fn := fun _ => fun
  | [d1, d2] => { results := [.lit (.bool true)], args := [d1, d2] }
  | _ => none }
def laneBrokenRow : OpenClaim := { program := "ytblfcdaedibdnaa", sum := "38f5a8482a8c328889923cd03dfb7981f4a884bc0fed7ddd1a986f5b79f78173", func := "palanquin/palanquinlaw25.LaneBroken", spec := "laneBroken", unfollowed := true, recurses := true, apart := false }
def LaneBrokenSaid : Prop := laneBrokenRow.holds Try.pinned (OpenSpec.ofChange laneBrokenSpec)

/-- ITS FALSE NEIGHBOUR: 'it returns false'. Refute it at one input. -/
def laneBrokenWrong : ChangeSpec := { name := "laneBroken", fn := fun _ => fun
  | [d1, d2] => { results := [.lit (.bool false)], args := [d1, d2] }
  | _ => none }
def LaneBrokenWrongFalsely : Prop := laneBrokenRow.holds Try.pinned (OpenSpec.ofChange laneBrokenWrong)

/-- 'palanquinlaw9.DependReads': WHATEVER THE INPUT: true; the input reads as it did. -/
def dependReadsSpec : ChangeSpec := { name := "dependReads", fn := fun _ => fun
  | [d1, d2] => { results := [.lit (.bool true)], args := [d1, d2] }
  | _ => none }
def dependReadsRow : OpenClaim := { program := "ytblfcdaedibdnaa", sum := "38f5a8482a8c328889923cd03dfb7981f4a884bc0fed7ddd1a986f5b79f78173", func := "palanquin/palanquinlaw9.DependReads", spec := "dependReads", unfollowed := true, recurses := true, apart := false }
def DependReadsSaid : Prop := dependReadsRow.holds Try.pinned (OpenSpec.ofChange dependReadsSpec)

/-- ITS FALSE NEIGHBOUR: 'it returns false'. Refute it at one input. -/
def dependReadsWrong : ChangeSpec := { name := "dependReads", fn := fun _ => fun
  | [d1, d2] => { results := [.lit (.bool false)], args := [d1, d2] }
  | _ => none }
def DependReadsWrongFalsely : Prop := dependReadsRow.holds Try.pinned (OpenSpec.ofChange dependReadsWrong)

/-- 'palanquinlaw9.DependBack': WHATEVER THE INPUT: true; the input reads as it did. -/
def dependBackSpec : ChangeSpec := { name := "dependBack", fn := fun _ => fun
  | [d1, d2, d3] => { results := [.lit (.bool true)], args := [d1, d2, d3] }
  | _ => none }
def dependBackRow : OpenClaim := { program := "ytblfcdaedibdnaa", sum := "38f5a8482a8c328889923cd03dfb7981f4a884bc0fed7ddd1a986f5b79f78173", func := "palanquin/palanquinlaw9.DependBack", spec := "dependBack", unfollowed := true, recurses := true, apart := false }
def DependBackSaid : Prop := dependBackRow.holds Try.pinned (OpenSpec.ofChange dependBackSpec)

/-- ITS FALSE NEIGHBOUR: 'it returns false'. Refute it at one input. -/
def dependBackWrong : ChangeSpec := { name := "dependBack", fn := fun _ => fun
  | [d1, d2, d3] => { results := [.lit (.bool false)], args := [d1, d2, d3] }
  | _ => none }
def DependBackWrongFalsely : Prop := dependBackRow.holds Try.pinned (OpenSpec.ofChange dependBackWrong)

/-- 'palanquinlaw25.LaneWhole': WHATEVER THE INPUT: true; the input reads as it did. -/
def laneWholeSpec : ChangeSpec := { name := "laneWhole", fn := fun _ => fun
  | [d] => { results := [.lit (.bool true)], args := [d] }
  | _ => none }
def laneWholeRow : OpenClaim := { program := "ytblfcdaedibdnaa", sum := "38f5a8482a8c328889923cd03dfb7981f4a884bc0fed7ddd1a986f5b79f78173", func := "palanquin/palanquinlaw25.LaneWhole", spec := "laneWhole", unfollowed := true, recurses := true, apart := false }
def LaneWholeSaid : Prop := laneWholeRow.holds Try.pinned (OpenSpec.ofChange laneWholeSpec)

/-- ITS FALSE NEIGHBOUR: 'it returns false'. Refute it at one input. -/
def laneWholeWrong : ChangeSpec := { name := "laneWhole", fn := fun _ => fun
  | [d] => { results := [.lit (.bool false)], args := [d] }
  | _ => none }
def LaneWholeWrongFalsely : Prop := laneWholeRow.holds Try.pinned (OpenSpec.ofChange laneWholeWrong)

/-- 'palanquinlaw25.LaneTurns': WHATEVER THE INPUT: true; the input reads as it did. -/
def laneTurnsSpec : ChangeSpec := { name := "laneTurns", fn := fun _ => fun
  | [d] => { results := [.lit (.bool true)], args := [d] }
  | _ => none }
def laneTurnsRow : OpenClaim := { program := "ytblfcdaedibdnaa", sum := "38f5a8482a8c328889923cd03dfb7981f4a884bc0fed7ddd1a986f5b79f78173", func := "palanquin/palanquinlaw25.LaneTurns", spec := "laneTurns", unfollowed := true, recurses := true, apart := false }
def LaneTurnsSaid : Prop := laneTurnsRow.holds Try.pinned (OpenSpec.ofChange laneTurnsSpec)

/-- ITS FALSE NEIGHBOUR: 'it returns false'. Refute it at one input. -/
def laneTurnsWrong : ChangeSpec := { name := "laneTurns", fn := fun _ => fun
  | [d] => { results := [.lit (.bool false)], args := [d] }
  | _ => none }
def LaneTurnsWrongFalsely : Prop := laneTurnsRow.holds Try.pinned (OpenSpec.ofChange laneTurnsWrong)

/-- 'palanquinlaw9.DependNumber': WHATEVER THE INPUT: true; the input reads as it did. -/
def dependNumberSpec : ChangeSpec := { name := "dependNumber", fn := fun _ => fun
  | [d1, d2, d3] => { results := [.lit (.bool true)], args := [d1, d2, d3] }
  | _ => none }
def dependNumberRow : OpenClaim := { program := "ytblfcdaedibdnaa", sum := "38f5a8482a8c328889923cd03dfb7981f4a884bc0fed7ddd1a986f5b79f78173", func := "palanquin/palanquinlaw9.DependNumber", spec := "dependNumber", unfollowed := true, recurses := true, apart := false }
def DependNumberSaid : Prop := dependNumberRow.holds Try.pinned (OpenSpec.ofChange dependNumberSpec)

/-- ITS FALSE NEIGHBOUR: 'it returns false'. Refute it at one input. -/
def dependNumberWrong : ChangeSpec := { name := "dependNumber", fn := fun _ => fun
  | [d1, d2, d3] => { results := [.lit (.bool false)], args := [d1, d2, d3] }
  | _ => none }
def DependNumberWrongFalsely : Prop := dependNumberRow.holds Try.pinned (OpenSpec.ofChange dependNumberWrong)

/-- 'palanquinlaw25.LaneAgain': WHATEVER THE INPUT: true; the input reads as it did. -/
def laneAgainSpec : ChangeSpec := { name := "laneAgain", fn := fun _ => fun
  | [d1, d2, d3] => { results := [.lit (.bool true)], args := [d1, d2, d3] }
  | _ => none }
def laneAgainRow : OpenClaim := { program := "ytblfcdaedibdnaa", sum := "38f5a8482a8c328889923cd03dfb7981f4a884bc0fed7ddd1a986f5b79f78173", func := "palanquin/palanquinlaw25.LaneAgain", spec := "laneAgain", unfollowed := true, recurses := true, apart := false }
def LaneAgainSaid : Prop := laneAgainRow.holds Try.pinned (OpenSpec.ofChange laneAgainSpec)

/-- ITS FALSE NEIGHBOUR: 'it returns false'. Refute it at one input. -/
def laneAgainWrong : ChangeSpec := { name := "laneAgain", fn := fun _ => fun
  | [d1, d2, d3] => { results := [.lit (.bool false)], args := [d1, d2, d3] }
  | _ => none }
def LaneAgainWrongFalsely : Prop := laneAgainRow.holds Try.pinned (OpenSpec.ofChange laneAgainWrong)

/- THE SECOND FORM. 'bulk': how many values and letters a reading holds, each counted each time it is reached (what is shared counts as often as it is met; a slice's spare places count too). A statement '..UptoSaid' is the law's where the arguments, and the package variables that the reading takes, are together of bulk at most 1048576: NARROWER than '..Said'. Prove '..Said' where nothing that the law and all that it calls make is longer than what came in: it says more and counts as full. Else prove '..UptoSaid'. A law counts once. -/
mutual
def uptoBulk {H : Type} : DataW H → Nat
  | .lit (.string bytes) => bytes.length + 1
  | .lit _ => 1
  | .nil => 1
  | .ptr d => uptoBulk d + 1
  | .slice elems spare => uptoBulkAll elems + uptoBulkAll spare + 1
  | .agg parts => uptoBulkAll parts + 1
  | .iface _ d => uptoBulk d + 1
  | .map entries => uptoBulkEntries entries + 1
  | .held _ => 1
def uptoBulkAll {H : Type} : List (DataW H) → Nat
  | [] => 0
  | d :: r => uptoBulk d + uptoBulkAll r
def uptoBulkEntries {H : Type} : List (Lit × DataW H) → Nat
  | [] => 0
  | x :: r => uptoBulkEntry x + uptoBulkEntries r
def uptoBulkEntry {H : Type} : Lit × DataW H → Nat
  | (.string bytes, d) => bytes.length + uptoBulk d + 1
  | (_, d) => uptoBulk d + 1
 end
def uptoSmall : (H : Type) → List (DataW H) → Bool := fun _ ds => decide (uptoBulkAll ds ≤ 1048576)
def OpenSpec.upto (s : _root_.Go.ChangeSpec) : _root_.Go.OpenSpec := { _root_.Go.OpenSpec.ofChange s with cond := some uptoSmall }

/-- 'palanquinlaw20.PickSays', WHERE WHAT IT READS IS OF BULK AT MOST 1048576: true; the input reads as it did. -/
def pickSaysUptoRow : OpenClaim := { program := "ytblfcdaedibdnaa", sum := "38f5a8482a8c328889923cd03dfb7981f4a884bc0fed7ddd1a986f5b79f78173", func := "palanquin/palanquinlaw20.PickSays", spec := "pickSays", unfollowed := true, recurses := true, apart := false, narrowed := true }
def PickSaysUptoSaid : Prop := pickSaysUptoRow.holds Try.pinned (OpenSpec.upto pickSaysSpec)

/-- 'palanquinlaw20.PickBest', WHERE WHAT IT READS IS OF BULK AT MOST 1048576: true; the input reads as it did. -/
def pickBestUptoRow : OpenClaim := { program := "ytblfcdaedibdnaa", sum := "38f5a8482a8c328889923cd03dfb7981f4a884bc0fed7ddd1a986f5b79f78173", func := "palanquin/palanquinlaw20.PickBest", spec := "pickBest", unfollowed := true, recurses := true, apart := false, narrowed := true }
def PickBestUptoSaid : Prop := pickBestUptoRow.holds Try.pinned (OpenSpec.upto pickBestSpec)

/-- 'palanquinlaw9.DependSays', WHERE WHAT IT READS IS OF BULK AT MOST 1048576: true; the input reads as it did. -/
def dependSaysUptoRow : OpenClaim := { program := "ytblfcdaedibdnaa", sum := "38f5a8482a8c328889923cd03dfb7981f4a884bc0fed7ddd1a986f5b79f78173", func := "palanquin/palanquinlaw9.DependSays", spec := "dependSays", unfollowed := true, recurses := true, apart := false, narrowed := true }
def DependSaysUptoSaid : Prop := dependSaysUptoRow.holds Try.pinned (OpenSpec.upto dependSaysSpec)

/-- 'palanquinlaw9.DependLayers', WHERE WHAT IT READS IS OF BULK AT MOST 1048576: true; the input reads as it did. -/
def dependLayersUptoRow : OpenClaim := { program := "ytblfcdaedibdnaa", sum := "38f5a8482a8c328889923cd03dfb7981f4a884bc0fed7ddd1a986f5b79f78173", func := "palanquin/palanquinlaw9.DependLayers", spec := "dependLayers", unfollowed := true, recurses := true, apart := false, narrowed := true }
def DependLayersUptoSaid : Prop := dependLayersUptoRow.holds Try.pinned (OpenSpec.upto dependLayersSpec)

/-- 'palanquinlaw25.LaneBroken', WHERE WHAT IT READS IS OF BULK AT MOST 1048576: true; the input reads as it did. -/
def laneBrokenUptoRow : OpenClaim := { program := "ytblfcdaedibdnaa", sum := "38f5a8482a8c328889923cd03dfb7981f4a884bc0fed7ddd1a986f5b79f78173", func := "palanquin/palanquinlaw25.LaneBroken", spec := "laneBroken", unfollowed := true, recurses := true, apart := false, narrowed := true }
def LaneBrokenUptoSaid : Prop := laneBrokenUptoRow.holds Try.pinned (OpenSpec.upto laneBrokenSpec)

/-- 'palanquinlaw9.DependReads', WHERE WHAT IT READS IS OF BULK AT MOST 1048576: true; the input reads as it did. -/
def dependReadsUptoRow : OpenClaim := { program := "ytblfcdaedibdnaa", sum := "38f5a8482a8c328889923cd03dfb7981f4a884bc0fed7ddd1a986f5b79f78173", func := "palanquin/palanquinlaw9.DependReads", spec := "dependReads", unfollowed := true, recurses := true, apart := false, narrowed := true }
def DependReadsUptoSaid : Prop := dependReadsUptoRow.holds Try.pinned (OpenSpec.upto dependReadsSpec)

/-- 'palanquinlaw9.DependBack', WHERE WHAT IT READS IS OF BULK AT MOST 1048576: true; the input reads as it did. -/
def dependBackUptoRow : OpenClaim := { program := "ytblfcdaedibdnaa", sum := "38f5a8482a8c328889923cd03dfb7981f4a884bc0fed7ddd1a986f5b79f78173", func := "palanquin/palanquinlaw9.DependBack", spec := "dependBack", unfollowed := true, recurses := true, apart := false, narrowed := true }
def DependBackUptoSaid : Prop := dependBackUptoRow.holds Try.pinned (OpenSpec.upto dependBackSpec)

/-- 'palanquinlaw25.LaneWhole', WHERE WHAT IT READS IS OF BULK AT MOST 1048576: true; the input reads as it did. -/
def laneWholeUptoRow : OpenClaim := { program := "ytblfcdaedibdnaa", sum := "38f5a8482a8c328889923cd03dfb7981f4a884bc0fed7ddd1a986f5b79f78173", func := "palanquin/palanquinlaw25.LaneWhole", spec := "laneWhole", unfollowed := true, recurses := true, apart := false, narrowed := true }
def LaneWholeUptoSaid : Prop := laneWholeUptoRow.holds Try.pinned (OpenSpec.upto laneWholeSpec)

/-- 'palanquinlaw25.LaneTurns', WHERE WHAT IT READS IS OF BULK AT MOST 1048576: true; the input reads as it did. -/
def laneTurnsUptoRow : OpenClaim := { program := "ytblfcdaedibdnaa", sum := "38f5a8482a8c328889923cd03dfb7981f4a884bc0fed7ddd1a986f5b79f78173", func := "palanquin/palanquinlaw25.LaneTurns", spec := "laneTurns", unfollowed := true, recurses := true, apart := false, narrowed := true }
def LaneTurnsUptoSaid : Prop := laneTurnsUptoRow.holds Try.pinned (OpenSpec.upto laneTurnsSpec)

/-- 'palanquinlaw9.DependNumber', WHERE WHAT IT READS IS OF BULK AT MOST 1048576: true; the input reads as it did. -/
def dependNumberUptoRow : OpenClaim := { program := "ytblfcdaedibdnaa", sum := "38f5a8482a8c328889923cd03dfb7981f4a884bc0fed7ddd1a986f5b79f78173", func := "palanquin/palanquinlaw9.DependNumber", spec := "dependNumber", unfollowed := true, recurses := true, apart := false, narrowed := true }
def DependNumberUptoSaid : Prop := dependNumberUptoRow.holds Try.pinned (OpenSpec.upto dependNumberSpec)

/-- 'palanquinlaw25.LaneAgain', WHERE WHAT IT READS IS OF BULK AT MOST 1048576: true; the input reads as it did. -/
def laneAgainUptoRow : OpenClaim := { program := "ytblfcdaedibdnaa", sum := "38f5a8482a8c328889923cd03dfb7981f4a884bc0fed7ddd1a986f5b79f78173", func := "palanquin/palanquinlaw25.LaneAgain", spec := "laneAgain", unfollowed := true, recurses := true, apart := false, narrowed := true }
def LaneAgainUptoSaid : Prop := laneAgainUptoRow.holds Try.pinned (OpenSpec.upto laneAgainSpec)

end Rows
end Go.Proofs.Ytblfcdaedibdnaa
