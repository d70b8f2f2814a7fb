/-
  No cell of these rows narrows 'for every input' (looked for: loops, veiled, ifaces, maps, wideKeys, modest, calm, conditions, laid).
  DERIVED. THE GIVEN ROWS OF THIS SEAT. 12 by the template 'for every input the law returns true; each argument reads behind the call as it read before'; 0 by the template 'total and deterministic' (their statements: YthghlbdejdideaaGreatTotals.lean).
  GIVEN WITH THE SEED: the statements are not yours to turn. If you find one false, say at which input.
  Laid BY PROGRAM, IN A SANDBOX (cutbox-rows.mjs): the forced cells as the released guide's own fill.sh prints them over the translation a658b1e2a44b39a2… (all of the seat's roots in one cut). By AI agents, Wed Nov 11 2026. No macro, syntax, notation, axiom, sorry.
-/
import Derived.Test.YthghlbdejdideaaGreatChecked
import GoSem.Claim
import GoSem.ClaimJoined
import GoSem.ClaimMapViews
import Derived.JoinedTies
import Derived.KernelRfl
namespace Go.Proofs.YthghlbdejdideaaGreat
/- THE CELL 'sum', in the pinned program and in every row, IS THE sha256 OF THE DUMP (.gsa) THAT YthghlbdejdideaaGreatProg.lean LOADS. Nothing in Lean hashes anything: it is a label: what it is worth is what the hold of that sum in a sandbox is worth. -/
noncomputable def Tryz.pinned : Pinned := { name := "ythghlbdejdideaagreat", sum := "a658b1e2a44b39a27985431e83482a1862329df161ebd1554b68a866b4efc25e", checked := Tryz.checked }
namespace Rows
def none {H : Type} : Left H := { results := [], args := [] }

/-- 'palanquinlaw27.DeskDrops': WHATEVER THE INPUT: true; the input reads as it did. -/
def deskDropsSpec : ChangeSpec := { name := "deskDrops", fn := fun _ => fun
  | [d1, d2] => { results := [.lit (.bool true)], args := [d1, d2] }
  | _ => none }
def deskDropsRow : OpenClaim := { program := "ythghlbdejdideaagreat", sum := "a658b1e2a44b39a27985431e83482a1862329df161ebd1554b68a866b4efc25e", func := "palanquin/palanquinlaw27.DeskDrops", spec := "deskDrops", inPlace := ["sync/atomic.AddInt64", "sync/atomic.LoadInt64"], unfollowed := true, recurses := true, apart := false }
def DeskDropsSaid : Prop := deskDropsRow.holds Tryz.pinned (OpenSpec.ofChange deskDropsSpec)

/-- ITS FALSE NEIGHBOUR: 'it returns false'. Refute it at one input. -/
def deskDropsWrong : ChangeSpec := { name := "deskDrops", fn := fun _ => fun
  | [d1, d2] => { results := [.lit (.bool false)], args := [d1, d2] }
  | _ => none }
def DeskDropsWrongFalsely : Prop := deskDropsRow.holds Tryz.pinned (OpenSpec.ofChange deskDropsWrong)

/-- 'palanquinlaw27.DeskJoins': WHATEVER THE INPUT: true; the input reads as it did. -/
def deskJoinsSpec : ChangeSpec := { name := "deskJoins", fn := fun _ => fun
  | [d1, d2] => { results := [.lit (.bool true)], args := [d1, d2] }
  | _ => none }
def deskJoinsRow : OpenClaim := { program := "ythghlbdejdideaagreat", sum := "a658b1e2a44b39a27985431e83482a1862329df161ebd1554b68a866b4efc25e", func := "palanquin/palanquinlaw27.DeskJoins", spec := "deskJoins", inPlace := ["sync/atomic.AddInt64", "sync/atomic.LoadInt64"], unfollowed := true, recurses := true, apart := false }
def DeskJoinsSaid : Prop := deskJoinsRow.holds Tryz.pinned (OpenSpec.ofChange deskJoinsSpec)

/-- ITS FALSE NEIGHBOUR: 'it returns false'. Refute it at one input. -/
def deskJoinsWrong : ChangeSpec := { name := "deskJoins", fn := fun _ => fun
  | [d1, d2] => { results := [.lit (.bool false)], args := [d1, d2] }
  | _ => none }
def DeskJoinsWrongFalsely : Prop := deskJoinsRow.holds Tryz.pinned (OpenSpec.ofChange deskJoinsWrong)

/-- 'palanquinlaw27.DeskKeys': WHATEVER THE INPUT: true; the input reads as it did. -/
def deskKeysSpec : ChangeSpec := { name := "deskKeys", fn := fun _ => fun
  | [d1, d2, d3, d4, d5] => { results := [.lit (.bool true)], args := [d1, d2, d3, d4, d5] }
  | _ => none }
def deskKeysRow : OpenClaim := { program := "ythghlbdejdideaagreat", sum := "a658b1e2a44b39a27985431e83482a1862329df161ebd1554b68a866b4efc25e", func := "palanquin/palanquinlaw27.DeskKeys", spec := "deskKeys", inPlace := ["sync/atomic.AddInt64", "sync/atomic.LoadInt64"], unfollowed := true, recurses := true, apart := false }
def DeskKeysSaid : Prop := deskKeysRow.holds Tryz.pinned (OpenSpec.ofChange deskKeysSpec)

/-- ITS FALSE NEIGHBOUR: 'it returns false'. Refute it at one input. -/
def deskKeysWrong : ChangeSpec := { name := "deskKeys", fn := fun _ => fun
  | [d1, d2, d3, d4, d5] => { results := [.lit (.bool false)], args := [d1, d2, d3, d4, d5] }
  | _ => none }
def DeskKeysWrongFalsely : Prop := deskKeysRow.holds Tryz.pinned (OpenSpec.ofChange deskKeysWrong)

/-- 'palanquinlaw27.DeskFull': WHATEVER THE INPUT: true; the input reads as it did. -/
def deskFullSpec : ChangeSpec := { name := "deskFull", fn := fun _ => fun
  | [d1, d2] => { results := [.lit (.bool true)], args := [d1, d2] }
  | _ => none }
def deskFullRow : OpenClaim := { program := "ythghlbdejdideaagreat", sum := "a658b1e2a44b39a27985431e83482a1862329df161ebd1554b68a866b4efc25e", func := "palanquin/palanquinlaw27.DeskFull", spec := "deskFull", inPlace := ["sync/atomic.AddInt64", "sync/atomic.LoadInt64"], unfollowed := true, recurses := true, apart := false }
def DeskFullSaid : Prop := deskFullRow.holds Tryz.pinned (OpenSpec.ofChange deskFullSpec)

/-- ITS FALSE NEIGHBOUR: 'it returns false'. Refute it at one input. -/
def deskFullWrong : ChangeSpec := { name := "deskFull", fn := fun _ => fun
  | [d1, d2] => { results := [.lit (.bool false)], args := [d1, d2] }
  | _ => none }
def DeskFullWrongFalsely : Prop := deskFullRow.holds Tryz.pinned (OpenSpec.ofChange deskFullWrong)

/-- 'palanquinlaw27.DeskSilent': WHATEVER THE INPUT: true; the input reads as it did. -/
def deskSilentSpec : ChangeSpec := { name := "deskSilent", fn := fun _ => fun
  | [d1, d2, d3] => { results := [.lit (.bool true)], args := [d1, d2, d3] }
  | _ => none }
def deskSilentRow : OpenClaim := { program := "ythghlbdejdideaagreat", sum := "a658b1e2a44b39a27985431e83482a1862329df161ebd1554b68a866b4efc25e", func := "palanquin/palanquinlaw27.DeskSilent", spec := "deskSilent", inPlace := ["sync/atomic.AddInt64", "sync/atomic.LoadInt64"], unfollowed := true, recurses := true, apart := false }
def DeskSilentSaid : Prop := deskSilentRow.holds Tryz.pinned (OpenSpec.ofChange deskSilentSpec)

/-- ITS FALSE NEIGHBOUR: 'it returns false'. Refute it at one input. -/
def deskSilentWrong : ChangeSpec := { name := "deskSilent", fn := fun _ => fun
  | [d1, d2, d3] => { results := [.lit (.bool false)], args := [d1, d2, d3] }
  | _ => none }
def DeskSilentWrongFalsely : Prop := deskSilentRow.holds Tryz.pinned (OpenSpec.ofChange deskSilentWrong)

/-- 'palanquinlaw27.DeskPasses': WHATEVER THE INPUT: true; the input reads as it did. -/
def deskPassesSpec : ChangeSpec := { name := "deskPasses", fn := fun _ => fun
  | [d1, d2, d3] => { results := [.lit (.bool true)], args := [d1, d2, d3] }
  | _ => none }
def deskPassesRow : OpenClaim := { program := "ythghlbdejdideaagreat", sum := "a658b1e2a44b39a27985431e83482a1862329df161ebd1554b68a866b4efc25e", func := "palanquin/palanquinlaw27.DeskPasses", spec := "deskPasses", inPlace := ["sync/atomic.AddInt64", "sync/atomic.LoadInt64"], unfollowed := true, recurses := true, apart := false }
def DeskPassesSaid : Prop := deskPassesRow.holds Tryz.pinned (OpenSpec.ofChange deskPassesSpec)

/-- ITS FALSE NEIGHBOUR: 'it returns false'. Refute it at one input. -/
def deskPassesWrong : ChangeSpec := { name := "deskPasses", fn := fun _ => fun
  | [d1, d2, d3] => { results := [.lit (.bool false)], args := [d1, d2, d3] }
  | _ => none }
def DeskPassesWrongFalsely : Prop := deskPassesRow.holds Tryz.pinned (OpenSpec.ofChange deskPassesWrong)

/-- 'palanquinlaw27.DeskEpochs': WHATEVER THE INPUT: true; the input reads as it did. -/
def deskEpochsSpec : ChangeSpec := { name := "deskEpochs", fn := fun _ => fun
  | [d1, d2, d3, d4] => { results := [.lit (.bool true)], args := [d1, d2, d3, d4] }
  | _ => none }
def deskEpochsRow : OpenClaim := { program := "ythghlbdejdideaagreat", sum := "a658b1e2a44b39a27985431e83482a1862329df161ebd1554b68a866b4efc25e", func := "palanquin/palanquinlaw27.DeskEpochs", spec := "deskEpochs", inPlace := ["sync/atomic.AddInt64", "sync/atomic.LoadInt64"], unfollowed := true, recurses := true, apart := false }
def DeskEpochsSaid : Prop := deskEpochsRow.holds Tryz.pinned (OpenSpec.ofChange deskEpochsSpec)

/-- ITS FALSE NEIGHBOUR: 'it returns false'. Refute it at one input. -/
def deskEpochsWrong : ChangeSpec := { name := "deskEpochs", fn := fun _ => fun
  | [d1, d2, d3, d4] => { results := [.lit (.bool false)], args := [d1, d2, d3, d4] }
  | _ => none }
def DeskEpochsWrongFalsely : Prop := deskEpochsRow.holds Tryz.pinned (OpenSpec.ofChange deskEpochsWrong)

/-- 'palanquinlaw27.DeskKnown': WHATEVER THE INPUT: true; the input reads as it did. -/
def deskKnownSpec : ChangeSpec := { name := "deskKnown", fn := fun _ => fun
  | [] => { results := [.lit (.bool true)], args := [] }
  | _ => none }
def deskKnownRow : OpenClaim := { program := "ythghlbdejdideaagreat", sum := "a658b1e2a44b39a27985431e83482a1862329df161ebd1554b68a866b4efc25e", func := "palanquin/palanquinlaw27.DeskKnown", spec := "deskKnown", inPlace := ["sync/atomic.AddInt64", "sync/atomic.LoadInt64"], unfollowed := true, recurses := true, apart := false }
def DeskKnownSaid : Prop := deskKnownRow.holds Tryz.pinned (OpenSpec.ofChange deskKnownSpec)

/-- ITS FALSE NEIGHBOUR: 'it returns false'. Refute it at one input. -/
def deskKnownWrong : ChangeSpec := { name := "deskKnown", fn := fun _ => fun
  | [] => { results := [.lit (.bool false)], args := [] }
  | _ => none }
def DeskKnownWrongFalsely : Prop := deskKnownRow.holds Tryz.pinned (OpenSpec.ofChange deskKnownWrong)

/-- 'palanquinlaw27.DeskPlays': WHATEVER THE INPUT: true; the input reads as it did. -/
def deskPlaysSpec : ChangeSpec := { name := "deskPlays", fn := fun _ => fun
  | [d] => { results := [.lit (.bool true)], args := [d] }
  | _ => none }
def deskPlaysRow : OpenClaim := { program := "ythghlbdejdideaagreat", sum := "a658b1e2a44b39a27985431e83482a1862329df161ebd1554b68a866b4efc25e", func := "palanquin/palanquinlaw27.DeskPlays", spec := "deskPlays", inPlace := ["sync/atomic.AddInt64", "sync/atomic.LoadInt64"], unfollowed := true, recurses := true, apart := false }
def DeskPlaysSaid : Prop := deskPlaysRow.holds Tryz.pinned (OpenSpec.ofChange deskPlaysSpec)

/-- ITS FALSE NEIGHBOUR: 'it returns false'. Refute it at one input. -/
def deskPlaysWrong : ChangeSpec := { name := "deskPlays", fn := fun _ => fun
  | [d] => { results := [.lit (.bool false)], args := [d] }
  | _ => none }
def DeskPlaysWrongFalsely : Prop := deskPlaysRow.holds Tryz.pinned (OpenSpec.ofChange deskPlaysWrong)

/-- 'palanquintop.TopBlind': WHATEVER THE INPUT: true; the input reads as it did. -/
def topBlindSpec : ChangeSpec := { name := "topBlind", fn := fun _ => fun
  | [d1, d2] => { results := [.lit (.bool true)], args := [d1, d2] }
  | _ => none }
def topBlindRow : OpenClaim := { program := "ythghlbdejdideaagreat", sum := "a658b1e2a44b39a27985431e83482a1862329df161ebd1554b68a866b4efc25e", func := "palanquin/palanquintop.TopBlind", spec := "topBlind", inPlace := ["sync/atomic.AddInt64", "sync/atomic.LoadInt64"], unfollowed := true, recurses := true, apart := false }
def TopBlindSaid : Prop := topBlindRow.holds Tryz.pinned (OpenSpec.ofChange topBlindSpec)

/-- ITS FALSE NEIGHBOUR: 'it returns false'. Refute it at one input. -/
def topBlindWrong : ChangeSpec := { name := "topBlind", fn := fun _ => fun
  | [d1, d2] => { results := [.lit (.bool false)], args := [d1, d2] }
  | _ => none }
def TopBlindWrongFalsely : Prop := topBlindRow.holds Tryz.pinned (OpenSpec.ofChange topBlindWrong)

/-- 'palanquintop.TopWhole': WHATEVER THE INPUT: true; the input reads as it did. -/
def topWholeSpec : ChangeSpec := { name := "topWhole", fn := fun _ => fun
  | [d] => { results := [.lit (.bool true)], args := [d] }
  | _ => none }
def topWholeRow : OpenClaim := { program := "ythghlbdejdideaagreat", sum := "a658b1e2a44b39a27985431e83482a1862329df161ebd1554b68a866b4efc25e", func := "palanquin/palanquintop.TopWhole", spec := "topWhole", inPlace := ["sync/atomic.AddInt64", "sync/atomic.LoadInt64"], unfollowed := true, recurses := true, apart := false }
def TopWholeSaid : Prop := topWholeRow.holds Tryz.pinned (OpenSpec.ofChange topWholeSpec)

/-- ITS FALSE NEIGHBOUR: 'it returns false'. Refute it at one input. -/
def topWholeWrong : ChangeSpec := { name := "topWhole", fn := fun _ => fun
  | [d] => { results := [.lit (.bool false)], args := [d] }
  | _ => none }
def TopWholeWrongFalsely : Prop := topWholeRow.holds Tryz.pinned (OpenSpec.ofChange topWholeWrong)

/-- 'palanquintop.TopBounds': WHATEVER THE INPUT: true; the input reads as it did. -/
def topBoundsSpec : ChangeSpec := { name := "topBounds", fn := fun _ => fun
  | [d] => { results := [.lit (.bool true)], args := [d] }
  | _ => none }
def topBoundsRow : OpenClaim := { program := "ythghlbdejdideaagreat", sum := "a658b1e2a44b39a27985431e83482a1862329df161ebd1554b68a866b4efc25e", func := "palanquin/palanquintop.TopBounds", spec := "topBounds", inPlace := ["sync/atomic.AddInt64"], unfollowed := true, recurses := true, apart := false }
def TopBoundsSaid : Prop := topBoundsRow.holds Tryz.pinned (OpenSpec.ofChange topBoundsSpec)

/-- ITS FALSE NEIGHBOUR: 'it returns false'. Refute it at one input. -/
def topBoundsWrong : ChangeSpec := { name := "topBounds", fn := fun _ => fun
  | [d] => { results := [.lit (.bool false)], args := [d] }
  | _ => none }
def TopBoundsWrongFalsely : Prop := topBoundsRow.holds Tryz.pinned (OpenSpec.ofChange topBoundsWrong)

/- THE SECOND FORM. 'bulk': how many values and letters a reading holds, each counted each time it is reached (what is shared counts as often as it is met; a slice's spare places count too). A statement '..UptoSaid' is the law's where the arguments, and the package variables that the reading takes, are together of bulk at most 1048576: NARROWER than '..Said'. Prove '..Said' where nothing that the law and all that it calls make is longer than what came in: it says more and counts as full. Else prove '..UptoSaid'. A law counts once. -/
mutual
def uptoBulk {H : Type} : DataW H → Nat
  | .lit (.string bytes) => bytes.length + 1
  | .lit _ => 1
  | .nil => 1
  | .ptr d => uptoBulk d + 1
  | .slice elems spare => uptoBulkAll elems + uptoBulkAll spare + 1
  | .agg parts => uptoBulkAll parts + 1
  | .iface _ d => uptoBulk d + 1
  | .map entries => uptoBulkEntries entries + 1
  | .held _ => 1
def uptoBulkAll {H : Type} : List (DataW H) → Nat
  | [] => 0
  | d :: r => uptoBulk d + uptoBulkAll r
def uptoBulkEntries {H : Type} : List (Lit × DataW H) → Nat
  | [] => 0
  | x :: r => uptoBulkEntry x + uptoBulkEntries r
def uptoBulkEntry {H : Type} : Lit × DataW H → Nat
  | (.string bytes, d) => bytes.length + uptoBulk d + 1
  | (_, d) => uptoBulk d + 1
 end
def uptoSmall : (H : Type) → List (DataW H) → Bool := fun _ ds => decide (uptoBulkAll ds ≤ 1048576)
def OpenSpec.upto (s : _root_.Go.ChangeSpec) : _root_.Go.OpenSpec := { _root_.Go.OpenSpec.ofChange s with cond := some uptoSmall }

/-- 'palanquinlaw27.DeskDrops', WHERE WHAT IT READS IS OF BULK AT MOST 1048576: true; the input reads as it did. -/
def deskDropsUptoRow : OpenClaim := { program := "ythghlbdejdideaagreat", sum := "a658b1e2a44b39a27985431e83482a1862329df161ebd1554b68a866b4efc25e", func := "palanquin/palanquinlaw27.DeskDrops", spec := "deskDrops", inPlace := ["sync/atomic.AddInt64", "sync/atomic.LoadInt64"], unfollowed := true, recurses := true, apart := false, narrowed := true }
def DeskDropsUptoSaid : Prop := deskDropsUptoRow.holds Tryz.pinned (OpenSpec.upto deskDropsSpec)

/-- 'palanquinlaw27.DeskJoins', WHERE WHAT IT READS IS OF BULK AT MOST 1048576: true; the input reads as it did. -/
def deskJoinsUptoRow : OpenClaim := { program := "ythghlbdejdideaagreat", sum := "a658b1e2a44b39a27985431e83482a1862329df161ebd1554b68a866b4efc25e", func := "palanquin/palanquinlaw27.DeskJoins", spec := "deskJoins", inPlace := ["sync/atomic.AddInt64", "sync/atomic.LoadInt64"], unfollowed := true, recurses := true, apart := false, narrowed := true }
def DeskJoinsUptoSaid : Prop := deskJoinsUptoRow.holds Tryz.pinned (OpenSpec.upto deskJoinsSpec)

/-- 'palanquinlaw27.DeskKeys', WHERE WHAT IT READS IS OF BULK AT MOST 1048576: true; the input reads as it did. -/
def deskKeysUptoRow : OpenClaim := { program := "ythghlbdejdideaagreat", sum := "a658b1e2a44b39a27985431e83482a1862329df161ebd1554b68a866b4efc25e", func := "palanquin/palanquinlaw27.DeskKeys", spec := "deskKeys", inPlace := ["sync/atomic.AddInt64", "sync/atomic.LoadInt64"], unfollowed := true, recurses := true, apart := false, narrowed := true }
def DeskKeysUptoSaid : Prop := deskKeysUptoRow.holds Tryz.pinned (OpenSpec.upto deskKeysSpec)

/-- 'palanquinlaw27.DeskFull', WHERE WHAT IT READS IS OF BULK AT MOST 1048576: true; the input reads as it did. -/
def deskFullUptoRow : OpenClaim := { program := "ythghlbdejdideaagreat", sum := "a658b1e2a44b39a27985431e83482a1862329df161ebd1554b68a866b4efc25e", func := "palanquin/palanquinlaw27.DeskFull", spec := "deskFull", inPlace := ["sync/atomic.AddInt64", "sync/atomic.LoadInt64"], unfollowed := true, recurses := true, apart := false, narrowed := true }
def DeskFullUptoSaid : Prop := deskFullUptoRow.holds Tryz.pinned (OpenSpec.upto deskFullSpec)

/-- 'palanquinlaw27.DeskSilent', WHERE WHAT IT READS IS OF BULK AT MOST 1048576: true; the input reads as it did. -/
def deskSilentUptoRow : OpenClaim := { program := "ythghlbdejdideaagreat", sum := "a658b1e2a44b39a27985431e83482a1862329df161ebd1554b68a866b4efc25e", func := "palanquin/palanquinlaw27.DeskSilent", spec := "deskSilent", inPlace := ["sync/atomic.AddInt64", "sync/atomic.LoadInt64"], unfollowed := true, recurses := true, apart := false, narrowed := true }
def DeskSilentUptoSaid : Prop := deskSilentUptoRow.holds Tryz.pinned (OpenSpec.upto deskSilentSpec)

/-- 'palanquinlaw27.DeskPasses', WHERE WHAT IT READS IS OF BULK AT MOST 1048576: true; the input reads as it did. -/
def deskPassesUptoRow : OpenClaim := { program := "ythghlbdejdideaagreat", sum := "a658b1e2a44b39a27985431e83482a1862329df161ebd1554b68a866b4efc25e", func := "palanquin/palanquinlaw27.DeskPasses", spec := "deskPasses", inPlace := ["sync/atomic.AddInt64", "sync/atomic.LoadInt64"], unfollowed := true, recurses := true, apart := false, narrowed := true }
def DeskPassesUptoSaid : Prop := deskPassesUptoRow.holds Tryz.pinned (OpenSpec.upto deskPassesSpec)

/-- 'palanquinlaw27.DeskEpochs', WHERE WHAT IT READS IS OF BULK AT MOST 1048576: true; the input reads as it did. -/
def deskEpochsUptoRow : OpenClaim := { program := "ythghlbdejdideaagreat", sum := "a658b1e2a44b39a27985431e83482a1862329df161ebd1554b68a866b4efc25e", func := "palanquin/palanquinlaw27.DeskEpochs", spec := "deskEpochs", inPlace := ["sync/atomic.AddInt64", "sync/atomic.LoadInt64"], unfollowed := true, recurses := true, apart := false, narrowed := true }
def DeskEpochsUptoSaid : Prop := deskEpochsUptoRow.holds Tryz.pinned (OpenSpec.upto deskEpochsSpec)

/-- 'palanquinlaw27.DeskKnown', WHERE WHAT IT READS IS OF BULK AT MOST 1048576: true; the input reads as it did. -/
def deskKnownUptoRow : OpenClaim := { program := "ythghlbdejdideaagreat", sum := "a658b1e2a44b39a27985431e83482a1862329df161ebd1554b68a866b4efc25e", func := "palanquin/palanquinlaw27.DeskKnown", spec := "deskKnown", inPlace := ["sync/atomic.AddInt64", "sync/atomic.LoadInt64"], unfollowed := true, recurses := true, apart := false, narrowed := true }
def DeskKnownUptoSaid : Prop := deskKnownUptoRow.holds Tryz.pinned (OpenSpec.upto deskKnownSpec)

/-- 'palanquinlaw27.DeskPlays', WHERE WHAT IT READS IS OF BULK AT MOST 1048576: true; the input reads as it did. -/
def deskPlaysUptoRow : OpenClaim := { program := "ythghlbdejdideaagreat", sum := "a658b1e2a44b39a27985431e83482a1862329df161ebd1554b68a866b4efc25e", func := "palanquin/palanquinlaw27.DeskPlays", spec := "deskPlays", inPlace := ["sync/atomic.AddInt64", "sync/atomic.LoadInt64"], unfollowed := true, recurses := true, apart := false, narrowed := true }
def DeskPlaysUptoSaid : Prop := deskPlaysUptoRow.holds Tryz.pinned (OpenSpec.upto deskPlaysSpec)

/-- 'palanquintop.TopBlind', WHERE WHAT IT READS IS OF BULK AT MOST 1048576: true; the input reads as it did. -/
def topBlindUptoRow : OpenClaim := { program := "ythghlbdejdideaagreat", sum := "a658b1e2a44b39a27985431e83482a1862329df161ebd1554b68a866b4efc25e", func := "palanquin/palanquintop.TopBlind", spec := "topBlind", inPlace := ["sync/atomic.AddInt64", "sync/atomic.LoadInt64"], unfollowed := true, recurses := true, apart := false, narrowed := true }
def TopBlindUptoSaid : Prop := topBlindUptoRow.holds Tryz.pinned (OpenSpec.upto topBlindSpec)

/-- 'palanquintop.TopWhole', WHERE WHAT IT READS IS OF BULK AT MOST 1048576: true; the input reads as it did. -/
def topWholeUptoRow : OpenClaim := { program := "ythghlbdejdideaagreat", sum := "a658b1e2a44b39a27985431e83482a1862329df161ebd1554b68a866b4efc25e", func := "palanquin/palanquintop.TopWhole", spec := "topWhole", inPlace := ["sync/atomic.AddInt64", "sync/atomic.LoadInt64"], unfollowed := true, recurses := true, apart := false, narrowed := true }
def TopWholeUptoSaid : Prop := topWholeUptoRow.holds Tryz.pinned (OpenSpec.upto topWholeSpec)

/-- 'palanquintop.TopBounds', WHERE WHAT IT READS IS OF BULK AT MOST 1048576: true; the input reads as it did. -/
def topBoundsUptoRow : OpenClaim := { program := "ythghlbdejdideaagreat", sum := "a658b1e2a44b39a27985431e83482a1862329df161ebd1554b68a866b4efc25e", func := "palanquin/palanquintop.TopBounds", spec := "topBounds", inPlace := ["sync/atomic.AddInt64"], unfollowed := true, recurses := true, apart := false, narrowed := true }
def TopBoundsUptoSaid : Prop := topBoundsUptoRow.holds Tryz.pinned (OpenSpec.upto topBoundsSpec)

end Rows
end Go.Proofs.YthghlbdejdideaaGreat
