/-
  No cell of these rows narrows 'for every input' (looked for: loops, veiled, ifaces, maps, wideKeys, modest, calm, conditions, laid).
  DERIVED. THE GIVEN ROWS OF THIS SEAT. 3 by the template 'for every input the law returns true; each argument reads behind the call as it read before'; 0 by the template 'total and deterministic' (their statements: YtoflegfbpjbedaaTotals.lean).
  GIVEN WITH THE SEED: the statements are not yours to turn. If you find one false, say at which input.
  Laid BY PROGRAM, IN A SANDBOX (cutbox-rows.mjs): the forced cells as the released guide's own fill.sh prints them over the translation 171798669f87400d… (all of the seat's roots in one cut). By AI agents, Wed Nov 11 2026. No macro, syntax, notation, axiom, sorry.
-/
import Derived.Test.YtoflegfbpjbedaaChecked
import GoSem.Claim
import GoSem.ClaimJoined
import GoSem.ClaimMapViews
import Derived.JoinedTies
import Derived.KernelRfl
namespace Go.Proofs.Ytoflegfbpjbedaa
/- THE CELL 'sum', in the pinned program and in every row, IS THE sha256 OF THE DUMP (.gsa) THAT YtoflegfbpjbedaaProg.lean LOADS. Nothing in Lean hashes anything: it is a label: what it is worth is what the hold of that sum in a sandbox is worth. -/
noncomputable def Try.pinned : Pinned := { name := "ytoflegfbpjbedaa", sum := "171798669f87400d2240b5fc31353c2f0227ff6bab6dd5ddc9e6bd412035ee27", checked := Try.checked }
namespace Rows
def none {H : Type} : Left H := { results := [], args := [] }

/-- 'palanquinlaw11.SuiteLengths': WHATEVER THE INPUT: true; the input reads as it did. -/
def suiteLengthsSpec : ChangeSpec := { name := "suiteLengths", fn := fun _ => fun
  | [d1, d2, d3, d4, d5, d6] => { results := [.lit (.bool true)], args := [d1, d2, d3, d4, d5, d6] }
  | _ => none }
def suiteLengthsRow : OpenClaim := { program := "ytoflegfbpjbedaa", sum := "171798669f87400d2240b5fc31353c2f0227ff6bab6dd5ddc9e6bd412035ee27", func := "palanquin/palanquinlaw11.SuiteLengths", spec := "suiteLengths", inPlace := ["math.Float64bits", "math.Float64frombits", "sync/atomic.LoadUint32", "(*internal/sync.Mutex).Lock", "internal/race.Disable", "sync/atomic.CompareAndSwapInt32", "internal/race.Enable", "internal/race.Acquire", "(*internal/sync.Mutex).lockSlow", "internal/sync.runtime_canSpin", "internal/sync.runtime_doSpin", "internal/sync.throw", "internal/sync.runtime_nanotime", "internal/sync.runtime_SemacquireMutex", "sync/atomic.AddInt32", "(*internal/sync.Mutex).Unlock", "internal/race.ReleaseMerge", "(*internal/sync.Mutex).unlockSlow", "internal/sync.fatal", "internal/sync.runtime_Semrelease", "sync/atomic.StoreUint32", "internal/bytealg.MakeNoZero"], unfollowed := true, recurses := true, apart := false }
def SuiteLengthsSaid : Prop := suiteLengthsRow.holds Try.pinned (OpenSpec.ofChange suiteLengthsSpec)

/-- ITS FALSE NEIGHBOUR: 'it returns false'. Refute it at one input. -/
def suiteLengthsWrong : ChangeSpec := { name := "suiteLengths", fn := fun _ => fun
  | [d1, d2, d3, d4, d5, d6] => { results := [.lit (.bool false)], args := [d1, d2, d3, d4, d5, d6] }
  | _ => none }
def SuiteLengthsWrongFalsely : Prop := suiteLengthsRow.holds Try.pinned (OpenSpec.ofChange suiteLengthsWrong)

/-- 'palanquinlaw11.SuiteKnown': WHATEVER THE INPUT: true; the input reads as it did. -/
def suiteKnownSpec : ChangeSpec := { name := "suiteKnown", fn := fun _ => fun
  | [] => { results := [.lit (.bool true)], args := [] }
  | _ => none }
def suiteKnownRow : OpenClaim := { program := "ytoflegfbpjbedaa", sum := "171798669f87400d2240b5fc31353c2f0227ff6bab6dd5ddc9e6bd412035ee27", func := "palanquin/palanquinlaw11.SuiteKnown", spec := "suiteKnown", inPlace := ["math.Float64bits", "math.Float64frombits", "sync/atomic.LoadUint32", "(*internal/sync.Mutex).Lock", "internal/race.Disable", "sync/atomic.CompareAndSwapInt32", "internal/race.Enable", "internal/race.Acquire", "(*internal/sync.Mutex).lockSlow", "internal/sync.runtime_canSpin", "internal/sync.runtime_doSpin", "internal/sync.throw", "internal/sync.runtime_nanotime", "internal/sync.runtime_SemacquireMutex", "sync/atomic.AddInt32", "(*internal/sync.Mutex).Unlock", "internal/race.ReleaseMerge", "(*internal/sync.Mutex).unlockSlow", "internal/sync.fatal", "internal/sync.runtime_Semrelease", "sync/atomic.StoreUint32", "internal/bytealg.MakeNoZero"], unfollowed := true, recurses := true, apart := false }
def SuiteKnownSaid : Prop := suiteKnownRow.holds Try.pinned (OpenSpec.ofChange suiteKnownSpec)

/-- ITS FALSE NEIGHBOUR: 'it returns false'. Refute it at one input. -/
def suiteKnownWrong : ChangeSpec := { name := "suiteKnown", fn := fun _ => fun
  | [] => { results := [.lit (.bool false)], args := [] }
  | _ => none }
def SuiteKnownWrongFalsely : Prop := suiteKnownRow.holds Try.pinned (OpenSpec.ofChange suiteKnownWrong)

/-- 'palanquinlaw11.SuiteBack': WHATEVER THE INPUT: true; the input reads as it did. -/
def suiteBackSpec : ChangeSpec := { name := "suiteBack", fn := fun _ => fun
  | [d1, d2, d3, d4, d5, d6] => { results := [.lit (.bool true)], args := [d1, d2, d3, d4, d5, d6] }
  | _ => none }
def suiteBackRow : OpenClaim := { program := "ytoflegfbpjbedaa", sum := "171798669f87400d2240b5fc31353c2f0227ff6bab6dd5ddc9e6bd412035ee27", func := "palanquin/palanquinlaw11.SuiteBack", spec := "suiteBack", inPlace := ["math.Float64bits", "math.Float64frombits", "sync/atomic.LoadUint32", "(*internal/sync.Mutex).Lock", "internal/race.Disable", "sync/atomic.CompareAndSwapInt32", "internal/race.Enable", "internal/race.Acquire", "(*internal/sync.Mutex).lockSlow", "internal/sync.runtime_canSpin", "internal/sync.runtime_doSpin", "internal/sync.throw", "internal/sync.runtime_nanotime", "internal/sync.runtime_SemacquireMutex", "sync/atomic.AddInt32", "(*internal/sync.Mutex).Unlock", "internal/race.ReleaseMerge", "(*internal/sync.Mutex).unlockSlow", "internal/sync.fatal", "internal/sync.runtime_Semrelease", "sync/atomic.StoreUint32", "internal/bytealg.MakeNoZero"], unfollowed := true, recurses := true, apart := false }
def SuiteBackSaid : Prop := suiteBackRow.holds Try.pinned (OpenSpec.ofChange suiteBackSpec)

/-- ITS FALSE NEIGHBOUR: 'it returns false'. Refute it at one input. -/
def suiteBackWrong : ChangeSpec := { name := "suiteBack", fn := fun _ => fun
  | [d1, d2, d3, d4, d5, d6] => { results := [.lit (.bool false)], args := [d1, d2, d3, d4, d5, d6] }
  | _ => none }
def SuiteBackWrongFalsely : Prop := suiteBackRow.holds Try.pinned (OpenSpec.ofChange suiteBackWrong)

/- THE SECOND FORM. 'bulk': how many values and letters a reading holds, each counted each time it is reached (what is shared counts as often as it is met; a slice's spare places count too). A statement '..UptoSaid' is the law's where the arguments, and the package variables that the reading takes, are together of bulk at most 1048576: NARROWER than '..Said'. Prove '..Said' where nothing that the law and all that it calls make is longer than what came in: it says more and counts as full. Else prove '..UptoSaid'. A law counts once. -/
mutual
def uptoBulk {H : Type} : DataW H → Nat
  | .lit (.string bytes) => bytes.length + 1
  | .lit _ => 1
  | .nil => 1
  | .ptr d => uptoBulk d + 1
  | .slice elems spare => uptoBulkAll elems + uptoBulkAll spare + 1
  | .agg parts => uptoBulkAll parts + 1
  | .iface _ d => uptoBulk d + 1
  | .map entries => uptoBulkEntries entries + 1
  | .held _ => 1
def uptoBulkAll {H : Type} : List (DataW H) → Nat
  | [] => 0
  | d :: r => uptoBulk d + uptoBulkAll r
def uptoBulkEntries {H : Type} : List (Lit × DataW H) → Nat
  | [] => 0
  | x :: r => uptoBulkEntry x + uptoBulkEntries r
def uptoBulkEntry {H : Type} : Lit × DataW H → Nat
  | (.string bytes, d) => bytes.length + uptoBulk d + 1
  | (_, d) => uptoBulk d + 1
 end
def uptoSmall : (H : Type) → List (DataW H) → Bool := fun _ ds => decide (uptoBulkAll ds ≤ 1048576)
def OpenSpec.upto (s : _root_.Go.ChangeSpec) : _root_.Go.OpenSpec := { _root_.Go.OpenSpec.ofChange s with cond := some uptoSmall }

/-- 'palanquinlaw11.SuiteLengths', WHERE WHAT IT READS IS OF BULK AT MOST 1048576: true; the input reads as it did. -/
def suiteLengthsUptoRow : OpenClaim := { program := "ytoflegfbpjbedaa", sum := "171798669f87400d2240b5fc31353c2f0227ff6bab6dd5ddc9e6bd412035ee27", func := "palanquin/palanquinlaw11.SuiteLengths", spec := "suiteLengths", inPlace := ["math.Float64bits", "math.Float64frombits", "sync/atomic.LoadUint32", "(*internal/sync.Mutex).Lock", "internal/race.Disable", "sync/atomic.CompareAndSwapInt32", "internal/race.Enable", "internal/race.Acquire", "(*internal/sync.Mutex).lockSlow", "internal/sync.runtime_canSpin", "internal/sync.runtime_doSpin", "internal/sync.throw", "internal/sync.runtime_nanotime", "internal/sync.runtime_SemacquireMutex", "sync/atomic.AddInt32", "(*internal/sync.Mutex).Unlock", "internal/race.ReleaseMerge", "(*internal/sync.Mutex).unlockSlow", "internal/sync.fatal", "internal/sync.runtime_Semrelease", "sync/atomic.StoreUint32", "internal/bytealg.MakeNoZero"], unfollowed := true, recurses := true, apart := false, narrowed := true }
def SuiteLengthsUptoSaid : Prop := suiteLengthsUptoRow.holds Try.pinned (OpenSpec.upto suiteLengthsSpec)

/-- 'palanquinlaw11.SuiteKnown', WHERE WHAT IT READS IS OF BULK AT MOST 1048576: true; the input reads as it did. -/
def suiteKnownUptoRow : OpenClaim := { program := "ytoflegfbpjbedaa", sum := "171798669f87400d2240b5fc31353c2f0227ff6bab6dd5ddc9e6bd412035ee27", func := "palanquin/palanquinlaw11.SuiteKnown", spec := "suiteKnown", inPlace := ["math.Float64bits", "math.Float64frombits", "sync/atomic.LoadUint32", "(*internal/sync.Mutex).Lock", "internal/race.Disable", "sync/atomic.CompareAndSwapInt32", "internal/race.Enable", "internal/race.Acquire", "(*internal/sync.Mutex).lockSlow", "internal/sync.runtime_canSpin", "internal/sync.runtime_doSpin", "internal/sync.throw", "internal/sync.runtime_nanotime", "internal/sync.runtime_SemacquireMutex", "sync/atomic.AddInt32", "(*internal/sync.Mutex).Unlock", "internal/race.ReleaseMerge", "(*internal/sync.Mutex).unlockSlow", "internal/sync.fatal", "internal/sync.runtime_Semrelease", "sync/atomic.StoreUint32", "internal/bytealg.MakeNoZero"], unfollowed := true, recurses := true, apart := false, narrowed := true }
def SuiteKnownUptoSaid : Prop := suiteKnownUptoRow.holds Try.pinned (OpenSpec.upto suiteKnownSpec)

/-- 'palanquinlaw11.SuiteBack', WHERE WHAT IT READS IS OF BULK AT MOST 1048576: true; the input reads as it did. -/
def suiteBackUptoRow : OpenClaim := { program := "ytoflegfbpjbedaa", sum := "171798669f87400d2240b5fc31353c2f0227ff6bab6dd5ddc9e6bd412035ee27", func := "palanquin/palanquinlaw11.SuiteBack", spec := "suiteBack", inPlace := ["math.Float64bits", "math.Float64frombits", "sync/atomic.LoadUint32", "(*internal/sync.Mutex).Lock", "internal/race.Disable", "sync/atomic.CompareAndSwapInt32", "internal/race.Enable", "internal/race.Acquire", "(*internal/sync.Mutex).lockSlow", "internal/sync.runtime_canSpin", "internal/sync.runtime_doSpin", "internal/sync.throw", "internal/sync.runtime_nanotime", "internal/sync.runtime_SemacquireMutex", "sync/atomic.AddInt32", "(*internal/sync.Mutex).Unlock", "internal/race.ReleaseMerge", "(*internal/sync.Mutex).unlockSlow", "internal/sync.fatal", "internal/sync.runtime_Semrelease", "sync/atomic.StoreUint32", "internal/bytealg.MakeNoZero"], unfollowed := true, recurses := true, apart := false, narrowed := true }
def SuiteBackUptoSaid : Prop := suiteBackUptoRow.holds Try.pinned (OpenSpec.upto suiteBackSpec)

end Rows
end Go.Proofs.Ytoflegfbpjbedaa
