/-
  No cell of these rows narrows 'for every input' (looked for: loops, veiled, ifaces, maps, wideKeys, modest, calm, conditions, laid).
  DERIVED. THE GIVEN ROWS OF THIS SEAT. 5 by the template 'for every input the law returns true; each argument reads behind the call as it read before'; 0 by the template 'total and deterministic' (their statements: YtmmgnkjdppnboaaGreatTotals.lean).
  GIVEN WITH THE SEED: the statements are not yours to turn. If you find one false, say at which input.
  Laid BY PROGRAM, IN A SANDBOX (cutbox-rows.mjs): the forced cells as the released guide's own fill.sh prints them over the translation 750912a8f7fef923… (all of the seat's roots in one cut). By AI agents, Wed Nov 11 2026. No macro, syntax, notation, axiom, sorry.
-/
import Derived.Test.YtmmgnkjdppnboaaGreatChecked
import GoSem.Claim
import GoSem.ClaimJoined
import GoSem.ClaimMapViews
import Derived.JoinedTies
import Derived.KernelRfl
namespace Go.Proofs.YtmmgnkjdppnboaaGreat
/- THE CELL 'sum', in the pinned program and in every row, IS THE sha256 OF THE DUMP (.gsa) THAT YtmmgnkjdppnboaaGreatProg.lean LOADS. Nothing in Lean hashes anything: it is a label: what it is worth is what the hold of that sum in a sandbox is worth. -/
noncomputable def Tryz.pinned : Pinned := { name := "ytmmgnkjdppnboaagreat", sum := "750912a8f7fef923ababa805c66c711242ae76ba4c923932f232c5cba76a5e58", checked := Tryz.checked }
namespace Rows
def none {H : Type} : Left H := { results := [], args := [] }

/-- 'palanquinlaw15.LockRatchets': WHATEVER THE INPUT: true; the input reads as it did. -/
def lockRatchetsSpec : ChangeSpec := { name := "lockRatchets", fn := fun _ => fun
  | [d1, d2, d3, d4] => { results := [.lit (.bool true)], args := [d1, d2, d3, d4] }
  | _ => none }
def lockRatchetsRow : OpenClaim := { program := "ytmmgnkjdppnboaagreat", sum := "750912a8f7fef923ababa805c66c711242ae76ba4c923932f232c5cba76a5e58", func := "palanquin/palanquinlaw15.LockRatchets", spec := "lockRatchets", inPlace := ["math.Float64bits", "math.Float64frombits", "sync/atomic.LoadUint32", "(*internal/sync.Mutex).Lock", "internal/race.Disable", "sync/atomic.CompareAndSwapInt32", "internal/race.Enable", "internal/race.Acquire", "(*internal/sync.Mutex).lockSlow", "internal/sync.runtime_canSpin", "internal/sync.runtime_doSpin", "internal/sync.throw", "internal/sync.runtime_nanotime", "internal/sync.runtime_SemacquireMutex", "sync/atomic.AddInt32", "(*internal/sync.Mutex).Unlock", "internal/race.ReleaseMerge", "(*internal/sync.Mutex).unlockSlow", "internal/sync.fatal", "internal/sync.runtime_Semrelease", "sync/atomic.StoreUint32", "internal/bytealg.MakeNoZero"], unfollowed := true, recurses := true, plainKeys := false, apart := false }
def LockRatchetsSaid : Prop := lockRatchetsRow.holds Tryz.pinned (OpenSpec.ofChange lockRatchetsSpec)

/-- ITS FALSE NEIGHBOUR: 'it returns false'. Refute it at one input. -/
def lockRatchetsWrong : ChangeSpec := { name := "lockRatchets", fn := fun _ => fun
  | [d1, d2, d3, d4] => { results := [.lit (.bool false)], args := [d1, d2, d3, d4] }
  | _ => none }
def LockRatchetsWrongFalsely : Prop := lockRatchetsRow.holds Tryz.pinned (OpenSpec.ofChange lockRatchetsWrong)

/-- 'palanquinlaw15.LockKnown': WHATEVER THE INPUT: true; the input reads as it did. -/
def lockKnownSpec : ChangeSpec := { name := "lockKnown", fn := fun _ => fun
  | [] => { results := [.lit (.bool true)], args := [] }
  | _ => none }
def lockKnownRow : OpenClaim := { program := "ytmmgnkjdppnboaagreat", sum := "750912a8f7fef923ababa805c66c711242ae76ba4c923932f232c5cba76a5e58", func := "palanquin/palanquinlaw15.LockKnown", spec := "lockKnown", inPlace := ["math.Float64bits", "math.Float64frombits", "sync/atomic.LoadUint32", "(*internal/sync.Mutex).Lock", "internal/race.Disable", "sync/atomic.CompareAndSwapInt32", "internal/race.Enable", "internal/race.Acquire", "(*internal/sync.Mutex).lockSlow", "internal/sync.runtime_canSpin", "internal/sync.runtime_doSpin", "internal/sync.throw", "internal/sync.runtime_nanotime", "internal/sync.runtime_SemacquireMutex", "sync/atomic.AddInt32", "(*internal/sync.Mutex).Unlock", "internal/race.ReleaseMerge", "(*internal/sync.Mutex).unlockSlow", "internal/sync.fatal", "internal/sync.runtime_Semrelease", "sync/atomic.StoreUint32", "internal/bytealg.MakeNoZero"], unfollowed := true, recurses := true, plainKeys := false, apart := false }
def LockKnownSaid : Prop := lockKnownRow.holds Tryz.pinned (OpenSpec.ofChange lockKnownSpec)

/-- ITS FALSE NEIGHBOUR: 'it returns false'. Refute it at one input. -/
def lockKnownWrong : ChangeSpec := { name := "lockKnown", fn := fun _ => fun
  | [] => { results := [.lit (.bool false)], args := [] }
  | _ => none }
def LockKnownWrongFalsely : Prop := lockKnownRow.holds Tryz.pinned (OpenSpec.ofChange lockKnownWrong)

/-- 'palanquinlaw15.LockSends': WHATEVER THE INPUT: true; the input reads as it did. -/
def lockSendsSpec : ChangeSpec := { name := "lockSends", fn := fun _ => fun
  | [d1, d2, d3] => { results := [.lit (.bool true)], args := [d1, d2, d3] }
  | _ => none }
def lockSendsRow : OpenClaim := { program := "ytmmgnkjdppnboaagreat", sum := "750912a8f7fef923ababa805c66c711242ae76ba4c923932f232c5cba76a5e58", func := "palanquin/palanquinlaw15.LockSends", spec := "lockSends", inPlace := ["math.Float64bits", "math.Float64frombits", "sync/atomic.LoadUint32", "(*internal/sync.Mutex).Lock", "internal/race.Disable", "sync/atomic.CompareAndSwapInt32", "internal/race.Enable", "internal/race.Acquire", "(*internal/sync.Mutex).lockSlow", "internal/sync.runtime_canSpin", "internal/sync.runtime_doSpin", "internal/sync.throw", "internal/sync.runtime_nanotime", "internal/sync.runtime_SemacquireMutex", "sync/atomic.AddInt32", "(*internal/sync.Mutex).Unlock", "internal/race.ReleaseMerge", "(*internal/sync.Mutex).unlockSlow", "internal/sync.fatal", "internal/sync.runtime_Semrelease", "sync/atomic.StoreUint32", "internal/bytealg.MakeNoZero"], unfollowed := true, recurses := true, plainKeys := false, apart := false }
def LockSendsSaid : Prop := lockSendsRow.holds Tryz.pinned (OpenSpec.ofChange lockSendsSpec)

/-- ITS FALSE NEIGHBOUR: 'it returns false'. Refute it at one input. -/
def lockSendsWrong : ChangeSpec := { name := "lockSends", fn := fun _ => fun
  | [d1, d2, d3] => { results := [.lit (.bool false)], args := [d1, d2, d3] }
  | _ => none }
def LockSendsWrongFalsely : Prop := lockSendsRow.holds Tryz.pinned (OpenSpec.ofChange lockSendsWrong)

/-- 'palanquinlaw15.LockOpens': WHATEVER THE INPUT: true; the input reads as it did. -/
def lockOpensSpec : ChangeSpec := { name := "lockOpens", fn := fun _ => fun
  | [d1, d2] => { results := [.lit (.bool true)], args := [d1, d2] }
  | _ => none }
def lockOpensRow : OpenClaim := { program := "ytmmgnkjdppnboaagreat", sum := "750912a8f7fef923ababa805c66c711242ae76ba4c923932f232c5cba76a5e58", func := "palanquin/palanquinlaw15.LockOpens", spec := "lockOpens", inPlace := ["math.Float64bits", "math.Float64frombits", "sync/atomic.LoadUint32", "(*internal/sync.Mutex).Lock", "internal/race.Disable", "sync/atomic.CompareAndSwapInt32", "internal/race.Enable", "internal/race.Acquire", "(*internal/sync.Mutex).lockSlow", "internal/sync.runtime_canSpin", "internal/sync.runtime_doSpin", "internal/sync.throw", "internal/sync.runtime_nanotime", "internal/sync.runtime_SemacquireMutex", "sync/atomic.AddInt32", "(*internal/sync.Mutex).Unlock", "internal/race.ReleaseMerge", "(*internal/sync.Mutex).unlockSlow", "internal/sync.fatal", "internal/sync.runtime_Semrelease", "sync/atomic.StoreUint32", "internal/bytealg.MakeNoZero"], unfollowed := true, recurses := true, plainKeys := false, apart := false }
def LockOpensSaid : Prop := lockOpensRow.holds Tryz.pinned (OpenSpec.ofChange lockOpensSpec)

/-- ITS FALSE NEIGHBOUR: 'it returns false'. Refute it at one input. -/
def lockOpensWrong : ChangeSpec := { name := "lockOpens", fn := fun _ => fun
  | [d1, d2] => { results := [.lit (.bool false)], args := [d1, d2] }
  | _ => none }
def LockOpensWrongFalsely : Prop := lockOpensRow.holds Tryz.pinned (OpenSpec.ofChange lockOpensWrong)

/-- 'palanquinlaw15.LockOnce': WHATEVER THE INPUT: true; the input reads as it did. -/
def lockOnceSpec : ChangeSpec := { name := "lockOnce", fn := fun _ => fun
  | [d1, d2, d3, d4] => { results := [.lit (.bool true)], args := [d1, d2, d3, d4] }
  | _ => none }
def lockOnceRow : OpenClaim := { program := "ytmmgnkjdppnboaagreat", sum := "750912a8f7fef923ababa805c66c711242ae76ba4c923932f232c5cba76a5e58", func := "palanquin/palanquinlaw15.LockOnce", spec := "lockOnce", inPlace := ["math.Float64bits", "math.Float64frombits", "sync/atomic.LoadUint32", "(*internal/sync.Mutex).Lock", "internal/race.Disable", "sync/atomic.CompareAndSwapInt32", "internal/race.Enable", "internal/race.Acquire", "(*internal/sync.Mutex).lockSlow", "internal/sync.runtime_canSpin", "internal/sync.runtime_doSpin", "internal/sync.throw", "internal/sync.runtime_nanotime", "internal/sync.runtime_SemacquireMutex", "sync/atomic.AddInt32", "(*internal/sync.Mutex).Unlock", "internal/race.ReleaseMerge", "(*internal/sync.Mutex).unlockSlow", "internal/sync.fatal", "internal/sync.runtime_Semrelease", "sync/atomic.StoreUint32", "internal/bytealg.MakeNoZero"], unfollowed := true, recurses := true, plainKeys := false, apart := false }
def LockOnceSaid : Prop := lockOnceRow.holds Tryz.pinned (OpenSpec.ofChange lockOnceSpec)

/-- ITS FALSE NEIGHBOUR: 'it returns false'. Refute it at one input. -/
def lockOnceWrong : ChangeSpec := { name := "lockOnce", fn := fun _ => fun
  | [d1, d2, d3, d4] => { results := [.lit (.bool false)], args := [d1, d2, d3, d4] }
  | _ => none }
def LockOnceWrongFalsely : Prop := lockOnceRow.holds Tryz.pinned (OpenSpec.ofChange lockOnceWrong)

/- THE SECOND FORM. 'bulk': how many values and letters a reading holds, each counted each time it is reached (what is shared counts as often as it is met; a slice's spare places count too). A statement '..UptoSaid' is the law's where the arguments, and the package variables that the reading takes, are together of bulk at most 1048576: NARROWER than '..Said'. Prove '..Said' where nothing that the law and all that it calls make is longer than what came in: it says more and counts as full. Else prove '..UptoSaid'. A law counts once. -/
mutual
def uptoBulk {H : Type} : DataW H → Nat
  | .lit (.string bytes) => bytes.length + 1
  | .lit _ => 1
  | .nil => 1
  | .ptr d => uptoBulk d + 1
  | .slice elems spare => uptoBulkAll elems + uptoBulkAll spare + 1
  | .agg parts => uptoBulkAll parts + 1
  | .iface _ d => uptoBulk d + 1
  | .map entries => uptoBulkEntries entries + 1
  | .held _ => 1
def uptoBulkAll {H : Type} : List (DataW H) → Nat
  | [] => 0
  | d :: r => uptoBulk d + uptoBulkAll r
def uptoBulkEntries {H : Type} : List (Lit × DataW H) → Nat
  | [] => 0
  | x :: r => uptoBulkEntry x + uptoBulkEntries r
def uptoBulkEntry {H : Type} : Lit × DataW H → Nat
  | (.string bytes, d) => bytes.length + uptoBulk d + 1
  | (_, d) => uptoBulk d + 1
 end
def uptoSmall : (H : Type) → List (DataW H) → Bool := fun _ ds => decide (uptoBulkAll ds ≤ 1048576)
def OpenSpec.upto (s : _root_.Go.ChangeSpec) : _root_.Go.OpenSpec := { _root_.Go.OpenSpec.ofChange s with cond := some uptoSmall }

/-- 'palanquinlaw15.LockRatchets', WHERE WHAT IT READS IS OF BULK AT MOST 1048576: true; the input reads as it did. -/
def lockRatchetsUptoRow : OpenClaim := { program := "ytmmgnkjdppnboaagreat", sum := "750912a8f7fef923ababa805c66c711242ae76ba4c923932f232c5cba76a5e58", func := "palanquin/palanquinlaw15.LockRatchets", spec := "lockRatchets", inPlace := ["math.Float64bits", "math.Float64frombits", "sync/atomic.LoadUint32", "(*internal/sync.Mutex).Lock", "internal/race.Disable", "sync/atomic.CompareAndSwapInt32", "internal/race.Enable", "internal/race.Acquire", "(*internal/sync.Mutex).lockSlow", "internal/sync.runtime_canSpin", "internal/sync.runtime_doSpin", "internal/sync.throw", "internal/sync.runtime_nanotime", "internal/sync.runtime_SemacquireMutex", "sync/atomic.AddInt32", "(*internal/sync.Mutex).Unlock", "internal/race.ReleaseMerge", "(*internal/sync.Mutex).unlockSlow", "internal/sync.fatal", "internal/sync.runtime_Semrelease", "sync/atomic.StoreUint32", "internal/bytealg.MakeNoZero"], unfollowed := true, recurses := true, plainKeys := false, apart := false, narrowed := true }
def LockRatchetsUptoSaid : Prop := lockRatchetsUptoRow.holds Tryz.pinned (OpenSpec.upto lockRatchetsSpec)

/-- 'palanquinlaw15.LockKnown', WHERE WHAT IT READS IS OF BULK AT MOST 1048576: true; the input reads as it did. -/
def lockKnownUptoRow : OpenClaim := { program := "ytmmgnkjdppnboaagreat", sum := "750912a8f7fef923ababa805c66c711242ae76ba4c923932f232c5cba76a5e58", func := "palanquin/palanquinlaw15.LockKnown", spec := "lockKnown", inPlace := ["math.Float64bits", "math.Float64frombits", "sync/atomic.LoadUint32", "(*internal/sync.Mutex).Lock", "internal/race.Disable", "sync/atomic.CompareAndSwapInt32", "internal/race.Enable", "internal/race.Acquire", "(*internal/sync.Mutex).lockSlow", "internal/sync.runtime_canSpin", "internal/sync.runtime_doSpin", "internal/sync.throw", "internal/sync.runtime_nanotime", "internal/sync.runtime_SemacquireMutex", "sync/atomic.AddInt32", "(*internal/sync.Mutex).Unlock", "internal/race.ReleaseMerge", "(*internal/sync.Mutex).unlockSlow", "internal/sync.fatal", "internal/sync.runtime_Semrelease", "sync/atomic.StoreUint32", "internal/bytealg.MakeNoZero"], unfollowed := true, recurses := true, plainKeys := false, apart := false, narrowed := true }
def LockKnownUptoSaid : Prop := lockKnownUptoRow.holds Tryz.pinned (OpenSpec.upto lockKnownSpec)

/-- 'palanquinlaw15.LockSends', WHERE WHAT IT READS IS OF BULK AT MOST 1048576: true; the input reads as it did. -/
def lockSendsUptoRow : OpenClaim := { program := "ytmmgnkjdppnboaagreat", sum := "750912a8f7fef923ababa805c66c711242ae76ba4c923932f232c5cba76a5e58", func := "palanquin/palanquinlaw15.LockSends", spec := "lockSends", inPlace := ["math.Float64bits", "math.Float64frombits", "sync/atomic.LoadUint32", "(*internal/sync.Mutex).Lock", "internal/race.Disable", "sync/atomic.CompareAndSwapInt32", "internal/race.Enable", "internal/race.Acquire", "(*internal/sync.Mutex).lockSlow", "internal/sync.runtime_canSpin", "internal/sync.runtime_doSpin", "internal/sync.throw", "internal/sync.runtime_nanotime", "internal/sync.runtime_SemacquireMutex", "sync/atomic.AddInt32", "(*internal/sync.Mutex).Unlock", "internal/race.ReleaseMerge", "(*internal/sync.Mutex).unlockSlow", "internal/sync.fatal", "internal/sync.runtime_Semrelease", "sync/atomic.StoreUint32", "internal/bytealg.MakeNoZero"], unfollowed := true, recurses := true, plainKeys := false, apart := false, narrowed := true }
def LockSendsUptoSaid : Prop := lockSendsUptoRow.holds Tryz.pinned (OpenSpec.upto lockSendsSpec)

/-- 'palanquinlaw15.LockOpens', WHERE WHAT IT READS IS OF BULK AT MOST 1048576: true; the input reads as it did. -/
def lockOpensUptoRow : OpenClaim := { program := "ytmmgnkjdppnboaagreat", sum := "750912a8f7fef923ababa805c66c711242ae76ba4c923932f232c5cba76a5e58", func := "palanquin/palanquinlaw15.LockOpens", spec := "lockOpens", inPlace := ["math.Float64bits", "math.Float64frombits", "sync/atomic.LoadUint32", "(*internal/sync.Mutex).Lock", "internal/race.Disable", "sync/atomic.CompareAndSwapInt32", "internal/race.Enable", "internal/race.Acquire", "(*internal/sync.Mutex).lockSlow", "internal/sync.runtime_canSpin", "internal/sync.runtime_doSpin", "internal/sync.throw", "internal/sync.runtime_nanotime", "internal/sync.runtime_SemacquireMutex", "sync/atomic.AddInt32", "(*internal/sync.Mutex).Unlock", "internal/race.ReleaseMerge", "(*internal/sync.Mutex).unlockSlow", "internal/sync.fatal", "internal/sync.runtime_Semrelease", "sync/atomic.StoreUint32", "internal/bytealg.MakeNoZero"], unfollowed := true, recurses := true, plainKeys := false, apart := false, narrowed := true }
def LockOpensUptoSaid : Prop := lockOpensUptoRow.holds Tryz.pinned (OpenSpec.upto lockOpensSpec)

/-- 'palanquinlaw15.LockOnce', WHERE WHAT IT READS IS OF BULK AT MOST 1048576: true; the input reads as it did. -/
def lockOnceUptoRow : OpenClaim := { program := "ytmmgnkjdppnboaagreat", sum := "750912a8f7fef923ababa805c66c711242ae76ba4c923932f232c5cba76a5e58", func := "palanquin/palanquinlaw15.LockOnce", spec := "lockOnce", inPlace := ["math.Float64bits", "math.Float64frombits", "sync/atomic.LoadUint32", "(*internal/sync.Mutex).Lock", "internal/race.Disable", "sync/atomic.CompareAndSwapInt32", "internal/race.Enable", "internal/race.Acquire", "(*internal/sync.Mutex).lockSlow", "internal/sync.runtime_canSpin", "internal/sync.runtime_doSpin", "internal/sync.throw", "internal/sync.runtime_nanotime", "internal/sync.runtime_SemacquireMutex", "sync/atomic.AddInt32", "(*internal/sync.Mutex).Unlock", "internal/race.ReleaseMerge", "(*internal/sync.Mutex).unlockSlow", "internal/sync.fatal", "internal/sync.runtime_Semrelease", "sync/atomic.StoreUint32", "internal/bytealg.MakeNoZero"], unfollowed := true, recurses := true, plainKeys := false, apart := false, narrowed := true }
def LockOnceUptoSaid : Prop := lockOnceUptoRow.holds Tryz.pinned (OpenSpec.upto lockOnceSpec)

end Rows
end Go.Proofs.YtmmgnkjdppnboaaGreat
