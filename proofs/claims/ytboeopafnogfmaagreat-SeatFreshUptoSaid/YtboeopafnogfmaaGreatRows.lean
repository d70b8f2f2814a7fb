/-
  No cell of these rows narrows 'for every input' (looked for: loops, veiled, ifaces, maps, wideKeys, modest, calm, conditions, laid).
  DERIVED. THE GIVEN ROWS OF THIS SEAT. 6 by the template 'for every input the law returns true; each argument reads behind the call as it read before'; 0 by the template 'total and deterministic' (their statements: YtboeopafnogfmaaGreatTotals.lean).
  GIVEN WITH THE SEED: the statements are not yours to turn. If you find one false, say at which input.
  Laid BY PROGRAM, IN A SANDBOX (cutbox-rows.mjs): the forced cells as the released guide's own fill.sh prints them over the translation 0fdbe4711e23bf58… (all of the seat's roots in one cut). By AI agents, Wed Nov 11 2026. No macro, syntax, notation, axiom, sorry.
-/
import Derived.Test.YtboeopafnogfmaaGreatChecked
import GoSem.Claim
import GoSem.ClaimJoined
import GoSem.ClaimMapViews
import Derived.JoinedTies
import Derived.KernelRfl
namespace Go.Proofs.YtboeopafnogfmaaGreat
/- THE CELL 'sum', in the pinned program and in every row, IS THE sha256 OF THE DUMP (.gsa) THAT YtboeopafnogfmaaGreatProg.lean LOADS. Nothing in Lean hashes anything: it is a label: what it is worth is what the hold of that sum in a sandbox is worth. -/
noncomputable def Tryz.pinned : Pinned := { name := "ytboeopafnogfmaagreat", sum := "0fdbe4711e23bf58a86668f93d85af61aa0dc04d1b139331a0e0172753decff7", checked := Tryz.checked }
namespace Rows
def none {H : Type} : Left H := { results := [], args := [] }

/-- 'palanquinlaw28.SeatKnown': WHATEVER THE INPUT: true; the input reads as it did. -/
def seatKnownSpec : ChangeSpec := { name := "seatKnown", fn := fun _ => fun
  | [] => { results := [.lit (.bool true)], args := [] }
  | _ => none }
def seatKnownRow : OpenClaim := { program := "ytboeopafnogfmaagreat", sum := "0fdbe4711e23bf58a86668f93d85af61aa0dc04d1b139331a0e0172753decff7", func := "palanquin/palanquinlaw28.SeatKnown", spec := "seatKnown", inPlace := ["math.Float64bits", "math.Float64frombits", "sync/atomic.LoadUint32", "(*internal/sync.Mutex).Lock", "internal/race.Disable", "sync/atomic.CompareAndSwapInt32", "internal/race.Enable", "internal/race.Acquire", "(*internal/sync.Mutex).lockSlow", "internal/sync.runtime_canSpin", "internal/sync.runtime_doSpin", "internal/sync.throw", "internal/sync.runtime_nanotime", "internal/sync.runtime_SemacquireMutex", "sync/atomic.AddInt32", "(*internal/sync.Mutex).Unlock", "internal/race.ReleaseMerge", "(*internal/sync.Mutex).unlockSlow", "internal/sync.fatal", "internal/sync.runtime_Semrelease", "sync/atomic.StoreUint32", "internal/bytealg.MakeNoZero"], unfollowed := true, recurses := true, plainKeys := false, apart := false }
def SeatKnownSaid : Prop := seatKnownRow.holds Tryz.pinned (OpenSpec.ofChange seatKnownSpec)

/-- ITS FALSE NEIGHBOUR: 'it returns false'. Refute it at one input. -/
def seatKnownWrong : ChangeSpec := { name := "seatKnown", fn := fun _ => fun
  | [] => { results := [.lit (.bool false)], args := [] }
  | _ => none }
def SeatKnownWrongFalsely : Prop := seatKnownRow.holds Tryz.pinned (OpenSpec.ofChange seatKnownWrong)

/-- 'palanquinlaw28.SeatMeets': WHATEVER THE INPUT: true; the input reads as it did. -/
def seatMeetsSpec : ChangeSpec := { name := "seatMeets", fn := fun _ => fun
  | [d1, d2, d3, d4] => { results := [.lit (.bool true)], args := [d1, d2, d3, d4] }
  | _ => none }
def seatMeetsRow : OpenClaim := { program := "ytboeopafnogfmaagreat", sum := "0fdbe4711e23bf58a86668f93d85af61aa0dc04d1b139331a0e0172753decff7", func := "palanquin/palanquinlaw28.SeatMeets", spec := "seatMeets", inPlace := ["math.Float64bits", "math.Float64frombits", "sync/atomic.LoadUint32", "(*internal/sync.Mutex).Lock", "internal/race.Disable", "sync/atomic.CompareAndSwapInt32", "internal/race.Enable", "internal/race.Acquire", "(*internal/sync.Mutex).lockSlow", "internal/sync.runtime_canSpin", "internal/sync.runtime_doSpin", "internal/sync.throw", "internal/sync.runtime_nanotime", "internal/sync.runtime_SemacquireMutex", "sync/atomic.AddInt32", "(*internal/sync.Mutex).Unlock", "internal/race.ReleaseMerge", "(*internal/sync.Mutex).unlockSlow", "internal/sync.fatal", "internal/sync.runtime_Semrelease", "sync/atomic.StoreUint32", "internal/bytealg.MakeNoZero"], unfollowed := true, recurses := true, plainKeys := false, apart := false }
def SeatMeetsSaid : Prop := seatMeetsRow.holds Tryz.pinned (OpenSpec.ofChange seatMeetsSpec)

/-- ITS FALSE NEIGHBOUR: 'it returns false'. Refute it at one input. -/
def seatMeetsWrong : ChangeSpec := { name := "seatMeets", fn := fun _ => fun
  | [d1, d2, d3, d4] => { results := [.lit (.bool false)], args := [d1, d2, d3, d4] }
  | _ => none }
def SeatMeetsWrongFalsely : Prop := seatMeetsRow.holds Tryz.pinned (OpenSpec.ofChange seatMeetsWrong)

/-- 'palanquinlaw28.SeatFresh': WHATEVER THE INPUT: true; the input reads as it did. -/
def seatFreshSpec : ChangeSpec := { name := "seatFresh", fn := fun _ => fun
  | [d1, d2, d3] => { results := [.lit (.bool true)], args := [d1, d2, d3] }
  | _ => none }
def seatFreshRow : OpenClaim := { program := "ytboeopafnogfmaagreat", sum := "0fdbe4711e23bf58a86668f93d85af61aa0dc04d1b139331a0e0172753decff7", func := "palanquin/palanquinlaw28.SeatFresh", spec := "seatFresh", inPlace := ["math.Float64bits", "math.Float64frombits", "sync/atomic.LoadUint32", "(*internal/sync.Mutex).Lock", "internal/race.Disable", "sync/atomic.CompareAndSwapInt32", "internal/race.Enable", "internal/race.Acquire", "(*internal/sync.Mutex).lockSlow", "internal/sync.runtime_canSpin", "internal/sync.runtime_doSpin", "internal/sync.throw", "internal/sync.runtime_nanotime", "internal/sync.runtime_SemacquireMutex", "sync/atomic.AddInt32", "(*internal/sync.Mutex).Unlock", "internal/race.ReleaseMerge", "(*internal/sync.Mutex).unlockSlow", "internal/sync.fatal", "internal/sync.runtime_Semrelease", "sync/atomic.StoreUint32", "internal/bytealg.MakeNoZero"], unfollowed := true, recurses := true, plainKeys := false, apart := false }
def SeatFreshSaid : Prop := seatFreshRow.holds Tryz.pinned (OpenSpec.ofChange seatFreshSpec)

/-- ITS FALSE NEIGHBOUR: 'it returns false'. Refute it at one input. -/
def seatFreshWrong : ChangeSpec := { name := "seatFresh", fn := fun _ => fun
  | [d1, d2, d3] => { results := [.lit (.bool false)], args := [d1, d2, d3] }
  | _ => none }
def SeatFreshWrongFalsely : Prop := seatFreshRow.holds Tryz.pinned (OpenSpec.ofChange seatFreshWrong)

/-- 'palanquinlaw28.SeatLater': WHATEVER THE INPUT: true; the input reads as it did. -/
def seatLaterSpec : ChangeSpec := { name := "seatLater", fn := fun _ => fun
  | [d1, d2] => { results := [.lit (.bool true)], args := [d1, d2] }
  | _ => none }
def seatLaterRow : OpenClaim := { program := "ytboeopafnogfmaagreat", sum := "0fdbe4711e23bf58a86668f93d85af61aa0dc04d1b139331a0e0172753decff7", func := "palanquin/palanquinlaw28.SeatLater", spec := "seatLater", inPlace := ["math.Float64bits", "math.Float64frombits", "sync/atomic.LoadUint32", "(*internal/sync.Mutex).Lock", "internal/race.Disable", "sync/atomic.CompareAndSwapInt32", "internal/race.Enable", "internal/race.Acquire", "(*internal/sync.Mutex).lockSlow", "internal/sync.runtime_canSpin", "internal/sync.runtime_doSpin", "internal/sync.throw", "internal/sync.runtime_nanotime", "internal/sync.runtime_SemacquireMutex", "sync/atomic.AddInt32", "(*internal/sync.Mutex).Unlock", "internal/race.ReleaseMerge", "(*internal/sync.Mutex).unlockSlow", "internal/sync.fatal", "internal/sync.runtime_Semrelease", "sync/atomic.StoreUint32", "internal/bytealg.MakeNoZero"], unfollowed := true, recurses := true, plainKeys := false, apart := false }
def SeatLaterSaid : Prop := seatLaterRow.holds Tryz.pinned (OpenSpec.ofChange seatLaterSpec)

/-- ITS FALSE NEIGHBOUR: 'it returns false'. Refute it at one input. -/
def seatLaterWrong : ChangeSpec := { name := "seatLater", fn := fun _ => fun
  | [d1, d2] => { results := [.lit (.bool false)], args := [d1, d2] }
  | _ => none }
def SeatLaterWrongFalsely : Prop := seatLaterRow.holds Tryz.pinned (OpenSpec.ofChange seatLaterWrong)

/-- 'palanquinlaw28.SeatFrames': WHATEVER THE INPUT: true; the input reads as it did. -/
def seatFramesSpec : ChangeSpec := { name := "seatFrames", fn := fun _ => fun
  | [d1, d2, d3] => { results := [.lit (.bool true)], args := [d1, d2, d3] }
  | _ => none }
def seatFramesRow : OpenClaim := { program := "ytboeopafnogfmaagreat", sum := "0fdbe4711e23bf58a86668f93d85af61aa0dc04d1b139331a0e0172753decff7", func := "palanquin/palanquinlaw28.SeatFrames", spec := "seatFrames", inPlace := ["math.Float64bits", "math.Float64frombits", "sync/atomic.LoadUint32", "(*internal/sync.Mutex).Lock", "internal/race.Disable", "sync/atomic.CompareAndSwapInt32", "internal/race.Enable", "internal/race.Acquire", "(*internal/sync.Mutex).lockSlow", "internal/sync.runtime_canSpin", "internal/sync.runtime_doSpin", "internal/sync.throw", "internal/sync.runtime_nanotime", "internal/sync.runtime_SemacquireMutex", "sync/atomic.AddInt32", "(*internal/sync.Mutex).Unlock", "internal/race.ReleaseMerge", "(*internal/sync.Mutex).unlockSlow", "internal/sync.fatal", "internal/sync.runtime_Semrelease", "sync/atomic.StoreUint32", "internal/bytealg.MakeNoZero"], unfollowed := true, recurses := true, plainKeys := false, apart := false }
def SeatFramesSaid : Prop := seatFramesRow.holds Tryz.pinned (OpenSpec.ofChange seatFramesSpec)

/-- ITS FALSE NEIGHBOUR: 'it returns false'. Refute it at one input. -/
def seatFramesWrong : ChangeSpec := { name := "seatFrames", fn := fun _ => fun
  | [d1, d2, d3] => { results := [.lit (.bool false)], args := [d1, d2, d3] }
  | _ => none }
def SeatFramesWrongFalsely : Prop := seatFramesRow.holds Tryz.pinned (OpenSpec.ofChange seatFramesWrong)

/-- 'palanquinlaw28.SeatPlays': WHATEVER THE INPUT: true; the input reads as it did. -/
def seatPlaysSpec : ChangeSpec := { name := "seatPlays", fn := fun _ => fun
  | [d1, d2, d3, d4, d5] => { results := [.lit (.bool true)], args := [d1, d2, d3, d4, d5] }
  | _ => none }
def seatPlaysRow : OpenClaim := { program := "ytboeopafnogfmaagreat", sum := "0fdbe4711e23bf58a86668f93d85af61aa0dc04d1b139331a0e0172753decff7", func := "palanquin/palanquinlaw28.SeatPlays", spec := "seatPlays", inPlace := ["math.Float64bits", "math.Float64frombits", "sync/atomic.LoadUint32", "(*internal/sync.Mutex).Lock", "internal/race.Disable", "sync/atomic.CompareAndSwapInt32", "internal/race.Enable", "internal/race.Acquire", "(*internal/sync.Mutex).lockSlow", "internal/sync.runtime_canSpin", "internal/sync.runtime_doSpin", "internal/sync.throw", "internal/sync.runtime_nanotime", "internal/sync.runtime_SemacquireMutex", "sync/atomic.AddInt32", "(*internal/sync.Mutex).Unlock", "internal/race.ReleaseMerge", "(*internal/sync.Mutex).unlockSlow", "internal/sync.fatal", "internal/sync.runtime_Semrelease", "sync/atomic.StoreUint32", "internal/bytealg.MakeNoZero"], unfollowed := true, recurses := true, plainKeys := false, apart := false }
def SeatPlaysSaid : Prop := seatPlaysRow.holds Tryz.pinned (OpenSpec.ofChange seatPlaysSpec)

/-- ITS FALSE NEIGHBOUR: 'it returns false'. Refute it at one input. -/
def seatPlaysWrong : ChangeSpec := { name := "seatPlays", fn := fun _ => fun
  | [d1, d2, d3, d4, d5] => { results := [.lit (.bool false)], args := [d1, d2, d3, d4, d5] }
  | _ => none }
def SeatPlaysWrongFalsely : Prop := seatPlaysRow.holds Tryz.pinned (OpenSpec.ofChange seatPlaysWrong)

/- THE SECOND FORM. 'bulk': how many values and letters a reading holds, each counted each time it is reached (what is shared counts as often as it is met; a slice's spare places count too). A statement '..UptoSaid' is the law's where the arguments, and the package variables that the reading takes, are together of bulk at most 1048576: NARROWER than '..Said'. Prove '..Said' where nothing that the law and all that it calls make is longer than what came in: it says more and counts as full. Else prove '..UptoSaid'. A law counts once. -/
mutual
def uptoBulk {H : Type} : DataW H → Nat
  | .lit (.string bytes) => bytes.length + 1
  | .lit _ => 1
  | .nil => 1
  | .ptr d => uptoBulk d + 1
  | .slice elems spare => uptoBulkAll elems + uptoBulkAll spare + 1
  | .agg parts => uptoBulkAll parts + 1
  | .iface _ d => uptoBulk d + 1
  | .map entries => uptoBulkEntries entries + 1
  | .held _ => 1
def uptoBulkAll {H : Type} : List (DataW H) → Nat
  | [] => 0
  | d :: r => uptoBulk d + uptoBulkAll r
def uptoBulkEntries {H : Type} : List (Lit × DataW H) → Nat
  | [] => 0
  | x :: r => uptoBulkEntry x + uptoBulkEntries r
def uptoBulkEntry {H : Type} : Lit × DataW H → Nat
  | (.string bytes, d) => bytes.length + uptoBulk d + 1
  | (_, d) => uptoBulk d + 1
 end
def uptoSmall : (H : Type) → List (DataW H) → Bool := fun _ ds => decide (uptoBulkAll ds ≤ 1048576)
def OpenSpec.upto (s : _root_.Go.ChangeSpec) : _root_.Go.OpenSpec := { _root_.Go.OpenSpec.ofChange s with cond := some uptoSmall }

/-- 'palanquinlaw28.SeatKnown', WHERE WHAT IT READS IS OF BULK AT MOST 1048576: true; the input reads as it did. -/
def seatKnownUptoRow : OpenClaim := { program := "ytboeopafnogfmaagreat", sum := "0fdbe4711e23bf58a86668f93d85af61aa0dc04d1b139331a0e0172753decff7", func := "palanquin/palanquinlaw28.SeatKnown", spec := "seatKnown", inPlace := ["math.Float64bits", "math.Float64frombits", "sync/atomic.LoadUint32", "(*internal/sync.Mutex).Lock", "internal/race.Disable", "sync/atomic.CompareAndSwapInt32", "internal/race.Enable", "internal/race.Acquire", "(*internal/sync.Mutex).lockSlow", "internal/sync.runtime_canSpin", "internal/sync.runtime_doSpin", "internal/sync.throw", "internal/sync.runtime_nanotime", "internal/sync.runtime_SemacquireMutex", "sync/atomic.AddInt32", "(*internal/sync.Mutex).Unlock", "internal/race.ReleaseMerge", "(*internal/sync.Mutex).unlockSlow", "internal/sync.fatal", "internal/sync.runtime_Semrelease", "sync/atomic.StoreUint32", "internal/bytealg.MakeNoZero"], unfollowed := true, recurses := true, plainKeys := false, apart := false, narrowed := true }
def SeatKnownUptoSaid : Prop := seatKnownUptoRow.holds Tryz.pinned (OpenSpec.upto seatKnownSpec)

/-- 'palanquinlaw28.SeatMeets', WHERE WHAT IT READS IS OF BULK AT MOST 1048576: true; the input reads as it did. -/
def seatMeetsUptoRow : OpenClaim := { program := "ytboeopafnogfmaagreat", sum := "0fdbe4711e23bf58a86668f93d85af61aa0dc04d1b139331a0e0172753decff7", func := "palanquin/palanquinlaw28.SeatMeets", spec := "seatMeets", inPlace := ["math.Float64bits", "math.Float64frombits", "sync/atomic.LoadUint32", "(*internal/sync.Mutex).Lock", "internal/race.Disable", "sync/atomic.CompareAndSwapInt32", "internal/race.Enable", "internal/race.Acquire", "(*internal/sync.Mutex).lockSlow", "internal/sync.runtime_canSpin", "internal/sync.runtime_doSpin", "internal/sync.throw", "internal/sync.runtime_nanotime", "internal/sync.runtime_SemacquireMutex", "sync/atomic.AddInt32", "(*internal/sync.Mutex).Unlock", "internal/race.ReleaseMerge", "(*internal/sync.Mutex).unlockSlow", "internal/sync.fatal", "internal/sync.runtime_Semrelease", "sync/atomic.StoreUint32", "internal/bytealg.MakeNoZero"], unfollowed := true, recurses := true, plainKeys := false, apart := false, narrowed := true }
def SeatMeetsUptoSaid : Prop := seatMeetsUptoRow.holds Tryz.pinned (OpenSpec.upto seatMeetsSpec)

/-- 'palanquinlaw28.SeatFresh', WHERE WHAT IT READS IS OF BULK AT MOST 1048576: true; the input reads as it did. -/
def seatFreshUptoRow : OpenClaim := { program := "ytboeopafnogfmaagreat", sum := "0fdbe4711e23bf58a86668f93d85af61aa0dc04d1b139331a0e0172753decff7", func := "palanquin/palanquinlaw28.SeatFresh", spec := "seatFresh", inPlace := ["math.Float64bits", "math.Float64frombits", "sync/atomic.LoadUint32", "(*internal/sync.Mutex).Lock", "internal/race.Disable", "sync/atomic.CompareAndSwapInt32", "internal/race.Enable", "internal/race.Acquire", "(*internal/sync.Mutex).lockSlow", "internal/sync.runtime_canSpin", "internal/sync.runtime_doSpin", "internal/sync.throw", "internal/sync.runtime_nanotime", "internal/sync.runtime_SemacquireMutex", "sync/atomic.AddInt32", "(*internal/sync.Mutex).Unlock", "internal/race.ReleaseMerge", "(*internal/sync.Mutex).unlockSlow", "internal/sync.fatal", "internal/sync.runtime_Semrelease", "sync/atomic.StoreUint32", "internal/bytealg.MakeNoZero"], unfollowed := true, recurses := true, plainKeys := false, apart := false, narrowed := true }
def SeatFreshUptoSaid : Prop := seatFreshUptoRow.holds Tryz.pinned (OpenSpec.upto seatFreshSpec)

/-- 'palanquinlaw28.SeatLater', WHERE WHAT IT READS IS OF BULK AT MOST 1048576: true; the input reads as it did. -/
def seatLaterUptoRow : OpenClaim := { program := "ytboeopafnogfmaagreat", sum := "0fdbe4711e23bf58a86668f93d85af61aa0dc04d1b139331a0e0172753decff7", func := "palanquin/palanquinlaw28.SeatLater", spec := "seatLater", inPlace := ["math.Float64bits", "math.Float64frombits", "sync/atomic.LoadUint32", "(*internal/sync.Mutex).Lock", "internal/race.Disable", "sync/atomic.CompareAndSwapInt32", "internal/race.Enable", "internal/race.Acquire", "(*internal/sync.Mutex).lockSlow", "internal/sync.runtime_canSpin", "internal/sync.runtime_doSpin", "internal/sync.throw", "internal/sync.runtime_nanotime", "internal/sync.runtime_SemacquireMutex", "sync/atomic.AddInt32", "(*internal/sync.Mutex).Unlock", "internal/race.ReleaseMerge", "(*internal/sync.Mutex).unlockSlow", "internal/sync.fatal", "internal/sync.runtime_Semrelease", "sync/atomic.StoreUint32", "internal/bytealg.MakeNoZero"], unfollowed := true, recurses := true, plainKeys := false, apart := false, narrowed := true }
def SeatLaterUptoSaid : Prop := seatLaterUptoRow.holds Tryz.pinned (OpenSpec.upto seatLaterSpec)

/-- 'palanquinlaw28.SeatFrames', WHERE WHAT IT READS IS OF BULK AT MOST 1048576: true; the input reads as it did. -/
def seatFramesUptoRow : OpenClaim := { program := "ytboeopafnogfmaagreat", sum := "0fdbe4711e23bf58a86668f93d85af61aa0dc04d1b139331a0e0172753decff7", func := "palanquin/palanquinlaw28.SeatFrames", spec := "seatFrames", inPlace := ["math.Float64bits", "math.Float64frombits", "sync/atomic.LoadUint32", "(*internal/sync.Mutex).Lock", "internal/race.Disable", "sync/atomic.CompareAndSwapInt32", "internal/race.Enable", "internal/race.Acquire", "(*internal/sync.Mutex).lockSlow", "internal/sync.runtime_canSpin", "internal/sync.runtime_doSpin", "internal/sync.throw", "internal/sync.runtime_nanotime", "internal/sync.runtime_SemacquireMutex", "sync/atomic.AddInt32", "(*internal/sync.Mutex).Unlock", "internal/race.ReleaseMerge", "(*internal/sync.Mutex).unlockSlow", "internal/sync.fatal", "internal/sync.runtime_Semrelease", "sync/atomic.StoreUint32", "internal/bytealg.MakeNoZero"], unfollowed := true, recurses := true, plainKeys := false, apart := false, narrowed := true }
def SeatFramesUptoSaid : Prop := seatFramesUptoRow.holds Tryz.pinned (OpenSpec.upto seatFramesSpec)

/-- 'palanquinlaw28.SeatPlays', WHERE WHAT IT READS IS OF BULK AT MOST 1048576: true; the input reads as it did. -/
def seatPlaysUptoRow : OpenClaim := { program := "ytboeopafnogfmaagreat", sum := "0fdbe4711e23bf58a86668f93d85af61aa0dc04d1b139331a0e0172753decff7", func := "palanquin/palanquinlaw28.SeatPlays", spec := "seatPlays", inPlace := ["math.Float64bits", "math.Float64frombits", "sync/atomic.LoadUint32", "(*internal/sync.Mutex).Lock", "internal/race.Disable", "sync/atomic.CompareAndSwapInt32", "internal/race.Enable", "internal/race.Acquire", "(*internal/sync.Mutex).lockSlow", "internal/sync.runtime_canSpin", "internal/sync.runtime_doSpin", "internal/sync.throw", "internal/sync.runtime_nanotime", "internal/sync.runtime_SemacquireMutex", "sync/atomic.AddInt32", "(*internal/sync.Mutex).Unlock", "internal/race.ReleaseMerge", "(*internal/sync.Mutex).unlockSlow", "internal/sync.fatal", "internal/sync.runtime_Semrelease", "sync/atomic.StoreUint32", "internal/bytealg.MakeNoZero"], unfollowed := true, recurses := true, plainKeys := false, apart := false, narrowed := true }
def SeatPlaysUptoSaid : Prop := seatPlaysUptoRow.holds Tryz.pinned (OpenSpec.upto seatPlaysSpec)

end Rows
end Go.Proofs.YtboeopafnogfmaaGreat
