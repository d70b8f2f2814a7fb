/-
  No cell of these rows narrows 'for every input' (looked for: loops, veiled, ifaces, maps, wideKeys, modest, calm, conditions, laid).
  DERIVED. THE GIVEN ROWS OF THIS SEAT. 5 by the template 'for every input the law returns true; each argument reads behind the call as it read before'; 0 by the template 'total and deterministic' (their statements: YtjabaappgopdmaaGreatTotals.lean).
  GIVEN WITH THE SEED: the statements are not yours to turn. If you find one false, say at which input.
  Laid BY PROGRAM, IN A SANDBOX (cutbox-rows.mjs): the forced cells as the released guide's own fill.sh prints them over the translation 96a71b85d90ee897… (all of the seat's roots in one cut). By AI agents, Wed Nov 11 2026. No macro, syntax, notation, axiom, sorry.
-/
import Derived.Test.YtjabaappgopdmaaGreatChecked
import GoSem.Claim
import GoSem.ClaimJoined
import GoSem.ClaimMapViews
import Derived.JoinedTies
import Derived.KernelRfl
namespace Go.Proofs.YtjabaappgopdmaaGreat
/- THE CELL 'sum', in the pinned program and in every row, IS THE sha256 OF THE DUMP (.gsa) THAT YtjabaappgopdmaaGreatProg.lean LOADS. Nothing in Lean hashes anything: it is a label: what it is worth is what the hold of that sum in a sandbox is worth. -/
noncomputable def Tryz.pinned : Pinned := { name := "ytjabaappgopdmaagreat", sum := "96a71b85d90ee897b8b8152a88675fa0c53eb26e9c71cb6d45209a875932d7aa", checked := Tryz.checked }
namespace Rows
def none {H : Type} : Left H := { results := [], args := [] }

/-- 'palanquinlaw29.WorldKnown': WHATEVER THE INPUT: true; the input reads as it did. -/
def worldKnownSpec : ChangeSpec := { name := "worldKnown", fn := fun _ => fun
  | [] => { results := [.lit (.bool true)], args := [] }
  | _ => none }
def worldKnownRow : OpenClaim := { program := "ytjabaappgopdmaagreat", sum := "96a71b85d90ee897b8b8152a88675fa0c53eb26e9c71cb6d45209a875932d7aa", func := "palanquin/palanquinlaw29.WorldKnown", spec := "worldKnown", inPlace := ["sync/atomic.LoadUint32", "(*internal/sync.Mutex).Lock", "internal/race.Disable", "sync/atomic.CompareAndSwapInt32", "internal/race.Enable", "internal/race.Acquire", "(*internal/sync.Mutex).lockSlow", "internal/sync.runtime_canSpin", "internal/sync.runtime_doSpin", "internal/sync.throw", "internal/sync.runtime_nanotime", "internal/sync.runtime_SemacquireMutex", "sync/atomic.AddInt32", "(*internal/sync.Mutex).Unlock", "internal/race.ReleaseMerge", "(*internal/sync.Mutex).unlockSlow", "internal/sync.fatal", "internal/sync.runtime_Semrelease", "sync/atomic.StoreUint32", "math.Float64bits", "math.Float64frombits", "internal/bytealg.MakeNoZero", "sync/atomic.AddInt64"], unfollowed := true, recurses := true, plainKeys := false, apart := false }
def WorldKnownSaid : Prop := worldKnownRow.holds Tryz.pinned (OpenSpec.ofChange worldKnownSpec)

/-- ITS FALSE NEIGHBOUR: 'it returns false'. Refute it at one input. -/
def worldKnownWrong : ChangeSpec := { name := "worldKnown", fn := fun _ => fun
  | [] => { results := [.lit (.bool false)], args := [] }
  | _ => none }
def WorldKnownWrongFalsely : Prop := worldKnownRow.holds Tryz.pinned (OpenSpec.ofChange worldKnownWrong)

/-- 'palanquintop.TopOut': WHATEVER THE INPUT: true; the input reads as it did. -/
def topOutSpec : ChangeSpec := { name := "topOut", fn := fun _ => fun
  | [d1, d2, d3] => { results := [.lit (.bool true)], args := [d1, d2, d3] }
  | _ => none }
def topOutRow : OpenClaim := { program := "ytjabaappgopdmaagreat", sum := "96a71b85d90ee897b8b8152a88675fa0c53eb26e9c71cb6d45209a875932d7aa", func := "palanquin/palanquintop.TopOut", spec := "topOut", inPlace := ["sync/atomic.AddInt64", "sync/atomic.LoadUint32", "(*internal/sync.Mutex).Lock", "internal/race.Disable", "sync/atomic.CompareAndSwapInt32", "internal/race.Enable", "internal/race.Acquire", "(*internal/sync.Mutex).lockSlow", "internal/sync.runtime_canSpin", "internal/sync.runtime_doSpin", "internal/sync.throw", "internal/sync.runtime_nanotime", "internal/sync.runtime_SemacquireMutex", "sync/atomic.AddInt32", "(*internal/sync.Mutex).Unlock", "internal/race.ReleaseMerge", "(*internal/sync.Mutex).unlockSlow", "internal/sync.fatal", "internal/sync.runtime_Semrelease", "sync/atomic.StoreUint32", "math.Float64bits", "math.Float64frombits", "internal/bytealg.MakeNoZero"], unfollowed := true, recurses := true, plainKeys := false, apart := false }
def TopOutSaid : Prop := topOutRow.holds Tryz.pinned (OpenSpec.ofChange topOutSpec)

/-- ITS FALSE NEIGHBOUR: 'it returns false'. Refute it at one input. -/
def topOutWrong : ChangeSpec := { name := "topOut", fn := fun _ => fun
  | [d1, d2, d3] => { results := [.lit (.bool false)], args := [d1, d2, d3] }
  | _ => none }
def TopOutWrongFalsely : Prop := topOutRow.holds Tryz.pinned (OpenSpec.ofChange topOutWrong)

/-- 'palanquintop.TopAsked': WHATEVER THE INPUT: true; the input reads as it did. -/
def topAskedSpec : ChangeSpec := { name := "topAsked", fn := fun _ => fun
  | [d1, d2, d3] => { results := [.lit (.bool true)], args := [d1, d2, d3] }
  | _ => none }
def topAskedRow : OpenClaim := { program := "ytjabaappgopdmaagreat", sum := "96a71b85d90ee897b8b8152a88675fa0c53eb26e9c71cb6d45209a875932d7aa", func := "palanquin/palanquintop.TopAsked", spec := "topAsked", inPlace := ["sync/atomic.AddInt64", "sync/atomic.LoadUint32", "(*internal/sync.Mutex).Lock", "internal/race.Disable", "sync/atomic.CompareAndSwapInt32", "internal/race.Enable", "internal/race.Acquire", "(*internal/sync.Mutex).lockSlow", "internal/sync.runtime_canSpin", "internal/sync.runtime_doSpin", "internal/sync.throw", "internal/sync.runtime_nanotime", "internal/sync.runtime_SemacquireMutex", "sync/atomic.AddInt32", "(*internal/sync.Mutex).Unlock", "internal/race.ReleaseMerge", "(*internal/sync.Mutex).unlockSlow", "internal/sync.fatal", "internal/sync.runtime_Semrelease", "sync/atomic.StoreUint32", "math.Float64bits", "math.Float64frombits", "internal/bytealg.MakeNoZero"], unfollowed := true, recurses := true, plainKeys := false, apart := false }
def TopAskedSaid : Prop := topAskedRow.holds Tryz.pinned (OpenSpec.ofChange topAskedSpec)

/-- ITS FALSE NEIGHBOUR: 'it returns false'. Refute it at one input. -/
def topAskedWrong : ChangeSpec := { name := "topAsked", fn := fun _ => fun
  | [d1, d2, d3] => { results := [.lit (.bool false)], args := [d1, d2, d3] }
  | _ => none }
def TopAskedWrongFalsely : Prop := topAskedRow.holds Tryz.pinned (OpenSpec.ofChange topAskedWrong)

/-- 'palanquinlaw29.WorldAll': WHATEVER THE INPUT: true; the input reads as it did. -/
def worldAllSpec : ChangeSpec := { name := "worldAll", fn := fun _ => fun
  | [d1, d2, d3] => { results := [.lit (.bool true)], args := [d1, d2, d3] }
  | _ => none }
def worldAllRow : OpenClaim := { program := "ytjabaappgopdmaagreat", sum := "96a71b85d90ee897b8b8152a88675fa0c53eb26e9c71cb6d45209a875932d7aa", func := "palanquin/palanquinlaw29.WorldAll", spec := "worldAll", inPlace := ["sync/atomic.LoadUint32", "(*internal/sync.Mutex).Lock", "internal/race.Disable", "sync/atomic.CompareAndSwapInt32", "internal/race.Enable", "internal/race.Acquire", "(*internal/sync.Mutex).lockSlow", "internal/sync.runtime_canSpin", "internal/sync.runtime_doSpin", "internal/sync.throw", "internal/sync.runtime_nanotime", "internal/sync.runtime_SemacquireMutex", "sync/atomic.AddInt32", "(*internal/sync.Mutex).Unlock", "internal/race.ReleaseMerge", "(*internal/sync.Mutex).unlockSlow", "internal/sync.fatal", "internal/sync.runtime_Semrelease", "sync/atomic.StoreUint32", "math.Float64bits", "math.Float64frombits", "internal/bytealg.MakeNoZero", "sync/atomic.AddInt64"], unfollowed := true, recurses := true, plainKeys := false, apart := false }
def WorldAllSaid : Prop := worldAllRow.holds Tryz.pinned (OpenSpec.ofChange worldAllSpec)

/-- ITS FALSE NEIGHBOUR: 'it returns false'. Refute it at one input. -/
def worldAllWrong : ChangeSpec := { name := "worldAll", fn := fun _ => fun
  | [d1, d2, d3] => { results := [.lit (.bool false)], args := [d1, d2, d3] }
  | _ => none }
def WorldAllWrongFalsely : Prop := worldAllRow.holds Tryz.pinned (OpenSpec.ofChange worldAllWrong)

/-- 'palanquinlaw29.WorldLate': WHATEVER THE INPUT: true; the input reads as it did. -/
def worldLateSpec : ChangeSpec := { name := "worldLate", fn := fun _ => fun
  | [d1, d2] => { results := [.lit (.bool true)], args := [d1, d2] }
  | _ => none }
def worldLateRow : OpenClaim := { program := "ytjabaappgopdmaagreat", sum := "96a71b85d90ee897b8b8152a88675fa0c53eb26e9c71cb6d45209a875932d7aa", func := "palanquin/palanquinlaw29.WorldLate", spec := "worldLate", inPlace := ["sync/atomic.LoadUint32", "(*internal/sync.Mutex).Lock", "internal/race.Disable", "sync/atomic.CompareAndSwapInt32", "internal/race.Enable", "internal/race.Acquire", "(*internal/sync.Mutex).lockSlow", "internal/sync.runtime_canSpin", "internal/sync.runtime_doSpin", "internal/sync.throw", "internal/sync.runtime_nanotime", "internal/sync.runtime_SemacquireMutex", "sync/atomic.AddInt32", "(*internal/sync.Mutex).Unlock", "internal/race.ReleaseMerge", "(*internal/sync.Mutex).unlockSlow", "internal/sync.fatal", "internal/sync.runtime_Semrelease", "sync/atomic.StoreUint32", "math.Float64bits", "math.Float64frombits", "internal/bytealg.MakeNoZero", "sync/atomic.AddInt64"], unfollowed := true, recurses := true, plainKeys := false, apart := false }
def WorldLateSaid : Prop := worldLateRow.holds Tryz.pinned (OpenSpec.ofChange worldLateSpec)

/-- ITS FALSE NEIGHBOUR: 'it returns false'. Refute it at one input. -/
def worldLateWrong : ChangeSpec := { name := "worldLate", fn := fun _ => fun
  | [d1, d2] => { results := [.lit (.bool false)], args := [d1, d2] }
  | _ => none }
def WorldLateWrongFalsely : Prop := worldLateRow.holds Tryz.pinned (OpenSpec.ofChange worldLateWrong)

/- THE SECOND FORM. 'bulk': how many values and letters a reading holds, each counted each time it is reached (what is shared counts as often as it is met; a slice's spare places count too). A statement '..UptoSaid' is the law's where the arguments, and the package variables that the reading takes, are together of bulk at most 1048576: NARROWER than '..Said'. Prove '..Said' where nothing that the law and all that it calls make is longer than what came in: it says more and counts as full. Else prove '..UptoSaid'. A law counts once. -/
mutual
def uptoBulk {H : Type} : DataW H → Nat
  | .lit (.string bytes) => bytes.length + 1
  | .lit _ => 1
  | .nil => 1
  | .ptr d => uptoBulk d + 1
  | .slice elems spare => uptoBulkAll elems + uptoBulkAll spare + 1
  | .agg parts => uptoBulkAll parts + 1
  | .iface _ d => uptoBulk d + 1
  | .map entries => uptoBulkEntries entries + 1
  | .held _ => 1
def uptoBulkAll {H : Type} : List (DataW H) → Nat
  | [] => 0
  | d :: r => uptoBulk d + uptoBulkAll r
def uptoBulkEntries {H : Type} : List (Lit × DataW H) → Nat
  | [] => 0
  | x :: r => uptoBulkEntry x + uptoBulkEntries r
def uptoBulkEntry {H : Type} : Lit × DataW H → Nat
  | (.string bytes, d) => bytes.length + uptoBulk d + 1
  | (_, d) => uptoBulk d + 1
 end
def uptoSmall : (H : Type) → List (DataW H) → Bool := fun _ ds => decide (uptoBulkAll ds ≤ 1048576)
def OpenSpec.upto (s : _root_.Go.ChangeSpec) : _root_.Go.OpenSpec := { _root_.Go.OpenSpec.ofChange s with cond := some uptoSmall }

/-- 'palanquinlaw29.WorldKnown', WHERE WHAT IT READS IS OF BULK AT MOST 1048576: true; the input reads as it did. -/
def worldKnownUptoRow : OpenClaim := { program := "ytjabaappgopdmaagreat", sum := "96a71b85d90ee897b8b8152a88675fa0c53eb26e9c71cb6d45209a875932d7aa", func := "palanquin/palanquinlaw29.WorldKnown", spec := "worldKnown", inPlace := ["sync/atomic.LoadUint32", "(*internal/sync.Mutex).Lock", "internal/race.Disable", "sync/atomic.CompareAndSwapInt32", "internal/race.Enable", "internal/race.Acquire", "(*internal/sync.Mutex).lockSlow", "internal/sync.runtime_canSpin", "internal/sync.runtime_doSpin", "internal/sync.throw", "internal/sync.runtime_nanotime", "internal/sync.runtime_SemacquireMutex", "sync/atomic.AddInt32", "(*internal/sync.Mutex).Unlock", "internal/race.ReleaseMerge", "(*internal/sync.Mutex).unlockSlow", "internal/sync.fatal", "internal/sync.runtime_Semrelease", "sync/atomic.StoreUint32", "math.Float64bits", "math.Float64frombits", "internal/bytealg.MakeNoZero", "sync/atomic.AddInt64"], unfollowed := true, recurses := true, plainKeys := false, apart := false, narrowed := true }
def WorldKnownUptoSaid : Prop := worldKnownUptoRow.holds Tryz.pinned (OpenSpec.upto worldKnownSpec)

/-- 'palanquintop.TopOut', WHERE WHAT IT READS IS OF BULK AT MOST 1048576: true; the input reads as it did. -/
def topOutUptoRow : OpenClaim := { program := "ytjabaappgopdmaagreat", sum := "96a71b85d90ee897b8b8152a88675fa0c53eb26e9c71cb6d45209a875932d7aa", func := "palanquin/palanquintop.TopOut", spec := "topOut", inPlace := ["sync/atomic.AddInt64", "sync/atomic.LoadUint32", "(*internal/sync.Mutex).Lock", "internal/race.Disable", "sync/atomic.CompareAndSwapInt32", "internal/race.Enable", "internal/race.Acquire", "(*internal/sync.Mutex).lockSlow", "internal/sync.runtime_canSpin", "internal/sync.runtime_doSpin", "internal/sync.throw", "internal/sync.runtime_nanotime", "internal/sync.runtime_SemacquireMutex", "sync/atomic.AddInt32", "(*internal/sync.Mutex).Unlock", "internal/race.ReleaseMerge", "(*internal/sync.Mutex).unlockSlow", "internal/sync.fatal", "internal/sync.runtime_Semrelease", "sync/atomic.StoreUint32", "math.Float64bits", "math.Float64frombits", "internal/bytealg.MakeNoZero"], unfollowed := true, recurses := true, plainKeys := false, apart := false, narrowed := true }
def TopOutUptoSaid : Prop := topOutUptoRow.holds Tryz.pinned (OpenSpec.upto topOutSpec)

/-- 'palanquintop.TopAsked', WHERE WHAT IT READS IS OF BULK AT MOST 1048576: true; the input reads as it did. -/
def topAskedUptoRow : OpenClaim := { program := "ytjabaappgopdmaagreat", sum := "96a71b85d90ee897b8b8152a88675fa0c53eb26e9c71cb6d45209a875932d7aa", func := "palanquin/palanquintop.TopAsked", spec := "topAsked", inPlace := ["sync/atomic.AddInt64", "sync/atomic.LoadUint32", "(*internal/sync.Mutex).Lock", "internal/race.Disable", "sync/atomic.CompareAndSwapInt32", "internal/race.Enable", "internal/race.Acquire", "(*internal/sync.Mutex).lockSlow", "internal/sync.runtime_canSpin", "internal/sync.runtime_doSpin", "internal/sync.throw", "internal/sync.runtime_nanotime", "internal/sync.runtime_SemacquireMutex", "sync/atomic.AddInt32", "(*internal/sync.Mutex).Unlock", "internal/race.ReleaseMerge", "(*internal/sync.Mutex).unlockSlow", "internal/sync.fatal", "internal/sync.runtime_Semrelease", "sync/atomic.StoreUint32", "math.Float64bits", "math.Float64frombits", "internal/bytealg.MakeNoZero"], unfollowed := true, recurses := true, plainKeys := false, apart := false, narrowed := true }
def TopAskedUptoSaid : Prop := topAskedUptoRow.holds Tryz.pinned (OpenSpec.upto topAskedSpec)

/-- 'palanquinlaw29.WorldAll', WHERE WHAT IT READS IS OF BULK AT MOST 1048576: true; the input reads as it did. -/
def worldAllUptoRow : OpenClaim := { program := "ytjabaappgopdmaagreat", sum := "96a71b85d90ee897b8b8152a88675fa0c53eb26e9c71cb6d45209a875932d7aa", func := "palanquin/palanquinlaw29.WorldAll", spec := "worldAll", inPlace := ["sync/atomic.LoadUint32", "(*internal/sync.Mutex).Lock", "internal/race.Disable", "sync/atomic.CompareAndSwapInt32", "internal/race.Enable", "internal/race.Acquire", "(*internal/sync.Mutex).lockSlow", "internal/sync.runtime_canSpin", "internal/sync.runtime_doSpin", "internal/sync.throw", "internal/sync.runtime_nanotime", "internal/sync.runtime_SemacquireMutex", "sync/atomic.AddInt32", "(*internal/sync.Mutex).Unlock", "internal/race.ReleaseMerge", "(*internal/sync.Mutex).unlockSlow", "internal/sync.fatal", "internal/sync.runtime_Semrelease", "sync/atomic.StoreUint32", "math.Float64bits", "math.Float64frombits", "internal/bytealg.MakeNoZero", "sync/atomic.AddInt64"], unfollowed := true, recurses := true, plainKeys := false, apart := false, narrowed := true }
def WorldAllUptoSaid : Prop := worldAllUptoRow.holds Tryz.pinned (OpenSpec.upto worldAllSpec)

/-- 'palanquinlaw29.WorldLate', WHERE WHAT IT READS IS OF BULK AT MOST 1048576: true; the input reads as it did. -/
def worldLateUptoRow : OpenClaim := { program := "ytjabaappgopdmaagreat", sum := "96a71b85d90ee897b8b8152a88675fa0c53eb26e9c71cb6d45209a875932d7aa", func := "palanquin/palanquinlaw29.WorldLate", spec := "worldLate", inPlace := ["sync/atomic.LoadUint32", "(*internal/sync.Mutex).Lock", "internal/race.Disable", "sync/atomic.CompareAndSwapInt32", "internal/race.Enable", "internal/race.Acquire", "(*internal/sync.Mutex).lockSlow", "internal/sync.runtime_canSpin", "internal/sync.runtime_doSpin", "internal/sync.throw", "internal/sync.runtime_nanotime", "internal/sync.runtime_SemacquireMutex", "sync/atomic.AddInt32", "(*internal/sync.Mutex).Unlock", "internal/race.ReleaseMerge", "(*internal/sync.Mutex).unlockSlow", "internal/sync.fatal", "internal/sync.runtime_Semrelease", "sync/atomic.StoreUint32", "math.Float64bits", "math.Float64frombits", "internal/bytealg.MakeNoZero", "sync/atomic.AddInt64"], unfollowed := true, recurses := true, plainKeys := false, apart := false, narrowed := true }
def WorldLateUptoSaid : Prop := worldLateUptoRow.holds Tryz.pinned (OpenSpec.upto worldLateSpec)

end Rows
end Go.Proofs.YtjabaappgopdmaaGreat
