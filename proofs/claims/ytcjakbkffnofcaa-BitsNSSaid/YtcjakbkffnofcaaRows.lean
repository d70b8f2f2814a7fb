/-
  No cell of these rows narrows 'for every input' (looked for: loops, veiled, ifaces, maps, wideKeys, modest, calm, conditions, laid).
  DERIVED. THE GIVEN ROWS OF THIS SEAT. 11 by the template 'for every input the law returns true; each argument reads behind the call as it read before'; 0 by the template 'total and deterministic' (their statements: YtcjakbkffnofcaaTotals.lean).
  GIVEN WITH THE SEED: the statements are not yours to turn. If you find one false, say at which input.
  Laid BY PROGRAM, IN A SANDBOX (cutbox-rows.mjs): the forced cells as the released guide's own fill.sh prints them over the translation 4604a8e41a129734… (all of the seat's roots in one cut). By AI agents, Wed Nov 11 2026. No macro, syntax, notation, axiom, sorry.
-/
import Derived.Test.YtcjakbkffnofcaaChecked
import GoSem.Claim
import GoSem.ClaimJoined
import GoSem.ClaimMapViews
import Derived.JoinedTies
import Derived.KernelRfl
namespace Go.Proofs.Ytcjakbkffnofcaa
/- THE CELL 'sum', in the pinned program and in every row, IS THE sha256 OF THE DUMP (.gsa) THAT YtcjakbkffnofcaaProg.lean LOADS. Nothing in Lean hashes anything: it is a label: what it is worth is what the hold of that sum in a sandbox is worth. -/
noncomputable def Try.pinned : Pinned := { name := "ytcjakbkffnofcaa", sum := "4604a8e41a129734486400f8af846c76fbbb1d218345e4f8089f7c03600167d8", checked := Try.checked }
namespace Rows
def none {H : Type} : Left H := { results := [], args := [] }

/-- 'palanquinlaw6.BitsSays': WHATEVER THE INPUT: true; the input reads as it did. -/
def bitsSaysSpec : ChangeSpec := { name := "bitsSays", fn := fun _ => fun
  | [d] => { results := [.lit (.bool true)], args := [d] }
  | _ => none }
def bitsSaysRow : OpenClaim := { program := "ytcjakbkffnofcaa", sum := "4604a8e41a129734486400f8af846c76fbbb1d218345e4f8089f7c03600167d8", func := "palanquin/palanquinlaw6.BitsSays", spec := "bitsSays", apart := false }
def BitsSaysSaid : Prop := bitsSaysRow.holds Try.pinned (OpenSpec.ofChange bitsSaysSpec)

/-- ITS FALSE NEIGHBOUR: 'it returns false'. Refute it at one input. -/
def bitsSaysWrong : ChangeSpec := { name := "bitsSays", fn := fun _ => fun
  | [d] => { results := [.lit (.bool false)], args := [d] }
  | _ => none }
def BitsSaysWrongFalsely : Prop := bitsSaysRow.holds Try.pinned (OpenSpec.ofChange bitsSaysWrong)

/-- 'palanquinlaw6.BitsNS': WHATEVER THE INPUT: true; the input reads as it did. -/
def bitsNSSpec : ChangeSpec := { name := "bitsNS", fn := fun _ => fun
  | [d1, d2, d3] => { results := [.lit (.bool true)], args := [d1, d2, d3] }
  | _ => none }
def bitsNSRow : OpenClaim := { program := "ytcjakbkffnofcaa", sum := "4604a8e41a129734486400f8af846c76fbbb1d218345e4f8089f7c03600167d8", func := "palanquin/palanquinlaw6.BitsNS", spec := "bitsNS", apart := false }
def BitsNSSaid : Prop := bitsNSRow.holds Try.pinned (OpenSpec.ofChange bitsNSSpec)

/-- ITS FALSE NEIGHBOUR: 'it returns false'. Refute it at one input. -/
def bitsNSWrong : ChangeSpec := { name := "bitsNS", fn := fun _ => fun
  | [d1, d2, d3] => { results := [.lit (.bool false)], args := [d1, d2, d3] }
  | _ => none }
def BitsNSWrongFalsely : Prop := bitsNSRow.holds Try.pinned (OpenSpec.ofChange bitsNSWrong)

/-- 'palanquinlaw6.BitsTakes': WHATEVER THE INPUT: true; the input reads as it did. -/
def bitsTakesSpec : ChangeSpec := { name := "bitsTakes", fn := fun _ => fun
  | [d1, d2] => { results := [.lit (.bool true)], args := [d1, d2] }
  | _ => none }
def bitsTakesRow : OpenClaim := { program := "ytcjakbkffnofcaa", sum := "4604a8e41a129734486400f8af846c76fbbb1d218345e4f8089f7c03600167d8", func := "palanquin/palanquinlaw6.BitsTakes", spec := "bitsTakes", apart := false }
def BitsTakesSaid : Prop := bitsTakesRow.holds Try.pinned (OpenSpec.ofChange bitsTakesSpec)

/-- ITS FALSE NEIGHBOUR: 'it returns false'. Refute it at one input. -/
def bitsTakesWrong : ChangeSpec := { name := "bitsTakes", fn := fun _ => fun
  | [d1, d2] => { results := [.lit (.bool false)], args := [d1, d2] }
  | _ => none }
def BitsTakesWrongFalsely : Prop := bitsTakesRow.holds Try.pinned (OpenSpec.ofChange bitsTakesWrong)

/-- 'palanquinlaw6.BitsKnown': WHATEVER THE INPUT: true; the input reads as it did. -/
def bitsKnownSpec : ChangeSpec := { name := "bitsKnown", fn := fun _ => fun
  | [] => { results := [.lit (.bool true)], args := [] }
  | _ => none }
def bitsKnownRow : OpenClaim := { program := "ytcjakbkffnofcaa", sum := "4604a8e41a129734486400f8af846c76fbbb1d218345e4f8089f7c03600167d8", func := "palanquin/palanquinlaw6.BitsKnown", spec := "bitsKnown", apart := false }
def BitsKnownSaid : Prop := bitsKnownRow.holds Try.pinned (OpenSpec.ofChange bitsKnownSpec)

/-- ITS FALSE NEIGHBOUR: 'it returns false'. Refute it at one input. -/
def bitsKnownWrong : ChangeSpec := { name := "bitsKnown", fn := fun _ => fun
  | [] => { results := [.lit (.bool false)], args := [] }
  | _ => none }
def BitsKnownWrongFalsely : Prop := bitsKnownRow.holds Try.pinned (OpenSpec.ofChange bitsKnownWrong)

/-- 'palanquinlaw6.BitsBack': WHATEVER THE INPUT: true; the input reads as it did. -/
def bitsBackSpec : ChangeSpec := { name := "bitsBack", fn := fun _ => fun
  | [d] => { results := [.lit (.bool true)], args := [d] }
  | _ => none }
def bitsBackRow : OpenClaim := { program := "ytcjakbkffnofcaa", sum := "4604a8e41a129734486400f8af846c76fbbb1d218345e4f8089f7c03600167d8", func := "palanquin/palanquinlaw6.BitsBack", spec := "bitsBack", apart := false }
def BitsBackSaid : Prop := bitsBackRow.holds Try.pinned (OpenSpec.ofChange bitsBackSpec)

/-- ITS FALSE NEIGHBOUR: 'it returns false'. Refute it at one input. -/
def bitsBackWrong : ChangeSpec := { name := "bitsBack", fn := fun _ => fun
  | [d] => { results := [.lit (.bool false)], args := [d] }
  | _ => none }
def BitsBackWrongFalsely : Prop := bitsBackRow.holds Try.pinned (OpenSpec.ofChange bitsBackWrong)

/-- 'palanquinlaw9.DependSays': WHATEVER THE INPUT: true; the input reads as it did. -/
def dependSaysSpec : ChangeSpec := { name := "dependSays", fn := fun _ => fun
  | [d1, d2] => { results := [.lit (.bool true)], args := [d1, d2] }
  | _ => none }
def dependSaysRow : OpenClaim := { program := "ytcjakbkffnofcaa", sum := "4604a8e41a129734486400f8af846c76fbbb1d218345e4f8089f7c03600167d8", func := "palanquin/palanquinlaw9.DependSays", spec := "dependSays", unfollowed := true, recurses := true, apart := false }
def DependSaysSaid : Prop := dependSaysRow.holds Try.pinned (OpenSpec.ofChange dependSaysSpec)

/-- ITS FALSE NEIGHBOUR: 'it returns false'. Refute it at one input. -/
def dependSaysWrong : ChangeSpec := { name := "dependSays", fn := fun _ => fun
  | [d1, d2] => { results := [.lit (.bool false)], args := [d1, d2] }
  | _ => none }
def DependSaysWrongFalsely : Prop := dependSaysRow.holds Try.pinned (OpenSpec.ofChange dependSaysWrong)

/-- 'palanquinlaw9.DependLayers': WHATEVER THE INPUT: true; the input reads as it did. -/
def dependLayersSpec : ChangeSpec := { name := "dependLayers", fn := fun _ => fun
  | [d1, d2] => { results := [.lit (.bool true)], args := [d1, d2] }
  | _ => none }
def dependLayersRow : OpenClaim := { program := "ytcjakbkffnofcaa", sum := "4604a8e41a129734486400f8af846c76fbbb1d218345e4f8089f7c03600167d8", func := "palanquin/palanquinlaw9.DependLayers", spec := "dependLayers", unfollowed := true, recurses := true, apart := false }
def DependLayersSaid : Prop := dependLayersRow.holds Try.pinned (OpenSpec.ofChange dependLayersSpec)

/-- ITS FALSE NEIGHBOUR: 'it returns false'. Refute it at one input. -/
def dependLayersWrong : ChangeSpec := { name := "dependLayers", fn := fun _ => fun
  | [d1, d2] => { results := [.lit (.bool false)], args := [d1, d2] }
  | _ => none }
def DependLayersWrongFalsely : Prop := dependLayersRow.holds Try.pinned (OpenSpec.ofChange dependLayersWrong)

/-- 'palanquinlaw9.DependReads': WHATEVER THE INPUT: true; the input reads as it did. -/
def dependReadsSpec : ChangeSpec := { name := "dependReads", fn := fun _ => fun
  | [d1, d2] => { results := [.lit (.bool true)], args := [d1, d2] }
  | _ => none }
def dependReadsRow : OpenClaim := { program := "ytcjakbkffnofcaa", sum := "4604a8e41a129734486400f8af846c76fbbb1d218345e4f8089f7c03600167d8", func := "palanquin/palanquinlaw9.DependReads", spec := "dependReads", unfollowed := true, recurses := true, apart := false }
def DependReadsSaid : Prop := dependReadsRow.holds Try.pinned (OpenSpec.ofChange dependReadsSpec)

/-- ITS FALSE NEIGHBOUR: 'it returns false'. Refute it at one input. -/
def dependReadsWrong : ChangeSpec := { name := "dependReads", fn := fun _ => fun
  | [d1, d2] => { results := [.lit (.bool false)], args := [d1, d2] }
  | _ => none }
def DependReadsWrongFalsely : Prop := dependReadsRow.holds Try.pinned (OpenSpec.ofChange dependReadsWrong)

/-- 'palanquinlaw9.DependBack': WHATEVER THE INPUT: true; the input reads as it did. -/
def dependBackSpec : ChangeSpec := { name := "dependBack", fn := fun _ => fun
  | [d1, d2, d3] => { results := [.lit (.bool true)], args := [d1, d2, d3] }
  | _ => none }
def dependBackRow : OpenClaim := { program := "ytcjakbkffnofcaa", sum := "4604a8e41a129734486400f8af846c76fbbb1d218345e4f8089f7c03600167d8", func := "palanquin/palanquinlaw9.DependBack", spec := "dependBack", unfollowed := true, recurses := true, apart := false }
def DependBackSaid : Prop := dependBackRow.holds Try.pinned (OpenSpec.ofChange dependBackSpec)

/-- ITS FALSE NEIGHBOUR: 'it returns false'. Refute it at one input. -/
def dependBackWrong : ChangeSpec := { name := "dependBack", fn := fun _ => fun
  | [d1, d2, d3] => { results := [.lit (.bool false)], args := [d1, d2, d3] }
  | _ => none }
def DependBackWrongFalsely : Prop := dependBackRow.holds Try.pinned (OpenSpec.ofChange dependBackWrong)

/-- 'palanquinlaw9.DependNumber': WHATEVER THE INPUT: true; the input reads as it did. -/
def dependNumberSpec : ChangeSpec := { name := "dependNumber", fn := fun _ => fun
  | [d1, d2, d3] => { results := [.lit (.bool true)], args := [d1, d2, d3] }
  | _ => none }
def dependNumberRow : OpenClaim := { program := "ytcjakbkffnofcaa", sum := "4604a8e41a129734486400f8af846c76fbbb1d218345e4f8089f7c03600167d8", func := "palanquin/palanquinlaw9.DependNumber", spec := "dependNumber", unfollowed := true, recurses := true, apart := false }
def DependNumberSaid : Prop := dependNumberRow.holds Try.pinned (OpenSpec.ofChange dependNumberSpec)

/-- ITS FALSE NEIGHBOUR: 'it returns false'. Refute it at one input. -/
def dependNumberWrong : ChangeSpec := { name := "dependNumber", fn := fun _ => fun
  | [d1, d2, d3] => { results := [.lit (.bool false)], args := [d1, d2, d3] }
  | _ => none }
def DependNumberWrongFalsely : Prop := dependNumberRow.holds Try.pinned (OpenSpec.ofChange dependNumberWrong)

/-- 'palanquinlaw9.DependKnown': WHATEVER THE INPUT: true; the input reads as it did. -/
def dependKnownSpec : ChangeSpec := { name := "dependKnown", fn := fun _ => fun
  | [] => { results := [.lit (.bool true)], args := [] }
  | _ => none }
def dependKnownRow : OpenClaim := { program := "ytcjakbkffnofcaa", sum := "4604a8e41a129734486400f8af846c76fbbb1d218345e4f8089f7c03600167d8", func := "palanquin/palanquinlaw9.DependKnown", spec := "dependKnown", unfollowed := true, recurses := true, apart := false }
def DependKnownSaid : Prop := dependKnownRow.holds Try.pinned (OpenSpec.ofChange dependKnownSpec)

/-- ITS FALSE NEIGHBOUR: 'it returns false'. Refute it at one input. -/
def dependKnownWrong : ChangeSpec := { name := "dependKnown", fn := fun _ => fun
  | [] => { results := [.lit (.bool false)], args := [] }
  | _ => none }
def DependKnownWrongFalsely : Prop := dependKnownRow.holds Try.pinned (OpenSpec.ofChange dependKnownWrong)

/- THE SECOND FORM. 'bulk': how many values and letters a reading holds, each counted each time it is reached (what is shared counts as often as it is met; a slice's spare places count too). A statement '..UptoSaid' is the law's where the arguments, and the package variables that the reading takes, are together of bulk at most 1048576: NARROWER than '..Said'. Prove '..Said' where nothing that the law and all that it calls make is longer than what came in: it says more and counts as full. Else prove '..UptoSaid'. A law counts once. -/
mutual
def uptoBulk {H : Type} : DataW H → Nat
  | .lit (.string bytes) => bytes.length + 1
  | .lit _ => 1
  | .nil => 1
  | .ptr d => uptoBulk d + 1
  | .slice elems spare => uptoBulkAll elems + uptoBulkAll spare + 1
  | .agg parts => uptoBulkAll parts + 1
  | .iface _ d => uptoBulk d + 1
  | .map entries => uptoBulkEntries entries + 1
  | .held _ => 1
def uptoBulkAll {H : Type} : List (DataW H) → Nat
  | [] => 0
  | d :: r => uptoBulk d + uptoBulkAll r
def uptoBulkEntries {H : Type} : List (Lit × DataW H) → Nat
  | [] => 0
  | x :: r => uptoBulkEntry x + uptoBulkEntries r
def uptoBulkEntry {H : Type} : Lit × DataW H → Nat
  | (.string bytes, d) => bytes.length + uptoBulk d + 1
  | (_, d) => uptoBulk d + 1
 end
def uptoSmall : (H : Type) → List (DataW H) → Bool := fun _ ds => decide (uptoBulkAll ds ≤ 1048576)
def OpenSpec.upto (s : _root_.Go.ChangeSpec) : _root_.Go.OpenSpec := { _root_.Go.OpenSpec.ofChange s with cond := some uptoSmall }

/-- 'palanquinlaw6.BitsSays', WHERE WHAT IT READS IS OF BULK AT MOST 1048576: true; the input reads as it did. -/
def bitsSaysUptoRow : OpenClaim := { program := "ytcjakbkffnofcaa", sum := "4604a8e41a129734486400f8af846c76fbbb1d218345e4f8089f7c03600167d8", func := "palanquin/palanquinlaw6.BitsSays", spec := "bitsSays", apart := false, narrowed := true }
def BitsSaysUptoSaid : Prop := bitsSaysUptoRow.holds Try.pinned (OpenSpec.upto bitsSaysSpec)

/-- 'palanquinlaw6.BitsNS', WHERE WHAT IT READS IS OF BULK AT MOST 1048576: true; the input reads as it did. -/
def bitsNSUptoRow : OpenClaim := { program := "ytcjakbkffnofcaa", sum := "4604a8e41a129734486400f8af846c76fbbb1d218345e4f8089f7c03600167d8", func := "palanquin/palanquinlaw6.BitsNS", spec := "bitsNS", apart := false, narrowed := true }
def BitsNSUptoSaid : Prop := bitsNSUptoRow.holds Try.pinned (OpenSpec.upto bitsNSSpec)

/-- 'palanquinlaw6.BitsTakes', WHERE WHAT IT READS IS OF BULK AT MOST 1048576: true; the input reads as it did. -/
def bitsTakesUptoRow : OpenClaim := { program := "ytcjakbkffnofcaa", sum := "4604a8e41a129734486400f8af846c76fbbb1d218345e4f8089f7c03600167d8", func := "palanquin/palanquinlaw6.BitsTakes", spec := "bitsTakes", apart := false, narrowed := true }
def BitsTakesUptoSaid : Prop := bitsTakesUptoRow.holds Try.pinned (OpenSpec.upto bitsTakesSpec)

/-- 'palanquinlaw6.BitsKnown', WHERE WHAT IT READS IS OF BULK AT MOST 1048576: true; the input reads as it did. -/
def bitsKnownUptoRow : OpenClaim := { program := "ytcjakbkffnofcaa", sum := "4604a8e41a129734486400f8af846c76fbbb1d218345e4f8089f7c03600167d8", func := "palanquin/palanquinlaw6.BitsKnown", spec := "bitsKnown", apart := false, narrowed := true }
def BitsKnownUptoSaid : Prop := bitsKnownUptoRow.holds Try.pinned (OpenSpec.upto bitsKnownSpec)

/-- 'palanquinlaw6.BitsBack', WHERE WHAT IT READS IS OF BULK AT MOST 1048576: true; the input reads as it did. -/
def bitsBackUptoRow : OpenClaim := { program := "ytcjakbkffnofcaa", sum := "4604a8e41a129734486400f8af846c76fbbb1d218345e4f8089f7c03600167d8", func := "palanquin/palanquinlaw6.BitsBack", spec := "bitsBack", apart := false, narrowed := true }
def BitsBackUptoSaid : Prop := bitsBackUptoRow.holds Try.pinned (OpenSpec.upto bitsBackSpec)

/-- 'palanquinlaw9.DependSays', WHERE WHAT IT READS IS OF BULK AT MOST 1048576: true; the input reads as it did. -/
def dependSaysUptoRow : OpenClaim := { program := "ytcjakbkffnofcaa", sum := "4604a8e41a129734486400f8af846c76fbbb1d218345e4f8089f7c03600167d8", func := "palanquin/palanquinlaw9.DependSays", spec := "dependSays", unfollowed := true, recurses := true, apart := false, narrowed := true }
def DependSaysUptoSaid : Prop := dependSaysUptoRow.holds Try.pinned (OpenSpec.upto dependSaysSpec)

/-- 'palanquinlaw9.DependLayers', WHERE WHAT IT READS IS OF BULK AT MOST 1048576: true; the input reads as it did. -/
def dependLayersUptoRow : OpenClaim := { program := "ytcjakbkffnofcaa", sum := "4604a8e41a129734486400f8af846c76fbbb1d218345e4f8089f7c03600167d8", func := "palanquin/palanquinlaw9.DependLayers", spec := "dependLayers", unfollowed := true, recurses := true, apart := false, narrowed := true }
def DependLayersUptoSaid : Prop := dependLayersUptoRow.holds Try.pinned (OpenSpec.upto dependLayersSpec)

/-- 'palanquinlaw9.DependReads', WHERE WHAT IT READS IS OF BULK AT MOST 1048576: true; the input reads as it did. -/
def dependReadsUptoRow : OpenClaim := { program := "ytcjakbkffnofcaa", sum := "4604a8e41a129734486400f8af846c76fbbb1d218345e4f8089f7c03600167d8", func := "palanquin/palanquinlaw9.DependReads", spec := "dependReads", unfollowed := true, recurses := true, apart := false, narrowed := true }
def DependReadsUptoSaid : Prop := dependReadsUptoRow.holds Try.pinned (OpenSpec.upto dependReadsSpec)

/-- 'palanquinlaw9.DependBack', WHERE WHAT IT READS IS OF BULK AT MOST 1048576: true; the input reads as it did. -/
def dependBackUptoRow : OpenClaim := { program := "ytcjakbkffnofcaa", sum := "4604a8e41a129734486400f8af846c76fbbb1d218345e4f8089f7c03600167d8", func := "palanquin/palanquinlaw9.DependBack", spec := "dependBack", unfollowed := true, recurses := true, apart := false, narrowed := true }
def DependBackUptoSaid : Prop := dependBackUptoRow.holds Try.pinned (OpenSpec.upto dependBackSpec)

/-- 'palanquinlaw9.DependNumber', WHERE WHAT IT READS IS OF BULK AT MOST 1048576: true; the input reads as it did. -/
def dependNumberUptoRow : OpenClaim := { program := "ytcjakbkffnofcaa", sum := "4604a8e41a129734486400f8af846c76fbbb1d218345e4f8089f7c03600167d8", func := "palanquin/palanquinlaw9.DependNumber", spec := "dependNumber", unfollowed := true, recurses := true, apart := false, narrowed := true }
def DependNumberUptoSaid : Prop := dependNumberUptoRow.holds Try.pinned (OpenSpec.upto dependNumberSpec)

/-- 'palanquinlaw9.DependKnown', WHERE WHAT IT READS IS OF BULK AT MOST 1048576: true; the input reads as it did. -/
def dependKnownUptoRow : OpenClaim := { program := "ytcjakbkffnofcaa", sum := "4604a8e41a129734486400f8af846c76fbbb1d218345e4f8089f7c03600167d8", func := "palanquin/palanquinlaw9.DependKnown", spec := "dependKnown", unfollowed := true, recurses := true, apart := false, narrowed := true }
def DependKnownUptoSaid : Prop := dependKnownUptoRow.holds Try.pinned (OpenSpec.upto dependKnownSpec)

end Rows
end Go.Proofs.Ytcjakbkffnofcaa
