/-
  No cell of these rows narrows 'for every input' (looked for: loops, veiled, ifaces, maps, wideKeys, modest, calm, conditions, laid).
  DERIVED. THE GIVEN ROWS OF THIS SEAT. 6 by the template 'for every input the law returns true; each argument reads behind the call as it read before'; 0 by the template 'total and deterministic' (their statements: YtggdcgipeijilaaTotals.lean).
  GIVEN WITH THE SEED: the statements are not yours to turn. If you find one false, say at which input.
  Laid BY PROGRAM, IN A SANDBOX (cutbox-rows.mjs): the forced cells as the released guide's own fill.sh prints them over the translation 38c0149e18945c7d… (all of the seat's roots in one cut). By AI agents, Wed Nov 11 2026. No macro, syntax, notation, axiom, sorry.
-/
import Derived.Test.YtggdcgipeijilaaChecked
import GoSem.Claim
import GoSem.ClaimJoined
import GoSem.ClaimMapViews
import Derived.JoinedTies
import Derived.KernelRfl
namespace Go.Proofs.Ytggdcgipeijilaa
/- THE CELL 'sum', in the pinned program and in every row, IS THE sha256 OF THE DUMP (.gsa) THAT YtggdcgipeijilaaProg.lean LOADS. Nothing in Lean hashes anything: it is a label: what it is worth is what the hold of that sum in a sandbox is worth. -/
noncomputable def Try.pinned : Pinned := { name := "ytggdcgipeijilaa", sum := "38c0149e18945c7d3f3a54bbf4c85b0221949b043ff3eb9671714ba3f1d10681", checked := Try.checked }
namespace Rows
def none {H : Type} : Left H := { results := [], args := [] }

/-- 'cubitlaw20.LinearReckons': WHATEVER THE INPUT: true; the input reads as it did. -/
def linearReckonsSpec : ChangeSpec := { name := "linearReckons", fn := fun _ => fun
  | [d1, d2, d3] => { results := [.lit (.bool true)], args := [d1, d2, d3] }
  | _ => none }
def linearReckonsRow : OpenClaim := { program := "ytggdcgipeijilaa", sum := "38c0149e18945c7d3f3a54bbf4c85b0221949b043ff3eb9671714ba3f1d10681", func := "cubit/cubitlaw20.LinearReckons", spec := "linearReckons", unfollowed := true, recurses := true, apart := false }
def LinearReckonsSaid : Prop := linearReckonsRow.holds Try.pinned (OpenSpec.ofChange linearReckonsSpec)

/-- ITS FALSE NEIGHBOUR: 'it returns false'. Refute it at one input. -/
def linearReckonsWrong : ChangeSpec := { name := "linearReckons", fn := fun _ => fun
  | [d1, d2, d3] => { results := [.lit (.bool false)], args := [d1, d2, d3] }
  | _ => none }
def LinearReckonsWrongFalsely : Prop := linearReckonsRow.holds Try.pinned (OpenSpec.ofChange linearReckonsWrong)

/-- 'cubitlaw20.LinearGroup': WHATEVER THE INPUT: true; the input reads as it did. -/
def linearGroupSpec : ChangeSpec := { name := "linearGroup", fn := fun _ => fun
  | [d] => { results := [.lit (.bool true)], args := [d] }
  | _ => none }
def linearGroupRow : OpenClaim := { program := "ytggdcgipeijilaa", sum := "38c0149e18945c7d3f3a54bbf4c85b0221949b043ff3eb9671714ba3f1d10681", func := "cubit/cubitlaw20.LinearGroup", spec := "linearGroup", unfollowed := true, recurses := true, apart := false }
def LinearGroupSaid : Prop := linearGroupRow.holds Try.pinned (OpenSpec.ofChange linearGroupSpec)

/-- ITS FALSE NEIGHBOUR: 'it returns false'. Refute it at one input. -/
def linearGroupWrong : ChangeSpec := { name := "linearGroup", fn := fun _ => fun
  | [d] => { results := [.lit (.bool false)], args := [d] }
  | _ => none }
def LinearGroupWrongFalsely : Prop := linearGroupRow.holds Try.pinned (OpenSpec.ofChange linearGroupWrong)

/-- 'cubitlaw08.GateNames': WHATEVER THE INPUT: true; the input reads as it did. -/
def gateNamesSpec : ChangeSpec := { name := "gateNames", fn := fun _ => fun
  | [] => { results := [.lit (.bool true)], args := [] }
  | _ => none }
def gateNamesRow : OpenClaim := { program := "ytggdcgipeijilaa", sum := "38c0149e18945c7d3f3a54bbf4c85b0221949b043ff3eb9671714ba3f1d10681", func := "cubit/cubitlaw08.GateNames", spec := "gateNames", inPlace := ["math.archTrunc", "math.Float64bits", "math.Float64frombits"], unfollowed := true, recurses := true, apart := false }
def GateNamesSaid : Prop := gateNamesRow.holds Try.pinned (OpenSpec.ofChange gateNamesSpec)

/-- ITS FALSE NEIGHBOUR: 'it returns false'. Refute it at one input. -/
def gateNamesWrong : ChangeSpec := { name := "gateNames", fn := fun _ => fun
  | [] => { results := [.lit (.bool false)], args := [] }
  | _ => none }
def GateNamesWrongFalsely : Prop := gateNamesRow.holds Try.pinned (OpenSpec.ofChange gateNamesWrong)

/-- 'cubitlaw08.GateAsks': WHATEVER THE INPUT: true; the input reads as it did. -/
def gateAsksSpec : ChangeSpec := { name := "gateAsks", fn := fun _ => fun
  | [d1, d2] => { results := [.lit (.bool true)], args := [d1, d2] }
  | _ => none }
def gateAsksRow : OpenClaim := { program := "ytggdcgipeijilaa", sum := "38c0149e18945c7d3f3a54bbf4c85b0221949b043ff3eb9671714ba3f1d10681", func := "cubit/cubitlaw08.GateAsks", spec := "gateAsks", inPlace := ["math.archTrunc", "math.Float64bits", "math.Float64frombits"], unfollowed := true, recurses := true, apart := false }
def GateAsksSaid : Prop := gateAsksRow.holds Try.pinned (OpenSpec.ofChange gateAsksSpec)

/-- ITS FALSE NEIGHBOUR: 'it returns false'. Refute it at one input. -/
def gateAsksWrong : ChangeSpec := { name := "gateAsks", fn := fun _ => fun
  | [d1, d2] => { results := [.lit (.bool false)], args := [d1, d2] }
  | _ => none }
def GateAsksWrongFalsely : Prop := gateAsksRow.holds Try.pinned (OpenSpec.ofChange gateAsksWrong)

/-- 'cubitlaw08.GateEntries': WHATEVER THE INPUT: true; the input reads as it did. -/
def gateEntriesSpec : ChangeSpec := { name := "gateEntries", fn := fun _ => fun
  | [d] => { results := [.lit (.bool true)], args := [d] }
  | _ => none }
def gateEntriesRow : OpenClaim := { program := "ytggdcgipeijilaa", sum := "38c0149e18945c7d3f3a54bbf4c85b0221949b043ff3eb9671714ba3f1d10681", func := "cubit/cubitlaw08.GateEntries", spec := "gateEntries", inPlace := ["math.archTrunc", "math.Float64bits", "math.Float64frombits"], unfollowed := true, recurses := true, apart := false }
def GateEntriesSaid : Prop := gateEntriesRow.holds Try.pinned (OpenSpec.ofChange gateEntriesSpec)

/-- ITS FALSE NEIGHBOUR: 'it returns false'. Refute it at one input. -/
def gateEntriesWrong : ChangeSpec := { name := "gateEntries", fn := fun _ => fun
  | [d] => { results := [.lit (.bool false)], args := [d] }
  | _ => none }
def GateEntriesWrongFalsely : Prop := gateEntriesRow.holds Try.pinned (OpenSpec.ofChange gateEntriesWrong)

/-- 'cubitlaw11.CircuitChecks': WHATEVER THE INPUT: true; the input reads as it did. -/
def circuitChecksSpec : ChangeSpec := { name := "circuitChecks", fn := fun _ => fun
  | [d] => { results := [.lit (.bool true)], args := [d] }
  | _ => none }
def circuitChecksRow : OpenClaim := { program := "ytggdcgipeijilaa", sum := "38c0149e18945c7d3f3a54bbf4c85b0221949b043ff3eb9671714ba3f1d10681", func := "cubit/cubitlaw11.CircuitChecks", spec := "circuitChecks", unfollowed := true, recurses := true, apart := false }
def CircuitChecksSaid : Prop := circuitChecksRow.holds Try.pinned (OpenSpec.ofChange circuitChecksSpec)

/-- ITS FALSE NEIGHBOUR: 'it returns false'. Refute it at one input. -/
def circuitChecksWrong : ChangeSpec := { name := "circuitChecks", fn := fun _ => fun
  | [d] => { results := [.lit (.bool false)], args := [d] }
  | _ => none }
def CircuitChecksWrongFalsely : Prop := circuitChecksRow.holds Try.pinned (OpenSpec.ofChange circuitChecksWrong)

/- THE SECOND FORM. 'bulk': how many values and letters a reading holds, each counted each time it is reached (what is shared counts as often as it is met; a slice's spare places count too). A statement '..UptoSaid' is the law's where the arguments, and the package variables that the reading takes, are together of bulk at most 1048576: NARROWER than '..Said'. Prove '..Said' where nothing that the law and all that it calls make is longer than what came in: it says more and counts as full. Else prove '..UptoSaid'. A law counts once. -/
mutual
def uptoBulk {H : Type} : DataW H → Nat
  | .lit (.string bytes) => bytes.length + 1
  | .lit _ => 1
  | .nil => 1
  | .ptr d => uptoBulk d + 1
  | .slice elems spare => uptoBulkAll elems + uptoBulkAll spare + 1
  | .agg parts => uptoBulkAll parts + 1
  | .iface _ d => uptoBulk d + 1
  | .map entries => uptoBulkEntries entries + 1
  | .held _ => 1
def uptoBulkAll {H : Type} : List (DataW H) → Nat
  | [] => 0
  | d :: r => uptoBulk d + uptoBulkAll r
def uptoBulkEntries {H : Type} : List (Lit × DataW H) → Nat
  | [] => 0
  | x :: r => uptoBulkEntry x + uptoBulkEntries r
def uptoBulkEntry {H : Type} : Lit × DataW H → Nat
  | (.string bytes, d) => bytes.length + uptoBulk d + 1
  | (_, d) => uptoBulk d + 1
 end
def uptoSmall : (H : Type) → List (DataW H) → Bool := fun _ ds => decide (uptoBulkAll ds ≤ 1048576)
def OpenSpec.upto (s : _root_.Go.ChangeSpec) : _root_.Go.OpenSpec := { _root_.Go.OpenSpec.ofChange s with cond := some uptoSmall }

/-- 'cubitlaw20.LinearReckons', WHERE WHAT IT READS IS OF BULK AT MOST 1048576: true; the input reads as it did. -/
def linearReckonsUptoRow : OpenClaim := { program := "ytggdcgipeijilaa", sum := "38c0149e18945c7d3f3a54bbf4c85b0221949b043ff3eb9671714ba3f1d10681", func := "cubit/cubitlaw20.LinearReckons", spec := "linearReckons", unfollowed := true, recurses := true, apart := false, narrowed := true }
def LinearReckonsUptoSaid : Prop := linearReckonsUptoRow.holds Try.pinned (OpenSpec.upto linearReckonsSpec)

/-- 'cubitlaw20.LinearGroup', WHERE WHAT IT READS IS OF BULK AT MOST 1048576: true; the input reads as it did. -/
def linearGroupUptoRow : OpenClaim := { program := "ytggdcgipeijilaa", sum := "38c0149e18945c7d3f3a54bbf4c85b0221949b043ff3eb9671714ba3f1d10681", func := "cubit/cubitlaw20.LinearGroup", spec := "linearGroup", unfollowed := true, recurses := true, apart := false, narrowed := true }
def LinearGroupUptoSaid : Prop := linearGroupUptoRow.holds Try.pinned (OpenSpec.upto linearGroupSpec)

/-- 'cubitlaw08.GateNames', WHERE WHAT IT READS IS OF BULK AT MOST 1048576: true; the input reads as it did. -/
def gateNamesUptoRow : OpenClaim := { program := "ytggdcgipeijilaa", sum := "38c0149e18945c7d3f3a54bbf4c85b0221949b043ff3eb9671714ba3f1d10681", func := "cubit/cubitlaw08.GateNames", spec := "gateNames", inPlace := ["math.archTrunc", "math.Float64bits", "math.Float64frombits"], unfollowed := true, recurses := true, apart := false, narrowed := true }
def GateNamesUptoSaid : Prop := gateNamesUptoRow.holds Try.pinned (OpenSpec.upto gateNamesSpec)

/-- 'cubitlaw08.GateAsks', WHERE WHAT IT READS IS OF BULK AT MOST 1048576: true; the input reads as it did. -/
def gateAsksUptoRow : OpenClaim := { program := "ytggdcgipeijilaa", sum := "38c0149e18945c7d3f3a54bbf4c85b0221949b043ff3eb9671714ba3f1d10681", func := "cubit/cubitlaw08.GateAsks", spec := "gateAsks", inPlace := ["math.archTrunc", "math.Float64bits", "math.Float64frombits"], unfollowed := true, recurses := true, apart := false, narrowed := true }
def GateAsksUptoSaid : Prop := gateAsksUptoRow.holds Try.pinned (OpenSpec.upto gateAsksSpec)

/-- 'cubitlaw08.GateEntries', WHERE WHAT IT READS IS OF BULK AT MOST 1048576: true; the input reads as it did. -/
def gateEntriesUptoRow : OpenClaim := { program := "ytggdcgipeijilaa", sum := "38c0149e18945c7d3f3a54bbf4c85b0221949b043ff3eb9671714ba3f1d10681", func := "cubit/cubitlaw08.GateEntries", spec := "gateEntries", inPlace := ["math.archTrunc", "math.Float64bits", "math.Float64frombits"], unfollowed := true, recurses := true, apart := false, narrowed := true }
def GateEntriesUptoSaid : Prop := gateEntriesUptoRow.holds Try.pinned (OpenSpec.upto gateEntriesSpec)

/-- 'cubitlaw11.CircuitChecks', WHERE WHAT IT READS IS OF BULK AT MOST 1048576: true; the input reads as it did. -/
def circuitChecksUptoRow : OpenClaim := { program := "ytggdcgipeijilaa", sum := "38c0149e18945c7d3f3a54bbf4c85b0221949b043ff3eb9671714ba3f1d10681", func := "cubit/cubitlaw11.CircuitChecks", spec := "circuitChecks", unfollowed := true, recurses := true, apart := false, narrowed := true }
def CircuitChecksUptoSaid : Prop := circuitChecksUptoRow.holds Try.pinned (OpenSpec.upto circuitChecksSpec)

end Rows
end Go.Proofs.Ytggdcgipeijilaa
