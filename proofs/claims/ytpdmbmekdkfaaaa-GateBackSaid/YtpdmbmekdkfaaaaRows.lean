/-
  No cell of these rows narrows 'for every input' (looked for: loops, veiled, ifaces, maps, wideKeys, modest, calm, conditions, laid).
  DERIVED. THE GIVEN ROWS OF THIS SEAT. 4 by the template 'for every input the law returns true; each argument reads behind the call as it read before'; 0 by the template 'total and deterministic' (their statements: YtpdmbmekdkfaaaaTotals.lean).
  GIVEN WITH THE SEED: the statements are not yours to turn. If you find one false, say at which input.
  Laid BY PROGRAM, IN A SANDBOX (cutbox-rows.mjs): the forced cells as the released guide's own fill.sh prints them over the translation 552604e0c2c02a41… (all of the seat's roots in one cut). By AI agents, Wed Nov 11 2026. No macro, syntax, notation, axiom, sorry.
-/
import Derived.Test.YtpdmbmekdkfaaaaChecked
import GoSem.Claim
import GoSem.ClaimJoined
import GoSem.ClaimMapViews
import Derived.JoinedTies
import Derived.KernelRfl
namespace Go.Proofs.Ytpdmbmekdkfaaaa
/- THE CELL 'sum', in the pinned program and in every row, IS THE sha256 OF THE DUMP (.gsa) THAT YtpdmbmekdkfaaaaProg.lean LOADS. Nothing in Lean hashes anything: it is a label: what it is worth is what the hold of that sum in a sandbox is worth. -/
noncomputable def Try.pinned : Pinned := { name := "ytpdmbmekdkfaaaa", sum := "552604e0c2c02a41d4b1e9c3efbc2e3710e86014cad662ea6274d3c8659e8907", checked := Try.checked }
namespace Rows
def none {H : Type} : Left H := { results := [], args := [] }

/-- 'cubitlaw08.GateAsks': WHATEVER THE INPUT: true; the input reads as it did. -/
def gateAsksSpec : ChangeSpec := { name := "gateAsks", fn := fun _ => fun
  | [d1, d2] => { results := [.lit (.bool true)], args := [d1, d2] }
  | _ => none }
def gateAsksRow : OpenClaim := { program := "ytpdmbmekdkfaaaa", sum := "552604e0c2c02a41d4b1e9c3efbc2e3710e86014cad662ea6274d3c8659e8907", func := "cubit/cubitlaw08.GateAsks", spec := "gateAsks", inPlace := ["math.archTrunc", "math.Float64bits", "math.Float64frombits"], unfollowed := true, recurses := true, apart := false }
def GateAsksSaid : Prop := gateAsksRow.holds Try.pinned (OpenSpec.ofChange gateAsksSpec)

/-- ITS FALSE NEIGHBOUR: 'it returns false'. Refute it at one input. -/
def gateAsksWrong : ChangeSpec := { name := "gateAsks", fn := fun _ => fun
  | [d1, d2] => { results := [.lit (.bool false)], args := [d1, d2] }
  | _ => none }
def GateAsksWrongFalsely : Prop := gateAsksRow.holds Try.pinned (OpenSpec.ofChange gateAsksWrong)

/-- 'cubitlaw08.GateEntries': WHATEVER THE INPUT: true; the input reads as it did. -/
def gateEntriesSpec : ChangeSpec := { name := "gateEntries", fn := fun _ => fun
  | [d] => { results := [.lit (.bool true)], args := [d] }
  | _ => none }
def gateEntriesRow : OpenClaim := { program := "ytpdmbmekdkfaaaa", sum := "552604e0c2c02a41d4b1e9c3efbc2e3710e86014cad662ea6274d3c8659e8907", func := "cubit/cubitlaw08.GateEntries", spec := "gateEntries", inPlace := ["math.archTrunc", "math.Float64bits", "math.Float64frombits"], unfollowed := true, recurses := true, apart := false }
def GateEntriesSaid : Prop := gateEntriesRow.holds Try.pinned (OpenSpec.ofChange gateEntriesSpec)

/-- ITS FALSE NEIGHBOUR: 'it returns false'. Refute it at one input. -/
def gateEntriesWrong : ChangeSpec := { name := "gateEntries", fn := fun _ => fun
  | [d] => { results := [.lit (.bool false)], args := [d] }
  | _ => none }
def GateEntriesWrongFalsely : Prop := gateEntriesRow.holds Try.pinned (OpenSpec.ofChange gateEntriesWrong)

/-- 'cubitlaw08.GateMakes': WHATEVER THE INPUT: true; the input reads as it did. -/
def gateMakesSpec : ChangeSpec := { name := "gateMakes", fn := fun _ => fun
  | [] => { results := [.lit (.bool true)], args := [] }
  | _ => none }
def gateMakesRow : OpenClaim := { program := "ytpdmbmekdkfaaaa", sum := "552604e0c2c02a41d4b1e9c3efbc2e3710e86014cad662ea6274d3c8659e8907", func := "cubit/cubitlaw08.GateMakes", spec := "gateMakes", inPlace := ["math.archTrunc", "math.Float64bits", "math.Float64frombits"], unfollowed := true, recurses := true, apart := false }
def GateMakesSaid : Prop := gateMakesRow.holds Try.pinned (OpenSpec.ofChange gateMakesSpec)

/-- ITS FALSE NEIGHBOUR: 'it returns false'. Refute it at one input. -/
def gateMakesWrong : ChangeSpec := { name := "gateMakes", fn := fun _ => fun
  | [] => { results := [.lit (.bool false)], args := [] }
  | _ => none }
def GateMakesWrongFalsely : Prop := gateMakesRow.holds Try.pinned (OpenSpec.ofChange gateMakesWrong)

/-- 'cubitlaw08.GateBack': WHATEVER THE INPUT: true; the input reads as it did. -/
def gateBackSpec : ChangeSpec := { name := "gateBack", fn := fun _ => fun
  | [d] => { results := [.lit (.bool true)], args := [d] }
  | _ => none }
def gateBackRow : OpenClaim := { program := "ytpdmbmekdkfaaaa", sum := "552604e0c2c02a41d4b1e9c3efbc2e3710e86014cad662ea6274d3c8659e8907", func := "cubit/cubitlaw08.GateBack", spec := "gateBack", inPlace := ["math.archTrunc", "math.Float64bits", "math.Float64frombits"], unfollowed := true, recurses := true, apart := false }
def GateBackSaid : Prop := gateBackRow.holds Try.pinned (OpenSpec.ofChange gateBackSpec)

/-- ITS FALSE NEIGHBOUR: 'it returns false'. Refute it at one input. -/
def gateBackWrong : ChangeSpec := { name := "gateBack", fn := fun _ => fun
  | [d] => { results := [.lit (.bool false)], args := [d] }
  | _ => none }
def GateBackWrongFalsely : Prop := gateBackRow.holds Try.pinned (OpenSpec.ofChange gateBackWrong)

/- THE SECOND FORM. 'bulk': how many values and letters a reading holds, each counted each time it is reached (what is shared counts as often as it is met; a slice's spare places count too). A statement '..UptoSaid' is the law's where the arguments, and the package variables that the reading takes, are together of bulk at most 1048576: NARROWER than '..Said'. Prove '..Said' where nothing that the law and all that it calls make is longer than what came in: it says more and counts as full. Else prove '..UptoSaid'. A law counts once. -/
mutual
def uptoBulk {H : Type} : DataW H → Nat
  | .lit (.string bytes) => bytes.length + 1
  | .lit _ => 1
  | .nil => 1
  | .ptr d => uptoBulk d + 1
  | .slice elems spare => uptoBulkAll elems + uptoBulkAll spare + 1
  | .agg parts => uptoBulkAll parts + 1
  | .iface _ d => uptoBulk d + 1
  | .map entries => uptoBulkEntries entries + 1
  | .held _ => 1
def uptoBulkAll {H : Type} : List (DataW H) → Nat
  | [] => 0
  | d :: r => uptoBulk d + uptoBulkAll r
def uptoBulkEntries {H : Type} : List (Lit × DataW H) → Nat
  | [] => 0
  | x :: r => uptoBulkEntry x + uptoBulkEntries r
def uptoBulkEntry {H : Type} : Lit × DataW H → Nat
  | (.string bytes, d) => bytes.length + uptoBulk d + 1
  | (_, d) => uptoBulk d + 1
 end
def uptoSmall : (H : Type) → List (DataW H) → Bool := fun _ ds => decide (uptoBulkAll ds ≤ 1048576)
def OpenSpec.upto (s : _root_.Go.ChangeSpec) : _root_.Go.OpenSpec := { _root_.Go.OpenSpec.ofChange s with cond := some uptoSmall }

/-- 'cubitlaw08.GateAsks', WHERE WHAT IT READS IS OF BULK AT MOST 1048576: true; the input reads as it did. -/
def gateAsksUptoRow : OpenClaim := { program := "ytpdmbmekdkfaaaa", sum := "552604e0c2c02a41d4b1e9c3efbc2e3710e86014cad662ea6274d3c8659e8907", func := "cubit/cubitlaw08.GateAsks", spec := "gateAsks", inPlace := ["math.archTrunc", "math.Float64bits", "math.Float64frombits"], unfollowed := true, recurses := true, apart := false, narrowed := true }
def GateAsksUptoSaid : Prop := gateAsksUptoRow.holds Try.pinned (OpenSpec.upto gateAsksSpec)

/-- 'cubitlaw08.GateEntries', WHERE WHAT IT READS IS OF BULK AT MOST 1048576: true; the input reads as it did. -/
def gateEntriesUptoRow : OpenClaim := { program := "ytpdmbmekdkfaaaa", sum := "552604e0c2c02a41d4b1e9c3efbc2e3710e86014cad662ea6274d3c8659e8907", func := "cubit/cubitlaw08.GateEntries", spec := "gateEntries", inPlace := ["math.archTrunc", "math.Float64bits", "math.Float64frombits"], unfollowed := true, recurses := true, apart := false, narrowed := true }
def GateEntriesUptoSaid : Prop := gateEntriesUptoRow.holds Try.pinned (OpenSpec.upto gateEntriesSpec)

/-- 'cubitlaw08.GateMakes', WHERE WHAT IT READS IS OF BULK AT MOST 1048576: true; the input reads as it did. -/
def gateMakesUptoRow : OpenClaim := { program := "ytpdmbmekdkfaaaa", sum := "552604e0c2c02a41d4b1e9c3efbc2e3710e86014cad662ea6274d3c8659e8907", func := "cubit/cubitlaw08.GateMakes", spec := "gateMakes", inPlace := ["math.archTrunc", "math.Float64bits", "math.Float64frombits"], unfollowed := true, recurses := true, apart := false, narrowed := true }
def GateMakesUptoSaid : Prop := gateMakesUptoRow.holds Try.pinned (OpenSpec.upto gateMakesSpec)

/-- 'cubitlaw08.GateBack', WHERE WHAT IT READS IS OF BULK AT MOST 1048576: true; the input reads as it did. -/
def gateBackUptoRow : OpenClaim := { program := "ytpdmbmekdkfaaaa", sum := "552604e0c2c02a41d4b1e9c3efbc2e3710e86014cad662ea6274d3c8659e8907", func := "cubit/cubitlaw08.GateBack", spec := "gateBack", inPlace := ["math.archTrunc", "math.Float64bits", "math.Float64frombits"], unfollowed := true, recurses := true, apart := false, narrowed := true }
def GateBackUptoSaid : Prop := gateBackUptoRow.holds Try.pinned (OpenSpec.upto gateBackSpec)

end Rows
end Go.Proofs.Ytpdmbmekdkfaaaa
