/-
  No cell of these rows narrows 'for every input' (looked for: loops, veiled, ifaces, maps, wideKeys, modest, calm, conditions, laid).
  DERIVED. THE GIVEN ROWS OF THIS SEAT. 7 by the template 'for every input the law returns true; each argument reads behind the call as it read before'; 0 by the template 'total and deterministic' (their statements: YtfpfjlbgodgmlaaTotals.lean).
  GIVEN WITH THE SEED: the statements are not yours to turn. If you find one false, say at which input.
  Laid BY PROGRAM, IN A SANDBOX (cutbox-rows.mjs): the forced cells as the released guide's own fill.sh prints them over the translation 09525f971c4a0f74… (all of the seat's roots in one cut). By AI agents, Wed Nov 11 2026. No macro, syntax, notation, axiom, sorry.
-/
import Derived.Test.YtfpfjlbgodgmlaaChecked
import GoSem.Claim
import GoSem.ClaimJoined
import GoSem.ClaimMapViews
import Derived.JoinedTies
import Derived.KernelRfl
namespace Go.Proofs.Ytfpfjlbgodgmlaa
/- THE CELL 'sum', in the pinned program and in every row, IS THE sha256 OF THE DUMP (.gsa) THAT YtfpfjlbgodgmlaaProg.lean LOADS. Nothing in Lean hashes anything: it is a label: what it is worth is what the hold of that sum in a sandbox is worth. -/
noncomputable def Try.pinned : Pinned := { name := "ytfpfjlbgodgmlaa", sum := "09525f971c4a0f7442312ef3f7094ce8200d7812c8fa49c0f48ecbc7563886a6", checked := Try.checked }
namespace Rows
def none {H : Type} : Left H := { results := [], args := [] }

/-- 'cubitlaw20.LinearCircuits': WHATEVER THE INPUT: true; the input reads as it did. -/
def linearCircuitsSpec : ChangeSpec := { name := "linearCircuits", fn := fun _ => fun
  | [d] => { results := [.lit (.bool true)], args := [d] }
  | _ => none }
def linearCircuitsRow : OpenClaim := { program := "ytfpfjlbgodgmlaa", sum := "09525f971c4a0f7442312ef3f7094ce8200d7812c8fa49c0f48ecbc7563886a6", func := "cubit/cubitlaw20.LinearCircuits", spec := "linearCircuits", inPlace := ["math.archTrunc", "math.Float64bits", "math.Float64frombits"], unfollowed := true, recurses := true, apart := false }
def LinearCircuitsSaid : Prop := linearCircuitsRow.holds Try.pinned (OpenSpec.ofChange linearCircuitsSpec)

/-- ITS FALSE NEIGHBOUR: 'it returns false'. Refute it at one input. -/
def linearCircuitsWrong : ChangeSpec := { name := "linearCircuits", fn := fun _ => fun
  | [d] => { results := [.lit (.bool false)], args := [d] }
  | _ => none }
def LinearCircuitsWrongFalsely : Prop := linearCircuitsRow.holds Try.pinned (OpenSpec.ofChange linearCircuitsWrong)

/-- 'cubitlaw20.LinearReckons': WHATEVER THE INPUT: true; the input reads as it did. -/
def linearReckonsSpec : ChangeSpec := { name := "linearReckons", fn := fun _ => fun
  | [d1, d2, d3] => { results := [.lit (.bool true)], args := [d1, d2, d3] }
  | _ => none }
def linearReckonsRow : OpenClaim := { program := "ytfpfjlbgodgmlaa", sum := "09525f971c4a0f7442312ef3f7094ce8200d7812c8fa49c0f48ecbc7563886a6", func := "cubit/cubitlaw20.LinearReckons", spec := "linearReckons", unfollowed := true, recurses := true, apart := false }
def LinearReckonsSaid : Prop := linearReckonsRow.holds Try.pinned (OpenSpec.ofChange linearReckonsSpec)

/-- ITS FALSE NEIGHBOUR: 'it returns false'. Refute it at one input. -/
def linearReckonsWrong : ChangeSpec := { name := "linearReckons", fn := fun _ => fun
  | [d1, d2, d3] => { results := [.lit (.bool false)], args := [d1, d2, d3] }
  | _ => none }
def LinearReckonsWrongFalsely : Prop := linearReckonsRow.holds Try.pinned (OpenSpec.ofChange linearReckonsWrong)

/-- 'cubitlaw20.LinearFrom': WHATEVER THE INPUT: true; the input reads as it did. -/
def linearFromSpec : ChangeSpec := { name := "linearFrom", fn := fun _ => fun
  | [d] => { results := [.lit (.bool true)], args := [d] }
  | _ => none }
def linearFromRow : OpenClaim := { program := "ytfpfjlbgodgmlaa", sum := "09525f971c4a0f7442312ef3f7094ce8200d7812c8fa49c0f48ecbc7563886a6", func := "cubit/cubitlaw20.LinearFrom", spec := "linearFrom", unfollowed := true, recurses := true, apart := false }
def LinearFromSaid : Prop := linearFromRow.holds Try.pinned (OpenSpec.ofChange linearFromSpec)

/-- ITS FALSE NEIGHBOUR: 'it returns false'. Refute it at one input. -/
def linearFromWrong : ChangeSpec := { name := "linearFrom", fn := fun _ => fun
  | [d] => { results := [.lit (.bool false)], args := [d] }
  | _ => none }
def LinearFromWrongFalsely : Prop := linearFromRow.holds Try.pinned (OpenSpec.ofChange linearFromWrong)

/-- 'cubitlaw20.LinearSynth': WHATEVER THE INPUT: true; the input reads as it did. -/
def linearSynthSpec : ChangeSpec := { name := "linearSynth", fn := fun _ => fun
  | [d] => { results := [.lit (.bool true)], args := [d] }
  | _ => none }
def linearSynthRow : OpenClaim := { program := "ytfpfjlbgodgmlaa", sum := "09525f971c4a0f7442312ef3f7094ce8200d7812c8fa49c0f48ecbc7563886a6", func := "cubit/cubitlaw20.LinearSynth", spec := "linearSynth", unfollowed := true, recurses := true, apart := false }
def LinearSynthSaid : Prop := linearSynthRow.holds Try.pinned (OpenSpec.ofChange linearSynthSpec)

/-- ITS FALSE NEIGHBOUR: 'it returns false'. Refute it at one input. -/
def linearSynthWrong : ChangeSpec := { name := "linearSynth", fn := fun _ => fun
  | [d] => { results := [.lit (.bool false)], args := [d] }
  | _ => none }
def LinearSynthWrongFalsely : Prop := linearSynthRow.holds Try.pinned (OpenSpec.ofChange linearSynthWrong)

/-- 'cubitlaw11.CircuitJoins': WHATEVER THE INPUT: true; the input reads as it did. -/
def circuitJoinsSpec : ChangeSpec := { name := "circuitJoins", fn := fun _ => fun
  | [d1, d2] => { results := [.lit (.bool true)], args := [d1, d2] }
  | _ => none }
def circuitJoinsRow : OpenClaim := { program := "ytfpfjlbgodgmlaa", sum := "09525f971c4a0f7442312ef3f7094ce8200d7812c8fa49c0f48ecbc7563886a6", func := "cubit/cubitlaw11.CircuitJoins", spec := "circuitJoins", unfollowed := true, recurses := true, apart := false }
def CircuitJoinsSaid : Prop := circuitJoinsRow.holds Try.pinned (OpenSpec.ofChange circuitJoinsSpec)

/-- ITS FALSE NEIGHBOUR: 'it returns false'. Refute it at one input. -/
def circuitJoinsWrong : ChangeSpec := { name := "circuitJoins", fn := fun _ => fun
  | [d1, d2] => { results := [.lit (.bool false)], args := [d1, d2] }
  | _ => none }
def CircuitJoinsWrongFalsely : Prop := circuitJoinsRow.holds Try.pinned (OpenSpec.ofChange circuitJoinsWrong)

/-- 'cubitlaw11.CircuitBack': WHATEVER THE INPUT: true; the input reads as it did. -/
def circuitBackSpec : ChangeSpec := { name := "circuitBack", fn := fun _ => fun
  | [d1, d2] => { results := [.lit (.bool true)], args := [d1, d2] }
  | _ => none }
def circuitBackRow : OpenClaim := { program := "ytfpfjlbgodgmlaa", sum := "09525f971c4a0f7442312ef3f7094ce8200d7812c8fa49c0f48ecbc7563886a6", func := "cubit/cubitlaw11.CircuitBack", spec := "circuitBack", unfollowed := true, recurses := true, apart := false }
def CircuitBackSaid : Prop := circuitBackRow.holds Try.pinned (OpenSpec.ofChange circuitBackSpec)

/-- ITS FALSE NEIGHBOUR: 'it returns false'. Refute it at one input. -/
def circuitBackWrong : ChangeSpec := { name := "circuitBack", fn := fun _ => fun
  | [d1, d2] => { results := [.lit (.bool false)], args := [d1, d2] }
  | _ => none }
def CircuitBackWrongFalsely : Prop := circuitBackRow.holds Try.pinned (OpenSpec.ofChange circuitBackWrong)

/-- 'cubitlaw08.GateAsks': WHATEVER THE INPUT: true; the input reads as it did. -/
def gateAsksSpec : ChangeSpec := { name := "gateAsks", fn := fun _ => fun
  | [d1, d2] => { results := [.lit (.bool true)], args := [d1, d2] }
  | _ => none }
def gateAsksRow : OpenClaim := { program := "ytfpfjlbgodgmlaa", sum := "09525f971c4a0f7442312ef3f7094ce8200d7812c8fa49c0f48ecbc7563886a6", func := "cubit/cubitlaw08.GateAsks", spec := "gateAsks", inPlace := ["math.archTrunc", "math.Float64bits", "math.Float64frombits"], unfollowed := true, recurses := true, apart := false }
def GateAsksSaid : Prop := gateAsksRow.holds Try.pinned (OpenSpec.ofChange gateAsksSpec)

/-- ITS FALSE NEIGHBOUR: 'it returns false'. Refute it at one input. -/
def gateAsksWrong : ChangeSpec := { name := "gateAsks", fn := fun _ => fun
  | [d1, d2] => { results := [.lit (.bool false)], args := [d1, d2] }
  | _ => none }
def GateAsksWrongFalsely : Prop := gateAsksRow.holds Try.pinned (OpenSpec.ofChange gateAsksWrong)

/- THE SECOND FORM. 'bulk': how many values and letters a reading holds, each counted each time it is reached (what is shared counts as often as it is met; a slice's spare places count too). A statement '..UptoSaid' is the law's where the arguments, and the package variables that the reading takes, are together of bulk at most 1048576: NARROWER than '..Said'. Prove '..Said' where nothing that the law and all that it calls make is longer than what came in: it says more and counts as full. Else prove '..UptoSaid'. A law counts once. -/
mutual
def uptoBulk {H : Type} : DataW H → Nat
  | .lit (.string bytes) => bytes.length + 1
  | .lit _ => 1
  | .nil => 1
  | .ptr d => uptoBulk d + 1
  | .slice elems spare => uptoBulkAll elems + uptoBulkAll spare + 1
  | .agg parts => uptoBulkAll parts + 1
  | .iface _ d => uptoBulk d + 1
  | .map entries => uptoBulkEntries entries + 1
  | .held _ => 1
def uptoBulkAll {H : Type} : List (DataW H) → Nat
  | [] => 0
  | d :: r => uptoBulk d + uptoBulkAll r
def uptoBulkEntries {H : Type} : List (Lit × DataW H) → Nat
  | [] => 0
  | x :: r => uptoBulkEntry x + uptoBulkEntries r
def uptoBulkEntry {H : Type} : Lit × DataW H → Nat
  | (.string bytes, d) => bytes.length + uptoBulk d + 1
  | (_, d) => uptoBulk d + 1
 end
def uptoSmall : (H : Type) → List (DataW H) → Bool := fun _ ds => decide (uptoBulkAll ds ≤ 1048576)
def OpenSpec.upto (s : _root_.Go.ChangeSpec) : _root_.Go.OpenSpec := { _root_.Go.OpenSpec.ofChange s with cond := some uptoSmall }

/-- 'cubitlaw20.LinearCircuits', WHERE WHAT IT READS IS OF BULK AT MOST 1048576: true; the input reads as it did. -/
def linearCircuitsUptoRow : OpenClaim := { program := "ytfpfjlbgodgmlaa", sum := "09525f971c4a0f7442312ef3f7094ce8200d7812c8fa49c0f48ecbc7563886a6", func := "cubit/cubitlaw20.LinearCircuits", spec := "linearCircuits", inPlace := ["math.archTrunc", "math.Float64bits", "math.Float64frombits"], unfollowed := true, recurses := true, apart := false, narrowed := true }
def LinearCircuitsUptoSaid : Prop := linearCircuitsUptoRow.holds Try.pinned (OpenSpec.upto linearCircuitsSpec)

/-- 'cubitlaw20.LinearReckons', WHERE WHAT IT READS IS OF BULK AT MOST 1048576: true; the input reads as it did. -/
def linearReckonsUptoRow : OpenClaim := { program := "ytfpfjlbgodgmlaa", sum := "09525f971c4a0f7442312ef3f7094ce8200d7812c8fa49c0f48ecbc7563886a6", func := "cubit/cubitlaw20.LinearReckons", spec := "linearReckons", unfollowed := true, recurses := true, apart := false, narrowed := true }
def LinearReckonsUptoSaid : Prop := linearReckonsUptoRow.holds Try.pinned (OpenSpec.upto linearReckonsSpec)

/-- 'cubitlaw20.LinearFrom', WHERE WHAT IT READS IS OF BULK AT MOST 1048576: true; the input reads as it did. -/
def linearFromUptoRow : OpenClaim := { program := "ytfpfjlbgodgmlaa", sum := "09525f971c4a0f7442312ef3f7094ce8200d7812c8fa49c0f48ecbc7563886a6", func := "cubit/cubitlaw20.LinearFrom", spec := "linearFrom", unfollowed := true, recurses := true, apart := false, narrowed := true }
def LinearFromUptoSaid : Prop := linearFromUptoRow.holds Try.pinned (OpenSpec.upto linearFromSpec)

/-- 'cubitlaw20.LinearSynth', WHERE WHAT IT READS IS OF BULK AT MOST 1048576: true; the input reads as it did. -/
def linearSynthUptoRow : OpenClaim := { program := "ytfpfjlbgodgmlaa", sum := "09525f971c4a0f7442312ef3f7094ce8200d7812c8fa49c0f48ecbc7563886a6", func := "cubit/cubitlaw20.LinearSynth", spec := "linearSynth", unfollowed := true, recurses := true, apart := false, narrowed := true }
def LinearSynthUptoSaid : Prop := linearSynthUptoRow.holds Try.pinned (OpenSpec.upto linearSynthSpec)

/-- 'cubitlaw11.CircuitJoins', WHERE WHAT IT READS IS OF BULK AT MOST 1048576: true; the input reads as it did. -/
def circuitJoinsUptoRow : OpenClaim := { program := "ytfpfjlbgodgmlaa", sum := "09525f971c4a0f7442312ef3f7094ce8200d7812c8fa49c0f48ecbc7563886a6", func := "cubit/cubitlaw11.CircuitJoins", spec := "circuitJoins", unfollowed := true, recurses := true, apart := false, narrowed := true }
def CircuitJoinsUptoSaid : Prop := circuitJoinsUptoRow.holds Try.pinned (OpenSpec.upto circuitJoinsSpec)

/-- 'cubitlaw11.CircuitBack', WHERE WHAT IT READS IS OF BULK AT MOST 1048576: true; the input reads as it did. -/
def circuitBackUptoRow : OpenClaim := { program := "ytfpfjlbgodgmlaa", sum := "09525f971c4a0f7442312ef3f7094ce8200d7812c8fa49c0f48ecbc7563886a6", func := "cubit/cubitlaw11.CircuitBack", spec := "circuitBack", unfollowed := true, recurses := true, apart := false, narrowed := true }
def CircuitBackUptoSaid : Prop := circuitBackUptoRow.holds Try.pinned (OpenSpec.upto circuitBackSpec)

/-- 'cubitlaw08.GateAsks', WHERE WHAT IT READS IS OF BULK AT MOST 1048576: true; the input reads as it did. -/
def gateAsksUptoRow : OpenClaim := { program := "ytfpfjlbgodgmlaa", sum := "09525f971c4a0f7442312ef3f7094ce8200d7812c8fa49c0f48ecbc7563886a6", func := "cubit/cubitlaw08.GateAsks", spec := "gateAsks", inPlace := ["math.archTrunc", "math.Float64bits", "math.Float64frombits"], unfollowed := true, recurses := true, apart := false, narrowed := true }
def GateAsksUptoSaid : Prop := gateAsksUptoRow.holds Try.pinned (OpenSpec.upto gateAsksSpec)

end Rows
end Go.Proofs.Ytfpfjlbgodgmlaa
