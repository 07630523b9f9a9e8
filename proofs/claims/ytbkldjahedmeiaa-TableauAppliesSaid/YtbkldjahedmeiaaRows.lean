/-
  No cell of these rows narrows 'for every input' (looked for: loops, veiled, ifaces, maps, wideKeys, modest, calm, conditions, laid).
  DERIVED. THE GIVEN ROWS OF THIS SEAT. 12 by the template 'for every input the law returns true; each argument reads behind the call as it read before'; 0 by the template 'total and deterministic' (their statements: YtbkldjahedmeiaaTotals.lean).
  GIVEN WITH THE SEED: the statements are not yours to turn. If you find one false, say at which input.
  Laid BY PROGRAM, IN A SANDBOX (cutbox-rows.mjs): the forced cells as the released guide's own fill.sh prints them over the translation 09953da51cb8af7b… (all of the seat's roots in one cut). By AI agents, Wed Nov 11 2026. No macro, syntax, notation, axiom, sorry.
-/
import Derived.Test.YtbkldjahedmeiaaChecked
import GoSem.Claim
import GoSem.ClaimJoined
import GoSem.ClaimMapViews
import Derived.JoinedTies
import Derived.KernelRfl
namespace Go.Proofs.Ytbkldjahedmeiaa
/- THE CELL 'sum', in the pinned program and in every row, IS THE sha256 OF THE DUMP (.gsa) THAT YtbkldjahedmeiaaProg.lean LOADS. Nothing in Lean hashes anything: it is a label: what it is worth is what the hold of that sum in a sandbox is worth. -/
noncomputable def Try.pinned : Pinned := { name := "ytbkldjahedmeiaa", sum := "09953da51cb8af7b92152637de7c0b4669ce2f5bb47d1d5698df18e9745c0a79", checked := Try.checked }
namespace Rows
def none {H : Type} : Left H := { results := [], args := [] }

/-- 'cubitlaw11.CircuitOrders': WHATEVER THE INPUT: true; the input reads as it did. -/
def circuitOrdersSpec : ChangeSpec := { name := "circuitOrders", fn := fun _ => fun
  | [d1, d2] => { results := [.lit (.bool true)], args := [d1, d2] }
  | _ => none }
def circuitOrdersRow : OpenClaim := { program := "ytbkldjahedmeiaa", sum := "09953da51cb8af7b92152637de7c0b4669ce2f5bb47d1d5698df18e9745c0a79", func := "cubit/cubitlaw11.CircuitOrders", spec := "circuitOrders", unfollowed := true, recurses := true, apart := false }
def CircuitOrdersSaid : Prop := circuitOrdersRow.holds Try.pinned (OpenSpec.ofChange circuitOrdersSpec)

/-- ITS FALSE NEIGHBOUR: 'it returns false'. Refute it at one input. -/
def circuitOrdersWrong : ChangeSpec := { name := "circuitOrders", fn := fun _ => fun
  | [d1, d2] => { results := [.lit (.bool false)], args := [d1, d2] }
  | _ => none }
def CircuitOrdersWrongFalsely : Prop := circuitOrdersRow.holds Try.pinned (OpenSpec.ofChange circuitOrdersWrong)

/-- 'cubitlaw11.CircuitLayers': WHATEVER THE INPUT: true; the input reads as it did. -/
def circuitLayersSpec : ChangeSpec := { name := "circuitLayers", fn := fun _ => fun
  | [d1, d2] => { results := [.lit (.bool true)], args := [d1, d2] }
  | _ => none }
def circuitLayersRow : OpenClaim := { program := "ytbkldjahedmeiaa", sum := "09953da51cb8af7b92152637de7c0b4669ce2f5bb47d1d5698df18e9745c0a79", func := "cubit/cubitlaw11.CircuitLayers", spec := "circuitLayers", unfollowed := true, recurses := true, apart := false }
def CircuitLayersSaid : Prop := circuitLayersRow.holds Try.pinned (OpenSpec.ofChange circuitLayersSpec)

/-- ITS FALSE NEIGHBOUR: 'it returns false'. Refute it at one input. -/
def circuitLayersWrong : ChangeSpec := { name := "circuitLayers", fn := fun _ => fun
  | [d1, d2] => { results := [.lit (.bool false)], args := [d1, d2] }
  | _ => none }
def CircuitLayersWrongFalsely : Prop := circuitLayersRow.holds Try.pinned (OpenSpec.ofChange circuitLayersWrong)

/-- 'cubitlaw11.CircuitJoins': WHATEVER THE INPUT: true; the input reads as it did. -/
def circuitJoinsSpec : ChangeSpec := { name := "circuitJoins", fn := fun _ => fun
  | [d1, d2] => { results := [.lit (.bool true)], args := [d1, d2] }
  | _ => none }
def circuitJoinsRow : OpenClaim := { program := "ytbkldjahedmeiaa", sum := "09953da51cb8af7b92152637de7c0b4669ce2f5bb47d1d5698df18e9745c0a79", func := "cubit/cubitlaw11.CircuitJoins", spec := "circuitJoins", unfollowed := true, recurses := true, apart := false }
def CircuitJoinsSaid : Prop := circuitJoinsRow.holds Try.pinned (OpenSpec.ofChange circuitJoinsSpec)

/-- ITS FALSE NEIGHBOUR: 'it returns false'. Refute it at one input. -/
def circuitJoinsWrong : ChangeSpec := { name := "circuitJoins", fn := fun _ => fun
  | [d1, d2] => { results := [.lit (.bool false)], args := [d1, d2] }
  | _ => none }
def CircuitJoinsWrongFalsely : Prop := circuitJoinsRow.holds Try.pinned (OpenSpec.ofChange circuitJoinsWrong)

/-- 'cubitlaw11.CircuitBack': WHATEVER THE INPUT: true; the input reads as it did. -/
def circuitBackSpec : ChangeSpec := { name := "circuitBack", fn := fun _ => fun
  | [d1, d2] => { results := [.lit (.bool true)], args := [d1, d2] }
  | _ => none }
def circuitBackRow : OpenClaim := { program := "ytbkldjahedmeiaa", sum := "09953da51cb8af7b92152637de7c0b4669ce2f5bb47d1d5698df18e9745c0a79", func := "cubit/cubitlaw11.CircuitBack", spec := "circuitBack", unfollowed := true, recurses := true, apart := false }
def CircuitBackSaid : Prop := circuitBackRow.holds Try.pinned (OpenSpec.ofChange circuitBackSpec)

/-- ITS FALSE NEIGHBOUR: 'it returns false'. Refute it at one input. -/
def circuitBackWrong : ChangeSpec := { name := "circuitBack", fn := fun _ => fun
  | [d1, d2] => { results := [.lit (.bool false)], args := [d1, d2] }
  | _ => none }
def CircuitBackWrongFalsely : Prop := circuitBackRow.holds Try.pinned (OpenSpec.ofChange circuitBackWrong)

/-- 'cubitlaw20.LinearFrom': WHATEVER THE INPUT: true; the input reads as it did. -/
def linearFromSpec : ChangeSpec := { name := "linearFrom", fn := fun _ => fun
  | [d] => { results := [.lit (.bool true)], args := [d] }
  | _ => none }
def linearFromRow : OpenClaim := { program := "ytbkldjahedmeiaa", sum := "09953da51cb8af7b92152637de7c0b4669ce2f5bb47d1d5698df18e9745c0a79", func := "cubit/cubitlaw20.LinearFrom", spec := "linearFrom", unfollowed := true, recurses := true, apart := false }
def LinearFromSaid : Prop := linearFromRow.holds Try.pinned (OpenSpec.ofChange linearFromSpec)

/-- ITS FALSE NEIGHBOUR: 'it returns false'. Refute it at one input. -/
def linearFromWrong : ChangeSpec := { name := "linearFrom", fn := fun _ => fun
  | [d] => { results := [.lit (.bool false)], args := [d] }
  | _ => none }
def LinearFromWrongFalsely : Prop := linearFromRow.holds Try.pinned (OpenSpec.ofChange linearFromWrong)

/-- 'cubitlaw20.LinearSynth': WHATEVER THE INPUT: true; the input reads as it did. -/
def linearSynthSpec : ChangeSpec := { name := "linearSynth", fn := fun _ => fun
  | [d] => { results := [.lit (.bool true)], args := [d] }
  | _ => none }
def linearSynthRow : OpenClaim := { program := "ytbkldjahedmeiaa", sum := "09953da51cb8af7b92152637de7c0b4669ce2f5bb47d1d5698df18e9745c0a79", func := "cubit/cubitlaw20.LinearSynth", spec := "linearSynth", unfollowed := true, recurses := true, apart := false }
def LinearSynthSaid : Prop := linearSynthRow.holds Try.pinned (OpenSpec.ofChange linearSynthSpec)

/-- ITS FALSE NEIGHBOUR: 'it returns false'. Refute it at one input. -/
def linearSynthWrong : ChangeSpec := { name := "linearSynth", fn := fun _ => fun
  | [d] => { results := [.lit (.bool false)], args := [d] }
  | _ => none }
def LinearSynthWrongFalsely : Prop := linearSynthRow.holds Try.pinned (OpenSpec.ofChange linearSynthWrong)

/-- 'cubitlaw11.CircuitKeeps': WHATEVER THE INPUT: true; the input reads as it did. -/
def circuitKeepsSpec : ChangeSpec := { name := "circuitKeeps", fn := fun _ => fun
  | [d1, d2] => { results := [.lit (.bool true)], args := [d1, d2] }
  | _ => none }
def circuitKeepsRow : OpenClaim := { program := "ytbkldjahedmeiaa", sum := "09953da51cb8af7b92152637de7c0b4669ce2f5bb47d1d5698df18e9745c0a79", func := "cubit/cubitlaw11.CircuitKeeps", spec := "circuitKeeps", unfollowed := true, recurses := true, apart := false }
def CircuitKeepsSaid : Prop := circuitKeepsRow.holds Try.pinned (OpenSpec.ofChange circuitKeepsSpec)

/-- ITS FALSE NEIGHBOUR: 'it returns false'. Refute it at one input. -/
def circuitKeepsWrong : ChangeSpec := { name := "circuitKeeps", fn := fun _ => fun
  | [d1, d2] => { results := [.lit (.bool false)], args := [d1, d2] }
  | _ => none }
def CircuitKeepsWrongFalsely : Prop := circuitKeepsRow.holds Try.pinned (OpenSpec.ofChange circuitKeepsWrong)

/-- 'cubitlaw20.LinearKeeps': WHATEVER THE INPUT: true; the input reads as it did. -/
def linearKeepsSpec : ChangeSpec := { name := "linearKeeps", fn := fun _ => fun
  | [d1, d2] => { results := [.lit (.bool true)], args := [d1, d2] }
  | _ => none }
def linearKeepsRow : OpenClaim := { program := "ytbkldjahedmeiaa", sum := "09953da51cb8af7b92152637de7c0b4669ce2f5bb47d1d5698df18e9745c0a79", func := "cubit/cubitlaw20.LinearKeeps", spec := "linearKeeps", unfollowed := true, recurses := true, apart := false }
def LinearKeepsSaid : Prop := linearKeepsRow.holds Try.pinned (OpenSpec.ofChange linearKeepsSpec)

/-- ITS FALSE NEIGHBOUR: 'it returns false'. Refute it at one input. -/
def linearKeepsWrong : ChangeSpec := { name := "linearKeeps", fn := fun _ => fun
  | [d1, d2] => { results := [.lit (.bool false)], args := [d1, d2] }
  | _ => none }
def LinearKeepsWrongFalsely : Prop := linearKeepsRow.holds Try.pinned (OpenSpec.ofChange linearKeepsWrong)

/-- 'cubitlaw18.TableauApplies': WHATEVER THE INPUT: true; the input reads as it did. -/
def tableauAppliesSpec : ChangeSpec := { name := "tableauApplies", fn := fun _ => fun
  | [d1, d2, d3] => { results := [.lit (.bool true)], args := [d1, d2, d3] }
  | _ => none }
def tableauAppliesRow : OpenClaim := { program := "ytbkldjahedmeiaa", sum := "09953da51cb8af7b92152637de7c0b4669ce2f5bb47d1d5698df18e9745c0a79", func := "cubit/cubitlaw18.TableauApplies", spec := "tableauApplies", unfollowed := true, recurses := true, apart := false }
def TableauAppliesSaid : Prop := tableauAppliesRow.holds Try.pinned (OpenSpec.ofChange tableauAppliesSpec)

/-- ITS FALSE NEIGHBOUR: 'it returns false'. Refute it at one input. -/
def tableauAppliesWrong : ChangeSpec := { name := "tableauApplies", fn := fun _ => fun
  | [d1, d2, d3] => { results := [.lit (.bool false)], args := [d1, d2, d3] }
  | _ => none }
def TableauAppliesWrongFalsely : Prop := tableauAppliesRow.holds Try.pinned (OpenSpec.ofChange tableauAppliesWrong)

/-- 'cubitlaw24.NoisePushes': WHATEVER THE INPUT: true; the input reads as it did. -/
def noisePushesSpec : ChangeSpec := { name := "noisePushes", fn := fun _ => fun
  | [d1, d2] => { results := [.lit (.bool true)], args := [d1, d2] }
  | _ => none }
def noisePushesRow : OpenClaim := { program := "ytbkldjahedmeiaa", sum := "09953da51cb8af7b92152637de7c0b4669ce2f5bb47d1d5698df18e9745c0a79", func := "cubit/cubitlaw24.NoisePushes", spec := "noisePushes", recurses := true, apart := false }
def NoisePushesSaid : Prop := noisePushesRow.holds Try.pinned (OpenSpec.ofChange noisePushesSpec)

/-- ITS FALSE NEIGHBOUR: 'it returns false'. Refute it at one input. -/
def noisePushesWrong : ChangeSpec := { name := "noisePushes", fn := fun _ => fun
  | [d1, d2] => { results := [.lit (.bool false)], args := [d1, d2] }
  | _ => none }
def NoisePushesWrongFalsely : Prop := noisePushesRow.holds Try.pinned (OpenSpec.ofChange noisePushesWrong)

/-- 'cubitlaw24.NoiseSingles': WHATEVER THE INPUT: true; the input reads as it did. -/
def noiseSinglesSpec : ChangeSpec := { name := "noiseSingles", fn := fun _ => fun
  | [d] => { results := [.lit (.bool true)], args := [d] }
  | _ => none }
def noiseSinglesRow : OpenClaim := { program := "ytbkldjahedmeiaa", sum := "09953da51cb8af7b92152637de7c0b4669ce2f5bb47d1d5698df18e9745c0a79", func := "cubit/cubitlaw24.NoiseSingles", spec := "noiseSingles", apart := false }
def NoiseSinglesSaid : Prop := noiseSinglesRow.holds Try.pinned (OpenSpec.ofChange noiseSinglesSpec)

/-- ITS FALSE NEIGHBOUR: 'it returns false'. Refute it at one input. -/
def noiseSinglesWrong : ChangeSpec := { name := "noiseSingles", fn := fun _ => fun
  | [d] => { results := [.lit (.bool false)], args := [d] }
  | _ => none }
def NoiseSinglesWrongFalsely : Prop := noiseSinglesRow.holds Try.pinned (OpenSpec.ofChange noiseSinglesWrong)

/-- 'cubitlaw24.NoiseParts': WHATEVER THE INPUT: true; the input reads as it did. -/
def noisePartsSpec : ChangeSpec := { name := "noiseParts", fn := fun _ => fun
  | [d1, d2, d3] => { results := [.lit (.bool true)], args := [d1, d2, d3] }
  | _ => none }
def noisePartsRow : OpenClaim := { program := "ytbkldjahedmeiaa", sum := "09953da51cb8af7b92152637de7c0b4669ce2f5bb47d1d5698df18e9745c0a79", func := "cubit/cubitlaw24.NoiseParts", spec := "noiseParts", apart := false }
def NoisePartsSaid : Prop := noisePartsRow.holds Try.pinned (OpenSpec.ofChange noisePartsSpec)

/-- ITS FALSE NEIGHBOUR: 'it returns false'. Refute it at one input. -/
def noisePartsWrong : ChangeSpec := { name := "noiseParts", fn := fun _ => fun
  | [d1, d2, d3] => { results := [.lit (.bool false)], args := [d1, d2, d3] }
  | _ => none }
def NoisePartsWrongFalsely : Prop := noisePartsRow.holds Try.pinned (OpenSpec.ofChange noisePartsWrong)

/- THE SECOND FORM. 'bulk': how many values and letters a reading holds, each counted each time it is reached (what is shared counts as often as it is met; a slice's spare places count too). A statement '..UptoSaid' is the law's where the arguments, and the package variables that the reading takes, are together of bulk at most 1048576: NARROWER than '..Said'. Prove '..Said' where nothing that the law and all that it calls make is longer than what came in: it says more and counts as full. Else prove '..UptoSaid'. A law counts once. -/
mutual
def uptoBulk {H : Type} : DataW H → Nat
  | .lit (.string bytes) => bytes.length + 1
  | .lit _ => 1
  | .nil => 1
  | .ptr d => uptoBulk d + 1
  | .slice elems spare => uptoBulkAll elems + uptoBulkAll spare + 1
  | .agg parts => uptoBulkAll parts + 1
  | .iface _ d => uptoBulk d + 1
  | .map entries => uptoBulkEntries entries + 1
  | .held _ => 1
def uptoBulkAll {H : Type} : List (DataW H) → Nat
  | [] => 0
  | d :: r => uptoBulk d + uptoBulkAll r
def uptoBulkEntries {H : Type} : List (Lit × DataW H) → Nat
  | [] => 0
  | x :: r => uptoBulkEntry x + uptoBulkEntries r
def uptoBulkEntry {H : Type} : Lit × DataW H → Nat
  | (.string bytes, d) => bytes.length + uptoBulk d + 1
  | (_, d) => uptoBulk d + 1
 end
def uptoSmall : (H : Type) → List (DataW H) → Bool := fun _ ds => decide (uptoBulkAll ds ≤ 1048576)
def OpenSpec.upto (s : _root_.Go.ChangeSpec) : _root_.Go.OpenSpec := { _root_.Go.OpenSpec.ofChange s with cond := some uptoSmall }

/-- 'cubitlaw11.CircuitOrders', WHERE WHAT IT READS IS OF BULK AT MOST 1048576: true; the input reads as it did. -/
def circuitOrdersUptoRow : OpenClaim := { program := "ytbkldjahedmeiaa", sum := "09953da51cb8af7b92152637de7c0b4669ce2f5bb47d1d5698df18e9745c0a79", func := "cubit/cubitlaw11.CircuitOrders", spec := "circuitOrders", unfollowed := true, recurses := true, apart := false, narrowed := true }
def CircuitOrdersUptoSaid : Prop := circuitOrdersUptoRow.holds Try.pinned (OpenSpec.upto circuitOrdersSpec)

/-- 'cubitlaw11.CircuitLayers', WHERE WHAT IT READS IS OF BULK AT MOST 1048576: true; the input reads as it did. -/
def circuitLayersUptoRow : OpenClaim := { program := "ytbkldjahedmeiaa", sum := "09953da51cb8af7b92152637de7c0b4669ce2f5bb47d1d5698df18e9745c0a79", func := "cubit/cubitlaw11.CircuitLayers", spec := "circuitLayers", unfollowed := true, recurses := true, apart := false, narrowed := true }
def CircuitLayersUptoSaid : Prop := circuitLayersUptoRow.holds Try.pinned (OpenSpec.upto circuitLayersSpec)

/-- 'cubitlaw11.CircuitJoins', WHERE WHAT IT READS IS OF BULK AT MOST 1048576: true; the input reads as it did. -/
def circuitJoinsUptoRow : OpenClaim := { program := "ytbkldjahedmeiaa", sum := "09953da51cb8af7b92152637de7c0b4669ce2f5bb47d1d5698df18e9745c0a79", func := "cubit/cubitlaw11.CircuitJoins", spec := "circuitJoins", unfollowed := true, recurses := true, apart := false, narrowed := true }
def CircuitJoinsUptoSaid : Prop := circuitJoinsUptoRow.holds Try.pinned (OpenSpec.upto circuitJoinsSpec)

/-- 'cubitlaw11.CircuitBack', WHERE WHAT IT READS IS OF BULK AT MOST 1048576: true; the input reads as it did. -/
def circuitBackUptoRow : OpenClaim := { program := "ytbkldjahedmeiaa", sum := "09953da51cb8af7b92152637de7c0b4669ce2f5bb47d1d5698df18e9745c0a79", func := "cubit/cubitlaw11.CircuitBack", spec := "circuitBack", unfollowed := true, recurses := true, apart := false, narrowed := true }
def CircuitBackUptoSaid : Prop := circuitBackUptoRow.holds Try.pinned (OpenSpec.upto circuitBackSpec)

/-- 'cubitlaw20.LinearFrom', WHERE WHAT IT READS IS OF BULK AT MOST 1048576: true; the input reads as it did. -/
def linearFromUptoRow : OpenClaim := { program := "ytbkldjahedmeiaa", sum := "09953da51cb8af7b92152637de7c0b4669ce2f5bb47d1d5698df18e9745c0a79", func := "cubit/cubitlaw20.LinearFrom", spec := "linearFrom", unfollowed := true, recurses := true, apart := false, narrowed := true }
def LinearFromUptoSaid : Prop := linearFromUptoRow.holds Try.pinned (OpenSpec.upto linearFromSpec)

/-- 'cubitlaw20.LinearSynth', WHERE WHAT IT READS IS OF BULK AT MOST 1048576: true; the input reads as it did. -/
def linearSynthUptoRow : OpenClaim := { program := "ytbkldjahedmeiaa", sum := "09953da51cb8af7b92152637de7c0b4669ce2f5bb47d1d5698df18e9745c0a79", func := "cubit/cubitlaw20.LinearSynth", spec := "linearSynth", unfollowed := true, recurses := true, apart := false, narrowed := true }
def LinearSynthUptoSaid : Prop := linearSynthUptoRow.holds Try.pinned (OpenSpec.upto linearSynthSpec)

/-- 'cubitlaw11.CircuitKeeps', WHERE WHAT IT READS IS OF BULK AT MOST 1048576: true; the input reads as it did. -/
def circuitKeepsUptoRow : OpenClaim := { program := "ytbkldjahedmeiaa", sum := "09953da51cb8af7b92152637de7c0b4669ce2f5bb47d1d5698df18e9745c0a79", func := "cubit/cubitlaw11.CircuitKeeps", spec := "circuitKeeps", unfollowed := true, recurses := true, apart := false, narrowed := true }
def CircuitKeepsUptoSaid : Prop := circuitKeepsUptoRow.holds Try.pinned (OpenSpec.upto circuitKeepsSpec)

/-- 'cubitlaw20.LinearKeeps', WHERE WHAT IT READS IS OF BULK AT MOST 1048576: true; the input reads as it did. -/
def linearKeepsUptoRow : OpenClaim := { program := "ytbkldjahedmeiaa", sum := "09953da51cb8af7b92152637de7c0b4669ce2f5bb47d1d5698df18e9745c0a79", func := "cubit/cubitlaw20.LinearKeeps", spec := "linearKeeps", unfollowed := true, recurses := true, apart := false, narrowed := true }
def LinearKeepsUptoSaid : Prop := linearKeepsUptoRow.holds Try.pinned (OpenSpec.upto linearKeepsSpec)

/-- 'cubitlaw18.TableauApplies', WHERE WHAT IT READS IS OF BULK AT MOST 1048576: true; the input reads as it did. -/
def tableauAppliesUptoRow : OpenClaim := { program := "ytbkldjahedmeiaa", sum := "09953da51cb8af7b92152637de7c0b4669ce2f5bb47d1d5698df18e9745c0a79", func := "cubit/cubitlaw18.TableauApplies", spec := "tableauApplies", unfollowed := true, recurses := true, apart := false, narrowed := true }
def TableauAppliesUptoSaid : Prop := tableauAppliesUptoRow.holds Try.pinned (OpenSpec.upto tableauAppliesSpec)

/-- 'cubitlaw24.NoisePushes', WHERE WHAT IT READS IS OF BULK AT MOST 1048576: true; the input reads as it did. -/
def noisePushesUptoRow : OpenClaim := { program := "ytbkldjahedmeiaa", sum := "09953da51cb8af7b92152637de7c0b4669ce2f5bb47d1d5698df18e9745c0a79", func := "cubit/cubitlaw24.NoisePushes", spec := "noisePushes", recurses := true, apart := false, narrowed := true }
def NoisePushesUptoSaid : Prop := noisePushesUptoRow.holds Try.pinned (OpenSpec.upto noisePushesSpec)

/-- 'cubitlaw24.NoiseSingles', WHERE WHAT IT READS IS OF BULK AT MOST 1048576: true; the input reads as it did. -/
def noiseSinglesUptoRow : OpenClaim := { program := "ytbkldjahedmeiaa", sum := "09953da51cb8af7b92152637de7c0b4669ce2f5bb47d1d5698df18e9745c0a79", func := "cubit/cubitlaw24.NoiseSingles", spec := "noiseSingles", apart := false, narrowed := true }
def NoiseSinglesUptoSaid : Prop := noiseSinglesUptoRow.holds Try.pinned (OpenSpec.upto noiseSinglesSpec)

/-- 'cubitlaw24.NoiseParts', WHERE WHAT IT READS IS OF BULK AT MOST 1048576: true; the input reads as it did. -/
def noisePartsUptoRow : OpenClaim := { program := "ytbkldjahedmeiaa", sum := "09953da51cb8af7b92152637de7c0b4669ce2f5bb47d1d5698df18e9745c0a79", func := "cubit/cubitlaw24.NoiseParts", spec := "noiseParts", apart := false, narrowed := true }
def NoisePartsUptoSaid : Prop := noisePartsUptoRow.holds Try.pinned (OpenSpec.upto noisePartsSpec)

end Rows
end Go.Proofs.Ytbkldjahedmeiaa
