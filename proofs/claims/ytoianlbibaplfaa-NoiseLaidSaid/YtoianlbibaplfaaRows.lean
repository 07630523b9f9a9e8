/-
  No cell of these rows narrows 'for every input' (looked for: loops, veiled, ifaces, maps, wideKeys, modest, calm, conditions, laid).
  DERIVED. THE GIVEN ROWS OF THIS SEAT. 3 by the template 'for every input the law returns true; each argument reads behind the call as it read before'; 0 by the template 'total and deterministic' (their statements: YtoianlbibaplfaaTotals.lean).
  GIVEN WITH THE SEED: the statements are not yours to turn. If you find one false, say at which input.
  Laid BY PROGRAM, IN A SANDBOX (cutbox-rows.mjs): the forced cells as the released guide's own fill.sh prints them over the translation 2b8702628982c46a… (all of the seat's roots in one cut). By AI agents, Wed Nov 11 2026. No macro, syntax, notation, axiom, sorry.
-/
import Derived.Test.YtoianlbibaplfaaChecked
import GoSem.Claim
import GoSem.ClaimJoined
import GoSem.ClaimMapViews
import Derived.JoinedTies
import Derived.KernelRfl
namespace Go.Proofs.Ytoianlbibaplfaa
/- THE CELL 'sum', in the pinned program and in every row, IS THE sha256 OF THE DUMP (.gsa) THAT YtoianlbibaplfaaProg.lean LOADS. Nothing in Lean hashes anything: it is a label: what it is worth is what the hold of that sum in a sandbox is worth. -/
noncomputable def Try.pinned : Pinned := { name := "ytoianlbibaplfaa", sum := "2b8702628982c46a935fbcbf7460ab29ab08466e46cedc1bd184704766536cc8", checked := Try.checked }
namespace Rows
def none {H : Type} : Left H := { results := [], args := [] }

/-- 'cubitlaw24.NoisePushes': WHATEVER THE INPUT: true; the input reads as it did. -/
def noisePushesSpec : ChangeSpec := { name := "noisePushes", fn := fun _ => fun
  | [d1, d2] => { results := [.lit (.bool true)], args := [d1, d2] }
  | _ => none }
def noisePushesRow : OpenClaim := { program := "ytoianlbibaplfaa", sum := "2b8702628982c46a935fbcbf7460ab29ab08466e46cedc1bd184704766536cc8", func := "cubit/cubitlaw24.NoisePushes", spec := "noisePushes", recurses := true, apart := false }
def NoisePushesSaid : Prop := noisePushesRow.holds Try.pinned (OpenSpec.ofChange noisePushesSpec)

/-- ITS FALSE NEIGHBOUR: 'it returns false'. Refute it at one input. -/
def noisePushesWrong : ChangeSpec := { name := "noisePushes", fn := fun _ => fun
  | [d1, d2] => { results := [.lit (.bool false)], args := [d1, d2] }
  | _ => none }
def NoisePushesWrongFalsely : Prop := noisePushesRow.holds Try.pinned (OpenSpec.ofChange noisePushesWrong)

/-- 'cubitlaw24.NoiseLays': WHATEVER THE INPUT: true; the input reads as it did. -/
def noiseLaysSpec : ChangeSpec := { name := "noiseLays", fn := fun _ => fun
  | [d1, d2] => { results := [.lit (.bool true)], args := [d1, d2] }
  | _ => none }
def noiseLaysRow : OpenClaim := { program := "ytoianlbibaplfaa", sum := "2b8702628982c46a935fbcbf7460ab29ab08466e46cedc1bd184704766536cc8", func := "cubit/cubitlaw24.NoiseLays", spec := "noiseLays", apart := false }
def NoiseLaysSaid : Prop := noiseLaysRow.holds Try.pinned (OpenSpec.ofChange noiseLaysSpec)

/-- ITS FALSE NEIGHBOUR: 'it returns false'. Refute it at one input. -/
def noiseLaysWrong : ChangeSpec := { name := "noiseLays", fn := fun _ => fun
  | [d1, d2] => { results := [.lit (.bool false)], args := [d1, d2] }
  | _ => none }
def NoiseLaysWrongFalsely : Prop := noiseLaysRow.holds Try.pinned (OpenSpec.ofChange noiseLaysWrong)

/-- 'cubitlaw24.NoiseLaid': WHATEVER THE INPUT: true; the input reads as it did. -/
def noiseLaidSpec : ChangeSpec := { name := "noiseLaid", fn := fun _ => fun
  | [d1, d2] => { results := [.lit (.bool true)], args := [d1, d2] }
  | _ => none }
def noiseLaidRow : OpenClaim := { program := "ytoianlbibaplfaa", sum := "2b8702628982c46a935fbcbf7460ab29ab08466e46cedc1bd184704766536cc8", func := "cubit/cubitlaw24.NoiseLaid", spec := "noiseLaid", apart := false }
def NoiseLaidSaid : Prop := noiseLaidRow.holds Try.pinned (OpenSpec.ofChange noiseLaidSpec)

/-- ITS FALSE NEIGHBOUR: 'it returns false'. Refute it at one input. -/
def noiseLaidWrong : ChangeSpec := { name := "noiseLaid", fn := fun _ => fun
  | [d1, d2] => { results := [.lit (.bool false)], args := [d1, d2] }
  | _ => none }
def NoiseLaidWrongFalsely : Prop := noiseLaidRow.holds Try.pinned (OpenSpec.ofChange noiseLaidWrong)

/- THE SECOND FORM. 'bulk': how many values and letters a reading holds, each counted each time it is reached (what is shared counts as often as it is met; a slice's spare places count too). A statement '..UptoSaid' is the law's where the arguments, and the package variables that the reading takes, are together of bulk at most 1048576: NARROWER than '..Said'. Prove '..Said' where nothing that the law and all that it calls make is longer than what came in: it says more and counts as full. Else prove '..UptoSaid'. A law counts once. -/
mutual
def uptoBulk {H : Type} : DataW H → Nat
  | .lit (.string bytes) => bytes.length + 1
  | .lit _ => 1
  | .nil => 1
  | .ptr d => uptoBulk d + 1
  | .slice elems spare => uptoBulkAll elems + uptoBulkAll spare + 1
  | .agg parts => uptoBulkAll parts + 1
  | .iface _ d => uptoBulk d + 1
  | .map entries => uptoBulkEntries entries + 1
  | .held _ => 1
def uptoBulkAll {H : Type} : List (DataW H) → Nat
  | [] => 0
  | d :: r => uptoBulk d + uptoBulkAll r
def uptoBulkEntries {H : Type} : List (Lit × DataW H) → Nat
  | [] => 0
  | x :: r => uptoBulkEntry x + uptoBulkEntries r
def uptoBulkEntry {H : Type} : Lit × DataW H → Nat
  | (.string bytes, d) => bytes.length + uptoBulk d + 1
  | (_, d) => uptoBulk d + 1
 end
def uptoSmall : (H : Type) → List (DataW H) → Bool := fun _ ds => decide (uptoBulkAll ds ≤ 1048576)
def OpenSpec.upto (s : _root_.Go.ChangeSpec) : _root_.Go.OpenSpec := { _root_.Go.OpenSpec.ofChange s with cond := some uptoSmall }

/-- 'cubitlaw24.NoisePushes', WHERE WHAT IT READS IS OF BULK AT MOST 1048576: true; the input reads as it did. -/
def noisePushesUptoRow : OpenClaim := { program := "ytoianlbibaplfaa", sum := "2b8702628982c46a935fbcbf7460ab29ab08466e46cedc1bd184704766536cc8", func := "cubit/cubitlaw24.NoisePushes", spec := "noisePushes", recurses := true, apart := false, narrowed := true }
def NoisePushesUptoSaid : Prop := noisePushesUptoRow.holds Try.pinned (OpenSpec.upto noisePushesSpec)

/-- 'cubitlaw24.NoiseLays', WHERE WHAT IT READS IS OF BULK AT MOST 1048576: true; the input reads as it did. -/
def noiseLaysUptoRow : OpenClaim := { program := "ytoianlbibaplfaa", sum := "2b8702628982c46a935fbcbf7460ab29ab08466e46cedc1bd184704766536cc8", func := "cubit/cubitlaw24.NoiseLays", spec := "noiseLays", apart := false, narrowed := true }
def NoiseLaysUptoSaid : Prop := noiseLaysUptoRow.holds Try.pinned (OpenSpec.upto noiseLaysSpec)

/-- 'cubitlaw24.NoiseLaid', WHERE WHAT IT READS IS OF BULK AT MOST 1048576: true; the input reads as it did. -/
def noiseLaidUptoRow : OpenClaim := { program := "ytoianlbibaplfaa", sum := "2b8702628982c46a935fbcbf7460ab29ab08466e46cedc1bd184704766536cc8", func := "cubit/cubitlaw24.NoiseLaid", spec := "noiseLaid", apart := false, narrowed := true }
def NoiseLaidUptoSaid : Prop := noiseLaidUptoRow.holds Try.pinned (OpenSpec.upto noiseLaidSpec)

end Rows
end Go.Proofs.Ytoianlbibaplfaa
