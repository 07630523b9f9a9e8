/-
  No cell of these rows narrows 'for every input' (looked for: loops, veiled, ifaces, maps, wideKeys, modest, calm, conditions, laid).
  DERIVED. THE GIVEN ROWS OF THIS SEAT. 8 by the template 'for every input the law returns true; each argument reads behind the call as it read before'; 0 by the template 'total and deterministic' (their statements: YteloepinfffmgaaTotals.lean).
  GIVEN WITH THE SEED: the statements are not yours to turn. If you find one false, say at which input.
  Laid BY PROGRAM, IN A SANDBOX (cutbox-rows.mjs): the forced cells as the released guide's own fill.sh prints them over the translation 9a973ee2f2a8a3bb… (all of the seat's roots in one cut). By AI agents, Wed Nov 11 2026. No macro, syntax, notation, axiom, sorry.
-/
import Derived.Test.YteloepinfffmgaaChecked
import GoSem.Claim
import GoSem.ClaimJoined
import GoSem.ClaimMapViews
import Derived.JoinedTies
import Derived.KernelRfl
namespace Go.Proofs.Yteloepinfffmgaa
/- THE CELL 'sum', in the pinned program and in every row, IS THE sha256 OF THE DUMP (.gsa) THAT YteloepinfffmgaaProg.lean LOADS. Nothing in Lean hashes anything: it is a label: what it is worth is what the hold of that sum in a sandbox is worth. -/
noncomputable def Try.pinned : Pinned := { name := "yteloepinfffmgaa", sum := "9a973ee2f2a8a3bb0b59235790b4ef3dfb86fb844fa6cdd174174c42030170d8", checked := Try.checked }
namespace Rows
def none {H : Type} : Left H := { results := [], args := [] }

/-- 'cubitlaw18.TableauAsks': WHATEVER THE INPUT: true; the input reads as it did. -/
def tableauAsksSpec : ChangeSpec := { name := "tableauAsks", fn := fun _ => fun
  | [d1, d2, d3, d4] => { results := [.lit (.bool true)], args := [d1, d2, d3, d4] }
  | _ => none }
def tableauAsksRow : OpenClaim := { program := "yteloepinfffmgaa", sum := "9a973ee2f2a8a3bb0b59235790b4ef3dfb86fb844fa6cdd174174c42030170d8", func := "cubit/cubitlaw18.TableauAsks", spec := "tableauAsks", unfollowed := true, recurses := true, apart := false }
def TableauAsksSaid : Prop := tableauAsksRow.holds Try.pinned (OpenSpec.ofChange tableauAsksSpec)

/-- ITS FALSE NEIGHBOUR: 'it returns false'. Refute it at one input. -/
def tableauAsksWrong : ChangeSpec := { name := "tableauAsks", fn := fun _ => fun
  | [d1, d2, d3, d4] => { results := [.lit (.bool false)], args := [d1, d2, d3, d4] }
  | _ => none }
def TableauAsksWrongFalsely : Prop := tableauAsksRow.holds Try.pinned (OpenSpec.ofChange tableauAsksWrong)

/-- 'cubitlaw18.TableauValues': WHATEVER THE INPUT: true; the input reads as it did. -/
def tableauValuesSpec : ChangeSpec := { name := "tableauValues", fn := fun _ => fun
  | [d1, d2, d3, d4] => { results := [.lit (.bool true)], args := [d1, d2, d3, d4] }
  | _ => none }
def tableauValuesRow : OpenClaim := { program := "yteloepinfffmgaa", sum := "9a973ee2f2a8a3bb0b59235790b4ef3dfb86fb844fa6cdd174174c42030170d8", func := "cubit/cubitlaw18.TableauValues", spec := "tableauValues", unfollowed := true, recurses := true, apart := false }
def TableauValuesSaid : Prop := tableauValuesRow.holds Try.pinned (OpenSpec.ofChange tableauValuesSpec)

/-- ITS FALSE NEIGHBOUR: 'it returns false'. Refute it at one input. -/
def tableauValuesWrong : ChangeSpec := { name := "tableauValues", fn := fun _ => fun
  | [d1, d2, d3, d4] => { results := [.lit (.bool false)], args := [d1, d2, d3, d4] }
  | _ => none }
def TableauValuesWrongFalsely : Prop := tableauValuesRow.holds Try.pinned (OpenSpec.ofChange tableauValuesWrong)

/-- 'cubitlaw18.TableauProjects': WHATEVER THE INPUT: true; the input reads as it did. -/
def tableauProjectsSpec : ChangeSpec := { name := "tableauProjects", fn := fun _ => fun
  | [d1, d2, d3] => { results := [.lit (.bool true)], args := [d1, d2, d3] }
  | _ => none }
def tableauProjectsRow : OpenClaim := { program := "yteloepinfffmgaa", sum := "9a973ee2f2a8a3bb0b59235790b4ef3dfb86fb844fa6cdd174174c42030170d8", func := "cubit/cubitlaw18.TableauProjects", spec := "tableauProjects", unfollowed := true, recurses := true, apart := false }
def TableauProjectsSaid : Prop := tableauProjectsRow.holds Try.pinned (OpenSpec.ofChange tableauProjectsSpec)

/-- ITS FALSE NEIGHBOUR: 'it returns false'. Refute it at one input. -/
def tableauProjectsWrong : ChangeSpec := { name := "tableauProjects", fn := fun _ => fun
  | [d1, d2, d3] => { results := [.lit (.bool false)], args := [d1, d2, d3] }
  | _ => none }
def TableauProjectsWrongFalsely : Prop := tableauProjectsRow.holds Try.pinned (OpenSpec.ofChange tableauProjectsWrong)

/-- 'cubitlaw18.TableauKeeps': WHATEVER THE INPUT: true; the input reads as it did. -/
def tableauKeepsSpec : ChangeSpec := { name := "tableauKeeps", fn := fun _ => fun
  | [d1, d2, d3, d4, d5] => { results := [.lit (.bool true)], args := [d1, d2, d3, d4, d5] }
  | _ => none }
def tableauKeepsRow : OpenClaim := { program := "yteloepinfffmgaa", sum := "9a973ee2f2a8a3bb0b59235790b4ef3dfb86fb844fa6cdd174174c42030170d8", func := "cubit/cubitlaw18.TableauKeeps", spec := "tableauKeeps", unfollowed := true, recurses := true, apart := false }
def TableauKeepsSaid : Prop := tableauKeepsRow.holds Try.pinned (OpenSpec.ofChange tableauKeepsSpec)

/-- ITS FALSE NEIGHBOUR: 'it returns false'. Refute it at one input. -/
def tableauKeepsWrong : ChangeSpec := { name := "tableauKeeps", fn := fun _ => fun
  | [d1, d2, d3, d4, d5] => { results := [.lit (.bool false)], args := [d1, d2, d3, d4, d5] }
  | _ => none }
def TableauKeepsWrongFalsely : Prop := tableauKeepsRow.holds Try.pinned (OpenSpec.ofChange tableauKeepsWrong)

/-- 'cubitlaw18.TableauBack': WHATEVER THE INPUT: true; the input reads as it did. -/
def tableauBackSpec : ChangeSpec := { name := "tableauBack", fn := fun _ => fun
  | [d1, d2, d3, d4, d5] => { results := [.lit (.bool true)], args := [d1, d2, d3, d4, d5] }
  | _ => none }
def tableauBackRow : OpenClaim := { program := "yteloepinfffmgaa", sum := "9a973ee2f2a8a3bb0b59235790b4ef3dfb86fb844fa6cdd174174c42030170d8", func := "cubit/cubitlaw18.TableauBack", spec := "tableauBack", unfollowed := true, recurses := true, apart := false }
def TableauBackSaid : Prop := tableauBackRow.holds Try.pinned (OpenSpec.ofChange tableauBackSpec)

/-- ITS FALSE NEIGHBOUR: 'it returns false'. Refute it at one input. -/
def tableauBackWrong : ChangeSpec := { name := "tableauBack", fn := fun _ => fun
  | [d1, d2, d3, d4, d5] => { results := [.lit (.bool false)], args := [d1, d2, d3, d4, d5] }
  | _ => none }
def TableauBackWrongFalsely : Prop := tableauBackRow.holds Try.pinned (OpenSpec.ofChange tableauBackWrong)

/-- 'cubitlaw18.TableauEngine': WHATEVER THE INPUT: true; the input reads as it did. -/
def tableauEngineSpec : ChangeSpec := { name := "tableauEngine", fn := fun _ => fun
  | [d1, d2] => { results := [.lit (.bool true)], args := [d1, d2] }
  | _ => none }
def tableauEngineRow : OpenClaim := { program := "yteloepinfffmgaa", sum := "9a973ee2f2a8a3bb0b59235790b4ef3dfb86fb844fa6cdd174174c42030170d8", func := "cubit/cubitlaw18.TableauEngine", spec := "tableauEngine", unfollowed := true, recurses := true, apart := false }
def TableauEngineSaid : Prop := tableauEngineRow.holds Try.pinned (OpenSpec.ofChange tableauEngineSpec)

/-- ITS FALSE NEIGHBOUR: 'it returns false'. Refute it at one input. -/
def tableauEngineWrong : ChangeSpec := { name := "tableauEngine", fn := fun _ => fun
  | [d1, d2] => { results := [.lit (.bool false)], args := [d1, d2] }
  | _ => none }
def TableauEngineWrongFalsely : Prop := tableauEngineRow.holds Try.pinned (OpenSpec.ofChange tableauEngineWrong)

/-- 'cubitlaw24.NoiseLays': WHATEVER THE INPUT: true; the input reads as it did. -/
def noiseLaysSpec : ChangeSpec := { name := "noiseLays", fn := fun _ => fun
  | [d1, d2] => { results := [.lit (.bool true)], args := [d1, d2] }
  | _ => none }
def noiseLaysRow : OpenClaim := { program := "yteloepinfffmgaa", sum := "9a973ee2f2a8a3bb0b59235790b4ef3dfb86fb844fa6cdd174174c42030170d8", func := "cubit/cubitlaw24.NoiseLays", spec := "noiseLays", apart := false }
def NoiseLaysSaid : Prop := noiseLaysRow.holds Try.pinned (OpenSpec.ofChange noiseLaysSpec)

/-- ITS FALSE NEIGHBOUR: 'it returns false'. Refute it at one input. -/
def noiseLaysWrong : ChangeSpec := { name := "noiseLays", fn := fun _ => fun
  | [d1, d2] => { results := [.lit (.bool false)], args := [d1, d2] }
  | _ => none }
def NoiseLaysWrongFalsely : Prop := noiseLaysRow.holds Try.pinned (OpenSpec.ofChange noiseLaysWrong)

/-- 'cubitlaw24.NoiseLaid': WHATEVER THE INPUT: true; the input reads as it did. -/
def noiseLaidSpec : ChangeSpec := { name := "noiseLaid", fn := fun _ => fun
  | [d1, d2] => { results := [.lit (.bool true)], args := [d1, d2] }
  | _ => none }
def noiseLaidRow : OpenClaim := { program := "yteloepinfffmgaa", sum := "9a973ee2f2a8a3bb0b59235790b4ef3dfb86fb844fa6cdd174174c42030170d8", func := "cubit/cubitlaw24.NoiseLaid", spec := "noiseLaid", apart := false }
def NoiseLaidSaid : Prop := noiseLaidRow.holds Try.pinned (OpenSpec.ofChange noiseLaidSpec)

/-- ITS FALSE NEIGHBOUR: 'it returns false'. Refute it at one input. -/
def noiseLaidWrong : ChangeSpec := { name := "noiseLaid", fn := fun _ => fun
  | [d1, d2] => { results := [.lit (.bool false)], args := [d1, d2] }
  | _ => none }
def NoiseLaidWrongFalsely : Prop := noiseLaidRow.holds Try.pinned (OpenSpec.ofChange noiseLaidWrong)

/- THE SECOND FORM. 'bulk': how many values and letters a reading holds, each counted each time it is reached (what is shared counts as often as it is met; a slice's spare places count too). A statement '..UptoSaid' is the law's where the arguments, and the package variables that the reading takes, are together of bulk at most 1048576: NARROWER than '..Said'. Prove '..Said' where nothing that the law and all that it calls make is longer than what came in: it says more and counts as full. Else prove '..UptoSaid'. A law counts once. -/
mutual
def uptoBulk {H : Type} : DataW H → Nat
  | .lit (.string bytes) => bytes.length + 1
  | .lit _ => 1
  | .nil => 1
  | .ptr d => uptoBulk d + 1
  | .slice elems spare => uptoBulkAll elems + uptoBulkAll spare + 1
  | .agg parts => uptoBulkAll parts + 1
  | .iface _ d => uptoBulk d + 1
  | .map entries => uptoBulkEntries entries + 1
  | .held _ => 1
def uptoBulkAll {H : Type} : List (DataW H) → Nat
  | [] => 0
  | d :: r => uptoBulk d + uptoBulkAll r
def uptoBulkEntries {H : Type} : List (Lit × DataW H) → Nat
  | [] => 0
  | x :: r => uptoBulkEntry x + uptoBulkEntries r
def uptoBulkEntry {H : Type} : Lit × DataW H → Nat
  | (.string bytes, d) => bytes.length + uptoBulk d + 1
  | (_, d) => uptoBulk d + 1
 end
def uptoSmall : (H : Type) → List (DataW H) → Bool := fun _ ds => decide (uptoBulkAll ds ≤ 1048576)
def OpenSpec.upto (s : _root_.Go.ChangeSpec) : _root_.Go.OpenSpec := { _root_.Go.OpenSpec.ofChange s with cond := some uptoSmall }

/-- 'cubitlaw18.TableauAsks', WHERE WHAT IT READS IS OF BULK AT MOST 1048576: true; the input reads as it did. -/
def tableauAsksUptoRow : OpenClaim := { program := "yteloepinfffmgaa", sum := "9a973ee2f2a8a3bb0b59235790b4ef3dfb86fb844fa6cdd174174c42030170d8", func := "cubit/cubitlaw18.TableauAsks", spec := "tableauAsks", unfollowed := true, recurses := true, apart := false, narrowed := true }
def TableauAsksUptoSaid : Prop := tableauAsksUptoRow.holds Try.pinned (OpenSpec.upto tableauAsksSpec)

/-- 'cubitlaw18.TableauValues', WHERE WHAT IT READS IS OF BULK AT MOST 1048576: true; the input reads as it did. -/
def tableauValuesUptoRow : OpenClaim := { program := "yteloepinfffmgaa", sum := "9a973ee2f2a8a3bb0b59235790b4ef3dfb86fb844fa6cdd174174c42030170d8", func := "cubit/cubitlaw18.TableauValues", spec := "tableauValues", unfollowed := true, recurses := true, apart := false, narrowed := true }
def TableauValuesUptoSaid : Prop := tableauValuesUptoRow.holds Try.pinned (OpenSpec.upto tableauValuesSpec)

/-- 'cubitlaw18.TableauProjects', WHERE WHAT IT READS IS OF BULK AT MOST 1048576: true; the input reads as it did. -/
def tableauProjectsUptoRow : OpenClaim := { program := "yteloepinfffmgaa", sum := "9a973ee2f2a8a3bb0b59235790b4ef3dfb86fb844fa6cdd174174c42030170d8", func := "cubit/cubitlaw18.TableauProjects", spec := "tableauProjects", unfollowed := true, recurses := true, apart := false, narrowed := true }
def TableauProjectsUptoSaid : Prop := tableauProjectsUptoRow.holds Try.pinned (OpenSpec.upto tableauProjectsSpec)

/-- 'cubitlaw18.TableauKeeps', WHERE WHAT IT READS IS OF BULK AT MOST 1048576: true; the input reads as it did. -/
def tableauKeepsUptoRow : OpenClaim := { program := "yteloepinfffmgaa", sum := "9a973ee2f2a8a3bb0b59235790b4ef3dfb86fb844fa6cdd174174c42030170d8", func := "cubit/cubitlaw18.TableauKeeps", spec := "tableauKeeps", unfollowed := true, recurses := true, apart := false, narrowed := true }
def TableauKeepsUptoSaid : Prop := tableauKeepsUptoRow.holds Try.pinned (OpenSpec.upto tableauKeepsSpec)

/-- 'cubitlaw18.TableauBack', WHERE WHAT IT READS IS OF BULK AT MOST 1048576: true; the input reads as it did. -/
def tableauBackUptoRow : OpenClaim := { program := "yteloepinfffmgaa", sum := "9a973ee2f2a8a3bb0b59235790b4ef3dfb86fb844fa6cdd174174c42030170d8", func := "cubit/cubitlaw18.TableauBack", spec := "tableauBack", unfollowed := true, recurses := true, apart := false, narrowed := true }
def TableauBackUptoSaid : Prop := tableauBackUptoRow.holds Try.pinned (OpenSpec.upto tableauBackSpec)

/-- 'cubitlaw18.TableauEngine', WHERE WHAT IT READS IS OF BULK AT MOST 1048576: true; the input reads as it did. -/
def tableauEngineUptoRow : OpenClaim := { program := "yteloepinfffmgaa", sum := "9a973ee2f2a8a3bb0b59235790b4ef3dfb86fb844fa6cdd174174c42030170d8", func := "cubit/cubitlaw18.TableauEngine", spec := "tableauEngine", unfollowed := true, recurses := true, apart := false, narrowed := true }
def TableauEngineUptoSaid : Prop := tableauEngineUptoRow.holds Try.pinned (OpenSpec.upto tableauEngineSpec)

/-- 'cubitlaw24.NoiseLays', WHERE WHAT IT READS IS OF BULK AT MOST 1048576: true; the input reads as it did. -/
def noiseLaysUptoRow : OpenClaim := { program := "yteloepinfffmgaa", sum := "9a973ee2f2a8a3bb0b59235790b4ef3dfb86fb844fa6cdd174174c42030170d8", func := "cubit/cubitlaw24.NoiseLays", spec := "noiseLays", apart := false, narrowed := true }
def NoiseLaysUptoSaid : Prop := noiseLaysUptoRow.holds Try.pinned (OpenSpec.upto noiseLaysSpec)

/-- 'cubitlaw24.NoiseLaid', WHERE WHAT IT READS IS OF BULK AT MOST 1048576: true; the input reads as it did. -/
def noiseLaidUptoRow : OpenClaim := { program := "yteloepinfffmgaa", sum := "9a973ee2f2a8a3bb0b59235790b4ef3dfb86fb844fa6cdd174174c42030170d8", func := "cubit/cubitlaw24.NoiseLaid", spec := "noiseLaid", apart := false, narrowed := true }
def NoiseLaidUptoSaid : Prop := noiseLaidUptoRow.holds Try.pinned (OpenSpec.upto noiseLaidSpec)

end Rows
end Go.Proofs.Yteloepinfffmgaa
