/-
  No cell of these rows narrows 'for every input' (looked for: loops, veiled, ifaces, maps, wideKeys, modest, calm, conditions, laid).
  DERIVED. THE GIVEN ROWS OF THIS SEAT. 4 by the template 'for every input the law returns true; each argument reads behind the call as it read before'; 0 by the template 'total and deterministic' (their statements: YtfbijmhmndkocaaTotals.lean).
  GIVEN WITH THE SEED: the statements are not yours to turn. If you find one false, say at which input.
  Laid BY PROGRAM, IN A SANDBOX (cutbox-rows.mjs): the forced cells as the released guide's own fill.sh prints them over the translation 10bb8949c31bb5b3… (all of the seat's roots in one cut). By AI agents, Wed Nov 11 2026. No macro, syntax, notation, axiom, sorry.
-/
import Derived.Test.YtfbijmhmndkocaaChecked
import GoSem.Claim
import GoSem.ClaimJoined
import GoSem.ClaimMapViews
import Derived.JoinedTies
import Derived.KernelRfl
namespace Go.Proofs.Ytfbijmhmndkocaa
/- THE CELL 'sum', in the pinned program and in every row, IS THE sha256 OF THE DUMP (.gsa) THAT YtfbijmhmndkocaaProg.lean LOADS. Nothing in Lean hashes anything: it is a label: what it is worth is what the hold of that sum in a sandbox is worth. -/
noncomputable def Try.pinned : Pinned := { name := "ytfbijmhmndkocaa", sum := "10bb8949c31bb5b3d63a49f29e38ddec8f42827bb25526c18c73480850f3713a", checked := Try.checked }
namespace Rows
def none {H : Type} : Left H := { results := [], args := [] }

/-- 'laws.FnCrcPrefix': WHATEVER THE INPUT: true; the input reads as it did. -/
def fnCrcPrefixSpec : ChangeSpec := { name := "fnCrcPrefix", fn := fun _ => fun
  | [d] => { results := [.lit (.bool true)], args := [d] }
  | _ => none }
def fnCrcPrefixRow : OpenClaim := { program := "ytfbijmhmndkocaa", sum := "10bb8949c31bb5b3d63a49f29e38ddec8f42827bb25526c18c73480850f3713a", func := "loop.example/g00833/laws.FnCrcPrefix", spec := "fnCrcPrefix", apart := false }
def FnCrcPrefixSaid : Prop := fnCrcPrefixRow.holds Try.pinned (OpenSpec.ofChange fnCrcPrefixSpec)

/-- ITS FALSE NEIGHBOUR: 'it returns false'. Refute it at one input. -/
def fnCrcPrefixWrong : ChangeSpec := { name := "fnCrcPrefix", fn := fun _ => fun
  | [d] => { results := [.lit (.bool false)], args := [d] }
  | _ => none }
def FnCrcPrefixWrongFalsely : Prop := fnCrcPrefixRow.holds Try.pinned (OpenSpec.ofChange fnCrcPrefixWrong)

/-- 'laws.FnCrcLinear': WHATEVER THE INPUT: true; the input reads as it did. -/
def fnCrcLinearSpec : ChangeSpec := { name := "fnCrcLinear", fn := fun _ => fun
  | [d] => { results := [.lit (.bool true)], args := [d] }
  | _ => none }
def fnCrcLinearRow : OpenClaim := { program := "ytfbijmhmndkocaa", sum := "10bb8949c31bb5b3d63a49f29e38ddec8f42827bb25526c18c73480850f3713a", func := "loop.example/g00833/laws.FnCrcLinear", spec := "fnCrcLinear", apart := false }
def FnCrcLinearSaid : Prop := fnCrcLinearRow.holds Try.pinned (OpenSpec.ofChange fnCrcLinearSpec)

/-- ITS FALSE NEIGHBOUR: 'it returns false'. Refute it at one input. -/
def fnCrcLinearWrong : ChangeSpec := { name := "fnCrcLinear", fn := fun _ => fun
  | [d] => { results := [.lit (.bool false)], args := [d] }
  | _ => none }
def FnCrcLinearWrongFalsely : Prop := fnCrcLinearRow.holds Try.pinned (OpenSpec.ofChange fnCrcLinearWrong)

/-- 'laws.FnCrcBytes': WHATEVER THE INPUT: true; the input reads as it did. -/
def fnCrcBytesSpec : ChangeSpec := { name := "fnCrcBytes", fn := fun _ => fun
  | [d] => { results := [.lit (.bool true)], args := [d] }
  | _ => none }
def fnCrcBytesRow : OpenClaim := { program := "ytfbijmhmndkocaa", sum := "10bb8949c31bb5b3d63a49f29e38ddec8f42827bb25526c18c73480850f3713a", func := "loop.example/g00833/laws.FnCrcBytes", spec := "fnCrcBytes", apart := false }
def FnCrcBytesSaid : Prop := fnCrcBytesRow.holds Try.pinned (OpenSpec.ofChange fnCrcBytesSpec)

/-- ITS FALSE NEIGHBOUR: 'it returns false'. Refute it at one input. -/
def fnCrcBytesWrong : ChangeSpec := { name := "fnCrcBytes", fn := fun _ => fun
  | [d] => { results := [.lit (.bool false)], args := [d] }
  | _ => none }
def FnCrcBytesWrongFalsely : Prop := fnCrcBytesRow.holds Try.pinned (OpenSpec.ofChange fnCrcBytesWrong)

/-- 'laws.FnCrcAppended': WHATEVER THE INPUT: true; the input reads as it did. -/
def fnCrcAppendedSpec : ChangeSpec := { name := "fnCrcAppended", fn := fun _ => fun
  | [d] => { results := [.lit (.bool true)], args := [d] }
  | _ => none }
def fnCrcAppendedRow : OpenClaim := { program := "ytfbijmhmndkocaa", sum := "10bb8949c31bb5b3d63a49f29e38ddec8f42827bb25526c18c73480850f3713a", func := "loop.example/g00833/laws.FnCrcAppended", spec := "fnCrcAppended", apart := false }
def FnCrcAppendedSaid : Prop := fnCrcAppendedRow.holds Try.pinned (OpenSpec.ofChange fnCrcAppendedSpec)

/-- ITS FALSE NEIGHBOUR: 'it returns false'. Refute it at one input. -/
def fnCrcAppendedWrong : ChangeSpec := { name := "fnCrcAppended", fn := fun _ => fun
  | [d] => { results := [.lit (.bool false)], args := [d] }
  | _ => none }
def FnCrcAppendedWrongFalsely : Prop := fnCrcAppendedRow.holds Try.pinned (OpenSpec.ofChange fnCrcAppendedWrong)

/- THE SECOND FORM. 'bulk': how many values and letters a reading holds, each counted each time it is reached (what is shared counts as often as it is met; a slice's spare places count too). A statement '..UptoSaid' is the law's where the arguments, and the package variables that the reading takes, are together of bulk at most 1048576: NARROWER than '..Said'. Prove '..Said' where nothing that the law and all that it calls make is longer than what came in: it says more and counts as full. Else prove '..UptoSaid'. A law counts once. -/
mutual
def uptoBulk {H : Type} : DataW H → Nat
  | .lit (.string bytes) => bytes.length + 1
  | .lit _ => 1
  | .nil => 1
  | .ptr d => uptoBulk d + 1
  | .slice elems spare => uptoBulkAll elems + uptoBulkAll spare + 1
  | .agg parts => uptoBulkAll parts + 1
  | .iface _ d => uptoBulk d + 1
  | .map entries => uptoBulkEntries entries + 1
  | .held _ => 1
def uptoBulkAll {H : Type} : List (DataW H) → Nat
  | [] => 0
  | d :: r => uptoBulk d + uptoBulkAll r
def uptoBulkEntries {H : Type} : List (Lit × DataW H) → Nat
  | [] => 0
  | x :: r => uptoBulkEntry x + uptoBulkEntries r
def uptoBulkEntry {H : Type} : Lit × DataW H → Nat
  | (.string bytes, d) => bytes.length + uptoBulk d + 1
  | (_, d) => uptoBulk d + 1
 end
def uptoSmall : (H : Type) → List (DataW H) → Bool := fun _ ds => decide (uptoBulkAll ds ≤ 1048576)
def OpenSpec.upto (s : _root_.Go.ChangeSpec) : _root_.Go.OpenSpec := { _root_.Go.OpenSpec.ofChange s with cond := some uptoSmall }

/-- 'laws.FnCrcPrefix', WHERE WHAT IT READS IS OF BULK AT MOST 1048576: true; the input reads as it did. -/
def fnCrcPrefixUptoRow : OpenClaim := { program := "ytfbijmhmndkocaa", sum := "10bb8949c31bb5b3d63a49f29e38ddec8f42827bb25526c18c73480850f3713a", func := "loop.example/g00833/laws.FnCrcPrefix", spec := "fnCrcPrefix", apart := false, narrowed := true }
def FnCrcPrefixUptoSaid : Prop := fnCrcPrefixUptoRow.holds Try.pinned (OpenSpec.upto fnCrcPrefixSpec)

/-- 'laws.FnCrcLinear', WHERE WHAT IT READS IS OF BULK AT MOST 1048576: true; the input reads as it did. -/
def fnCrcLinearUptoRow : OpenClaim := { program := "ytfbijmhmndkocaa", sum := "10bb8949c31bb5b3d63a49f29e38ddec8f42827bb25526c18c73480850f3713a", func := "loop.example/g00833/laws.FnCrcLinear", spec := "fnCrcLinear", apart := false, narrowed := true }
def FnCrcLinearUptoSaid : Prop := fnCrcLinearUptoRow.holds Try.pinned (OpenSpec.upto fnCrcLinearSpec)

/-- 'laws.FnCrcBytes', WHERE WHAT IT READS IS OF BULK AT MOST 1048576: true; the input reads as it did. -/
def fnCrcBytesUptoRow : OpenClaim := { program := "ytfbijmhmndkocaa", sum := "10bb8949c31bb5b3d63a49f29e38ddec8f42827bb25526c18c73480850f3713a", func := "loop.example/g00833/laws.FnCrcBytes", spec := "fnCrcBytes", apart := false, narrowed := true }
def FnCrcBytesUptoSaid : Prop := fnCrcBytesUptoRow.holds Try.pinned (OpenSpec.upto fnCrcBytesSpec)

/-- 'laws.FnCrcAppended', WHERE WHAT IT READS IS OF BULK AT MOST 1048576: true; the input reads as it did. -/
def fnCrcAppendedUptoRow : OpenClaim := { program := "ytfbijmhmndkocaa", sum := "10bb8949c31bb5b3d63a49f29e38ddec8f42827bb25526c18c73480850f3713a", func := "loop.example/g00833/laws.FnCrcAppended", spec := "fnCrcAppended", apart := false, narrowed := true }
def FnCrcAppendedUptoSaid : Prop := fnCrcAppendedUptoRow.holds Try.pinned (OpenSpec.upto fnCrcAppendedSpec)

end Rows
end Go.Proofs.Ytfbijmhmndkocaa
