/-
  No cell of these rows narrows 'for every input' (looked for: loops, veiled, ifaces, maps, wideKeys, modest, calm, conditions, laid).
  DERIVED. THE GIVEN ROWS OF THIS SEAT. 3 by the template 'for every input the law returns true; each argument reads behind the call as it read before'; 0 by the template 'total and deterministic' (their statements: YthekdddfljhgcaaTotals.lean).
  GIVEN WITH THE SEED: the statements are not yours to turn. If you find one false, say at which input.
  Laid BY PROGRAM, IN A SANDBOX (cutbox-rows.mjs): the forced cells as the released guide's own fill.sh prints them over the translation 8245d41c21e147be… (all of the seat's roots in one cut). By AI agents, Wed Nov 11 2026. No macro, syntax, notation, axiom, sorry.
-/
import Derived.Test.YthekdddfljhgcaaChecked
import GoSem.Claim
import GoSem.ClaimJoined
import GoSem.ClaimMapViews
import Derived.JoinedTies
import Derived.KernelRfl
namespace Go.Proofs.Ythekdddfljhgcaa
/- THE CELL 'sum', in the pinned program and in every row, IS THE sha256 OF THE DUMP (.gsa) THAT YthekdddfljhgcaaProg.lean LOADS. Nothing in Lean hashes anything: it is a label: what it is worth is what the hold of that sum in a sandbox is worth. -/
noncomputable def Try.pinned : Pinned := { name := "ythekdddfljhgcaa", sum := "8245d41c21e147be7cf3f4790fe285965a88e595325904055ab12e034516d26e", checked := Try.checked }
namespace Rows
def none {H : Type} : Left H := { results := [], args := [] }

/-- 'laws.FnExactOrderOf': WHATEVER THE INPUT: true; the input reads as it did. -/
def fnExactOrderOfSpec : ChangeSpec := { name := "fnExactOrderOf", fn := fun _ => fun
  | [d] => { results := [.lit (.bool true)], args := [d] }
  | _ => none }
def fnExactOrderOfRow : OpenClaim := { program := "ythekdddfljhgcaa", sum := "8245d41c21e147be7cf3f4790fe285965a88e595325904055ab12e034516d26e", func := "loop.example/g00833/laws.FnExactOrderOf", spec := "fnExactOrderOf", apart := false }
def FnExactOrderOfSaid : Prop := fnExactOrderOfRow.holds Try.pinned (OpenSpec.ofChange fnExactOrderOfSpec)

/-- ITS FALSE NEIGHBOUR: 'it returns false'. Refute it at one input. -/
def fnExactOrderOfWrong : ChangeSpec := { name := "fnExactOrderOf", fn := fun _ => fun
  | [d] => { results := [.lit (.bool false)], args := [d] }
  | _ => none }
def FnExactOrderOfWrongFalsely : Prop := fnExactOrderOfRow.holds Try.pinned (OpenSpec.ofChange fnExactOrderOfWrong)

/-- 'laws.FnExactLeastWeight': WHATEVER THE INPUT: true; the input reads as it did. -/
def fnExactLeastWeightSpec : ChangeSpec := { name := "fnExactLeastWeight", fn := fun _ => fun
  | [d1, d2] => { results := [.lit (.bool true)], args := [d1, d2] }
  | _ => none }
def fnExactLeastWeightRow : OpenClaim := { program := "ythekdddfljhgcaa", sum := "8245d41c21e147be7cf3f4790fe285965a88e595325904055ab12e034516d26e", func := "loop.example/g00833/laws.FnExactLeastWeight", spec := "fnExactLeastWeight", apart := false }
def FnExactLeastWeightSaid : Prop := fnExactLeastWeightRow.holds Try.pinned (OpenSpec.ofChange fnExactLeastWeightSpec)

/-- ITS FALSE NEIGHBOUR: 'it returns false'. Refute it at one input. -/
def fnExactLeastWeightWrong : ChangeSpec := { name := "fnExactLeastWeight", fn := fun _ => fun
  | [d1, d2] => { results := [.lit (.bool false)], args := [d1, d2] }
  | _ => none }
def FnExactLeastWeightWrongFalsely : Prop := fnExactLeastWeightRow.holds Try.pinned (OpenSpec.ofChange fnExactLeastWeightWrong)

/-- 'laws.FnExactFirstMissed': WHATEVER THE INPUT: true; the input reads as it did. -/
def fnExactFirstMissedSpec : ChangeSpec := { name := "fnExactFirstMissed", fn := fun _ => fun
  | [d1, d2] => { results := [.lit (.bool true)], args := [d1, d2] }
  | _ => none }
def fnExactFirstMissedRow : OpenClaim := { program := "ythekdddfljhgcaa", sum := "8245d41c21e147be7cf3f4790fe285965a88e595325904055ab12e034516d26e", func := "loop.example/g00833/laws.FnExactFirstMissed", spec := "fnExactFirstMissed", apart := false }
def FnExactFirstMissedSaid : Prop := fnExactFirstMissedRow.holds Try.pinned (OpenSpec.ofChange fnExactFirstMissedSpec)

/-- ITS FALSE NEIGHBOUR: 'it returns false'. Refute it at one input. -/
def fnExactFirstMissedWrong : ChangeSpec := { name := "fnExactFirstMissed", fn := fun _ => fun
  | [d1, d2] => { results := [.lit (.bool false)], args := [d1, d2] }
  | _ => none }
def FnExactFirstMissedWrongFalsely : Prop := fnExactFirstMissedRow.holds Try.pinned (OpenSpec.ofChange fnExactFirstMissedWrong)

/- THE SECOND FORM. 'bulk': how many values and letters a reading holds, each counted each time it is reached (what is shared counts as often as it is met; a slice's spare places count too). A statement '..UptoSaid' is the law's where the arguments, and the package variables that the reading takes, are together of bulk at most 1048576: NARROWER than '..Said'. Prove '..Said' where nothing that the law and all that it calls make is longer than what came in: it says more and counts as full. Else prove '..UptoSaid'. A law counts once. -/
mutual
def uptoBulk {H : Type} : DataW H → Nat
  | .lit (.string bytes) => bytes.length + 1
  | .lit _ => 1
  | .nil => 1
  | .ptr d => uptoBulk d + 1
  | .slice elems spare => uptoBulkAll elems + uptoBulkAll spare + 1
  | .agg parts => uptoBulkAll parts + 1
  | .iface _ d => uptoBulk d + 1
  | .map entries => uptoBulkEntries entries + 1
  | .held _ => 1
def uptoBulkAll {H : Type} : List (DataW H) → Nat
  | [] => 0
  | d :: r => uptoBulk d + uptoBulkAll r
def uptoBulkEntries {H : Type} : List (Lit × DataW H) → Nat
  | [] => 0
  | x :: r => uptoBulkEntry x + uptoBulkEntries r
def uptoBulkEntry {H : Type} : Lit × DataW H → Nat
  | (.string bytes, d) => bytes.length + uptoBulk d + 1
  | (_, d) => uptoBulk d + 1
 end
def uptoSmall : (H : Type) → List (DataW H) → Bool := fun _ ds => decide (uptoBulkAll ds ≤ 1048576)
def OpenSpec.upto (s : _root_.Go.ChangeSpec) : _root_.Go.OpenSpec := { _root_.Go.OpenSpec.ofChange s with cond := some uptoSmall }

/-- 'laws.FnExactOrderOf', WHERE WHAT IT READS IS OF BULK AT MOST 1048576: true; the input reads as it did. -/
def fnExactOrderOfUptoRow : OpenClaim := { program := "ythekdddfljhgcaa", sum := "8245d41c21e147be7cf3f4790fe285965a88e595325904055ab12e034516d26e", func := "loop.example/g00833/laws.FnExactOrderOf", spec := "fnExactOrderOf", apart := false, narrowed := true }
def FnExactOrderOfUptoSaid : Prop := fnExactOrderOfUptoRow.holds Try.pinned (OpenSpec.upto fnExactOrderOfSpec)

/-- 'laws.FnExactLeastWeight', WHERE WHAT IT READS IS OF BULK AT MOST 1048576: true; the input reads as it did. -/
def fnExactLeastWeightUptoRow : OpenClaim := { program := "ythekdddfljhgcaa", sum := "8245d41c21e147be7cf3f4790fe285965a88e595325904055ab12e034516d26e", func := "loop.example/g00833/laws.FnExactLeastWeight", spec := "fnExactLeastWeight", apart := false, narrowed := true }
def FnExactLeastWeightUptoSaid : Prop := fnExactLeastWeightUptoRow.holds Try.pinned (OpenSpec.upto fnExactLeastWeightSpec)

/-- 'laws.FnExactFirstMissed', WHERE WHAT IT READS IS OF BULK AT MOST 1048576: true; the input reads as it did. -/
def fnExactFirstMissedUptoRow : OpenClaim := { program := "ythekdddfljhgcaa", sum := "8245d41c21e147be7cf3f4790fe285965a88e595325904055ab12e034516d26e", func := "loop.example/g00833/laws.FnExactFirstMissed", spec := "fnExactFirstMissed", apart := false, narrowed := true }
def FnExactFirstMissedUptoSaid : Prop := fnExactFirstMissedUptoRow.holds Try.pinned (OpenSpec.upto fnExactFirstMissedSpec)

end Rows
end Go.Proofs.Ythekdddfljhgcaa
