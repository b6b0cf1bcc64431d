/-
  No cell of these rows narrows 'for every input' (looked for: loops, veiled, ifaces, maps, wideKeys, modest, calm, conditions, laid).
  DERIVED. THE GIVEN ROWS OF THIS SEAT. 8 by the template 'for every input the law returns true; each argument reads behind the call as it read before'; 0 by the template 'total and deterministic' (their statements: YtmjccemocffefaaTotals.lean).
  GIVEN WITH THE SEED: the statements are not yours to turn. If you find one false, say at which input.
  Laid BY PROGRAM, IN A SANDBOX (cutbox-rows.mjs): the forced cells as the released guide's own fill.sh prints them over the translation 511b8787e7451e58… (all of the seat's roots in one cut). By AI agents, Wed Nov 11 2026. No macro, syntax, notation, axiom, sorry.
-/
import Derived.Test.YtmjccemocffefaaChecked
import GoSem.Claim
import GoSem.ClaimJoined
import GoSem.ClaimMapViews
import Derived.JoinedTies
import Derived.KernelRfl
namespace Go.Proofs.Ytmjccemocffefaa
/- THE CELL 'sum', in the pinned program and in every row, IS THE sha256 OF THE DUMP (.gsa) THAT YtmjccemocffefaaProg.lean LOADS. Nothing in Lean hashes anything: it is a label: what it is worth is what the hold of that sum in a sandbox is worth. -/
noncomputable def Try.pinned : Pinned := { name := "ytmjccemocffefaa", sum := "511b8787e7451e58fca7a7d42dfcccdee8b99595c5ce228ed2221fbdb93e5787", checked := Try.checked }
namespace Rows
def none {H : Type} : Left H := { results := [], args := [] }

/-- 'laws.FnExactSetMember': WHATEVER THE INPUT: true; the input reads as it did. -/
def fnExactSetMemberSpec : ChangeSpec := { name := "fnExactSetMember", fn := fun _ => fun
  | [d1, d2, d3] => { results := [.lit (.bool true)], args := [d1, d2, d3] }
  | _ => none }
def fnExactSetMemberRow : OpenClaim := { program := "ytmjccemocffefaa", sum := "511b8787e7451e58fca7a7d42dfcccdee8b99595c5ce228ed2221fbdb93e5787", func := "loop.example/g00833/laws.FnExactSetMember", spec := "fnExactSetMember", apart := false }
def FnExactSetMemberSaid : Prop := fnExactSetMemberRow.holds Try.pinned (OpenSpec.ofChange fnExactSetMemberSpec)

/-- ITS FALSE NEIGHBOUR: 'it returns false'. Refute it at one input. -/
def fnExactSetMemberWrong : ChangeSpec := { name := "fnExactSetMember", fn := fun _ => fun
  | [d1, d2, d3] => { results := [.lit (.bool false)], args := [d1, d2, d3] }
  | _ => none }
def FnExactSetMemberWrongFalsely : Prop := fnExactSetMemberRow.holds Try.pinned (OpenSpec.ofChange fnExactSetMemberWrong)

/-- 'laws.FnExactTimeBetween': WHATEVER THE INPUT: true; the input reads as it did. -/
def fnExactTimeBetweenSpec : ChangeSpec := { name := "fnExactTimeBetween", fn := fun _ => fun
  | [d1, d2] => { results := [.lit (.bool true)], args := [d1, d2] }
  | _ => none }
def fnExactTimeBetweenRow : OpenClaim := { program := "ytmjccemocffefaa", sum := "511b8787e7451e58fca7a7d42dfcccdee8b99595c5ce228ed2221fbdb93e5787", func := "loop.example/g00833/laws.FnExactTimeBetween", spec := "fnExactTimeBetween", apart := false }
def FnExactTimeBetweenSaid : Prop := fnExactTimeBetweenRow.holds Try.pinned (OpenSpec.ofChange fnExactTimeBetweenSpec)

/-- ITS FALSE NEIGHBOUR: 'it returns false'. Refute it at one input. -/
def fnExactTimeBetweenWrong : ChangeSpec := { name := "fnExactTimeBetween", fn := fun _ => fun
  | [d1, d2] => { results := [.lit (.bool false)], args := [d1, d2] }
  | _ => none }
def FnExactTimeBetweenWrongFalsely : Prop := fnExactTimeBetweenRow.holds Try.pinned (OpenSpec.ofChange fnExactTimeBetweenWrong)

/-- 'laws.FnExactVectorOf': WHATEVER THE INPUT: true; the input reads as it did. -/
def fnExactVectorOfSpec : ChangeSpec := { name := "fnExactVectorOf", fn := fun _ => fun
  | [d] => { results := [.lit (.bool true)], args := [d] }
  | _ => none }
def fnExactVectorOfRow : OpenClaim := { program := "ytmjccemocffefaa", sum := "511b8787e7451e58fca7a7d42dfcccdee8b99595c5ce228ed2221fbdb93e5787", func := "loop.example/g00833/laws.FnExactVectorOf", spec := "fnExactVectorOf", apart := false }
def FnExactVectorOfSaid : Prop := fnExactVectorOfRow.holds Try.pinned (OpenSpec.ofChange fnExactVectorOfSpec)

/-- ITS FALSE NEIGHBOUR: 'it returns false'. Refute it at one input. -/
def fnExactVectorOfWrong : ChangeSpec := { name := "fnExactVectorOf", fn := fun _ => fun
  | [d] => { results := [.lit (.bool false)], args := [d] }
  | _ => none }
def FnExactVectorOfWrongFalsely : Prop := fnExactVectorOfRow.holds Try.pinned (OpenSpec.ofChange fnExactVectorOfWrong)

/-- 'laws.FnExactAcknowledgeBy': WHATEVER THE INPUT: true; the input reads as it did. -/
def fnExactAcknowledgeBySpec : ChangeSpec := { name := "fnExactAcknowledgeBy", fn := fun _ => fun
  | [d1, d2, d3, d4] => { results := [.lit (.bool true)], args := [d1, d2, d3, d4] }
  | _ => none }
def fnExactAcknowledgeByRow : OpenClaim := { program := "ytmjccemocffefaa", sum := "511b8787e7451e58fca7a7d42dfcccdee8b99595c5ce228ed2221fbdb93e5787", func := "loop.example/g00833/laws.FnExactAcknowledgeBy", spec := "fnExactAcknowledgeBy", apart := false }
def FnExactAcknowledgeBySaid : Prop := fnExactAcknowledgeByRow.holds Try.pinned (OpenSpec.ofChange fnExactAcknowledgeBySpec)

/-- ITS FALSE NEIGHBOUR: 'it returns false'. Refute it at one input. -/
def fnExactAcknowledgeByWrong : ChangeSpec := { name := "fnExactAcknowledgeBy", fn := fun _ => fun
  | [d1, d2, d3, d4] => { results := [.lit (.bool false)], args := [d1, d2, d3, d4] }
  | _ => none }
def FnExactAcknowledgeByWrongFalsely : Prop := fnExactAcknowledgeByRow.holds Try.pinned (OpenSpec.ofChange fnExactAcknowledgeByWrong)

/-- 'laws.FnExactAdvanceState': WHATEVER THE INPUT: true; the input reads as it did. -/
def fnExactAdvanceStateSpec : ChangeSpec := { name := "fnExactAdvanceState", fn := fun _ => fun
  | [d1, d2, d3, d4] => { results := [.lit (.bool true)], args := [d1, d2, d3, d4] }
  | _ => none }
def fnExactAdvanceStateRow : OpenClaim := { program := "ytmjccemocffefaa", sum := "511b8787e7451e58fca7a7d42dfcccdee8b99595c5ce228ed2221fbdb93e5787", func := "loop.example/g00833/laws.FnExactAdvanceState", spec := "fnExactAdvanceState", apart := false }
def FnExactAdvanceStateSaid : Prop := fnExactAdvanceStateRow.holds Try.pinned (OpenSpec.ofChange fnExactAdvanceStateSpec)

/-- ITS FALSE NEIGHBOUR: 'it returns false'. Refute it at one input. -/
def fnExactAdvanceStateWrong : ChangeSpec := { name := "fnExactAdvanceState", fn := fun _ => fun
  | [d1, d2, d3, d4] => { results := [.lit (.bool false)], args := [d1, d2, d3, d4] }
  | _ => none }
def FnExactAdvanceStateWrongFalsely : Prop := fnExactAdvanceStateRow.holds Try.pinned (OpenSpec.ofChange fnExactAdvanceStateWrong)

/-- 'laws.FnExactStateDistance': WHATEVER THE INPUT: true; the input reads as it did. -/
def fnExactStateDistanceSpec : ChangeSpec := { name := "fnExactStateDistance", fn := fun _ => fun
  | [d1, d2] => { results := [.lit (.bool true)], args := [d1, d2] }
  | _ => none }
def fnExactStateDistanceRow : OpenClaim := { program := "ytmjccemocffefaa", sum := "511b8787e7451e58fca7a7d42dfcccdee8b99595c5ce228ed2221fbdb93e5787", func := "loop.example/g00833/laws.FnExactStateDistance", spec := "fnExactStateDistance", apart := false }
def FnExactStateDistanceSaid : Prop := fnExactStateDistanceRow.holds Try.pinned (OpenSpec.ofChange fnExactStateDistanceSpec)

/-- ITS FALSE NEIGHBOUR: 'it returns false'. Refute it at one input. -/
def fnExactStateDistanceWrong : ChangeSpec := { name := "fnExactStateDistance", fn := fun _ => fun
  | [d1, d2] => { results := [.lit (.bool false)], args := [d1, d2] }
  | _ => none }
def FnExactStateDistanceWrongFalsely : Prop := fnExactStateDistanceRow.holds Try.pinned (OpenSpec.ofChange fnExactStateDistanceWrong)

/-- 'laws.FnExactStateToBits': WHATEVER THE INPUT: true; the input reads as it did. -/
def fnExactStateToBitsSpec : ChangeSpec := { name := "fnExactStateToBits", fn := fun _ => fun
  | [d] => { results := [.lit (.bool true)], args := [d] }
  | _ => none }
def fnExactStateToBitsRow : OpenClaim := { program := "ytmjccemocffefaa", sum := "511b8787e7451e58fca7a7d42dfcccdee8b99595c5ce228ed2221fbdb93e5787", func := "loop.example/g00833/laws.FnExactStateToBits", spec := "fnExactStateToBits", apart := false }
def FnExactStateToBitsSaid : Prop := fnExactStateToBitsRow.holds Try.pinned (OpenSpec.ofChange fnExactStateToBitsSpec)

/-- ITS FALSE NEIGHBOUR: 'it returns false'. Refute it at one input. -/
def fnExactStateToBitsWrong : ChangeSpec := { name := "fnExactStateToBits", fn := fun _ => fun
  | [d] => { results := [.lit (.bool false)], args := [d] }
  | _ => none }
def FnExactStateToBitsWrongFalsely : Prop := fnExactStateToBitsRow.holds Try.pinned (OpenSpec.ofChange fnExactStateToBitsWrong)

/-- 'laws.FnExactStateFromBits': WHATEVER THE INPUT: true; the input reads as it did. -/
def fnExactStateFromBitsSpec : ChangeSpec := { name := "fnExactStateFromBits", fn := fun _ => fun
  | [d] => { results := [.lit (.bool true)], args := [d] }
  | _ => none }
def fnExactStateFromBitsRow : OpenClaim := { program := "ytmjccemocffefaa", sum := "511b8787e7451e58fca7a7d42dfcccdee8b99595c5ce228ed2221fbdb93e5787", func := "loop.example/g00833/laws.FnExactStateFromBits", spec := "fnExactStateFromBits", apart := false }
def FnExactStateFromBitsSaid : Prop := fnExactStateFromBitsRow.holds Try.pinned (OpenSpec.ofChange fnExactStateFromBitsSpec)

/-- ITS FALSE NEIGHBOUR: 'it returns false'. Refute it at one input. -/
def fnExactStateFromBitsWrong : ChangeSpec := { name := "fnExactStateFromBits", fn := fun _ => fun
  | [d] => { results := [.lit (.bool false)], args := [d] }
  | _ => none }
def FnExactStateFromBitsWrongFalsely : Prop := fnExactStateFromBitsRow.holds Try.pinned (OpenSpec.ofChange fnExactStateFromBitsWrong)

/- THE SECOND FORM. 'bulk': how many values and letters a reading holds, each counted each time it is reached (what is shared counts as often as it is met; a slice's spare places count too). A statement '..UptoSaid' is the law's where the arguments, and the package variables that the reading takes, are together of bulk at most 1048576: NARROWER than '..Said'. Prove '..Said' where nothing that the law and all that it calls make is longer than what came in: it says more and counts as full. Else prove '..UptoSaid'. A law counts once. -/
mutual
def uptoBulk {H : Type} : DataW H → Nat
  | .lit (.string bytes) => bytes.length + 1
  | .lit _ => 1
  | .nil => 1
  | .ptr d => uptoBulk d + 1
  | .slice elems spare => uptoBulkAll elems + uptoBulkAll spare + 1
  | .agg parts => uptoBulkAll parts + 1
  | .iface _ d => uptoBulk d + 1
  | .map entries => uptoBulkEntries entries + 1
  | .held _ => 1
def uptoBulkAll {H : Type} : List (DataW H) → Nat
  | [] => 0
  | d :: r => uptoBulk d + uptoBulkAll r
def uptoBulkEntries {H : Type} : List (Lit × DataW H) → Nat
  | [] => 0
  | x :: r => uptoBulkEntry x + uptoBulkEntries r
def uptoBulkEntry {H : Type} : Lit × DataW H → Nat
  | (.string bytes, d) => bytes.length + uptoBulk d + 1
  | (_, d) => uptoBulk d + 1
 end
def uptoSmall : (H : Type) → List (DataW H) → Bool := fun _ ds => decide (uptoBulkAll ds ≤ 1048576)
def OpenSpec.upto (s : _root_.Go.ChangeSpec) : _root_.Go.OpenSpec := { _root_.Go.OpenSpec.ofChange s with cond := some uptoSmall }

/-- 'laws.FnExactSetMember', WHERE WHAT IT READS IS OF BULK AT MOST 1048576: true; the input reads as it did. -/
def fnExactSetMemberUptoRow : OpenClaim := { program := "ytmjccemocffefaa", sum := "511b8787e7451e58fca7a7d42dfcccdee8b99595c5ce228ed2221fbdb93e5787", func := "loop.example/g00833/laws.FnExactSetMember", spec := "fnExactSetMember", apart := false, narrowed := true }
def FnExactSetMemberUptoSaid : Prop := fnExactSetMemberUptoRow.holds Try.pinned (OpenSpec.upto fnExactSetMemberSpec)

/-- 'laws.FnExactTimeBetween', WHERE WHAT IT READS IS OF BULK AT MOST 1048576: true; the input reads as it did. -/
def fnExactTimeBetweenUptoRow : OpenClaim := { program := "ytmjccemocffefaa", sum := "511b8787e7451e58fca7a7d42dfcccdee8b99595c5ce228ed2221fbdb93e5787", func := "loop.example/g00833/laws.FnExactTimeBetween", spec := "fnExactTimeBetween", apart := false, narrowed := true }
def FnExactTimeBetweenUptoSaid : Prop := fnExactTimeBetweenUptoRow.holds Try.pinned (OpenSpec.upto fnExactTimeBetweenSpec)

/-- 'laws.FnExactVectorOf', WHERE WHAT IT READS IS OF BULK AT MOST 1048576: true; the input reads as it did. -/
def fnExactVectorOfUptoRow : OpenClaim := { program := "ytmjccemocffefaa", sum := "511b8787e7451e58fca7a7d42dfcccdee8b99595c5ce228ed2221fbdb93e5787", func := "loop.example/g00833/laws.FnExactVectorOf", spec := "fnExactVectorOf", apart := false, narrowed := true }
def FnExactVectorOfUptoSaid : Prop := fnExactVectorOfUptoRow.holds Try.pinned (OpenSpec.upto fnExactVectorOfSpec)

/-- 'laws.FnExactAcknowledgeBy', WHERE WHAT IT READS IS OF BULK AT MOST 1048576: true; the input reads as it did. -/
def fnExactAcknowledgeByUptoRow : OpenClaim := { program := "ytmjccemocffefaa", sum := "511b8787e7451e58fca7a7d42dfcccdee8b99595c5ce228ed2221fbdb93e5787", func := "loop.example/g00833/laws.FnExactAcknowledgeBy", spec := "fnExactAcknowledgeBy", apart := false, narrowed := true }
def FnExactAcknowledgeByUptoSaid : Prop := fnExactAcknowledgeByUptoRow.holds Try.pinned (OpenSpec.upto fnExactAcknowledgeBySpec)

/-- 'laws.FnExactAdvanceState', WHERE WHAT IT READS IS OF BULK AT MOST 1048576: true; the input reads as it did. -/
def fnExactAdvanceStateUptoRow : OpenClaim := { program := "ytmjccemocffefaa", sum := "511b8787e7451e58fca7a7d42dfcccdee8b99595c5ce228ed2221fbdb93e5787", func := "loop.example/g00833/laws.FnExactAdvanceState", spec := "fnExactAdvanceState", apart := false, narrowed := true }
def FnExactAdvanceStateUptoSaid : Prop := fnExactAdvanceStateUptoRow.holds Try.pinned (OpenSpec.upto fnExactAdvanceStateSpec)

/-- 'laws.FnExactStateDistance', WHERE WHAT IT READS IS OF BULK AT MOST 1048576: true; the input reads as it did. -/
def fnExactStateDistanceUptoRow : OpenClaim := { program := "ytmjccemocffefaa", sum := "511b8787e7451e58fca7a7d42dfcccdee8b99595c5ce228ed2221fbdb93e5787", func := "loop.example/g00833/laws.FnExactStateDistance", spec := "fnExactStateDistance", apart := false, narrowed := true }
def FnExactStateDistanceUptoSaid : Prop := fnExactStateDistanceUptoRow.holds Try.pinned (OpenSpec.upto fnExactStateDistanceSpec)

/-- 'laws.FnExactStateToBits', WHERE WHAT IT READS IS OF BULK AT MOST 1048576: true; the input reads as it did. -/
def fnExactStateToBitsUptoRow : OpenClaim := { program := "ytmjccemocffefaa", sum := "511b8787e7451e58fca7a7d42dfcccdee8b99595c5ce228ed2221fbdb93e5787", func := "loop.example/g00833/laws.FnExactStateToBits", spec := "fnExactStateToBits", apart := false, narrowed := true }
def FnExactStateToBitsUptoSaid : Prop := fnExactStateToBitsUptoRow.holds Try.pinned (OpenSpec.upto fnExactStateToBitsSpec)

/-- 'laws.FnExactStateFromBits', WHERE WHAT IT READS IS OF BULK AT MOST 1048576: true; the input reads as it did. -/
def fnExactStateFromBitsUptoRow : OpenClaim := { program := "ytmjccemocffefaa", sum := "511b8787e7451e58fca7a7d42dfcccdee8b99595c5ce228ed2221fbdb93e5787", func := "loop.example/g00833/laws.FnExactStateFromBits", spec := "fnExactStateFromBits", apart := false, narrowed := true }
def FnExactStateFromBitsUptoSaid : Prop := fnExactStateFromBitsUptoRow.holds Try.pinned (OpenSpec.upto fnExactStateFromBitsSpec)

end Rows
end Go.Proofs.Ytmjccemocffefaa
