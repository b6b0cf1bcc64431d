/-
  No cell of these rows narrows 'for every input' (looked for: loops, veiled, ifaces, maps, wideKeys, modest, calm, conditions, laid).
  DERIVED. THE GIVEN ROWS OF THIS SEAT. 8 by the template 'for every input the law returns true; each argument reads behind the call as it read before'; 0 by the template 'total and deterministic' (their statements: YtjkkipmbiljckaaTotals.lean).
  GIVEN WITH THE SEED: the statements are not yours to turn. If you find one false, say at which input.
  Laid BY PROGRAM, IN A SANDBOX (cutbox-rows.mjs): the forced cells as the released guide's own fill.sh prints them over the translation 37c3e29143774cc5… (all of the seat's roots in one cut). By AI agents, Wed Nov 11 2026. No macro, syntax, notation, axiom, sorry.
-/
import Derived.Test.YtjkkipmbiljckaaChecked
import GoSem.Claim
import GoSem.ClaimJoined
import GoSem.ClaimMapViews
import Derived.JoinedTies
import Derived.KernelRfl
namespace Go.Proofs.Ytjkkipmbiljckaa
/- THE CELL 'sum', in the pinned program and in every row, IS THE sha256 OF THE DUMP (.gsa) THAT YtjkkipmbiljckaaProg.lean LOADS. Nothing in Lean hashes anything: it is a label: what it is worth is what the hold of that sum in a sandbox is worth. -/
noncomputable def Try.pinned : Pinned := { name := "ytjkkipmbiljckaa", sum := "37c3e29143774cc50f54ea39880320feae4d39c82aa98d440a77fd1dd41a0c34", checked := Try.checked }
namespace Rows
def none {H : Type} : Left H := { results := [], args := [] }

/-- 'laws.FnExactCrcTable': WHATEVER THE INPUT: true; the input reads as it did. -/
def fnExactCrcTableSpec : ChangeSpec := { name := "fnExactCrcTable", fn := fun _ => fun
  | [d] => { results := [.lit (.bool true)], args := [d] }
  | _ => none }
def fnExactCrcTableRow : OpenClaim := { program := "ytjkkipmbiljckaa", sum := "37c3e29143774cc50f54ea39880320feae4d39c82aa98d440a77fd1dd41a0c34", func := "loop.example/g00833/laws.FnExactCrcTable", spec := "fnExactCrcTable", apart := false }
def FnExactCrcTableSaid : Prop := fnExactCrcTableRow.holds Try.pinned (OpenSpec.ofChange fnExactCrcTableSpec)

/-- ITS FALSE NEIGHBOUR: 'it returns false'. Refute it at one input. -/
def fnExactCrcTableWrong : ChangeSpec := { name := "fnExactCrcTable", fn := fun _ => fun
  | [d] => { results := [.lit (.bool false)], args := [d] }
  | _ => none }
def FnExactCrcTableWrongFalsely : Prop := fnExactCrcTableRow.holds Try.pinned (OpenSpec.ofChange fnExactCrcTableWrong)

/-- 'laws.FnExactIsMissed': WHATEVER THE INPUT: true; the input reads as it did. -/
def fnExactIsMissedSpec : ChangeSpec := { name := "fnExactIsMissed", fn := fun _ => fun
  | [d1, d2] => { results := [.lit (.bool true)], args := [d1, d2] }
  | _ => none }
def fnExactIsMissedRow : OpenClaim := { program := "ytjkkipmbiljckaa", sum := "37c3e29143774cc50f54ea39880320feae4d39c82aa98d440a77fd1dd41a0c34", func := "loop.example/g00833/laws.FnExactIsMissed", spec := "fnExactIsMissed", apart := false }
def FnExactIsMissedSaid : Prop := fnExactIsMissedRow.holds Try.pinned (OpenSpec.ofChange fnExactIsMissedSpec)

/-- ITS FALSE NEIGHBOUR: 'it returns false'. Refute it at one input. -/
def fnExactIsMissedWrong : ChangeSpec := { name := "fnExactIsMissed", fn := fun _ => fun
  | [d1, d2] => { results := [.lit (.bool false)], args := [d1, d2] }
  | _ => none }
def FnExactIsMissedWrongFalsely : Prop := fnExactIsMissedRow.holds Try.pinned (OpenSpec.ofChange fnExactIsMissedWrong)

/-- 'laws.FnExactCrcOfBits': WHATEVER THE INPUT: true; the input reads as it did. -/
def fnExactCrcOfBitsSpec : ChangeSpec := { name := "fnExactCrcOfBits", fn := fun _ => fun
  | [d1, d2, d3] => { results := [.lit (.bool true)], args := [d1, d2, d3] }
  | _ => none }
def fnExactCrcOfBitsRow : OpenClaim := { program := "ytjkkipmbiljckaa", sum := "37c3e29143774cc50f54ea39880320feae4d39c82aa98d440a77fd1dd41a0c34", func := "loop.example/g00833/laws.FnExactCrcOfBits", spec := "fnExactCrcOfBits", apart := false }
def FnExactCrcOfBitsSaid : Prop := fnExactCrcOfBitsRow.holds Try.pinned (OpenSpec.ofChange fnExactCrcOfBitsSpec)

/-- ITS FALSE NEIGHBOUR: 'it returns false'. Refute it at one input. -/
def fnExactCrcOfBitsWrong : ChangeSpec := { name := "fnExactCrcOfBits", fn := fun _ => fun
  | [d1, d2, d3] => { results := [.lit (.bool false)], args := [d1, d2, d3] }
  | _ => none }
def FnExactCrcOfBitsWrongFalsely : Prop := fnExactCrcOfBitsRow.holds Try.pinned (OpenSpec.ofChange fnExactCrcOfBitsWrong)

/-- 'laws.FnExactSyndromeOf': WHATEVER THE INPUT: true; the input reads as it did. -/
def fnExactSyndromeOfSpec : ChangeSpec := { name := "fnExactSyndromeOf", fn := fun _ => fun
  | [d1, d2] => { results := [.lit (.bool true)], args := [d1, d2] }
  | _ => none }
def fnExactSyndromeOfRow : OpenClaim := { program := "ytjkkipmbiljckaa", sum := "37c3e29143774cc50f54ea39880320feae4d39c82aa98d440a77fd1dd41a0c34", func := "loop.example/g00833/laws.FnExactSyndromeOf", spec := "fnExactSyndromeOf", apart := false }
def FnExactSyndromeOfSaid : Prop := fnExactSyndromeOfRow.holds Try.pinned (OpenSpec.ofChange fnExactSyndromeOfSpec)

/-- ITS FALSE NEIGHBOUR: 'it returns false'. Refute it at one input. -/
def fnExactSyndromeOfWrong : ChangeSpec := { name := "fnExactSyndromeOf", fn := fun _ => fun
  | [d1, d2] => { results := [.lit (.bool false)], args := [d1, d2] }
  | _ => none }
def FnExactSyndromeOfWrongFalsely : Prop := fnExactSyndromeOfRow.holds Try.pinned (OpenSpec.ofChange fnExactSyndromeOfWrong)

/-- 'laws.FnExactSeedAfter': WHATEVER THE INPUT: true; the input reads as it did. -/
def fnExactSeedAfterSpec : ChangeSpec := { name := "fnExactSeedAfter", fn := fun _ => fun
  | [d1, d2, d3] => { results := [.lit (.bool true)], args := [d1, d2, d3] }
  | _ => none }
def fnExactSeedAfterRow : OpenClaim := { program := "ytjkkipmbiljckaa", sum := "37c3e29143774cc50f54ea39880320feae4d39c82aa98d440a77fd1dd41a0c34", func := "loop.example/g00833/laws.FnExactSeedAfter", spec := "fnExactSeedAfter", apart := false }
def FnExactSeedAfterSaid : Prop := fnExactSeedAfterRow.holds Try.pinned (OpenSpec.ofChange fnExactSeedAfterSpec)

/-- ITS FALSE NEIGHBOUR: 'it returns false'. Refute it at one input. -/
def fnExactSeedAfterWrong : ChangeSpec := { name := "fnExactSeedAfter", fn := fun _ => fun
  | [d1, d2, d3] => { results := [.lit (.bool false)], args := [d1, d2, d3] }
  | _ => none }
def FnExactSeedAfterWrongFalsely : Prop := fnExactSeedAfterRow.holds Try.pinned (OpenSpec.ofChange fnExactSeedAfterWrong)

/-- 'laws.FnExactHasCrc': WHATEVER THE INPUT: true; the input reads as it did. -/
def fnExactHasCrcSpec : ChangeSpec := { name := "fnExactHasCrc", fn := fun _ => fun
  | [d1, d2, d3] => { results := [.lit (.bool true)], args := [d1, d2, d3] }
  | _ => none }
def fnExactHasCrcRow : OpenClaim := { program := "ytjkkipmbiljckaa", sum := "37c3e29143774cc50f54ea39880320feae4d39c82aa98d440a77fd1dd41a0c34", func := "loop.example/g00833/laws.FnExactHasCrc", spec := "fnExactHasCrc", apart := false }
def FnExactHasCrcSaid : Prop := fnExactHasCrcRow.holds Try.pinned (OpenSpec.ofChange fnExactHasCrcSpec)

/-- ITS FALSE NEIGHBOUR: 'it returns false'. Refute it at one input. -/
def fnExactHasCrcWrong : ChangeSpec := { name := "fnExactHasCrc", fn := fun _ => fun
  | [d1, d2, d3] => { results := [.lit (.bool false)], args := [d1, d2, d3] }
  | _ => none }
def FnExactHasCrcWrongFalsely : Prop := fnExactHasCrcRow.holds Try.pinned (OpenSpec.ofChange fnExactHasCrcWrong)

/-- 'laws.FnExactCrcOfBytes': WHATEVER THE INPUT: true; the input reads as it did. -/
def fnExactCrcOfBytesSpec : ChangeSpec := { name := "fnExactCrcOfBytes", fn := fun _ => fun
  | [d1, d2, d3] => { results := [.lit (.bool true)], args := [d1, d2, d3] }
  | _ => none }
def fnExactCrcOfBytesRow : OpenClaim := { program := "ytjkkipmbiljckaa", sum := "37c3e29143774cc50f54ea39880320feae4d39c82aa98d440a77fd1dd41a0c34", func := "loop.example/g00833/laws.FnExactCrcOfBytes", spec := "fnExactCrcOfBytes", apart := false }
def FnExactCrcOfBytesSaid : Prop := fnExactCrcOfBytesRow.holds Try.pinned (OpenSpec.ofChange fnExactCrcOfBytesSpec)

/-- ITS FALSE NEIGHBOUR: 'it returns false'. Refute it at one input. -/
def fnExactCrcOfBytesWrong : ChangeSpec := { name := "fnExactCrcOfBytes", fn := fun _ => fun
  | [d1, d2, d3] => { results := [.lit (.bool false)], args := [d1, d2, d3] }
  | _ => none }
def FnExactCrcOfBytesWrongFalsely : Prop := fnExactCrcOfBytesRow.holds Try.pinned (OpenSpec.ofChange fnExactCrcOfBytesWrong)

/-- 'laws.FnExactAppendCrc': WHATEVER THE INPUT: true; the input reads as it did. -/
def fnExactAppendCrcSpec : ChangeSpec := { name := "fnExactAppendCrc", fn := fun _ => fun
  | [d1, d2, d3] => { results := [.lit (.bool true)], args := [d1, d2, d3] }
  | _ => none }
def fnExactAppendCrcRow : OpenClaim := { program := "ytjkkipmbiljckaa", sum := "37c3e29143774cc50f54ea39880320feae4d39c82aa98d440a77fd1dd41a0c34", func := "loop.example/g00833/laws.FnExactAppendCrc", spec := "fnExactAppendCrc", apart := false }
def FnExactAppendCrcSaid : Prop := fnExactAppendCrcRow.holds Try.pinned (OpenSpec.ofChange fnExactAppendCrcSpec)

/-- ITS FALSE NEIGHBOUR: 'it returns false'. Refute it at one input. -/
def fnExactAppendCrcWrong : ChangeSpec := { name := "fnExactAppendCrc", fn := fun _ => fun
  | [d1, d2, d3] => { results := [.lit (.bool false)], args := [d1, d2, d3] }
  | _ => none }
def FnExactAppendCrcWrongFalsely : Prop := fnExactAppendCrcRow.holds Try.pinned (OpenSpec.ofChange fnExactAppendCrcWrong)

/- THE SECOND FORM. 'bulk': how many values and letters a reading holds, each counted each time it is reached (what is shared counts as often as it is met; a slice's spare places count too). A statement '..UptoSaid' is the law's where the arguments, and the package variables that the reading takes, are together of bulk at most 1048576: NARROWER than '..Said'. Prove '..Said' where nothing that the law and all that it calls make is longer than what came in: it says more and counts as full. Else prove '..UptoSaid'. A law counts once. -/
mutual
def uptoBulk {H : Type} : DataW H → Nat
  | .lit (.string bytes) => bytes.length + 1
  | .lit _ => 1
  | .nil => 1
  | .ptr d => uptoBulk d + 1
  | .slice elems spare => uptoBulkAll elems + uptoBulkAll spare + 1
  | .agg parts => uptoBulkAll parts + 1
  | .iface _ d => uptoBulk d + 1
  | .map entries => uptoBulkEntries entries + 1
  | .held _ => 1
def uptoBulkAll {H : Type} : List (DataW H) → Nat
  | [] => 0
  | d :: r => uptoBulk d + uptoBulkAll r
def uptoBulkEntries {H : Type} : List (Lit × DataW H) → Nat
  | [] => 0
  | x :: r => uptoBulkEntry x + uptoBulkEntries r
def uptoBulkEntry {H : Type} : Lit × DataW H → Nat
  | (.string bytes, d) => bytes.length + uptoBulk d + 1
  | (_, d) => uptoBulk d + 1
 end
def uptoSmall : (H : Type) → List (DataW H) → Bool := fun _ ds => decide (uptoBulkAll ds ≤ 1048576)
def OpenSpec.upto (s : _root_.Go.ChangeSpec) : _root_.Go.OpenSpec := { _root_.Go.OpenSpec.ofChange s with cond := some uptoSmall }

/-- 'laws.FnExactCrcTable', WHERE WHAT IT READS IS OF BULK AT MOST 1048576: true; the input reads as it did. -/
def fnExactCrcTableUptoRow : OpenClaim := { program := "ytjkkipmbiljckaa", sum := "37c3e29143774cc50f54ea39880320feae4d39c82aa98d440a77fd1dd41a0c34", func := "loop.example/g00833/laws.FnExactCrcTable", spec := "fnExactCrcTable", apart := false, narrowed := true }
def FnExactCrcTableUptoSaid : Prop := fnExactCrcTableUptoRow.holds Try.pinned (OpenSpec.upto fnExactCrcTableSpec)

/-- 'laws.FnExactIsMissed', WHERE WHAT IT READS IS OF BULK AT MOST 1048576: true; the input reads as it did. -/
def fnExactIsMissedUptoRow : OpenClaim := { program := "ytjkkipmbiljckaa", sum := "37c3e29143774cc50f54ea39880320feae4d39c82aa98d440a77fd1dd41a0c34", func := "loop.example/g00833/laws.FnExactIsMissed", spec := "fnExactIsMissed", apart := false, narrowed := true }
def FnExactIsMissedUptoSaid : Prop := fnExactIsMissedUptoRow.holds Try.pinned (OpenSpec.upto fnExactIsMissedSpec)

/-- 'laws.FnExactCrcOfBits', WHERE WHAT IT READS IS OF BULK AT MOST 1048576: true; the input reads as it did. -/
def fnExactCrcOfBitsUptoRow : OpenClaim := { program := "ytjkkipmbiljckaa", sum := "37c3e29143774cc50f54ea39880320feae4d39c82aa98d440a77fd1dd41a0c34", func := "loop.example/g00833/laws.FnExactCrcOfBits", spec := "fnExactCrcOfBits", apart := false, narrowed := true }
def FnExactCrcOfBitsUptoSaid : Prop := fnExactCrcOfBitsUptoRow.holds Try.pinned (OpenSpec.upto fnExactCrcOfBitsSpec)

/-- 'laws.FnExactSyndromeOf', WHERE WHAT IT READS IS OF BULK AT MOST 1048576: true; the input reads as it did. -/
def fnExactSyndromeOfUptoRow : OpenClaim := { program := "ytjkkipmbiljckaa", sum := "37c3e29143774cc50f54ea39880320feae4d39c82aa98d440a77fd1dd41a0c34", func := "loop.example/g00833/laws.FnExactSyndromeOf", spec := "fnExactSyndromeOf", apart := false, narrowed := true }
def FnExactSyndromeOfUptoSaid : Prop := fnExactSyndromeOfUptoRow.holds Try.pinned (OpenSpec.upto fnExactSyndromeOfSpec)

/-- 'laws.FnExactSeedAfter', WHERE WHAT IT READS IS OF BULK AT MOST 1048576: true; the input reads as it did. -/
def fnExactSeedAfterUptoRow : OpenClaim := { program := "ytjkkipmbiljckaa", sum := "37c3e29143774cc50f54ea39880320feae4d39c82aa98d440a77fd1dd41a0c34", func := "loop.example/g00833/laws.FnExactSeedAfter", spec := "fnExactSeedAfter", apart := false, narrowed := true }
def FnExactSeedAfterUptoSaid : Prop := fnExactSeedAfterUptoRow.holds Try.pinned (OpenSpec.upto fnExactSeedAfterSpec)

/-- 'laws.FnExactHasCrc', WHERE WHAT IT READS IS OF BULK AT MOST 1048576: true; the input reads as it did. -/
def fnExactHasCrcUptoRow : OpenClaim := { program := "ytjkkipmbiljckaa", sum := "37c3e29143774cc50f54ea39880320feae4d39c82aa98d440a77fd1dd41a0c34", func := "loop.example/g00833/laws.FnExactHasCrc", spec := "fnExactHasCrc", apart := false, narrowed := true }
def FnExactHasCrcUptoSaid : Prop := fnExactHasCrcUptoRow.holds Try.pinned (OpenSpec.upto fnExactHasCrcSpec)

/-- 'laws.FnExactCrcOfBytes', WHERE WHAT IT READS IS OF BULK AT MOST 1048576: true; the input reads as it did. -/
def fnExactCrcOfBytesUptoRow : OpenClaim := { program := "ytjkkipmbiljckaa", sum := "37c3e29143774cc50f54ea39880320feae4d39c82aa98d440a77fd1dd41a0c34", func := "loop.example/g00833/laws.FnExactCrcOfBytes", spec := "fnExactCrcOfBytes", apart := false, narrowed := true }
def FnExactCrcOfBytesUptoSaid : Prop := fnExactCrcOfBytesUptoRow.holds Try.pinned (OpenSpec.upto fnExactCrcOfBytesSpec)

/-- 'laws.FnExactAppendCrc', WHERE WHAT IT READS IS OF BULK AT MOST 1048576: true; the input reads as it did. -/
def fnExactAppendCrcUptoRow : OpenClaim := { program := "ytjkkipmbiljckaa", sum := "37c3e29143774cc50f54ea39880320feae4d39c82aa98d440a77fd1dd41a0c34", func := "loop.example/g00833/laws.FnExactAppendCrc", spec := "fnExactAppendCrc", apart := false, narrowed := true }
def FnExactAppendCrcUptoSaid : Prop := fnExactAppendCrcUptoRow.holds Try.pinned (OpenSpec.upto fnExactAppendCrcSpec)

end Rows
end Go.Proofs.Ytjkkipmbiljckaa
