/-
  No cell of these rows narrows 'for every input' (looked for: loops, veiled, ifaces, maps, wideKeys, modest, calm, conditions, laid).
  DERIVED. THE GIVEN ROWS OF THIS SEAT. 6 by the template 'for every input the law returns true; each argument reads behind the call as it read before'; 0 by the template 'total and deterministic' (their statements: YtcnoopbjeclekaaTotals.lean).
  GIVEN WITH THE SEED: the statements are not yours to turn. If you find one false, say at which input.
  Laid BY PROGRAM, IN A SANDBOX (cutbox-rows.mjs): the forced cells as the released guide's own fill.sh prints them over the translation 21612740ec34da9c… (all of the seat's roots in one cut). By AI agents, Wed Nov 11 2026. No macro, syntax, notation, axiom, sorry.
-/
import Derived.Test.YtcnoopbjeclekaaChecked
import GoSem.Claim
import GoSem.ClaimJoined
import GoSem.ClaimMapViews
import Derived.JoinedTies
import Derived.KernelRfl
namespace Go.Proofs.Ytcnoopbjeclekaa
/- THE CELL 'sum', in the pinned program and in every row, IS THE sha256 OF THE DUMP (.gsa) THAT YtcnoopbjeclekaaProg.lean LOADS. Nothing in Lean hashes anything: it is a label: what it is worth is what the hold of that sum in a sandbox is worth. -/
noncomputable def Try.pinned : Pinned := { name := "ytcnoopbjeclekaa", sum := "21612740ec34da9c6a3618622c91fbef34cc958e9483e1b6d33e673d8fa6a700", checked := Try.checked }
namespace Rows
def none {H : Type} : Left H := { results := [], args := [] }

/-- 'laws.FnExactConstants': WHATEVER THE INPUT: true; the input reads as it did. -/
def fnExactConstantsSpec : ChangeSpec := { name := "fnExactConstants", fn := fun _ => fun
  | [] => { results := [.lit (.bool true)], args := [] }
  | _ => none }
def fnExactConstantsRow : OpenClaim := { program := "ytcnoopbjeclekaa", sum := "21612740ec34da9c6a3618622c91fbef34cc958e9483e1b6d33e673d8fa6a700", func := "loop.example/g00833/laws.FnExactConstants", spec := "fnExactConstants", apart := false }
def FnExactConstantsSaid : Prop := fnExactConstantsRow.holds Try.pinned (OpenSpec.ofChange fnExactConstantsSpec)

/-- ITS FALSE NEIGHBOUR: 'it returns false'. Refute it at one input. -/
def fnExactConstantsWrong : ChangeSpec := { name := "fnExactConstants", fn := fun _ => fun
  | [] => { results := [.lit (.bool false)], args := [] }
  | _ => none }
def FnExactConstantsWrongFalsely : Prop := fnExactConstantsRow.holds Try.pinned (OpenSpec.ofChange fnExactConstantsWrong)

/-- 'laws.FnExactIsMajority': WHATEVER THE INPUT: true; the input reads as it did. -/
def fnExactIsMajoritySpec : ChangeSpec := { name := "fnExactIsMajority", fn := fun _ => fun
  | [d1, d2] => { results := [.lit (.bool true)], args := [d1, d2] }
  | _ => none }
def fnExactIsMajorityRow : OpenClaim := { program := "ytcnoopbjeclekaa", sum := "21612740ec34da9c6a3618622c91fbef34cc958e9483e1b6d33e673d8fa6a700", func := "loop.example/g00833/laws.FnExactIsMajority", spec := "fnExactIsMajority", apart := false }
def FnExactIsMajoritySaid : Prop := fnExactIsMajorityRow.holds Try.pinned (OpenSpec.ofChange fnExactIsMajoritySpec)

/-- ITS FALSE NEIGHBOUR: 'it returns false'. Refute it at one input. -/
def fnExactIsMajorityWrong : ChangeSpec := { name := "fnExactIsMajority", fn := fun _ => fun
  | [d1, d2] => { results := [.lit (.bool false)], args := [d1, d2] }
  | _ => none }
def FnExactIsMajorityWrongFalsely : Prop := fnExactIsMajorityRow.holds Try.pinned (OpenSpec.ofChange fnExactIsMajorityWrong)

/-- 'laws.FnExactStandardCrc': WHATEVER THE INPUT: true; the input reads as it did. -/
def fnExactStandardCrcSpec : ChangeSpec := { name := "fnExactStandardCrc", fn := fun _ => fun
  | [] => { results := [.lit (.bool true)], args := [] }
  | _ => none }
def fnExactStandardCrcRow : OpenClaim := { program := "ytcnoopbjeclekaa", sum := "21612740ec34da9c6a3618622c91fbef34cc958e9483e1b6d33e673d8fa6a700", func := "loop.example/g00833/laws.FnExactStandardCrc", spec := "fnExactStandardCrc", apart := false }
def FnExactStandardCrcSaid : Prop := fnExactStandardCrcRow.holds Try.pinned (OpenSpec.ofChange fnExactStandardCrcSpec)

/-- ITS FALSE NEIGHBOUR: 'it returns false'. Refute it at one input. -/
def fnExactStandardCrcWrong : ChangeSpec := { name := "fnExactStandardCrc", fn := fun _ => fun
  | [] => { results := [.lit (.bool false)], args := [] }
  | _ => none }
def FnExactStandardCrcWrongFalsely : Prop := fnExactStandardCrcRow.holds Try.pinned (OpenSpec.ofChange fnExactStandardCrcWrong)

/-- 'laws.FnExactIsCrc': WHATEVER THE INPUT: true; the input reads as it did. -/
def fnExactIsCrcSpec : ChangeSpec := { name := "fnExactIsCrc", fn := fun _ => fun
  | [d] => { results := [.lit (.bool true)], args := [d] }
  | _ => none }
def fnExactIsCrcRow : OpenClaim := { program := "ytcnoopbjeclekaa", sum := "21612740ec34da9c6a3618622c91fbef34cc958e9483e1b6d33e673d8fa6a700", func := "loop.example/g00833/laws.FnExactIsCrc", spec := "fnExactIsCrc", apart := false }
def FnExactIsCrcSaid : Prop := fnExactIsCrcRow.holds Try.pinned (OpenSpec.ofChange fnExactIsCrcSpec)

/-- ITS FALSE NEIGHBOUR: 'it returns false'. Refute it at one input. -/
def fnExactIsCrcWrong : ChangeSpec := { name := "fnExactIsCrc", fn := fun _ => fun
  | [d] => { results := [.lit (.bool false)], args := [d] }
  | _ => none }
def FnExactIsCrcWrongFalsely : Prop := fnExactIsCrcRow.holds Try.pinned (OpenSpec.ofChange fnExactIsCrcWrong)

/-- 'laws.FnExactIsState': WHATEVER THE INPUT: true; the input reads as it did. -/
def fnExactIsStateSpec : ChangeSpec := { name := "fnExactIsState", fn := fun _ => fun
  | [d] => { results := [.lit (.bool true)], args := [d] }
  | _ => none }
def fnExactIsStateRow : OpenClaim := { program := "ytcnoopbjeclekaa", sum := "21612740ec34da9c6a3618622c91fbef34cc958e9483e1b6d33e673d8fa6a700", func := "loop.example/g00833/laws.FnExactIsState", spec := "fnExactIsState", apart := false }
def FnExactIsStateSaid : Prop := fnExactIsStateRow.holds Try.pinned (OpenSpec.ofChange fnExactIsStateSpec)

/-- ITS FALSE NEIGHBOUR: 'it returns false'. Refute it at one input. -/
def fnExactIsStateWrong : ChangeSpec := { name := "fnExactIsState", fn := fun _ => fun
  | [d] => { results := [.lit (.bool false)], args := [d] }
  | _ => none }
def FnExactIsStateWrongFalsely : Prop := fnExactIsStateRow.holds Try.pinned (OpenSpec.ofChange fnExactIsStateWrong)

/-- 'laws.FnExactHasMember': WHATEVER THE INPUT: true; the input reads as it did. -/
def fnExactHasMemberSpec : ChangeSpec := { name := "fnExactHasMember", fn := fun _ => fun
  | [d1, d2] => { results := [.lit (.bool true)], args := [d1, d2] }
  | _ => none }
def fnExactHasMemberRow : OpenClaim := { program := "ytcnoopbjeclekaa", sum := "21612740ec34da9c6a3618622c91fbef34cc958e9483e1b6d33e673d8fa6a700", func := "loop.example/g00833/laws.FnExactHasMember", spec := "fnExactHasMember", apart := false }
def FnExactHasMemberSaid : Prop := fnExactHasMemberRow.holds Try.pinned (OpenSpec.ofChange fnExactHasMemberSpec)

/-- ITS FALSE NEIGHBOUR: 'it returns false'. Refute it at one input. -/
def fnExactHasMemberWrong : ChangeSpec := { name := "fnExactHasMember", fn := fun _ => fun
  | [d1, d2] => { results := [.lit (.bool false)], args := [d1, d2] }
  | _ => none }
def FnExactHasMemberWrongFalsely : Prop := fnExactHasMemberRow.holds Try.pinned (OpenSpec.ofChange fnExactHasMemberWrong)

/- THE SECOND FORM. 'bulk': how many values and letters a reading holds, each counted each time it is reached (what is shared counts as often as it is met; a slice's spare places count too). A statement '..UptoSaid' is the law's where the arguments, and the package variables that the reading takes, are together of bulk at most 1048576: NARROWER than '..Said'. Prove '..Said' where nothing that the law and all that it calls make is longer than what came in: it says more and counts as full. Else prove '..UptoSaid'. A law counts once. -/
mutual
def uptoBulk {H : Type} : DataW H → Nat
  | .lit (.string bytes) => bytes.length + 1
  | .lit _ => 1
  | .nil => 1
  | .ptr d => uptoBulk d + 1
  | .slice elems spare => uptoBulkAll elems + uptoBulkAll spare + 1
  | .agg parts => uptoBulkAll parts + 1
  | .iface _ d => uptoBulk d + 1
  | .map entries => uptoBulkEntries entries + 1
  | .held _ => 1
def uptoBulkAll {H : Type} : List (DataW H) → Nat
  | [] => 0
  | d :: r => uptoBulk d + uptoBulkAll r
def uptoBulkEntries {H : Type} : List (Lit × DataW H) → Nat
  | [] => 0
  | x :: r => uptoBulkEntry x + uptoBulkEntries r
def uptoBulkEntry {H : Type} : Lit × DataW H → Nat
  | (.string bytes, d) => bytes.length + uptoBulk d + 1
  | (_, d) => uptoBulk d + 1
 end
def uptoSmall : (H : Type) → List (DataW H) → Bool := fun _ ds => decide (uptoBulkAll ds ≤ 1048576)
def OpenSpec.upto (s : _root_.Go.ChangeSpec) : _root_.Go.OpenSpec := { _root_.Go.OpenSpec.ofChange s with cond := some uptoSmall }

/-- 'laws.FnExactConstants', WHERE WHAT IT READS IS OF BULK AT MOST 1048576: true; the input reads as it did. -/
def fnExactConstantsUptoRow : OpenClaim := { program := "ytcnoopbjeclekaa", sum := "21612740ec34da9c6a3618622c91fbef34cc958e9483e1b6d33e673d8fa6a700", func := "loop.example/g00833/laws.FnExactConstants", spec := "fnExactConstants", apart := false, narrowed := true }
def FnExactConstantsUptoSaid : Prop := fnExactConstantsUptoRow.holds Try.pinned (OpenSpec.upto fnExactConstantsSpec)

/-- 'laws.FnExactIsMajority', WHERE WHAT IT READS IS OF BULK AT MOST 1048576: true; the input reads as it did. -/
def fnExactIsMajorityUptoRow : OpenClaim := { program := "ytcnoopbjeclekaa", sum := "21612740ec34da9c6a3618622c91fbef34cc958e9483e1b6d33e673d8fa6a700", func := "loop.example/g00833/laws.FnExactIsMajority", spec := "fnExactIsMajority", apart := false, narrowed := true }
def FnExactIsMajorityUptoSaid : Prop := fnExactIsMajorityUptoRow.holds Try.pinned (OpenSpec.upto fnExactIsMajoritySpec)

/-- 'laws.FnExactStandardCrc', WHERE WHAT IT READS IS OF BULK AT MOST 1048576: true; the input reads as it did. -/
def fnExactStandardCrcUptoRow : OpenClaim := { program := "ytcnoopbjeclekaa", sum := "21612740ec34da9c6a3618622c91fbef34cc958e9483e1b6d33e673d8fa6a700", func := "loop.example/g00833/laws.FnExactStandardCrc", spec := "fnExactStandardCrc", apart := false, narrowed := true }
def FnExactStandardCrcUptoSaid : Prop := fnExactStandardCrcUptoRow.holds Try.pinned (OpenSpec.upto fnExactStandardCrcSpec)

/-- 'laws.FnExactIsCrc', WHERE WHAT IT READS IS OF BULK AT MOST 1048576: true; the input reads as it did. -/
def fnExactIsCrcUptoRow : OpenClaim := { program := "ytcnoopbjeclekaa", sum := "21612740ec34da9c6a3618622c91fbef34cc958e9483e1b6d33e673d8fa6a700", func := "loop.example/g00833/laws.FnExactIsCrc", spec := "fnExactIsCrc", apart := false, narrowed := true }
def FnExactIsCrcUptoSaid : Prop := fnExactIsCrcUptoRow.holds Try.pinned (OpenSpec.upto fnExactIsCrcSpec)

/-- 'laws.FnExactIsState', WHERE WHAT IT READS IS OF BULK AT MOST 1048576: true; the input reads as it did. -/
def fnExactIsStateUptoRow : OpenClaim := { program := "ytcnoopbjeclekaa", sum := "21612740ec34da9c6a3618622c91fbef34cc958e9483e1b6d33e673d8fa6a700", func := "loop.example/g00833/laws.FnExactIsState", spec := "fnExactIsState", apart := false, narrowed := true }
def FnExactIsStateUptoSaid : Prop := fnExactIsStateUptoRow.holds Try.pinned (OpenSpec.upto fnExactIsStateSpec)

/-- 'laws.FnExactHasMember', WHERE WHAT IT READS IS OF BULK AT MOST 1048576: true; the input reads as it did. -/
def fnExactHasMemberUptoRow : OpenClaim := { program := "ytcnoopbjeclekaa", sum := "21612740ec34da9c6a3618622c91fbef34cc958e9483e1b6d33e673d8fa6a700", func := "loop.example/g00833/laws.FnExactHasMember", spec := "fnExactHasMember", apart := false, narrowed := true }
def FnExactHasMemberUptoSaid : Prop := fnExactHasMemberUptoRow.holds Try.pinned (OpenSpec.upto fnExactHasMemberSpec)

end Rows
end Go.Proofs.Ytcnoopbjeclekaa
