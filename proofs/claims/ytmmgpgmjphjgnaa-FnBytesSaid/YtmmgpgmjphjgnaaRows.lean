/-
  No cell of these rows narrows 'for every input' (looked for: loops, veiled, ifaces, maps, wideKeys, modest, calm, conditions, laid).
  DERIVED. THE GIVEN ROWS OF THIS SEAT. 5 by the template 'for every input the law returns true; each argument reads behind the call as it read before'; 0 by the template 'total and deterministic' (their statements: YtmmgpgmjphjgnaaTotals.lean).
  GIVEN WITH THE SEED: the statements are not yours to turn. If you find one false, say at which input.
  Laid BY PROGRAM, IN A SANDBOX (cutbox-rows.mjs): the forced cells as the released guide's own fill.sh prints them over the translation 22fda668a9289d94… (all of the seat's roots in one cut). By AI agents, Wed Nov 11 2026. No macro, syntax, notation, axiom, sorry.
-/
import Derived.Test.YtmmgpgmjphjgnaaChecked
import GoSem.Claim
import GoSem.ClaimJoined
import GoSem.ClaimMapViews
import Derived.JoinedTies
import Derived.KernelRfl
namespace Go.Proofs.Ytmmgpgmjphjgnaa
/- THE CELL 'sum', in the pinned program and in every row, IS THE sha256 OF THE DUMP (.gsa) THAT YtmmgpgmjphjgnaaProg.lean LOADS. Nothing in Lean hashes anything: it is a label: what it is worth is what the hold of that sum in a sandbox is worth. -/
noncomputable def Try.pinned : Pinned := { name := "ytmmgpgmjphjgnaa", sum := "22fda668a9289d942baf68b525a89970a4bc6b5ce2ee3808eda67586121a1548", checked := Try.checked }
namespace Rows
def none {H : Type} : Left H := { results := [], args := [] }

/-- 'laws.FnBitsText': WHATEVER THE INPUT: true; the input reads as it did. -/
def fnBitsTextSpec : ChangeSpec := { name := "fnBitsText", fn := fun _ => fun
  | [d] => { results := [.lit (.bool true)], args := [d] }
  | _ => none }
def fnBitsTextRow : OpenClaim := { program := "ytmmgpgmjphjgnaa", sum := "22fda668a9289d942baf68b525a89970a4bc6b5ce2ee3808eda67586121a1548", func := "loop.example/g00833/laws.FnBitsText", spec := "fnBitsText", apart := false }
def FnBitsTextSaid : Prop := fnBitsTextRow.holds Try.pinned (OpenSpec.ofChange fnBitsTextSpec)

/-- ITS FALSE NEIGHBOUR: 'it returns false'. Refute it at one input. -/
def fnBitsTextWrong : ChangeSpec := { name := "fnBitsText", fn := fun _ => fun
  | [d] => { results := [.lit (.bool false)], args := [d] }
  | _ => none }
def FnBitsTextWrongFalsely : Prop := fnBitsTextRow.holds Try.pinned (OpenSpec.ofChange fnBitsTextWrong)

/-- 'laws.FnNumbersAt': WHATEVER THE INPUT: true; the input reads as it did. -/
def fnNumbersAtSpec : ChangeSpec := { name := "fnNumbersAt", fn := fun _ => fun
  | [d] => { results := [.lit (.bool true)], args := [d] }
  | _ => none }
def fnNumbersAtRow : OpenClaim := { program := "ytmmgpgmjphjgnaa", sum := "22fda668a9289d942baf68b525a89970a4bc6b5ce2ee3808eda67586121a1548", func := "loop.example/g00833/laws.FnNumbersAt", spec := "fnNumbersAt", apart := false }
def FnNumbersAtSaid : Prop := fnNumbersAtRow.holds Try.pinned (OpenSpec.ofChange fnNumbersAtSpec)

/-- ITS FALSE NEIGHBOUR: 'it returns false'. Refute it at one input. -/
def fnNumbersAtWrong : ChangeSpec := { name := "fnNumbersAt", fn := fun _ => fun
  | [d] => { results := [.lit (.bool false)], args := [d] }
  | _ => none }
def FnNumbersAtWrongFalsely : Prop := fnNumbersAtRow.holds Try.pinned (OpenSpec.ofChange fnNumbersAtWrong)

/-- 'laws.FnNumbers': WHATEVER THE INPUT: true; the input reads as it did. -/
def fnNumbersSpec : ChangeSpec := { name := "fnNumbers", fn := fun _ => fun
  | [d] => { results := [.lit (.bool true)], args := [d] }
  | _ => none }
def fnNumbersRow : OpenClaim := { program := "ytmmgpgmjphjgnaa", sum := "22fda668a9289d942baf68b525a89970a4bc6b5ce2ee3808eda67586121a1548", func := "loop.example/g00833/laws.FnNumbers", spec := "fnNumbers", apart := false }
def FnNumbersSaid : Prop := fnNumbersRow.holds Try.pinned (OpenSpec.ofChange fnNumbersSpec)

/-- ITS FALSE NEIGHBOUR: 'it returns false'. Refute it at one input. -/
def fnNumbersWrong : ChangeSpec := { name := "fnNumbers", fn := fun _ => fun
  | [d] => { results := [.lit (.bool false)], args := [d] }
  | _ => none }
def FnNumbersWrongFalsely : Prop := fnNumbersRow.holds Try.pinned (OpenSpec.ofChange fnNumbersWrong)

/-- 'laws.FnBytes': WHATEVER THE INPUT: true; the input reads as it did. -/
def fnBytesSpec : ChangeSpec := { name := "fnBytes", fn := fun _ => fun
  | [d] => { results := [.lit (.bool true)], args := [d] }
  | _ => none }
def fnBytesRow : OpenClaim := { program := "ytmmgpgmjphjgnaa", sum := "22fda668a9289d942baf68b525a89970a4bc6b5ce2ee3808eda67586121a1548", func := "loop.example/g00833/laws.FnBytes", spec := "fnBytes", unfollowed := true, recurses := true, apart := false }
def FnBytesSaid : Prop := fnBytesRow.holds Try.pinned (OpenSpec.ofChange fnBytesSpec)

/-- ITS FALSE NEIGHBOUR: 'it returns false'. Refute it at one input. -/
def fnBytesWrong : ChangeSpec := { name := "fnBytes", fn := fun _ => fun
  | [d] => { results := [.lit (.bool false)], args := [d] }
  | _ => none }
def FnBytesWrongFalsely : Prop := fnBytesRow.holds Try.pinned (OpenSpec.ofChange fnBytesWrong)

/-- 'laws.FnFlips': WHATEVER THE INPUT: true; the input reads as it did. -/
def fnFlipsSpec : ChangeSpec := { name := "fnFlips", fn := fun _ => fun
  | [d] => { results := [.lit (.bool true)], args := [d] }
  | _ => none }
def fnFlipsRow : OpenClaim := { program := "ytmmgpgmjphjgnaa", sum := "22fda668a9289d942baf68b525a89970a4bc6b5ce2ee3808eda67586121a1548", func := "loop.example/g00833/laws.FnFlips", spec := "fnFlips", apart := false }
def FnFlipsSaid : Prop := fnFlipsRow.holds Try.pinned (OpenSpec.ofChange fnFlipsSpec)

/-- ITS FALSE NEIGHBOUR: 'it returns false'. Refute it at one input. -/
def fnFlipsWrong : ChangeSpec := { name := "fnFlips", fn := fun _ => fun
  | [d] => { results := [.lit (.bool false)], args := [d] }
  | _ => none }
def FnFlipsWrongFalsely : Prop := fnFlipsRow.holds Try.pinned (OpenSpec.ofChange fnFlipsWrong)

/- THE SECOND FORM. 'bulk': how many values and letters a reading holds, each counted each time it is reached (what is shared counts as often as it is met; a slice's spare places count too). A statement '..UptoSaid' is the law's where the arguments, and the package variables that the reading takes, are together of bulk at most 1048576: NARROWER than '..Said'. Prove '..Said' where nothing that the law and all that it calls make is longer than what came in: it says more and counts as full. Else prove '..UptoSaid'. A law counts once. -/
mutual
def uptoBulk {H : Type} : DataW H → Nat
  | .lit (.string bytes) => bytes.length + 1
  | .lit _ => 1
  | .nil => 1
  | .ptr d => uptoBulk d + 1
  | .slice elems spare => uptoBulkAll elems + uptoBulkAll spare + 1
  | .agg parts => uptoBulkAll parts + 1
  | .iface _ d => uptoBulk d + 1
  | .map entries => uptoBulkEntries entries + 1
  | .held _ => 1
def uptoBulkAll {H : Type} : List (DataW H) → Nat
  | [] => 0
  | d :: r => uptoBulk d + uptoBulkAll r
def uptoBulkEntries {H : Type} : List (Lit × DataW H) → Nat
  | [] => 0
  | x :: r => uptoBulkEntry x + uptoBulkEntries r
def uptoBulkEntry {H : Type} : Lit × DataW H → Nat
  | (.string bytes, d) => bytes.length + uptoBulk d + 1
  | (_, d) => uptoBulk d + 1
 end
def uptoSmall : (H : Type) → List (DataW H) → Bool := fun _ ds => decide (uptoBulkAll ds ≤ 1048576)
def OpenSpec.upto (s : _root_.Go.ChangeSpec) : _root_.Go.OpenSpec := { _root_.Go.OpenSpec.ofChange s with cond := some uptoSmall }

/-- 'laws.FnBitsText', WHERE WHAT IT READS IS OF BULK AT MOST 1048576: true; the input reads as it did. -/
def fnBitsTextUptoRow : OpenClaim := { program := "ytmmgpgmjphjgnaa", sum := "22fda668a9289d942baf68b525a89970a4bc6b5ce2ee3808eda67586121a1548", func := "loop.example/g00833/laws.FnBitsText", spec := "fnBitsText", apart := false, narrowed := true }
def FnBitsTextUptoSaid : Prop := fnBitsTextUptoRow.holds Try.pinned (OpenSpec.upto fnBitsTextSpec)

/-- 'laws.FnNumbersAt', WHERE WHAT IT READS IS OF BULK AT MOST 1048576: true; the input reads as it did. -/
def fnNumbersAtUptoRow : OpenClaim := { program := "ytmmgpgmjphjgnaa", sum := "22fda668a9289d942baf68b525a89970a4bc6b5ce2ee3808eda67586121a1548", func := "loop.example/g00833/laws.FnNumbersAt", spec := "fnNumbersAt", apart := false, narrowed := true }
def FnNumbersAtUptoSaid : Prop := fnNumbersAtUptoRow.holds Try.pinned (OpenSpec.upto fnNumbersAtSpec)

/-- 'laws.FnNumbers', WHERE WHAT IT READS IS OF BULK AT MOST 1048576: true; the input reads as it did. -/
def fnNumbersUptoRow : OpenClaim := { program := "ytmmgpgmjphjgnaa", sum := "22fda668a9289d942baf68b525a89970a4bc6b5ce2ee3808eda67586121a1548", func := "loop.example/g00833/laws.FnNumbers", spec := "fnNumbers", apart := false, narrowed := true }
def FnNumbersUptoSaid : Prop := fnNumbersUptoRow.holds Try.pinned (OpenSpec.upto fnNumbersSpec)

/-- 'laws.FnBytes', WHERE WHAT IT READS IS OF BULK AT MOST 1048576: true; the input reads as it did. -/
def fnBytesUptoRow : OpenClaim := { program := "ytmmgpgmjphjgnaa", sum := "22fda668a9289d942baf68b525a89970a4bc6b5ce2ee3808eda67586121a1548", func := "loop.example/g00833/laws.FnBytes", spec := "fnBytes", unfollowed := true, recurses := true, apart := false, narrowed := true }
def FnBytesUptoSaid : Prop := fnBytesUptoRow.holds Try.pinned (OpenSpec.upto fnBytesSpec)

/-- 'laws.FnFlips', WHERE WHAT IT READS IS OF BULK AT MOST 1048576: true; the input reads as it did. -/
def fnFlipsUptoRow : OpenClaim := { program := "ytmmgpgmjphjgnaa", sum := "22fda668a9289d942baf68b525a89970a4bc6b5ce2ee3808eda67586121a1548", func := "loop.example/g00833/laws.FnFlips", spec := "fnFlips", apart := false, narrowed := true }
def FnFlipsUptoSaid : Prop := fnFlipsUptoRow.holds Try.pinned (OpenSpec.upto fnFlipsSpec)

end Rows
end Go.Proofs.Ytmmgpgmjphjgnaa
