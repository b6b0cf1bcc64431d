/-
  No cell of these rows narrows 'for every input' (looked for: loops, veiled, ifaces, maps, wideKeys, modest, calm, conditions, laid).
  DERIVED. THE GIVEN ROWS OF THIS SEAT. 4 by the template 'for every input the law returns true; each argument reads behind the call as it read before'; 0 by the template 'total and deterministic' (their statements: YtmlingcnbdpbmaaTotals.lean).
  GIVEN WITH THE SEED: the statements are not yours to turn. If you find one false, say at which input.
  Laid BY PROGRAM, IN A SANDBOX (cutbox-rows.mjs): the forced cells as the released guide's own fill.sh prints them over the translation 4498d182d96d9c0b… (all of the seat's roots in one cut). By AI agents, Wed Nov 11 2026. No macro, syntax, notation, axiom, sorry.
-/
import Derived.Test.YtmlingcnbdpbmaaChecked
import GoSem.Claim
import GoSem.ClaimJoined
import GoSem.ClaimMapViews
import Derived.JoinedTies
import Derived.KernelRfl
namespace Go.Proofs.Ytmlingcnbdpbmaa
/- THE CELL 'sum', in the pinned program and in every row, IS THE sha256 OF THE DUMP (.gsa) THAT YtmlingcnbdpbmaaProg.lean LOADS. Nothing in Lean hashes anything: it is a label: what it is worth is what the hold of that sum in a sandbox is worth. -/
noncomputable def Try.pinned : Pinned := { name := "ytmlingcnbdpbmaa", sum := "4498d182d96d9c0b789ab105d060d261d24d7437d6843c2141586bce02d51f61", checked := Try.checked }
namespace Rows
def none {H : Type} : Left H := { results := [], args := [] }

/-- 'laws.FnFound': WHATEVER THE INPUT: true; the input reads as it did. -/
def fnFoundSpec : ChangeSpec := { name := "fnFound", fn := fun _ => fun
  | [d] => { results := [.lit (.bool true)], args := [d] }
  | _ => none }
def fnFoundRow : OpenClaim := { program := "ytmlingcnbdpbmaa", sum := "4498d182d96d9c0b789ab105d060d261d24d7437d6843c2141586bce02d51f61", func := "loop.example/g00833/laws.FnFound", spec := "fnFound", apart := false }
def FnFoundSaid : Prop := fnFoundRow.holds Try.pinned (OpenSpec.ofChange fnFoundSpec)

/-- ITS FALSE NEIGHBOUR: 'it returns false'. Refute it at one input. -/
def fnFoundWrong : ChangeSpec := { name := "fnFound", fn := fun _ => fun
  | [d] => { results := [.lit (.bool false)], args := [d] }
  | _ => none }
def FnFoundWrongFalsely : Prop := fnFoundRow.holds Try.pinned (OpenSpec.ofChange fnFoundWrong)

/-- 'laws.FnOrders': WHATEVER THE INPUT: true; the input reads as it did. -/
def fnOrdersSpec : ChangeSpec := { name := "fnOrders", fn := fun _ => fun
  | [d] => { results := [.lit (.bool true)], args := [d] }
  | _ => none }
def fnOrdersRow : OpenClaim := { program := "ytmlingcnbdpbmaa", sum := "4498d182d96d9c0b789ab105d060d261d24d7437d6843c2141586bce02d51f61", func := "loop.example/g00833/laws.FnOrders", spec := "fnOrders", apart := false }
def FnOrdersSaid : Prop := fnOrdersRow.holds Try.pinned (OpenSpec.ofChange fnOrdersSpec)

/-- ITS FALSE NEIGHBOUR: 'it returns false'. Refute it at one input. -/
def fnOrdersWrong : ChangeSpec := { name := "fnOrders", fn := fun _ => fun
  | [d] => { results := [.lit (.bool false)], args := [d] }
  | _ => none }
def FnOrdersWrongFalsely : Prop := fnOrdersRow.holds Try.pinned (OpenSpec.ofChange fnOrdersWrong)

/-- 'laws.FnBursts': WHATEVER THE INPUT: true; the input reads as it did. -/
def fnBurstsSpec : ChangeSpec := { name := "fnBursts", fn := fun _ => fun
  | [d] => { results := [.lit (.bool true)], args := [d] }
  | _ => none }
def fnBurstsRow : OpenClaim := { program := "ytmlingcnbdpbmaa", sum := "4498d182d96d9c0b789ab105d060d261d24d7437d6843c2141586bce02d51f61", func := "loop.example/g00833/laws.FnBursts", spec := "fnBursts", apart := false }
def FnBurstsSaid : Prop := fnBurstsRow.holds Try.pinned (OpenSpec.ofChange fnBurstsSpec)

/-- ITS FALSE NEIGHBOUR: 'it returns false'. Refute it at one input. -/
def fnBurstsWrong : ChangeSpec := { name := "fnBursts", fn := fun _ => fun
  | [d] => { results := [.lit (.bool false)], args := [d] }
  | _ => none }
def FnBurstsWrongFalsely : Prop := fnBurstsRow.holds Try.pinned (OpenSpec.ofChange fnBurstsWrong)

/-- 'laws.FnLeastMissed': WHATEVER THE INPUT: true; the input reads as it did. -/
def fnLeastMissedSpec : ChangeSpec := { name := "fnLeastMissed", fn := fun _ => fun
  | [d] => { results := [.lit (.bool true)], args := [d] }
  | _ => none }
def fnLeastMissedRow : OpenClaim := { program := "ytmlingcnbdpbmaa", sum := "4498d182d96d9c0b789ab105d060d261d24d7437d6843c2141586bce02d51f61", func := "loop.example/g00833/laws.FnLeastMissed", spec := "fnLeastMissed", apart := false }
def FnLeastMissedSaid : Prop := fnLeastMissedRow.holds Try.pinned (OpenSpec.ofChange fnLeastMissedSpec)

/-- ITS FALSE NEIGHBOUR: 'it returns false'. Refute it at one input. -/
def fnLeastMissedWrong : ChangeSpec := { name := "fnLeastMissed", fn := fun _ => fun
  | [d] => { results := [.lit (.bool false)], args := [d] }
  | _ => none }
def FnLeastMissedWrongFalsely : Prop := fnLeastMissedRow.holds Try.pinned (OpenSpec.ofChange fnLeastMissedWrong)

/- THE SECOND FORM. 'bulk': how many values and letters a reading holds, each counted each time it is reached (what is shared counts as often as it is met; a slice's spare places count too). A statement '..UptoSaid' is the law's where the arguments, and the package variables that the reading takes, are together of bulk at most 1048576: NARROWER than '..Said'. Prove '..Said' where nothing that the law and all that it calls make is longer than what came in: it says more and counts as full. Else prove '..UptoSaid'. A law counts once. -/
mutual
def uptoBulk {H : Type} : DataW H → Nat
  | .lit (.string bytes) => bytes.length + 1
  | .lit _ => 1
  | .nil => 1
  | .ptr d => uptoBulk d + 1
  | .slice elems spare => uptoBulkAll elems + uptoBulkAll spare + 1
  | .agg parts => uptoBulkAll parts + 1
  | .iface _ d => uptoBulk d + 1
  | .map entries => uptoBulkEntries entries + 1
  | .held _ => 1
def uptoBulkAll {H : Type} : List (DataW H) → Nat
  | [] => 0
  | d :: r => uptoBulk d + uptoBulkAll r
def uptoBulkEntries {H : Type} : List (Lit × DataW H) → Nat
  | [] => 0
  | x :: r => uptoBulkEntry x + uptoBulkEntries r
def uptoBulkEntry {H : Type} : Lit × DataW H → Nat
  | (.string bytes, d) => bytes.length + uptoBulk d + 1
  | (_, d) => uptoBulk d + 1
 end
def uptoSmall : (H : Type) → List (DataW H) → Bool := fun _ ds => decide (uptoBulkAll ds ≤ 1048576)
def OpenSpec.upto (s : _root_.Go.ChangeSpec) : _root_.Go.OpenSpec := { _root_.Go.OpenSpec.ofChange s with cond := some uptoSmall }

/-- 'laws.FnFound', WHERE WHAT IT READS IS OF BULK AT MOST 1048576: true; the input reads as it did. -/
def fnFoundUptoRow : OpenClaim := { program := "ytmlingcnbdpbmaa", sum := "4498d182d96d9c0b789ab105d060d261d24d7437d6843c2141586bce02d51f61", func := "loop.example/g00833/laws.FnFound", spec := "fnFound", apart := false, narrowed := true }
def FnFoundUptoSaid : Prop := fnFoundUptoRow.holds Try.pinned (OpenSpec.upto fnFoundSpec)

/-- 'laws.FnOrders', WHERE WHAT IT READS IS OF BULK AT MOST 1048576: true; the input reads as it did. -/
def fnOrdersUptoRow : OpenClaim := { program := "ytmlingcnbdpbmaa", sum := "4498d182d96d9c0b789ab105d060d261d24d7437d6843c2141586bce02d51f61", func := "loop.example/g00833/laws.FnOrders", spec := "fnOrders", apart := false, narrowed := true }
def FnOrdersUptoSaid : Prop := fnOrdersUptoRow.holds Try.pinned (OpenSpec.upto fnOrdersSpec)

/-- 'laws.FnBursts', WHERE WHAT IT READS IS OF BULK AT MOST 1048576: true; the input reads as it did. -/
def fnBurstsUptoRow : OpenClaim := { program := "ytmlingcnbdpbmaa", sum := "4498d182d96d9c0b789ab105d060d261d24d7437d6843c2141586bce02d51f61", func := "loop.example/g00833/laws.FnBursts", spec := "fnBursts", apart := false, narrowed := true }
def FnBurstsUptoSaid : Prop := fnBurstsUptoRow.holds Try.pinned (OpenSpec.upto fnBurstsSpec)

/-- 'laws.FnLeastMissed', WHERE WHAT IT READS IS OF BULK AT MOST 1048576: true; the input reads as it did. -/
def fnLeastMissedUptoRow : OpenClaim := { program := "ytmlingcnbdpbmaa", sum := "4498d182d96d9c0b789ab105d060d261d24d7437d6843c2141586bce02d51f61", func := "loop.example/g00833/laws.FnLeastMissed", spec := "fnLeastMissed", apart := false, narrowed := true }
def FnLeastMissedUptoSaid : Prop := fnLeastMissedUptoRow.holds Try.pinned (OpenSpec.upto fnLeastMissedSpec)

end Rows
end Go.Proofs.Ytmlingcnbdpbmaa
