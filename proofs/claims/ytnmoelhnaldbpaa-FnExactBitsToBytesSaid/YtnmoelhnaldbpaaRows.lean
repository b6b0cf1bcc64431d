/-
  No cell of these rows narrows 'for every input' (looked for: loops, veiled, ifaces, maps, wideKeys, modest, calm, conditions, laid).
  DERIVED. THE GIVEN ROWS OF THIS SEAT. 12 by the template 'for every input the law returns true; each argument reads behind the call as it read before'; 0 by the template 'total and deterministic' (their statements: YtnmoelhnaldbpaaTotals.lean).
  GIVEN WITH THE SEED: the statements are not yours to turn. If you find one false, say at which input.
  Laid BY PROGRAM, IN A SANDBOX (cutbox-rows.mjs): the forced cells as the released guide's own fill.sh prints them over the translation 423497e46775cce3… (all of the seat's roots in one cut). By AI agents, Wed Nov 11 2026. No macro, syntax, notation, axiom, sorry.
-/
import Derived.Test.YtnmoelhnaldbpaaChecked
import GoSem.Claim
import GoSem.ClaimJoined
import GoSem.ClaimMapViews
import Derived.JoinedTies
import Derived.KernelRfl
namespace Go.Proofs.Ytnmoelhnaldbpaa
/- THE CELL 'sum', in the pinned program and in every row, IS THE sha256 OF THE DUMP (.gsa) THAT YtnmoelhnaldbpaaProg.lean LOADS. Nothing in Lean hashes anything: it is a label: what it is worth is what the hold of that sum in a sandbox is worth. -/
noncomputable def Try.pinned : Pinned := { name := "ytnmoelhnaldbpaa", sum := "423497e46775cce325b0042b22983d07bfff0528ec5f49262aeabd09fedb7a57", checked := Try.checked }
namespace Rows
def none {H : Type} : Left H := { results := [], args := [] }

/-- 'laws.FnExactIsBits': WHATEVER THE INPUT: true; the input reads as it did. -/
def fnExactIsBitsSpec : ChangeSpec := { name := "fnExactIsBits", fn := fun _ => fun
  | [d] => { results := [.lit (.bool true)], args := [d] }
  | _ => none }
def fnExactIsBitsRow : OpenClaim := { program := "ytnmoelhnaldbpaa", sum := "423497e46775cce325b0042b22983d07bfff0528ec5f49262aeabd09fedb7a57", func := "loop.example/g00833/laws.FnExactIsBits", spec := "fnExactIsBits", apart := false }
def FnExactIsBitsSaid : Prop := fnExactIsBitsRow.holds Try.pinned (OpenSpec.ofChange fnExactIsBitsSpec)

/-- ITS FALSE NEIGHBOUR: 'it returns false'. Refute it at one input. -/
def fnExactIsBitsWrong : ChangeSpec := { name := "fnExactIsBits", fn := fun _ => fun
  | [d] => { results := [.lit (.bool false)], args := [d] }
  | _ => none }
def FnExactIsBitsWrongFalsely : Prop := fnExactIsBitsRow.holds Try.pinned (OpenSpec.ofChange fnExactIsBitsWrong)

/-- 'laws.FnExactIsBytes': WHATEVER THE INPUT: true; the input reads as it did. -/
def fnExactIsBytesSpec : ChangeSpec := { name := "fnExactIsBytes", fn := fun _ => fun
  | [d] => { results := [.lit (.bool true)], args := [d] }
  | _ => none }
def fnExactIsBytesRow : OpenClaim := { program := "ytnmoelhnaldbpaa", sum := "423497e46775cce325b0042b22983d07bfff0528ec5f49262aeabd09fedb7a57", func := "loop.example/g00833/laws.FnExactIsBytes", spec := "fnExactIsBytes", apart := false }
def FnExactIsBytesSaid : Prop := fnExactIsBytesRow.holds Try.pinned (OpenSpec.ofChange fnExactIsBytesSpec)

/-- ITS FALSE NEIGHBOUR: 'it returns false'. Refute it at one input. -/
def fnExactIsBytesWrong : ChangeSpec := { name := "fnExactIsBytes", fn := fun _ => fun
  | [d] => { results := [.lit (.bool false)], args := [d] }
  | _ => none }
def FnExactIsBytesWrongFalsely : Prop := fnExactIsBytesRow.holds Try.pinned (OpenSpec.ofChange fnExactIsBytesWrong)

/-- 'laws.FnExactReadBits': WHATEVER THE INPUT: true; the input reads as it did. -/
def fnExactReadBitsSpec : ChangeSpec := { name := "fnExactReadBits", fn := fun _ => fun
  | [d] => { results := [.lit (.bool true)], args := [d] }
  | _ => none }
def fnExactReadBitsRow : OpenClaim := { program := "ytnmoelhnaldbpaa", sum := "423497e46775cce325b0042b22983d07bfff0528ec5f49262aeabd09fedb7a57", func := "loop.example/g00833/laws.FnExactReadBits", spec := "fnExactReadBits", apart := false }
def FnExactReadBitsSaid : Prop := fnExactReadBitsRow.holds Try.pinned (OpenSpec.ofChange fnExactReadBitsSpec)

/-- ITS FALSE NEIGHBOUR: 'it returns false'. Refute it at one input. -/
def fnExactReadBitsWrong : ChangeSpec := { name := "fnExactReadBits", fn := fun _ => fun
  | [d] => { results := [.lit (.bool false)], args := [d] }
  | _ => none }
def FnExactReadBitsWrongFalsely : Prop := fnExactReadBitsRow.holds Try.pinned (OpenSpec.ofChange fnExactReadBitsWrong)

/-- 'laws.FnExactBitsText': WHATEVER THE INPUT: true; the input reads as it did. -/
def fnExactBitsTextSpec : ChangeSpec := { name := "fnExactBitsText", fn := fun _ => fun
  | [d] => { results := [.lit (.bool true)], args := [d] }
  | _ => none }
def fnExactBitsTextRow : OpenClaim := { program := "ytnmoelhnaldbpaa", sum := "423497e46775cce325b0042b22983d07bfff0528ec5f49262aeabd09fedb7a57", func := "loop.example/g00833/laws.FnExactBitsText", spec := "fnExactBitsText", apart := false }
def FnExactBitsTextSaid : Prop := fnExactBitsTextRow.holds Try.pinned (OpenSpec.ofChange fnExactBitsTextSpec)

/-- ITS FALSE NEIGHBOUR: 'it returns false'. Refute it at one input. -/
def fnExactBitsTextWrong : ChangeSpec := { name := "fnExactBitsText", fn := fun _ => fun
  | [d] => { results := [.lit (.bool false)], args := [d] }
  | _ => none }
def FnExactBitsTextWrongFalsely : Prop := fnExactBitsTextRow.holds Try.pinned (OpenSpec.ofChange fnExactBitsTextWrong)

/-- 'laws.FnExactNumberAt': WHATEVER THE INPUT: true; the input reads as it did. -/
def fnExactNumberAtSpec : ChangeSpec := { name := "fnExactNumberAt", fn := fun _ => fun
  | [d1, d2, d3] => { results := [.lit (.bool true)], args := [d1, d2, d3] }
  | _ => none }
def fnExactNumberAtRow : OpenClaim := { program := "ytnmoelhnaldbpaa", sum := "423497e46775cce325b0042b22983d07bfff0528ec5f49262aeabd09fedb7a57", func := "loop.example/g00833/laws.FnExactNumberAt", spec := "fnExactNumberAt", apart := false }
def FnExactNumberAtSaid : Prop := fnExactNumberAtRow.holds Try.pinned (OpenSpec.ofChange fnExactNumberAtSpec)

/-- ITS FALSE NEIGHBOUR: 'it returns false'. Refute it at one input. -/
def fnExactNumberAtWrong : ChangeSpec := { name := "fnExactNumberAt", fn := fun _ => fun
  | [d1, d2, d3] => { results := [.lit (.bool false)], args := [d1, d2, d3] }
  | _ => none }
def FnExactNumberAtWrongFalsely : Prop := fnExactNumberAtRow.holds Try.pinned (OpenSpec.ofChange fnExactNumberAtWrong)

/-- 'laws.FnExactSumErrors': WHATEVER THE INPUT: true; the input reads as it did. -/
def fnExactSumErrorsSpec : ChangeSpec := { name := "fnExactSumErrors", fn := fun _ => fun
  | [d1, d2] => { results := [.lit (.bool true)], args := [d1, d2] }
  | _ => none }
def fnExactSumErrorsRow : OpenClaim := { program := "ytnmoelhnaldbpaa", sum := "423497e46775cce325b0042b22983d07bfff0528ec5f49262aeabd09fedb7a57", func := "loop.example/g00833/laws.FnExactSumErrors", spec := "fnExactSumErrors", apart := false }
def FnExactSumErrorsSaid : Prop := fnExactSumErrorsRow.holds Try.pinned (OpenSpec.ofChange fnExactSumErrorsSpec)

/-- ITS FALSE NEIGHBOUR: 'it returns false'. Refute it at one input. -/
def fnExactSumErrorsWrong : ChangeSpec := { name := "fnExactSumErrors", fn := fun _ => fun
  | [d1, d2] => { results := [.lit (.bool false)], args := [d1, d2] }
  | _ => none }
def FnExactSumErrorsWrongFalsely : Prop := fnExactSumErrorsRow.holds Try.pinned (OpenSpec.ofChange fnExactSumErrorsWrong)

/-- 'laws.FnExactBytesToBits': WHATEVER THE INPUT: true; the input reads as it did. -/
def fnExactBytesToBitsSpec : ChangeSpec := { name := "fnExactBytesToBits", fn := fun _ => fun
  | [d] => { results := [.lit (.bool true)], args := [d] }
  | _ => none }
def fnExactBytesToBitsRow : OpenClaim := { program := "ytnmoelhnaldbpaa", sum := "423497e46775cce325b0042b22983d07bfff0528ec5f49262aeabd09fedb7a57", func := "loop.example/g00833/laws.FnExactBytesToBits", spec := "fnExactBytesToBits", apart := false }
def FnExactBytesToBitsSaid : Prop := fnExactBytesToBitsRow.holds Try.pinned (OpenSpec.ofChange fnExactBytesToBitsSpec)

/-- ITS FALSE NEIGHBOUR: 'it returns false'. Refute it at one input. -/
def fnExactBytesToBitsWrong : ChangeSpec := { name := "fnExactBytesToBits", fn := fun _ => fun
  | [d] => { results := [.lit (.bool false)], args := [d] }
  | _ => none }
def FnExactBytesToBitsWrongFalsely : Prop := fnExactBytesToBitsRow.holds Try.pinned (OpenSpec.ofChange fnExactBytesToBitsWrong)

/-- 'laws.FnExactBurstOf': WHATEVER THE INPUT: true; the input reads as it did. -/
def fnExactBurstOfSpec : ChangeSpec := { name := "fnExactBurstOf", fn := fun _ => fun
  | [d] => { results := [.lit (.bool true)], args := [d] }
  | _ => none }
def fnExactBurstOfRow : OpenClaim := { program := "ytnmoelhnaldbpaa", sum := "423497e46775cce325b0042b22983d07bfff0528ec5f49262aeabd09fedb7a57", func := "loop.example/g00833/laws.FnExactBurstOf", spec := "fnExactBurstOf", apart := false }
def FnExactBurstOfSaid : Prop := fnExactBurstOfRow.holds Try.pinned (OpenSpec.ofChange fnExactBurstOfSpec)

/-- ITS FALSE NEIGHBOUR: 'it returns false'. Refute it at one input. -/
def fnExactBurstOfWrong : ChangeSpec := { name := "fnExactBurstOf", fn := fun _ => fun
  | [d] => { results := [.lit (.bool false)], args := [d] }
  | _ => none }
def FnExactBurstOfWrongFalsely : Prop := fnExactBurstOfRow.holds Try.pinned (OpenSpec.ofChange fnExactBurstOfWrong)

/-- 'laws.FnExactDifferingBits': WHATEVER THE INPUT: true; the input reads as it did. -/
def fnExactDifferingBitsSpec : ChangeSpec := { name := "fnExactDifferingBits", fn := fun _ => fun
  | [d1, d2] => { results := [.lit (.bool true)], args := [d1, d2] }
  | _ => none }
def fnExactDifferingBitsRow : OpenClaim := { program := "ytnmoelhnaldbpaa", sum := "423497e46775cce325b0042b22983d07bfff0528ec5f49262aeabd09fedb7a57", func := "loop.example/g00833/laws.FnExactDifferingBits", spec := "fnExactDifferingBits", apart := false }
def FnExactDifferingBitsSaid : Prop := fnExactDifferingBitsRow.holds Try.pinned (OpenSpec.ofChange fnExactDifferingBitsSpec)

/-- ITS FALSE NEIGHBOUR: 'it returns false'. Refute it at one input. -/
def fnExactDifferingBitsWrong : ChangeSpec := { name := "fnExactDifferingBits", fn := fun _ => fun
  | [d1, d2] => { results := [.lit (.bool false)], args := [d1, d2] }
  | _ => none }
def FnExactDifferingBitsWrongFalsely : Prop := fnExactDifferingBitsRow.holds Try.pinned (OpenSpec.ofChange fnExactDifferingBitsWrong)

/-- 'laws.FnExactAppendNumber': WHATEVER THE INPUT: true; the input reads as it did. -/
def fnExactAppendNumberSpec : ChangeSpec := { name := "fnExactAppendNumber", fn := fun _ => fun
  | [d1, d2, d3] => { results := [.lit (.bool true)], args := [d1, d2, d3] }
  | _ => none }
def fnExactAppendNumberRow : OpenClaim := { program := "ytnmoelhnaldbpaa", sum := "423497e46775cce325b0042b22983d07bfff0528ec5f49262aeabd09fedb7a57", func := "loop.example/g00833/laws.FnExactAppendNumber", spec := "fnExactAppendNumber", apart := false }
def FnExactAppendNumberSaid : Prop := fnExactAppendNumberRow.holds Try.pinned (OpenSpec.ofChange fnExactAppendNumberSpec)

/-- ITS FALSE NEIGHBOUR: 'it returns false'. Refute it at one input. -/
def fnExactAppendNumberWrong : ChangeSpec := { name := "fnExactAppendNumber", fn := fun _ => fun
  | [d1, d2, d3] => { results := [.lit (.bool false)], args := [d1, d2, d3] }
  | _ => none }
def FnExactAppendNumberWrongFalsely : Prop := fnExactAppendNumberRow.holds Try.pinned (OpenSpec.ofChange fnExactAppendNumberWrong)

/-- 'laws.FnExactFlipBits': WHATEVER THE INPUT: true; the input reads as it did. -/
def fnExactFlipBitsSpec : ChangeSpec := { name := "fnExactFlipBits", fn := fun _ => fun
  | [d1, d2] => { results := [.lit (.bool true)], args := [d1, d2] }
  | _ => none }
def fnExactFlipBitsRow : OpenClaim := { program := "ytnmoelhnaldbpaa", sum := "423497e46775cce325b0042b22983d07bfff0528ec5f49262aeabd09fedb7a57", func := "loop.example/g00833/laws.FnExactFlipBits", spec := "fnExactFlipBits", apart := false }
def FnExactFlipBitsSaid : Prop := fnExactFlipBitsRow.holds Try.pinned (OpenSpec.ofChange fnExactFlipBitsSpec)

/-- ITS FALSE NEIGHBOUR: 'it returns false'. Refute it at one input. -/
def fnExactFlipBitsWrong : ChangeSpec := { name := "fnExactFlipBits", fn := fun _ => fun
  | [d1, d2] => { results := [.lit (.bool false)], args := [d1, d2] }
  | _ => none }
def FnExactFlipBitsWrongFalsely : Prop := fnExactFlipBitsRow.holds Try.pinned (OpenSpec.ofChange fnExactFlipBitsWrong)

/-- 'laws.FnExactBitsToBytes': WHATEVER THE INPUT: true; the input reads as it did. -/
def fnExactBitsToBytesSpec : ChangeSpec := { name := "fnExactBitsToBytes", fn := fun _ => fun
  | [d] => { results := [.lit (.bool true)], args := [d] }
  | _ => none }
def fnExactBitsToBytesRow : OpenClaim := { program := "ytnmoelhnaldbpaa", sum := "423497e46775cce325b0042b22983d07bfff0528ec5f49262aeabd09fedb7a57", func := "loop.example/g00833/laws.FnExactBitsToBytes", spec := "fnExactBitsToBytes", unfollowed := true, recurses := true, apart := false }
def FnExactBitsToBytesSaid : Prop := fnExactBitsToBytesRow.holds Try.pinned (OpenSpec.ofChange fnExactBitsToBytesSpec)

/-- ITS FALSE NEIGHBOUR: 'it returns false'. Refute it at one input. -/
def fnExactBitsToBytesWrong : ChangeSpec := { name := "fnExactBitsToBytes", fn := fun _ => fun
  | [d] => { results := [.lit (.bool false)], args := [d] }
  | _ => none }
def FnExactBitsToBytesWrongFalsely : Prop := fnExactBitsToBytesRow.holds Try.pinned (OpenSpec.ofChange fnExactBitsToBytesWrong)

/- THE SECOND FORM. 'bulk': how many values and letters a reading holds, each counted each time it is reached (what is shared counts as often as it is met; a slice's spare places count too). A statement '..UptoSaid' is the law's where the arguments, and the package variables that the reading takes, are together of bulk at most 1048576: NARROWER than '..Said'. Prove '..Said' where nothing that the law and all that it calls make is longer than what came in: it says more and counts as full. Else prove '..UptoSaid'. A law counts once. -/
mutual
def uptoBulk {H : Type} : DataW H → Nat
  | .lit (.string bytes) => bytes.length + 1
  | .lit _ => 1
  | .nil => 1
  | .ptr d => uptoBulk d + 1
  | .slice elems spare => uptoBulkAll elems + uptoBulkAll spare + 1
  | .agg parts => uptoBulkAll parts + 1
  | .iface _ d => uptoBulk d + 1
  | .map entries => uptoBulkEntries entries + 1
  | .held _ => 1
def uptoBulkAll {H : Type} : List (DataW H) → Nat
  | [] => 0
  | d :: r => uptoBulk d + uptoBulkAll r
def uptoBulkEntries {H : Type} : List (Lit × DataW H) → Nat
  | [] => 0
  | x :: r => uptoBulkEntry x + uptoBulkEntries r
def uptoBulkEntry {H : Type} : Lit × DataW H → Nat
  | (.string bytes, d) => bytes.length + uptoBulk d + 1
  | (_, d) => uptoBulk d + 1
 end
def uptoSmall : (H : Type) → List (DataW H) → Bool := fun _ ds => decide (uptoBulkAll ds ≤ 1048576)
def OpenSpec.upto (s : _root_.Go.ChangeSpec) : _root_.Go.OpenSpec := { _root_.Go.OpenSpec.ofChange s with cond := some uptoSmall }

/-- 'laws.FnExactIsBits', WHERE WHAT IT READS IS OF BULK AT MOST 1048576: true; the input reads as it did. -/
def fnExactIsBitsUptoRow : OpenClaim := { program := "ytnmoelhnaldbpaa", sum := "423497e46775cce325b0042b22983d07bfff0528ec5f49262aeabd09fedb7a57", func := "loop.example/g00833/laws.FnExactIsBits", spec := "fnExactIsBits", apart := false, narrowed := true }
def FnExactIsBitsUptoSaid : Prop := fnExactIsBitsUptoRow.holds Try.pinned (OpenSpec.upto fnExactIsBitsSpec)

/-- 'laws.FnExactIsBytes', WHERE WHAT IT READS IS OF BULK AT MOST 1048576: true; the input reads as it did. -/
def fnExactIsBytesUptoRow : OpenClaim := { program := "ytnmoelhnaldbpaa", sum := "423497e46775cce325b0042b22983d07bfff0528ec5f49262aeabd09fedb7a57", func := "loop.example/g00833/laws.FnExactIsBytes", spec := "fnExactIsBytes", apart := false, narrowed := true }
def FnExactIsBytesUptoSaid : Prop := fnExactIsBytesUptoRow.holds Try.pinned (OpenSpec.upto fnExactIsBytesSpec)

/-- 'laws.FnExactReadBits', WHERE WHAT IT READS IS OF BULK AT MOST 1048576: true; the input reads as it did. -/
def fnExactReadBitsUptoRow : OpenClaim := { program := "ytnmoelhnaldbpaa", sum := "423497e46775cce325b0042b22983d07bfff0528ec5f49262aeabd09fedb7a57", func := "loop.example/g00833/laws.FnExactReadBits", spec := "fnExactReadBits", apart := false, narrowed := true }
def FnExactReadBitsUptoSaid : Prop := fnExactReadBitsUptoRow.holds Try.pinned (OpenSpec.upto fnExactReadBitsSpec)

/-- 'laws.FnExactBitsText', WHERE WHAT IT READS IS OF BULK AT MOST 1048576: true; the input reads as it did. -/
def fnExactBitsTextUptoRow : OpenClaim := { program := "ytnmoelhnaldbpaa", sum := "423497e46775cce325b0042b22983d07bfff0528ec5f49262aeabd09fedb7a57", func := "loop.example/g00833/laws.FnExactBitsText", spec := "fnExactBitsText", apart := false, narrowed := true }
def FnExactBitsTextUptoSaid : Prop := fnExactBitsTextUptoRow.holds Try.pinned (OpenSpec.upto fnExactBitsTextSpec)

/-- 'laws.FnExactNumberAt', WHERE WHAT IT READS IS OF BULK AT MOST 1048576: true; the input reads as it did. -/
def fnExactNumberAtUptoRow : OpenClaim := { program := "ytnmoelhnaldbpaa", sum := "423497e46775cce325b0042b22983d07bfff0528ec5f49262aeabd09fedb7a57", func := "loop.example/g00833/laws.FnExactNumberAt", spec := "fnExactNumberAt", apart := false, narrowed := true }
def FnExactNumberAtUptoSaid : Prop := fnExactNumberAtUptoRow.holds Try.pinned (OpenSpec.upto fnExactNumberAtSpec)

/-- 'laws.FnExactSumErrors', WHERE WHAT IT READS IS OF BULK AT MOST 1048576: true; the input reads as it did. -/
def fnExactSumErrorsUptoRow : OpenClaim := { program := "ytnmoelhnaldbpaa", sum := "423497e46775cce325b0042b22983d07bfff0528ec5f49262aeabd09fedb7a57", func := "loop.example/g00833/laws.FnExactSumErrors", spec := "fnExactSumErrors", apart := false, narrowed := true }
def FnExactSumErrorsUptoSaid : Prop := fnExactSumErrorsUptoRow.holds Try.pinned (OpenSpec.upto fnExactSumErrorsSpec)

/-- 'laws.FnExactBytesToBits', WHERE WHAT IT READS IS OF BULK AT MOST 1048576: true; the input reads as it did. -/
def fnExactBytesToBitsUptoRow : OpenClaim := { program := "ytnmoelhnaldbpaa", sum := "423497e46775cce325b0042b22983d07bfff0528ec5f49262aeabd09fedb7a57", func := "loop.example/g00833/laws.FnExactBytesToBits", spec := "fnExactBytesToBits", apart := false, narrowed := true }
def FnExactBytesToBitsUptoSaid : Prop := fnExactBytesToBitsUptoRow.holds Try.pinned (OpenSpec.upto fnExactBytesToBitsSpec)

/-- 'laws.FnExactBurstOf', WHERE WHAT IT READS IS OF BULK AT MOST 1048576: true; the input reads as it did. -/
def fnExactBurstOfUptoRow : OpenClaim := { program := "ytnmoelhnaldbpaa", sum := "423497e46775cce325b0042b22983d07bfff0528ec5f49262aeabd09fedb7a57", func := "loop.example/g00833/laws.FnExactBurstOf", spec := "fnExactBurstOf", apart := false, narrowed := true }
def FnExactBurstOfUptoSaid : Prop := fnExactBurstOfUptoRow.holds Try.pinned (OpenSpec.upto fnExactBurstOfSpec)

/-- 'laws.FnExactDifferingBits', WHERE WHAT IT READS IS OF BULK AT MOST 1048576: true; the input reads as it did. -/
def fnExactDifferingBitsUptoRow : OpenClaim := { program := "ytnmoelhnaldbpaa", sum := "423497e46775cce325b0042b22983d07bfff0528ec5f49262aeabd09fedb7a57", func := "loop.example/g00833/laws.FnExactDifferingBits", spec := "fnExactDifferingBits", apart := false, narrowed := true }
def FnExactDifferingBitsUptoSaid : Prop := fnExactDifferingBitsUptoRow.holds Try.pinned (OpenSpec.upto fnExactDifferingBitsSpec)

/-- 'laws.FnExactAppendNumber', WHERE WHAT IT READS IS OF BULK AT MOST 1048576: true; the input reads as it did. -/
def fnExactAppendNumberUptoRow : OpenClaim := { program := "ytnmoelhnaldbpaa", sum := "423497e46775cce325b0042b22983d07bfff0528ec5f49262aeabd09fedb7a57", func := "loop.example/g00833/laws.FnExactAppendNumber", spec := "fnExactAppendNumber", apart := false, narrowed := true }
def FnExactAppendNumberUptoSaid : Prop := fnExactAppendNumberUptoRow.holds Try.pinned (OpenSpec.upto fnExactAppendNumberSpec)

/-- 'laws.FnExactFlipBits', WHERE WHAT IT READS IS OF BULK AT MOST 1048576: true; the input reads as it did. -/
def fnExactFlipBitsUptoRow : OpenClaim := { program := "ytnmoelhnaldbpaa", sum := "423497e46775cce325b0042b22983d07bfff0528ec5f49262aeabd09fedb7a57", func := "loop.example/g00833/laws.FnExactFlipBits", spec := "fnExactFlipBits", apart := false, narrowed := true }
def FnExactFlipBitsUptoSaid : Prop := fnExactFlipBitsUptoRow.holds Try.pinned (OpenSpec.upto fnExactFlipBitsSpec)

/-- 'laws.FnExactBitsToBytes', WHERE WHAT IT READS IS OF BULK AT MOST 1048576: true; the input reads as it did. -/
def fnExactBitsToBytesUptoRow : OpenClaim := { program := "ytnmoelhnaldbpaa", sum := "423497e46775cce325b0042b22983d07bfff0528ec5f49262aeabd09fedb7a57", func := "loop.example/g00833/laws.FnExactBitsToBytes", spec := "fnExactBitsToBytes", unfollowed := true, recurses := true, apart := false, narrowed := true }
def FnExactBitsToBytesUptoSaid : Prop := fnExactBitsToBytesUptoRow.holds Try.pinned (OpenSpec.upto fnExactBitsToBytesSpec)

end Rows
end Go.Proofs.Ytnmoelhnaldbpaa
