/-
  DERIVED. GIVEN WITH THE SEED: THE CARDS: each row of YtkhmnkpdlodepaaDoorRows.lean that lists a variable, with what it lists TIED to the program's text (the seventh form; the later family's looks); each row that meets fmt, with fmt's text TOLD by the authors' own Lean function (tested against real Go, not proved from fmt's source: count such statements apart). THE CARD IS WHAT COUNTS. Prove the row's statement (the work); the ties are given (YtkhmnkpdlodepaaDoorTie.lean); close each card by the builder's one call (the guide's Derived/Test/ToyasCard.lean, 'card_holds'). Laid BY PROGRAM, IN A SANDBOX (cutbox-door.mjs). By AI agents, Wed Nov 11 2026. No macro, syntax, notation, axiom, sorry.
-/
import Derived.Test.YtkhmnkpdlodepaaDoorRows
import GoSem.ClaimSeven
namespace Go.Proofs.YtkhmnkpdlodepaaDoor
namespace Rows

/-- THE TIED CARD OF 'laws.FnExactReadState'. -/
def fnExactReadStateCard : Claim7 := { stood := { row := fnExactReadStateRow, standIns := [], harness := (true, "01250ca49deb0be36e9e32ee58dc4b8de2e77b8cb42f9d7eeec77cb4729de878"), looks := true }, kinds := [], alts := [], laidByText := true, laidKinds := [.data, .data, .data, .data, .sentinel, .sentinel, .pinned], laidTests := true, laidLooks := .later }
def FnExactReadStateCardSaid : Prop := Claim7.holds Tryd.pinned (.plain (OpenSpec.ofChange fnExactReadStateSpec)) fnExactReadStateCard

/-- THE TIED CARD OF 'laws.FnStates'. -/
def fnStatesCard : Claim7 := { stood := { row := fnStatesRow, standIns := [], harness := (true, "01250ca49deb0be36e9e32ee58dc4b8de2e77b8cb42f9d7eeec77cb4729de878"), looks := true }, kinds := [], alts := [], laidByText := true, laidKinds := [.data, .data, .data, .data, .sentinel, .sentinel, .pinned], laidTests := true, laidLooks := .later }
def FnStatesCardSaid : Prop := Claim7.holds Tryd.pinned (.plain (OpenSpec.ofChange fnStatesSpec)) fnStatesCard

/-- THE TIED CARD OF 'laws.FnExactStateText'. -/
def fnExactStateTextCard : Claim7 := { stood := { row := fnExactStateTextRow, standIns := [], harness := (true, "01250ca49deb0be36e9e32ee58dc4b8de2e77b8cb42f9d7eeec77cb4729de878"), looks := true }, kinds := [], alts := [], laidByText := true, laidKinds := [.data, .data, .data], laidTests := true, laidLooks := .later }
def FnExactStateTextCardSaid : Prop := Claim7.holds Tryd.pinned (.plain (OpenSpec.ofChange fnExactStateTextSpec)) fnExactStateTextCard

/-- THE SECOND FORM's CARD OF 'laws.FnExactReadState'. -/
def fnExactReadStateUptoCard : Claim7 := { stood := { row := fnExactReadStateUptoRow, standIns := [], harness := (true, "01250ca49deb0be36e9e32ee58dc4b8de2e77b8cb42f9d7eeec77cb4729de878"), looks := true }, kinds := [], alts := [], laidByText := true, laidKinds := [.data, .data, .data, .data, .sentinel, .sentinel, .pinned], laidTests := true, laidLooks := .later }
def FnExactReadStateUptoCardSaid : Prop := Claim7.holds Tryd.pinned (.plain (OpenSpec.upto fnExactReadStateSpec)) fnExactReadStateUptoCard

/-- THE SECOND FORM's CARD OF 'laws.FnStates'. -/
def fnStatesUptoCard : Claim7 := { stood := { row := fnStatesUptoRow, standIns := [], harness := (true, "01250ca49deb0be36e9e32ee58dc4b8de2e77b8cb42f9d7eeec77cb4729de878"), looks := true }, kinds := [], alts := [], laidByText := true, laidKinds := [.data, .data, .data, .data, .sentinel, .sentinel, .pinned], laidTests := true, laidLooks := .later }
def FnStatesUptoCardSaid : Prop := Claim7.holds Tryd.pinned (.plain (OpenSpec.upto fnStatesSpec)) fnStatesUptoCard

/-- THE SECOND FORM's CARD OF 'laws.FnExactStateText'. -/
def fnExactStateTextUptoCard : Claim7 := { stood := { row := fnExactStateTextUptoRow, standIns := [], harness := (true, "01250ca49deb0be36e9e32ee58dc4b8de2e77b8cb42f9d7eeec77cb4729de878"), looks := true }, kinds := [], alts := [], laidByText := true, laidKinds := [.data, .data, .data], laidTests := true, laidLooks := .later }
def FnExactStateTextUptoCardSaid : Prop := Claim7.holds Tryd.pinned (.plain (OpenSpec.upto fnExactStateTextSpec)) fnExactStateTextUptoCard
end Rows
end Go.Proofs.YtkhmnkpdlodepaaDoor
