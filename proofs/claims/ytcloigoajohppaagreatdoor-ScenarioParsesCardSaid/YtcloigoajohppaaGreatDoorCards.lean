/-
  DERIVED. GIVEN WITH THE SEED: THE CARDS: each row of YtcloigoajohppaaGreatDoorRows.lean that lists a variable, with what it lists TIED to the program's text (the seventh form; the later family's looks); each row that meets fmt, with fmt's text TOLD by the authors' own Lean function (tested against real Go, not proved from fmt's source: count such statements apart). THE CARD IS WHAT COUNTS. Prove the row's statement (the work); the ties are given (YtcloigoajohppaaGreatDoorTie.lean); close each card by the builder's one call (the guide's Derived/Test/ToyasCard.lean, 'card_holds'). Laid BY PROGRAM, IN A SANDBOX (cutbox-door.mjs). By AI agents, Wed Nov 11 2026. No macro, syntax, notation, axiom, sorry.
-/
import Derived.Test.YtcloigoajohppaaGreatDoorRows
import GoSem.ClaimSeven
namespace Go.Proofs.YtcloigoajohppaaGreatDoor
namespace Rows

/-- THE TIED CARD OF 'hopmeshlaw59.ScenarioFormats'. -/
def scenarioFormatsCard : Claim7 := { stood := { row := scenarioFormatsRow, standIns := [], harness := (true, "88e313efad0be2ca2da90b7b2147679c69aa01ed93df78e5f1017d59d0ef7e12"), looks := true }, kinds := [], alts := [], laidByText := true, laidKinds := [.data, .data, .data, .data, .sentinel, .sentinel, .pinned], laidTests := true, laidLooks := .later }
def ScenarioFormatsCardSaid : Prop := Claim7.holds Tryz.pinned (.plain (OpenSpec.ofChange scenarioFormatsSpec)) scenarioFormatsCard

/-- THE TIED CARD OF 'hopmeshlaw59.ScenarioParses'. -/
def scenarioParsesCard : Claim7 := { stood := { row := scenarioParsesRow, standIns := [], harness := (true, "88e313efad0be2ca2da90b7b2147679c69aa01ed93df78e5f1017d59d0ef7e12"), looks := true }, kinds := [], alts := [], laidByText := true, laidKinds := [.data, .data, .data, .data, .sentinel, .sentinel, .pinned], laidTests := true, laidLooks := .later }
def ScenarioParsesCardSaid : Prop := Claim7.holds Tryz.pinned (.plain (OpenSpec.ofChange scenarioParsesSpec)) scenarioParsesCard

/-- THE TIED CARD OF 'hopmeshlaw59.ScenarioReturns'. -/
def scenarioReturnsCard : Claim7 := { stood := { row := scenarioReturnsRow, standIns := [], harness := (true, "88e313efad0be2ca2da90b7b2147679c69aa01ed93df78e5f1017d59d0ef7e12"), looks := true }, kinds := [], alts := [], laidByText := true, laidKinds := [.data, .data, .data, .data, .sentinel, .sentinel, .pinned], laidTests := true, laidLooks := .later }
def ScenarioReturnsCardSaid : Prop := Claim7.holds Tryz.pinned (.plain (OpenSpec.ofChange scenarioReturnsSpec)) scenarioReturnsCard

/-- THE TIED CARD OF 'hopmeshlaw59.ScenarioPowers'. -/
def scenarioPowersCard : Claim7 := { stood := { row := scenarioPowersRow, standIns := [], harness := (true, "88e313efad0be2ca2da90b7b2147679c69aa01ed93df78e5f1017d59d0ef7e12"), looks := true }, kinds := [], alts := [], laidByText := true, laidKinds := [.data, .data, .data, .data, .sentinel, .sentinel, .pinned], laidTests := true, laidLooks := .later }
def ScenarioPowersCardSaid : Prop := Claim7.holds Tryz.pinned (.plain (OpenSpec.ofChange scenarioPowersSpec)) scenarioPowersCard

/-- THE TIED CARD OF 'hopmeshlaw59.ScenarioCuts'. -/
def scenarioCutsCard : Claim7 := { stood := { row := scenarioCutsRow, standIns := [], harness := (true, "88e313efad0be2ca2da90b7b2147679c69aa01ed93df78e5f1017d59d0ef7e12"), looks := true }, kinds := [], alts := [], laidByText := true, laidKinds := [.data, .data, .data, .data, .sentinel, .sentinel, .pinned], laidTests := true, laidLooks := .later }
def ScenarioCutsCardSaid : Prop := Claim7.holds Tryz.pinned (.plain (OpenSpec.ofChange scenarioCutsSpec)) scenarioCutsCard

/-- THE TIED CARD OF 'hopmeshlaw59.ScenarioRemarks'. -/
def scenarioRemarksCard : Claim7 := { stood := { row := scenarioRemarksRow, standIns := [], harness := (true, "88e313efad0be2ca2da90b7b2147679c69aa01ed93df78e5f1017d59d0ef7e12"), looks := true }, kinds := [], alts := [], laidByText := true, laidKinds := [.data, .data, .data, .data, .sentinel, .sentinel, .pinned], laidTests := true, laidLooks := .later }
def ScenarioRemarksCardSaid : Prop := Claim7.holds Tryz.pinned (.plain (OpenSpec.ofChange scenarioRemarksSpec)) scenarioRemarksCard

/-- THE SECOND FORM's CARD OF 'hopmeshlaw59.ScenarioFormats'. -/
def scenarioFormatsUptoCard : Claim7 := { stood := { row := scenarioFormatsUptoRow, standIns := [], harness := (true, "88e313efad0be2ca2da90b7b2147679c69aa01ed93df78e5f1017d59d0ef7e12"), looks := true }, kinds := [], alts := [], laidByText := true, laidKinds := [.data, .data, .data, .data, .sentinel, .sentinel, .pinned], laidTests := true, laidLooks := .later }
def ScenarioFormatsUptoCardSaid : Prop := Claim7.holds Tryz.pinned (.plain (OpenSpec.upto scenarioFormatsSpec)) scenarioFormatsUptoCard

/-- THE SECOND FORM's CARD OF 'hopmeshlaw59.ScenarioParses'. -/
def scenarioParsesUptoCard : Claim7 := { stood := { row := scenarioParsesUptoRow, standIns := [], harness := (true, "88e313efad0be2ca2da90b7b2147679c69aa01ed93df78e5f1017d59d0ef7e12"), looks := true }, kinds := [], alts := [], laidByText := true, laidKinds := [.data, .data, .data, .data, .sentinel, .sentinel, .pinned], laidTests := true, laidLooks := .later }
def ScenarioParsesUptoCardSaid : Prop := Claim7.holds Tryz.pinned (.plain (OpenSpec.upto scenarioParsesSpec)) scenarioParsesUptoCard

/-- THE SECOND FORM's CARD OF 'hopmeshlaw59.ScenarioReturns'. -/
def scenarioReturnsUptoCard : Claim7 := { stood := { row := scenarioReturnsUptoRow, standIns := [], harness := (true, "88e313efad0be2ca2da90b7b2147679c69aa01ed93df78e5f1017d59d0ef7e12"), looks := true }, kinds := [], alts := [], laidByText := true, laidKinds := [.data, .data, .data, .data, .sentinel, .sentinel, .pinned], laidTests := true, laidLooks := .later }
def ScenarioReturnsUptoCardSaid : Prop := Claim7.holds Tryz.pinned (.plain (OpenSpec.upto scenarioReturnsSpec)) scenarioReturnsUptoCard

/-- THE SECOND FORM's CARD OF 'hopmeshlaw59.ScenarioPowers'. -/
def scenarioPowersUptoCard : Claim7 := { stood := { row := scenarioPowersUptoRow, standIns := [], harness := (true, "88e313efad0be2ca2da90b7b2147679c69aa01ed93df78e5f1017d59d0ef7e12"), looks := true }, kinds := [], alts := [], laidByText := true, laidKinds := [.data, .data, .data, .data, .sentinel, .sentinel, .pinned], laidTests := true, laidLooks := .later }
def ScenarioPowersUptoCardSaid : Prop := Claim7.holds Tryz.pinned (.plain (OpenSpec.upto scenarioPowersSpec)) scenarioPowersUptoCard

/-- THE SECOND FORM's CARD OF 'hopmeshlaw59.ScenarioCuts'. -/
def scenarioCutsUptoCard : Claim7 := { stood := { row := scenarioCutsUptoRow, standIns := [], harness := (true, "88e313efad0be2ca2da90b7b2147679c69aa01ed93df78e5f1017d59d0ef7e12"), looks := true }, kinds := [], alts := [], laidByText := true, laidKinds := [.data, .data, .data, .data, .sentinel, .sentinel, .pinned], laidTests := true, laidLooks := .later }
def ScenarioCutsUptoCardSaid : Prop := Claim7.holds Tryz.pinned (.plain (OpenSpec.upto scenarioCutsSpec)) scenarioCutsUptoCard

/-- THE SECOND FORM's CARD OF 'hopmeshlaw59.ScenarioRemarks'. -/
def scenarioRemarksUptoCard : Claim7 := { stood := { row := scenarioRemarksUptoRow, standIns := [], harness := (true, "88e313efad0be2ca2da90b7b2147679c69aa01ed93df78e5f1017d59d0ef7e12"), looks := true }, kinds := [], alts := [], laidByText := true, laidKinds := [.data, .data, .data, .data, .sentinel, .sentinel, .pinned], laidTests := true, laidLooks := .later }
def ScenarioRemarksUptoCardSaid : Prop := Claim7.holds Tryz.pinned (.plain (OpenSpec.upto scenarioRemarksSpec)) scenarioRemarksUptoCard
end Rows
end Go.Proofs.YtcloigoajohppaaGreatDoor
