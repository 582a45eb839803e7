/-
  DERIVED. GIVEN WITH THE SEED: THE CARDS: each row of YtaafmckdmeikjaaDoorRows.lean that lists a variable, with what it lists TIED to the program's text (the seventh form; the later family's looks); each row that meets fmt, with fmt's text TOLD by the authors' own Lean function (tested against real Go, not proved from fmt's source: count such statements apart). THE CARD IS WHAT COUNTS. Prove the row's statement (the work); the ties are given (YtaafmckdmeikjaaDoorTie.lean); close each card by the builder's one call (the guide's Derived/Test/ToyasCard.lean, 'card_holds'). Laid BY PROGRAM, IN A SANDBOX (cutbox-door.mjs). By AI agents, Wed Nov 11 2026. No macro, syntax, notation, axiom, sorry.
-/
import Derived.Test.YtaafmckdmeikjaaDoorRows
import GoSem.ClaimSeven
namespace Go.Proofs.YtaafmckdmeikjaaDoor
namespace Rows

/-- THE TIED CARD OF 'hopmeshlaw04.PowerTexts'. -/
def powerTextsCard : Claim7 := { stood := { row := powerTextsRow, standIns := [], harness := (true, "62adb04f9a65a781f2fc2925d96c05b3d707a3d024f5a473339ccff793b690a2"), looks := true }, kinds := [], alts := [], laidByText := true, laidKinds := [.data, .data, .data, .data, .sentinel, .sentinel, .pinned], laidTests := true, laidLooks := .later }
def PowerTextsCardSaid : Prop := Claim7.holds Tryd.pinned (.plain (OpenSpec.ofChange powerTextsSpec)) powerTextsCard

/-- THE SECOND FORM's CARD OF 'hopmeshlaw04.PowerTexts'. -/
def powerTextsUptoCard : Claim7 := { stood := { row := powerTextsUptoRow, standIns := [], harness := (true, "62adb04f9a65a781f2fc2925d96c05b3d707a3d024f5a473339ccff793b690a2"), looks := true }, kinds := [], alts := [], laidByText := true, laidKinds := [.data, .data, .data, .data, .sentinel, .sentinel, .pinned], laidTests := true, laidLooks := .later }
def PowerTextsUptoCardSaid : Prop := Claim7.holds Tryd.pinned (.plain (OpenSpec.upto powerTextsSpec)) powerTextsUptoCard
end Rows
end Go.Proofs.YtaafmckdmeikjaaDoor
