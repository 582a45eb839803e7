/-
  DERIVED. GIVEN WITH THE SEED: THE CARDS: each row of YtddekdlbkedaiaaDoorRows.lean that lists a variable, with what it lists TIED to the program's text (the seventh form; the later family's looks); each row that meets fmt, with fmt's text TOLD by the authors' own Lean function (tested against real Go, not proved from fmt's source: count such statements apart). THE CARD IS WHAT COUNTS. Prove the row's statement (the work); the ties are given (YtddekdlbkedaiaaDoorTie.lean); close each card by the builder's one call (the guide's Derived/Test/ToyasCard.lean, 'card_holds'). Laid BY PROGRAM, IN A SANDBOX (cutbox-door.mjs). By AI agents, Wed Nov 11 2026. No macro, syntax, notation, axiom, sorry.
-/
import Derived.Test.YtddekdlbkedaiaaDoorRows
import GoSem.ClaimSeven
namespace Go.Proofs.YtddekdlbkedaiaaDoor
namespace Rows

/-- THE TIED CARD OF 'hopmeshlaw04.PowerOrder'. -/
def powerOrderCard : Claim7 := { stood := { row := powerOrderRow, standIns := [], harness := (true, "71064f4846b592403d5011f6c5f8fccede61e7e0810d0d44f827e491489fe106"), looks := false }, kinds := [], alts := [], laidByText := true, laidKinds := [.data, .data, .data], laidTests := true, laidLooks := .later }
def PowerOrderCardSaid : Prop := Claim7.holds Tryd.pinned (.plain (OpenSpec.ofChange powerOrderSpec)) powerOrderCard

/-- THE TIED CARD OF 'hopmeshlaw04.PowerLevels'. -/
def powerLevelsCard : Claim7 := { stood := { row := powerLevelsRow, standIns := [], harness := (true, "71064f4846b592403d5011f6c5f8fccede61e7e0810d0d44f827e491489fe106"), looks := false }, kinds := [], alts := [], laidByText := true, laidKinds := [.data, .data, .data], laidTests := true, laidLooks := .later }
def PowerLevelsCardSaid : Prop := Claim7.holds Tryd.pinned (.plain (OpenSpec.ofChange powerLevelsSpec)) powerLevelsCard

/-- THE TIED CARD OF 'hopmeshlaw04.PowerScales'. -/
def powerScalesCard : Claim7 := { stood := { row := powerScalesRow, standIns := [], harness := (true, "71064f4846b592403d5011f6c5f8fccede61e7e0810d0d44f827e491489fe106"), looks := false }, kinds := [], alts := [], laidByText := true, laidKinds := [.data, .data, .data], laidTests := true, laidLooks := .later }
def PowerScalesCardSaid : Prop := Claim7.holds Tryd.pinned (.plain (OpenSpec.ofChange powerScalesSpec)) powerScalesCard

/-- THE TIED CARD OF 'hopmeshlaw04.PowerCapture'. -/
def powerCaptureCard : Claim7 := { stood := { row := powerCaptureRow, standIns := [], harness := (true, "71064f4846b592403d5011f6c5f8fccede61e7e0810d0d44f827e491489fe106"), looks := false }, kinds := [], alts := [], laidByText := true, laidKinds := [.data, .data, .data], laidTests := true, laidLooks := .later }
def PowerCaptureCardSaid : Prop := Claim7.holds Tryd.pinned (.plain (OpenSpec.ofChange powerCaptureSpec)) powerCaptureCard

/-- THE TIED CARD OF 'hopmeshlaw04.PowerReceives'. -/
def powerReceivesCard : Claim7 := { stood := { row := powerReceivesRow, standIns := [], harness := (true, "71064f4846b592403d5011f6c5f8fccede61e7e0810d0d44f827e491489fe106"), looks := false }, kinds := [], alts := [], laidByText := true, laidKinds := [.data, .data, .data], laidTests := true, laidLooks := .later }
def PowerReceivesCardSaid : Prop := Claim7.holds Tryd.pinned (.plain (OpenSpec.ofChange powerReceivesSpec)) powerReceivesCard

/-- THE TIED CARD OF 'hopmeshlaw04.PowerMargins'. -/
def powerMarginsCard : Claim7 := { stood := { row := powerMarginsRow, standIns := [], harness := (true, "71064f4846b592403d5011f6c5f8fccede61e7e0810d0d44f827e491489fe106"), looks := false }, kinds := [], alts := [], laidByText := true, laidKinds := [.data, .data, .data], laidTests := true, laidLooks := .later }
def PowerMarginsCardSaid : Prop := Claim7.holds Tryd.pinned (.plain (OpenSpec.ofChange powerMarginsSpec)) powerMarginsCard

/-- THE TIED CARD OF 'hopmeshlaw04.PowerMonotone'. -/
def powerMonotoneCard : Claim7 := { stood := { row := powerMonotoneRow, standIns := [], harness := (true, "71064f4846b592403d5011f6c5f8fccede61e7e0810d0d44f827e491489fe106"), looks := false }, kinds := [], alts := [], laidByText := true, laidKinds := [.data, .data, .data], laidTests := true, laidLooks := .later }
def PowerMonotoneCardSaid : Prop := Claim7.holds Tryd.pinned (.plain (OpenSpec.ofChange powerMonotoneSpec)) powerMonotoneCard

/-- THE SECOND FORM's CARD OF 'hopmeshlaw04.PowerOrder'. -/
def powerOrderUptoCard : Claim7 := { stood := { row := powerOrderUptoRow, standIns := [], harness := (true, "71064f4846b592403d5011f6c5f8fccede61e7e0810d0d44f827e491489fe106"), looks := false }, kinds := [], alts := [], laidByText := true, laidKinds := [.data, .data, .data], laidTests := true, laidLooks := .later }
def PowerOrderUptoCardSaid : Prop := Claim7.holds Tryd.pinned (.plain (OpenSpec.upto powerOrderSpec)) powerOrderUptoCard

/-- THE SECOND FORM's CARD OF 'hopmeshlaw04.PowerLevels'. -/
def powerLevelsUptoCard : Claim7 := { stood := { row := powerLevelsUptoRow, standIns := [], harness := (true, "71064f4846b592403d5011f6c5f8fccede61e7e0810d0d44f827e491489fe106"), looks := false }, kinds := [], alts := [], laidByText := true, laidKinds := [.data, .data, .data], laidTests := true, laidLooks := .later }
def PowerLevelsUptoCardSaid : Prop := Claim7.holds Tryd.pinned (.plain (OpenSpec.upto powerLevelsSpec)) powerLevelsUptoCard

/-- THE SECOND FORM's CARD OF 'hopmeshlaw04.PowerScales'. -/
def powerScalesUptoCard : Claim7 := { stood := { row := powerScalesUptoRow, standIns := [], harness := (true, "71064f4846b592403d5011f6c5f8fccede61e7e0810d0d44f827e491489fe106"), looks := false }, kinds := [], alts := [], laidByText := true, laidKinds := [.data, .data, .data], laidTests := true, laidLooks := .later }
def PowerScalesUptoCardSaid : Prop := Claim7.holds Tryd.pinned (.plain (OpenSpec.upto powerScalesSpec)) powerScalesUptoCard

/-- THE SECOND FORM's CARD OF 'hopmeshlaw04.PowerCapture'. -/
def powerCaptureUptoCard : Claim7 := { stood := { row := powerCaptureUptoRow, standIns := [], harness := (true, "71064f4846b592403d5011f6c5f8fccede61e7e0810d0d44f827e491489fe106"), looks := false }, kinds := [], alts := [], laidByText := true, laidKinds := [.data, .data, .data], laidTests := true, laidLooks := .later }
def PowerCaptureUptoCardSaid : Prop := Claim7.holds Tryd.pinned (.plain (OpenSpec.upto powerCaptureSpec)) powerCaptureUptoCard

/-- THE SECOND FORM's CARD OF 'hopmeshlaw04.PowerReceives'. -/
def powerReceivesUptoCard : Claim7 := { stood := { row := powerReceivesUptoRow, standIns := [], harness := (true, "71064f4846b592403d5011f6c5f8fccede61e7e0810d0d44f827e491489fe106"), looks := false }, kinds := [], alts := [], laidByText := true, laidKinds := [.data, .data, .data], laidTests := true, laidLooks := .later }
def PowerReceivesUptoCardSaid : Prop := Claim7.holds Tryd.pinned (.plain (OpenSpec.upto powerReceivesSpec)) powerReceivesUptoCard

/-- THE SECOND FORM's CARD OF 'hopmeshlaw04.PowerMargins'. -/
def powerMarginsUptoCard : Claim7 := { stood := { row := powerMarginsUptoRow, standIns := [], harness := (true, "71064f4846b592403d5011f6c5f8fccede61e7e0810d0d44f827e491489fe106"), looks := false }, kinds := [], alts := [], laidByText := true, laidKinds := [.data, .data, .data], laidTests := true, laidLooks := .later }
def PowerMarginsUptoCardSaid : Prop := Claim7.holds Tryd.pinned (.plain (OpenSpec.upto powerMarginsSpec)) powerMarginsUptoCard

/-- THE SECOND FORM's CARD OF 'hopmeshlaw04.PowerMonotone'. -/
def powerMonotoneUptoCard : Claim7 := { stood := { row := powerMonotoneUptoRow, standIns := [], harness := (true, "71064f4846b592403d5011f6c5f8fccede61e7e0810d0d44f827e491489fe106"), looks := false }, kinds := [], alts := [], laidByText := true, laidKinds := [.data, .data, .data], laidTests := true, laidLooks := .later }
def PowerMonotoneUptoCardSaid : Prop := Claim7.holds Tryd.pinned (.plain (OpenSpec.upto powerMonotoneSpec)) powerMonotoneUptoCard
end Rows
end Go.Proofs.YtddekdlbkedaiaaDoor
