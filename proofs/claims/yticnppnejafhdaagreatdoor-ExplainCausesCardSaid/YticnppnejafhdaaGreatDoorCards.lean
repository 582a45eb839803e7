/-
  DERIVED. GIVEN WITH THE SEED: THE CARDS: each row of YticnppnejafhdaaGreatDoorRows.lean that lists a variable, with what it lists TIED to the program's text (the seventh form; the later family's looks); each row that meets fmt, with fmt's text TOLD by the authors' own Lean function (tested against real Go, not proved from fmt's source: count such statements apart). THE CARD IS WHAT COUNTS. Prove the row's statement (the work); the ties are given (YticnppnejafhdaaGreatDoorTie.lean); close each card by the builder's one call (the guide's Derived/Test/ToyasCard.lean, 'card_holds'). Laid BY PROGRAM, IN A SANDBOX (cutbox-door.mjs). By AI agents, Wed Nov 11 2026. No macro, syntax, notation, axiom, sorry.
-/
import Derived.Test.YticnppnejafhdaaGreatDoorRows
import GoSem.ClaimSeven
namespace Go.Proofs.YticnppnejafhdaaGreatDoor
namespace Rows

/-- THE TIED CARD OF 'hopmeshlaw57.ExplainFinds'. -/
def explainFindsCard : Claim7 := { stood := { row := explainFindsRow, standIns := [], harness := (true, "599e388660ae8ce48bcdf6cb063f64d3616352422451a44bfe27676192b2e98c"), looks := true }, kinds := [], alts := [], laidByText := true, laidKinds := [.data, .data, .data], laidTests := true, laidLooks := .later }
def ExplainFindsCardSaid : Prop := Claim7.holds Tryz.pinned (.plain (OpenSpec.ofChange explainFindsSpec)) explainFindsCard

/-- THE TIED CARD OF 'hopmeshlaw57.ExplainChecks'. -/
def explainChecksCard : Claim7 := { stood := { row := explainChecksRow, standIns := [], harness := (true, "599e388660ae8ce48bcdf6cb063f64d3616352422451a44bfe27676192b2e98c"), looks := true }, kinds := [], alts := [], laidByText := true, laidKinds := [.data, .data, .data], laidTests := true, laidLooks := .later }
def ExplainChecksCardSaid : Prop := Claim7.holds Tryz.pinned (.plain (OpenSpec.ofChange explainChecksSpec)) explainChecksCard

/-- THE TIED CARD OF 'hopmeshlaw57.ExplainNamed'. -/
def explainNamedCard : Claim7 := { stood := { row := explainNamedRow, standIns := [], harness := (true, "599e388660ae8ce48bcdf6cb063f64d3616352422451a44bfe27676192b2e98c"), looks := true }, kinds := [], alts := [], laidByText := true, laidKinds := [.data, .data, .data], laidTests := true, laidLooks := .later }
def ExplainNamedCardSaid : Prop := Claim7.holds Tryz.pinned (.plain (OpenSpec.ofChange explainNamedSpec)) explainNamedCard

/-- THE TIED CARD OF 'hopmeshlaw57.ExplainNothing'. -/
def explainNothingCard : Claim7 := { stood := { row := explainNothingRow, standIns := [], harness := (true, "599e388660ae8ce48bcdf6cb063f64d3616352422451a44bfe27676192b2e98c"), looks := true }, kinds := [], alts := [], laidByText := true, laidKinds := [.data, .data, .data], laidTests := true, laidLooks := .later }
def ExplainNothingCardSaid : Prop := Claim7.holds Tryz.pinned (.plain (OpenSpec.ofChange explainNothingSpec)) explainNothingCard

/-- THE TIED CARD OF 'hopmeshlaw57.ExplainRight'. -/
def explainRightCard : Claim7 := { stood := { row := explainRightRow, standIns := [], harness := (true, "599e388660ae8ce48bcdf6cb063f64d3616352422451a44bfe27676192b2e98c"), looks := true }, kinds := [], alts := [], laidByText := true, laidKinds := [.data, .data, .data], laidTests := true, laidLooks := .later }
def ExplainRightCardSaid : Prop := Claim7.holds Tryz.pinned (.plain (OpenSpec.ofChange explainRightSpec)) explainRightCard

/-- THE TIED CARD OF 'hopmeshlaw57.ExplainCauses'. -/
def explainCausesCard : Claim7 := { stood := { row := explainCausesRow, standIns := [], harness := (true, "599e388660ae8ce48bcdf6cb063f64d3616352422451a44bfe27676192b2e98c"), looks := true }, kinds := [], alts := [], laidByText := true, laidKinds := [.data, .data, .data], laidTests := true, laidLooks := .later }
def ExplainCausesCardSaid : Prop := Claim7.holds Tryz.pinned (.plain (OpenSpec.ofChange explainCausesSpec)) explainCausesCard

/-- THE SECOND FORM's CARD OF 'hopmeshlaw57.ExplainFinds'. -/
def explainFindsUptoCard : Claim7 := { stood := { row := explainFindsUptoRow, standIns := [], harness := (true, "599e388660ae8ce48bcdf6cb063f64d3616352422451a44bfe27676192b2e98c"), looks := true }, kinds := [], alts := [], laidByText := true, laidKinds := [.data, .data, .data], laidTests := true, laidLooks := .later }
def ExplainFindsUptoCardSaid : Prop := Claim7.holds Tryz.pinned (.plain (OpenSpec.upto explainFindsSpec)) explainFindsUptoCard

/-- THE SECOND FORM's CARD OF 'hopmeshlaw57.ExplainChecks'. -/
def explainChecksUptoCard : Claim7 := { stood := { row := explainChecksUptoRow, standIns := [], harness := (true, "599e388660ae8ce48bcdf6cb063f64d3616352422451a44bfe27676192b2e98c"), looks := true }, kinds := [], alts := [], laidByText := true, laidKinds := [.data, .data, .data], laidTests := true, laidLooks := .later }
def ExplainChecksUptoCardSaid : Prop := Claim7.holds Tryz.pinned (.plain (OpenSpec.upto explainChecksSpec)) explainChecksUptoCard

/-- THE SECOND FORM's CARD OF 'hopmeshlaw57.ExplainNamed'. -/
def explainNamedUptoCard : Claim7 := { stood := { row := explainNamedUptoRow, standIns := [], harness := (true, "599e388660ae8ce48bcdf6cb063f64d3616352422451a44bfe27676192b2e98c"), looks := true }, kinds := [], alts := [], laidByText := true, laidKinds := [.data, .data, .data], laidTests := true, laidLooks := .later }
def ExplainNamedUptoCardSaid : Prop := Claim7.holds Tryz.pinned (.plain (OpenSpec.upto explainNamedSpec)) explainNamedUptoCard

/-- THE SECOND FORM's CARD OF 'hopmeshlaw57.ExplainNothing'. -/
def explainNothingUptoCard : Claim7 := { stood := { row := explainNothingUptoRow, standIns := [], harness := (true, "599e388660ae8ce48bcdf6cb063f64d3616352422451a44bfe27676192b2e98c"), looks := true }, kinds := [], alts := [], laidByText := true, laidKinds := [.data, .data, .data], laidTests := true, laidLooks := .later }
def ExplainNothingUptoCardSaid : Prop := Claim7.holds Tryz.pinned (.plain (OpenSpec.upto explainNothingSpec)) explainNothingUptoCard

/-- THE SECOND FORM's CARD OF 'hopmeshlaw57.ExplainRight'. -/
def explainRightUptoCard : Claim7 := { stood := { row := explainRightUptoRow, standIns := [], harness := (true, "599e388660ae8ce48bcdf6cb063f64d3616352422451a44bfe27676192b2e98c"), looks := true }, kinds := [], alts := [], laidByText := true, laidKinds := [.data, .data, .data], laidTests := true, laidLooks := .later }
def ExplainRightUptoCardSaid : Prop := Claim7.holds Tryz.pinned (.plain (OpenSpec.upto explainRightSpec)) explainRightUptoCard

/-- THE SECOND FORM's CARD OF 'hopmeshlaw57.ExplainCauses'. -/
def explainCausesUptoCard : Claim7 := { stood := { row := explainCausesUptoRow, standIns := [], harness := (true, "599e388660ae8ce48bcdf6cb063f64d3616352422451a44bfe27676192b2e98c"), looks := true }, kinds := [], alts := [], laidByText := true, laidKinds := [.data, .data, .data], laidTests := true, laidLooks := .later }
def ExplainCausesUptoCardSaid : Prop := Claim7.holds Tryz.pinned (.plain (OpenSpec.upto explainCausesSpec)) explainCausesUptoCard
end Rows
end Go.Proofs.YticnppnejafhdaaGreatDoor
