/-
  DERIVED. GIVEN WITH THE SEED: THE CARDS: each row of YtfjgfcnhklopdaaDoorRows.lean that lists a variable, with what it lists TIED to the program's text (the seventh form; the later family's looks); each row that meets fmt, with fmt's text TOLD by the authors' own Lean function (tested against real Go, not proved from fmt's source: count such statements apart). THE CARD IS WHAT COUNTS. Prove the row's statement (the work); the ties are given (YtfjgfcnhklopdaaDoorTie.lean); close each card by the builder's one call (the guide's Derived/Test/ToyasCard.lean, 'card_holds'). Laid BY PROGRAM, IN A SANDBOX (cutbox-door.mjs). By AI agents, Wed Nov 11 2026. No macro, syntax, notation, axiom, sorry.
-/
import Derived.Test.YtfjgfcnhklopdaaDoorRows
import GoSem.ClaimSeven
namespace Go.Proofs.YtfjgfcnhklopdaaDoor
namespace Rows

/-- THE TIED CARD OF 'lodestonelaw08.StepAll'. -/
def stepAllCard : Claim7 := { stood := { row := stepAllRow, standIns := [], harness := (true, "e18676d170b9adcefff775b50372da2f13383929661388a1d85a7340d4a4b8b9"), looks := true }, kinds := [], alts := [], laidByText := true, laidKinds := [.data, .pinned], laidTests := true, laidLooks := .later }
def StepAllCardSaid : Prop := Claim7.holds Tryd.pinned (.plain (OpenSpec.ofChange stepAllSpec)) stepAllCard

/-- THE TIED CARD OF 'lodestonelaw08.StepDoes'. -/
def stepDoesCard : Claim7 := { stood := { row := stepDoesRow, standIns := [], harness := (true, "e18676d170b9adcefff775b50372da2f13383929661388a1d85a7340d4a4b8b9"), looks := true }, kinds := [], alts := [], laidByText := true, laidKinds := [.data, .pinned], laidTests := true, laidLooks := .later }
def StepDoesCardSaid : Prop := Claim7.holds Tryd.pinned (.plain (OpenSpec.ofChange stepDoesSpec)) stepDoesCard

/-- THE TIED CARD OF 'lodestonelaw09.WalkParts'. -/
def walkPartsCard : Claim7 := { stood := { row := walkPartsRow, standIns := [], harness := (true, "e18676d170b9adcefff775b50372da2f13383929661388a1d85a7340d4a4b8b9"), looks := true }, kinds := [], alts := [], laidByText := true, laidKinds := [.data, .pinned], laidTests := true, laidLooks := .later }
def WalkPartsCardSaid : Prop := Claim7.holds Tryd.pinned (.plain (OpenSpec.ofChange walkPartsSpec)) walkPartsCard

/-- THE TIED CARD OF 'lodestonelaw09.WalkNamed'. -/
def walkNamedCard : Claim7 := { stood := { row := walkNamedRow, standIns := [], harness := (true, "e18676d170b9adcefff775b50372da2f13383929661388a1d85a7340d4a4b8b9"), looks := true }, kinds := [], alts := [], laidByText := true, laidKinds := [.data, .pinned], laidTests := true, laidLooks := .later }
def WalkNamedCardSaid : Prop := Claim7.holds Tryd.pinned (.plain (OpenSpec.ofChange walkNamedSpec)) walkNamedCard

/-- THE TIED CARD OF 'lodestonelaw08.StepBinds'. -/
def stepBindsCard : Claim7 := { stood := { row := stepBindsRow, standIns := [], harness := (true, "e18676d170b9adcefff775b50372da2f13383929661388a1d85a7340d4a4b8b9"), looks := true }, kinds := [], alts := [], laidByText := true, laidKinds := [.data, .pinned], laidTests := true, laidLooks := .later }
def StepBindsCardSaid : Prop := Claim7.holds Tryd.pinned (.plain (OpenSpec.ofChange stepBindsSpec)) stepBindsCard

/-- THE TIED CARD OF 'lodestonelaw08.StepParts'. -/
def stepPartsCard : Claim7 := { stood := { row := stepPartsRow, standIns := [], harness := (true, "e18676d170b9adcefff775b50372da2f13383929661388a1d85a7340d4a4b8b9"), looks := true }, kinds := [], alts := [], laidByText := true, laidKinds := [.data, .pinned], laidTests := true, laidLooks := .later }
def StepPartsCardSaid : Prop := Claim7.holds Tryd.pinned (.plain (OpenSpec.ofChange stepPartsSpec)) stepPartsCard

/-- THE TIED CARD OF 'lodestonelaw19.ProofChecks'. -/
def proofChecksCard : Claim7 := { stood := { row := proofChecksRow, standIns := [], harness := (true, "e18676d170b9adcefff775b50372da2f13383929661388a1d85a7340d4a4b8b9"), looks := true }, kinds := [], alts := [], laidByText := true, laidKinds := [.data, .pinned], laidTests := true, laidLooks := .later }
def ProofChecksCardSaid : Prop := Claim7.holds Tryd.pinned (.plain (OpenSpec.ofChange proofChecksSpec)) proofChecksCard

/-- THE TIED CARD OF 'lodestonelaw19.ProofTurns'. -/
def proofTurnsCard : Claim7 := { stood := { row := proofTurnsRow, standIns := [], harness := (true, "e18676d170b9adcefff775b50372da2f13383929661388a1d85a7340d4a4b8b9"), looks := true }, kinds := [], alts := [], laidByText := true, laidKinds := [.data, .pinned], laidTests := true, laidLooks := .later }
def ProofTurnsCardSaid : Prop := Claim7.holds Tryd.pinned (.plain (OpenSpec.ofChange proofTurnsSpec)) proofTurnsCard

/-- THE TIED CARD OF 'lodestonelaw19.ProofBegins'. -/
def proofBeginsCard : Claim7 := { stood := { row := proofBeginsRow, standIns := [], harness := (true, "e18676d170b9adcefff775b50372da2f13383929661388a1d85a7340d4a4b8b9"), looks := true }, kinds := [], alts := [], laidByText := true, laidKinds := [.data, .pinned], laidTests := true, laidLooks := .later }
def ProofBeginsCardSaid : Prop := Claim7.holds Tryd.pinned (.plain (OpenSpec.ofChange proofBeginsSpec)) proofBeginsCard

/-- THE TIED CARD OF 'lodestonelaw19.ProofInside'. -/
def proofInsideCard : Claim7 := { stood := { row := proofInsideRow, standIns := [], harness := (true, "e18676d170b9adcefff775b50372da2f13383929661388a1d85a7340d4a4b8b9"), looks := true }, kinds := [], alts := [], laidByText := true, laidKinds := [.data, .pinned], laidTests := true, laidLooks := .later }
def ProofInsideCardSaid : Prop := Claim7.holds Tryd.pinned (.plain (OpenSpec.ofChange proofInsideSpec)) proofInsideCard

/-- THE SECOND FORM's CARD OF 'lodestonelaw08.StepAll'. -/
def stepAllUptoCard : Claim7 := { stood := { row := stepAllUptoRow, standIns := [], harness := (true, "e18676d170b9adcefff775b50372da2f13383929661388a1d85a7340d4a4b8b9"), looks := true }, kinds := [], alts := [], laidByText := true, laidKinds := [.data, .pinned], laidTests := true, laidLooks := .later }
def StepAllUptoCardSaid : Prop := Claim7.holds Tryd.pinned (.plain (OpenSpec.upto stepAllSpec)) stepAllUptoCard

/-- THE SECOND FORM's CARD OF 'lodestonelaw08.StepDoes'. -/
def stepDoesUptoCard : Claim7 := { stood := { row := stepDoesUptoRow, standIns := [], harness := (true, "e18676d170b9adcefff775b50372da2f13383929661388a1d85a7340d4a4b8b9"), looks := true }, kinds := [], alts := [], laidByText := true, laidKinds := [.data, .pinned], laidTests := true, laidLooks := .later }
def StepDoesUptoCardSaid : Prop := Claim7.holds Tryd.pinned (.plain (OpenSpec.upto stepDoesSpec)) stepDoesUptoCard

/-- THE SECOND FORM's CARD OF 'lodestonelaw09.WalkParts'. -/
def walkPartsUptoCard : Claim7 := { stood := { row := walkPartsUptoRow, standIns := [], harness := (true, "e18676d170b9adcefff775b50372da2f13383929661388a1d85a7340d4a4b8b9"), looks := true }, kinds := [], alts := [], laidByText := true, laidKinds := [.data, .pinned], laidTests := true, laidLooks := .later }
def WalkPartsUptoCardSaid : Prop := Claim7.holds Tryd.pinned (.plain (OpenSpec.upto walkPartsSpec)) walkPartsUptoCard

/-- THE SECOND FORM's CARD OF 'lodestonelaw09.WalkNamed'. -/
def walkNamedUptoCard : Claim7 := { stood := { row := walkNamedUptoRow, standIns := [], harness := (true, "e18676d170b9adcefff775b50372da2f13383929661388a1d85a7340d4a4b8b9"), looks := true }, kinds := [], alts := [], laidByText := true, laidKinds := [.data, .pinned], laidTests := true, laidLooks := .later }
def WalkNamedUptoCardSaid : Prop := Claim7.holds Tryd.pinned (.plain (OpenSpec.upto walkNamedSpec)) walkNamedUptoCard

/-- THE SECOND FORM's CARD OF 'lodestonelaw08.StepBinds'. -/
def stepBindsUptoCard : Claim7 := { stood := { row := stepBindsUptoRow, standIns := [], harness := (true, "e18676d170b9adcefff775b50372da2f13383929661388a1d85a7340d4a4b8b9"), looks := true }, kinds := [], alts := [], laidByText := true, laidKinds := [.data, .pinned], laidTests := true, laidLooks := .later }
def StepBindsUptoCardSaid : Prop := Claim7.holds Tryd.pinned (.plain (OpenSpec.upto stepBindsSpec)) stepBindsUptoCard

/-- THE SECOND FORM's CARD OF 'lodestonelaw08.StepParts'. -/
def stepPartsUptoCard : Claim7 := { stood := { row := stepPartsUptoRow, standIns := [], harness := (true, "e18676d170b9adcefff775b50372da2f13383929661388a1d85a7340d4a4b8b9"), looks := true }, kinds := [], alts := [], laidByText := true, laidKinds := [.data, .pinned], laidTests := true, laidLooks := .later }
def StepPartsUptoCardSaid : Prop := Claim7.holds Tryd.pinned (.plain (OpenSpec.upto stepPartsSpec)) stepPartsUptoCard

/-- THE SECOND FORM's CARD OF 'lodestonelaw19.ProofChecks'. -/
def proofChecksUptoCard : Claim7 := { stood := { row := proofChecksUptoRow, standIns := [], harness := (true, "e18676d170b9adcefff775b50372da2f13383929661388a1d85a7340d4a4b8b9"), looks := true }, kinds := [], alts := [], laidByText := true, laidKinds := [.data, .pinned], laidTests := true, laidLooks := .later }
def ProofChecksUptoCardSaid : Prop := Claim7.holds Tryd.pinned (.plain (OpenSpec.upto proofChecksSpec)) proofChecksUptoCard

/-- THE SECOND FORM's CARD OF 'lodestonelaw19.ProofTurns'. -/
def proofTurnsUptoCard : Claim7 := { stood := { row := proofTurnsUptoRow, standIns := [], harness := (true, "e18676d170b9adcefff775b50372da2f13383929661388a1d85a7340d4a4b8b9"), looks := true }, kinds := [], alts := [], laidByText := true, laidKinds := [.data, .pinned], laidTests := true, laidLooks := .later }
def ProofTurnsUptoCardSaid : Prop := Claim7.holds Tryd.pinned (.plain (OpenSpec.upto proofTurnsSpec)) proofTurnsUptoCard

/-- THE SECOND FORM's CARD OF 'lodestonelaw19.ProofBegins'. -/
def proofBeginsUptoCard : Claim7 := { stood := { row := proofBeginsUptoRow, standIns := [], harness := (true, "e18676d170b9adcefff775b50372da2f13383929661388a1d85a7340d4a4b8b9"), looks := true }, kinds := [], alts := [], laidByText := true, laidKinds := [.data, .pinned], laidTests := true, laidLooks := .later }
def ProofBeginsUptoCardSaid : Prop := Claim7.holds Tryd.pinned (.plain (OpenSpec.upto proofBeginsSpec)) proofBeginsUptoCard

/-- THE SECOND FORM's CARD OF 'lodestonelaw19.ProofInside'. -/
def proofInsideUptoCard : Claim7 := { stood := { row := proofInsideUptoRow, standIns := [], harness := (true, "e18676d170b9adcefff775b50372da2f13383929661388a1d85a7340d4a4b8b9"), looks := true }, kinds := [], alts := [], laidByText := true, laidKinds := [.data, .pinned], laidTests := true, laidLooks := .later }
def ProofInsideUptoCardSaid : Prop := Claim7.holds Tryd.pinned (.plain (OpenSpec.upto proofInsideSpec)) proofInsideUptoCard
end Rows
end Go.Proofs.YtfjgfcnhklopdaaDoor
