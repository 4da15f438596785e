/-
  DERIVED. GIVEN WITH THE SEED: THE CARDS: each row of YtigabemldjdlhaaDoorRows.lean that lists a variable, with what it lists TIED to the program's text (the seventh form; the later family's looks); each row that meets fmt, with fmt's text TOLD by the authors' own Lean function (tested against real Go, not proved from fmt's source: count such statements apart). THE CARD IS WHAT COUNTS. Prove the row's statement (the work); the ties are given (YtigabemldjdlhaaDoorTie.lean); close each card by the builder's one call (the guide's Derived/Test/ToyasCard.lean, 'card_holds'). Laid BY PROGRAM, IN A SANDBOX (cutbox-door.mjs). By AI agents, Wed Nov 11 2026. No macro, syntax, notation, axiom, sorry.
-/
import Derived.Test.YtigabemldjdlhaaDoorRows
import GoSem.ClaimSeven
namespace Go.Proofs.YtigabemldjdlhaaDoor
namespace Rows

/-- THE TIED CARD OF 'lodestonelaw05.MatchFinds'. -/
def matchFindsCard : Claim7 := { stood := { row := matchFindsRow, standIns := [], harness := (true, "8a40f003f4f4b215f83ff383c316ef37297f8a42b8ce46e932865a1ca5591126"), looks := true }, kinds := [], alts := [], laidByText := true, laidKinds := [.data, .pinned], laidTests := true, laidLooks := .later }
def MatchFindsCardSaid : Prop := Claim7.holds Tryd.pinned (.plain (OpenSpec.ofChange matchFindsSpec)) matchFindsCard

/-- THE TIED CARD OF 'lodestonelaw05.MatchVariants'. -/
def matchVariantsCard : Claim7 := { stood := { row := matchVariantsRow, standIns := [], harness := (true, "8a40f003f4f4b215f83ff383c316ef37297f8a42b8ce46e932865a1ca5591126"), looks := true }, kinds := [], alts := [], laidByText := true, laidKinds := [.data, .pinned], laidTests := true, laidLooks := .later }
def MatchVariantsCardSaid : Prop := Claim7.holds Tryd.pinned (.plain (OpenSpec.ofChange matchVariantsSpec)) matchVariantsCard

/-- THE TIED CARD OF 'lodestonelaw05.MatchKinds'. -/
def matchKindsCard : Claim7 := { stood := { row := matchKindsRow, standIns := [], harness := (true, "8a40f003f4f4b215f83ff383c316ef37297f8a42b8ce46e932865a1ca5591126"), looks := true }, kinds := [], alts := [], laidByText := true, laidKinds := [.data, .pinned], laidTests := true, laidLooks := .later }
def MatchKindsCardSaid : Prop := Claim7.holds Tryd.pinned (.plain (OpenSpec.ofChange matchKindsSpec)) matchKindsCard

/-- THE TIED CARD OF 'lodestonelaw05.MatchInside'. -/
def matchInsideCard : Claim7 := { stood := { row := matchInsideRow, standIns := [], harness := (true, "8a40f003f4f4b215f83ff383c316ef37297f8a42b8ce46e932865a1ca5591126"), looks := true }, kinds := [], alts := [], laidByText := true, laidKinds := [.data, .pinned], laidTests := true, laidLooks := .later }
def MatchInsideCardSaid : Prop := Claim7.holds Tryd.pinned (.plain (OpenSpec.ofChange matchInsideSpec)) matchInsideCard

/-- THE TIED CARD OF 'lodestonelaw06.UnifyFinds'. -/
def unifyFindsCard : Claim7 := { stood := { row := unifyFindsRow, standIns := [], harness := (true, "8a40f003f4f4b215f83ff383c316ef37297f8a42b8ce46e932865a1ca5591126"), looks := true }, kinds := [], alts := [], laidByText := true, laidKinds := [.data, .pinned], laidTests := true, laidLooks := .later }
def UnifyFindsCardSaid : Prop := Claim7.holds Tryd.pinned (.plain (OpenSpec.ofChange unifyFindsSpec)) unifyFindsCard

/-- THE TIED CARD OF 'lodestonelaw06.UnifyCan'. -/
def unifyCanCard : Claim7 := { stood := { row := unifyCanRow, standIns := [], harness := (true, "8a40f003f4f4b215f83ff383c316ef37297f8a42b8ce46e932865a1ca5591126"), looks := true }, kinds := [], alts := [], laidByText := true, laidKinds := [.data, .pinned], laidTests := true, laidLooks := .later }
def UnifyCanCardSaid : Prop := Claim7.holds Tryd.pinned (.plain (OpenSpec.ofChange unifyCanSpec)) unifyCanCard

/-- THE TIED CARD OF 'lodestonelaw06.UnifyTurned'. -/
def unifyTurnedCard : Claim7 := { stood := { row := unifyTurnedRow, standIns := [], harness := (true, "8a40f003f4f4b215f83ff383c316ef37297f8a42b8ce46e932865a1ca5591126"), looks := true }, kinds := [], alts := [], laidByText := true, laidKinds := [.data, .pinned], laidTests := true, laidLooks := .later }
def UnifyTurnedCardSaid : Prop := Claim7.holds Tryd.pinned (.plain (OpenSpec.ofChange unifyTurnedSpec)) unifyTurnedCard

/-- THE TIED CARD OF 'lodestonelaw05.MatchBack'. -/
def matchBackCard : Claim7 := { stood := { row := matchBackRow, standIns := [], harness := (true, "8a40f003f4f4b215f83ff383c316ef37297f8a42b8ce46e932865a1ca5591126"), looks := true }, kinds := [], alts := [], laidByText := true, laidKinds := [.data, .pinned], laidTests := true, laidLooks := .later }
def MatchBackCardSaid : Prop := Claim7.holds Tryd.pinned (.plain (OpenSpec.ofChange matchBackSpec)) matchBackCard

/-- THE TIED CARD OF 'lodestonelaw06.UnifyGeneral'. -/
def unifyGeneralCard : Claim7 := { stood := { row := unifyGeneralRow, standIns := [], harness := (true, "8a40f003f4f4b215f83ff383c316ef37297f8a42b8ce46e932865a1ca5591126"), looks := true }, kinds := [], alts := [], laidByText := true, laidKinds := [.data, .pinned], laidTests := true, laidLooks := .later }
def UnifyGeneralCardSaid : Prop := Claim7.holds Tryd.pinned (.plain (OpenSpec.ofChange unifyGeneralSpec)) unifyGeneralCard

/-- THE TIED CARD OF 'lodestonelaw06.UnifyOne'. -/
def unifyOneCard : Claim7 := { stood := { row := unifyOneRow, standIns := [], harness := (true, "8a40f003f4f4b215f83ff383c316ef37297f8a42b8ce46e932865a1ca5591126"), looks := true }, kinds := [], alts := [], laidByText := true, laidKinds := [.data, .pinned], laidTests := true, laidLooks := .later }
def UnifyOneCardSaid : Prop := Claim7.holds Tryd.pinned (.plain (OpenSpec.ofChange unifyOneSpec)) unifyOneCard

/-- THE TIED CARD OF 'lodestonelaw06.UnifyInside'. -/
def unifyInsideCard : Claim7 := { stood := { row := unifyInsideRow, standIns := [], harness := (true, "8a40f003f4f4b215f83ff383c316ef37297f8a42b8ce46e932865a1ca5591126"), looks := true }, kinds := [], alts := [], laidByText := true, laidKinds := [.data, .pinned], laidTests := true, laidLooks := .later }
def UnifyInsideCardSaid : Prop := Claim7.holds Tryd.pinned (.plain (OpenSpec.ofChange unifyInsideSpec)) unifyInsideCard

/-- THE SECOND FORM's CARD OF 'lodestonelaw05.MatchFinds'. -/
def matchFindsUptoCard : Claim7 := { stood := { row := matchFindsUptoRow, standIns := [], harness := (true, "8a40f003f4f4b215f83ff383c316ef37297f8a42b8ce46e932865a1ca5591126"), looks := true }, kinds := [], alts := [], laidByText := true, laidKinds := [.data, .pinned], laidTests := true, laidLooks := .later }
def MatchFindsUptoCardSaid : Prop := Claim7.holds Tryd.pinned (.plain (OpenSpec.upto matchFindsSpec)) matchFindsUptoCard

/-- THE SECOND FORM's CARD OF 'lodestonelaw05.MatchVariants'. -/
def matchVariantsUptoCard : Claim7 := { stood := { row := matchVariantsUptoRow, standIns := [], harness := (true, "8a40f003f4f4b215f83ff383c316ef37297f8a42b8ce46e932865a1ca5591126"), looks := true }, kinds := [], alts := [], laidByText := true, laidKinds := [.data, .pinned], laidTests := true, laidLooks := .later }
def MatchVariantsUptoCardSaid : Prop := Claim7.holds Tryd.pinned (.plain (OpenSpec.upto matchVariantsSpec)) matchVariantsUptoCard

/-- THE SECOND FORM's CARD OF 'lodestonelaw05.MatchKinds'. -/
def matchKindsUptoCard : Claim7 := { stood := { row := matchKindsUptoRow, standIns := [], harness := (true, "8a40f003f4f4b215f83ff383c316ef37297f8a42b8ce46e932865a1ca5591126"), looks := true }, kinds := [], alts := [], laidByText := true, laidKinds := [.data, .pinned], laidTests := true, laidLooks := .later }
def MatchKindsUptoCardSaid : Prop := Claim7.holds Tryd.pinned (.plain (OpenSpec.upto matchKindsSpec)) matchKindsUptoCard

/-- THE SECOND FORM's CARD OF 'lodestonelaw05.MatchInside'. -/
def matchInsideUptoCard : Claim7 := { stood := { row := matchInsideUptoRow, standIns := [], harness := (true, "8a40f003f4f4b215f83ff383c316ef37297f8a42b8ce46e932865a1ca5591126"), looks := true }, kinds := [], alts := [], laidByText := true, laidKinds := [.data, .pinned], laidTests := true, laidLooks := .later }
def MatchInsideUptoCardSaid : Prop := Claim7.holds Tryd.pinned (.plain (OpenSpec.upto matchInsideSpec)) matchInsideUptoCard

/-- THE SECOND FORM's CARD OF 'lodestonelaw06.UnifyFinds'. -/
def unifyFindsUptoCard : Claim7 := { stood := { row := unifyFindsUptoRow, standIns := [], harness := (true, "8a40f003f4f4b215f83ff383c316ef37297f8a42b8ce46e932865a1ca5591126"), looks := true }, kinds := [], alts := [], laidByText := true, laidKinds := [.data, .pinned], laidTests := true, laidLooks := .later }
def UnifyFindsUptoCardSaid : Prop := Claim7.holds Tryd.pinned (.plain (OpenSpec.upto unifyFindsSpec)) unifyFindsUptoCard

/-- THE SECOND FORM's CARD OF 'lodestonelaw06.UnifyCan'. -/
def unifyCanUptoCard : Claim7 := { stood := { row := unifyCanUptoRow, standIns := [], harness := (true, "8a40f003f4f4b215f83ff383c316ef37297f8a42b8ce46e932865a1ca5591126"), looks := true }, kinds := [], alts := [], laidByText := true, laidKinds := [.data, .pinned], laidTests := true, laidLooks := .later }
def UnifyCanUptoCardSaid : Prop := Claim7.holds Tryd.pinned (.plain (OpenSpec.upto unifyCanSpec)) unifyCanUptoCard

/-- THE SECOND FORM's CARD OF 'lodestonelaw06.UnifyTurned'. -/
def unifyTurnedUptoCard : Claim7 := { stood := { row := unifyTurnedUptoRow, standIns := [], harness := (true, "8a40f003f4f4b215f83ff383c316ef37297f8a42b8ce46e932865a1ca5591126"), looks := true }, kinds := [], alts := [], laidByText := true, laidKinds := [.data, .pinned], laidTests := true, laidLooks := .later }
def UnifyTurnedUptoCardSaid : Prop := Claim7.holds Tryd.pinned (.plain (OpenSpec.upto unifyTurnedSpec)) unifyTurnedUptoCard

/-- THE SECOND FORM's CARD OF 'lodestonelaw05.MatchBack'. -/
def matchBackUptoCard : Claim7 := { stood := { row := matchBackUptoRow, standIns := [], harness := (true, "8a40f003f4f4b215f83ff383c316ef37297f8a42b8ce46e932865a1ca5591126"), looks := true }, kinds := [], alts := [], laidByText := true, laidKinds := [.data, .pinned], laidTests := true, laidLooks := .later }
def MatchBackUptoCardSaid : Prop := Claim7.holds Tryd.pinned (.plain (OpenSpec.upto matchBackSpec)) matchBackUptoCard

/-- THE SECOND FORM's CARD OF 'lodestonelaw06.UnifyGeneral'. -/
def unifyGeneralUptoCard : Claim7 := { stood := { row := unifyGeneralUptoRow, standIns := [], harness := (true, "8a40f003f4f4b215f83ff383c316ef37297f8a42b8ce46e932865a1ca5591126"), looks := true }, kinds := [], alts := [], laidByText := true, laidKinds := [.data, .pinned], laidTests := true, laidLooks := .later }
def UnifyGeneralUptoCardSaid : Prop := Claim7.holds Tryd.pinned (.plain (OpenSpec.upto unifyGeneralSpec)) unifyGeneralUptoCard

/-- THE SECOND FORM's CARD OF 'lodestonelaw06.UnifyOne'. -/
def unifyOneUptoCard : Claim7 := { stood := { row := unifyOneUptoRow, standIns := [], harness := (true, "8a40f003f4f4b215f83ff383c316ef37297f8a42b8ce46e932865a1ca5591126"), looks := true }, kinds := [], alts := [], laidByText := true, laidKinds := [.data, .pinned], laidTests := true, laidLooks := .later }
def UnifyOneUptoCardSaid : Prop := Claim7.holds Tryd.pinned (.plain (OpenSpec.upto unifyOneSpec)) unifyOneUptoCard

/-- THE SECOND FORM's CARD OF 'lodestonelaw06.UnifyInside'. -/
def unifyInsideUptoCard : Claim7 := { stood := { row := unifyInsideUptoRow, standIns := [], harness := (true, "8a40f003f4f4b215f83ff383c316ef37297f8a42b8ce46e932865a1ca5591126"), looks := true }, kinds := [], alts := [], laidByText := true, laidKinds := [.data, .pinned], laidTests := true, laidLooks := .later }
def UnifyInsideUptoCardSaid : Prop := Claim7.holds Tryd.pinned (.plain (OpenSpec.upto unifyInsideSpec)) unifyInsideUptoCard
end Rows
end Go.Proofs.YtigabemldjdlhaaDoor
