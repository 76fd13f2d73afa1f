/-
  DERIVED. GIVEN WITH THE SEED: THE CARDS: each row of YtjekioabkmijbaaGreatDoorRows.lean that lists a variable, with what it lists TIED to the program's text (the seventh form; the later family's looks); each row that meets fmt, with fmt's text TOLD by the authors' own Lean function (tested against real Go, not proved from fmt's source: count such statements apart). THE CARD IS WHAT COUNTS. Prove the row's statement (the work); the ties are given (YtjekioabkmijbaaGreatDoorTie.lean); close each card by the builder's one call (the guide's Derived/Test/ToyasCard.lean, 'card_holds'). Laid BY PROGRAM, IN A SANDBOX (cutbox-door.mjs). By AI agents, Wed Nov 11 2026. No macro, syntax, notation, axiom, sorry.
-/
import Derived.Test.YtjekioabkmijbaaGreatDoorRows
import GoSem.ClaimSeven
namespace Go.Proofs.YtjekioabkmijbaaGreatDoor
namespace Rows

/-- THE TIED CARD OF 'laganlaw02.DriftReaches'. -/
def driftReachesCard : Claim7 := { stood := { row := driftReachesRow, standIns := [], harness := (true, "6537d3ae7bdefc4f30499698611b5f12eefe4a413269d60e5f6244641648ee89"), looks := true }, kinds := [], alts := [], laidByText := true, laidKinds := [.data, .data, .data, .data, .sentinel, .sentinel, .pinned], laidTests := true, laidLooks := .later }
def DriftReachesCardSaid : Prop := Claim7.holds Tryz.pinned (.plain (OpenSpec.ofChange driftReachesSpec)) driftReachesCard

/-- THE TIED CARD OF 'laganlaw02.DriftRests'. -/
def driftRestsCard : Claim7 := { stood := { row := driftRestsRow, standIns := [], harness := (true, "6537d3ae7bdefc4f30499698611b5f12eefe4a413269d60e5f6244641648ee89"), looks := true }, kinds := [], alts := [], laidByText := true, laidKinds := [.data, .data, .data, .data, .sentinel, .sentinel, .pinned], laidTests := true, laidLooks := .later }
def DriftRestsCardSaid : Prop := Claim7.holds Tryz.pinned (.plain (OpenSpec.ofChange driftRestsSpec)) driftRestsCard

/-- THE TIED CARD OF 'laganlaw02.DriftKnown'. -/
def driftKnownCard : Claim7 := { stood := { row := driftKnownRow, standIns := [], harness := (true, "6537d3ae7bdefc4f30499698611b5f12eefe4a413269d60e5f6244641648ee89"), looks := true }, kinds := [], alts := [], laidByText := true, laidKinds := [.data, .data, .data, .data, .sentinel, .sentinel, .pinned], laidTests := true, laidLooks := .later }
def DriftKnownCardSaid : Prop := Claim7.holds Tryz.pinned (.plain (OpenSpec.ofChange driftKnownSpec)) driftKnownCard

/-- THE TIED CARD OF 'laganlaw02.DriftMemory'. -/
def driftMemoryCard : Claim7 := { stood := { row := driftMemoryRow, standIns := [], harness := (true, "6537d3ae7bdefc4f30499698611b5f12eefe4a413269d60e5f6244641648ee89"), looks := true }, kinds := [], alts := [], laidByText := true, laidKinds := [.data, .data, .data, .data, .sentinel, .sentinel, .pinned], laidTests := true, laidLooks := .later }
def DriftMemoryCardSaid : Prop := Claim7.holds Tryz.pinned (.plain (OpenSpec.ofChange driftMemorySpec)) driftMemoryCard

/-- THE TIED CARD OF 'laganlaw02.DriftSeas'. -/
def driftSeasCard : Claim7 := { stood := { row := driftSeasRow, standIns := [], harness := (true, "6537d3ae7bdefc4f30499698611b5f12eefe4a413269d60e5f6244641648ee89"), looks := true }, kinds := [], alts := [], laidByText := true, laidKinds := [.data, .data, .data, .data, .sentinel, .sentinel, .pinned], laidTests := true, laidLooks := .later }
def DriftSeasCardSaid : Prop := Claim7.holds Tryz.pinned (.plain (OpenSpec.ofChange driftSeasSpec)) driftSeasCard

/-- THE TIED CARD OF 'laganlaw02.DriftNarrows'. -/
def driftNarrowsCard : Claim7 := { stood := { row := driftNarrowsRow, standIns := [], harness := (true, "6537d3ae7bdefc4f30499698611b5f12eefe4a413269d60e5f6244641648ee89"), looks := true }, kinds := [], alts := [], laidByText := true, laidKinds := [.data, .data, .data, .data, .sentinel, .sentinel, .pinned], laidTests := true, laidLooks := .later }
def DriftNarrowsCardSaid : Prop := Claim7.holds Tryz.pinned (.plain (OpenSpec.ofChange driftNarrowsSpec)) driftNarrowsCard

/-- THE TIED CARD OF 'laganlaw02.DriftLines'. -/
def driftLinesCard : Claim7 := { stood := { row := driftLinesRow, standIns := [], harness := (true, "6537d3ae7bdefc4f30499698611b5f12eefe4a413269d60e5f6244641648ee89"), looks := true }, kinds := [], alts := [], laidByText := true, laidKinds := [.data, .data, .data, .data, .sentinel, .sentinel, .pinned], laidTests := true, laidLooks := .later }
def DriftLinesCardSaid : Prop := Claim7.holds Tryz.pinned (.plain (OpenSpec.ofChange driftLinesSpec)) driftLinesCard

/-- THE TIED CARD OF 'laganlaw02.DriftSteps'. -/
def driftStepsCard : Claim7 := { stood := { row := driftStepsRow, standIns := [], harness := (true, "6537d3ae7bdefc4f30499698611b5f12eefe4a413269d60e5f6244641648ee89"), looks := true }, kinds := [], alts := [], laidByText := true, laidKinds := [.data, .data, .data, .data, .sentinel, .sentinel, .pinned], laidTests := true, laidLooks := .later }
def DriftStepsCardSaid : Prop := Claim7.holds Tryz.pinned (.plain (OpenSpec.ofChange driftStepsSpec)) driftStepsCard

/-- THE TIED CARD OF 'laganlaw02.DriftWinds'. -/
def driftWindsCard : Claim7 := { stood := { row := driftWindsRow, standIns := [], harness := (true, "6537d3ae7bdefc4f30499698611b5f12eefe4a413269d60e5f6244641648ee89"), looks := true }, kinds := [], alts := [], laidByText := true, laidKinds := [.data, .data, .data, .data, .sentinel, .sentinel, .pinned], laidTests := true, laidLooks := .later }
def DriftWindsCardSaid : Prop := Claim7.holds Tryz.pinned (.plain (OpenSpec.ofChange driftWindsSpec)) driftWindsCard

/-- THE TIED CARD OF 'laganlaw02.DriftLands'. -/
def driftLandsCard : Claim7 := { stood := { row := driftLandsRow, standIns := [], harness := (true, "6537d3ae7bdefc4f30499698611b5f12eefe4a413269d60e5f6244641648ee89"), looks := true }, kinds := [], alts := [], laidByText := true, laidKinds := [.data, .data, .data, .data, .sentinel, .sentinel, .pinned], laidTests := true, laidLooks := .later }
def DriftLandsCardSaid : Prop := Claim7.holds Tryz.pinned (.plain (OpenSpec.ofChange driftLandsSpec)) driftLandsCard

/-- THE TIED CARD OF 'laganlaw02.DriftLosses'. -/
def driftLossesCard : Claim7 := { stood := { row := driftLossesRow, standIns := [], harness := (true, "6537d3ae7bdefc4f30499698611b5f12eefe4a413269d60e5f6244641648ee89"), looks := true }, kinds := [], alts := [], laidByText := true, laidKinds := [.data, .data, .data, .data, .sentinel, .sentinel, .pinned], laidTests := true, laidLooks := .later }
def DriftLossesCardSaid : Prop := Claim7.holds Tryz.pinned (.plain (OpenSpec.ofChange driftLossesSpec)) driftLossesCard

/-- THE TIED CARD OF 'laganlaw02.DriftWider'. -/
def driftWiderCard : Claim7 := { stood := { row := driftWiderRow, standIns := [], harness := (true, "6537d3ae7bdefc4f30499698611b5f12eefe4a413269d60e5f6244641648ee89"), looks := true }, kinds := [], alts := [], laidByText := true, laidKinds := [.data, .data, .data, .data, .sentinel, .sentinel, .pinned], laidTests := true, laidLooks := .later }
def DriftWiderCardSaid : Prop := Claim7.holds Tryz.pinned (.plain (OpenSpec.ofChange driftWiderSpec)) driftWiderCard

/-- THE TIED CARD OF 'laganlaw02.DriftMoves'. -/
def driftMovesCard : Claim7 := { stood := { row := driftMovesRow, standIns := [], harness := (true, "6537d3ae7bdefc4f30499698611b5f12eefe4a413269d60e5f6244641648ee89"), looks := true }, kinds := [], alts := [], laidByText := true, laidKinds := [.data, .data, .data, .data, .sentinel, .sentinel, .pinned], laidTests := true, laidLooks := .later }
def DriftMovesCardSaid : Prop := Claim7.holds Tryz.pinned (.plain (OpenSpec.ofChange driftMovesSpec)) driftMovesCard

/-- THE TIED CARD OF 'laganlaw02.DriftBack'. -/
def driftBackCard : Claim7 := { stood := { row := driftBackRow, standIns := [], harness := (true, "6537d3ae7bdefc4f30499698611b5f12eefe4a413269d60e5f6244641648ee89"), looks := true }, kinds := [], alts := [], laidByText := true, laidKinds := [.data, .data, .data, .data, .sentinel, .sentinel, .pinned], laidTests := true, laidLooks := .later }
def DriftBackCardSaid : Prop := Claim7.holds Tryz.pinned (.plain (OpenSpec.ofChange driftBackSpec)) driftBackCard

/-- THE TIED CARD OF 'laganlaw02.DriftShows'. -/
def driftShowsCard : Claim7 := { stood := { row := driftShowsRow, standIns := [], harness := (true, "6537d3ae7bdefc4f30499698611b5f12eefe4a413269d60e5f6244641648ee89"), looks := true }, kinds := [], alts := [], laidByText := true, laidKinds := [.data, .data, .data, .data, .sentinel, .sentinel, .pinned], laidTests := true, laidLooks := .later }
def DriftShowsCardSaid : Prop := Claim7.holds Tryz.pinned (.plain (OpenSpec.ofChange driftShowsSpec)) driftShowsCard

/-- THE TIED CARD OF 'laganlaw02.DriftEither'. -/
def driftEitherCard : Claim7 := { stood := { row := driftEitherRow, standIns := [], harness := (true, "6537d3ae7bdefc4f30499698611b5f12eefe4a413269d60e5f6244641648ee89"), looks := true }, kinds := [], alts := [], laidByText := true, laidKinds := [.data, .data, .data, .data, .sentinel, .sentinel, .pinned], laidTests := true, laidLooks := .later }
def DriftEitherCardSaid : Prop := Claim7.holds Tryz.pinned (.plain (OpenSpec.ofChange driftEitherSpec)) driftEitherCard

/-- THE SECOND FORM's CARD OF 'laganlaw02.DriftReaches'. -/
def driftReachesUptoCard : Claim7 := { stood := { row := driftReachesUptoRow, standIns := [], harness := (true, "6537d3ae7bdefc4f30499698611b5f12eefe4a413269d60e5f6244641648ee89"), looks := true }, kinds := [], alts := [], laidByText := true, laidKinds := [.data, .data, .data, .data, .sentinel, .sentinel, .pinned], laidTests := true, laidLooks := .later }
def DriftReachesUptoCardSaid : Prop := Claim7.holds Tryz.pinned (.plain (OpenSpec.upto driftReachesSpec)) driftReachesUptoCard

/-- THE SECOND FORM's CARD OF 'laganlaw02.DriftRests'. -/
def driftRestsUptoCard : Claim7 := { stood := { row := driftRestsUptoRow, standIns := [], harness := (true, "6537d3ae7bdefc4f30499698611b5f12eefe4a413269d60e5f6244641648ee89"), looks := true }, kinds := [], alts := [], laidByText := true, laidKinds := [.data, .data, .data, .data, .sentinel, .sentinel, .pinned], laidTests := true, laidLooks := .later }
def DriftRestsUptoCardSaid : Prop := Claim7.holds Tryz.pinned (.plain (OpenSpec.upto driftRestsSpec)) driftRestsUptoCard

/-- THE SECOND FORM's CARD OF 'laganlaw02.DriftKnown'. -/
def driftKnownUptoCard : Claim7 := { stood := { row := driftKnownUptoRow, standIns := [], harness := (true, "6537d3ae7bdefc4f30499698611b5f12eefe4a413269d60e5f6244641648ee89"), looks := true }, kinds := [], alts := [], laidByText := true, laidKinds := [.data, .data, .data, .data, .sentinel, .sentinel, .pinned], laidTests := true, laidLooks := .later }
def DriftKnownUptoCardSaid : Prop := Claim7.holds Tryz.pinned (.plain (OpenSpec.upto driftKnownSpec)) driftKnownUptoCard

/-- THE SECOND FORM's CARD OF 'laganlaw02.DriftMemory'. -/
def driftMemoryUptoCard : Claim7 := { stood := { row := driftMemoryUptoRow, standIns := [], harness := (true, "6537d3ae7bdefc4f30499698611b5f12eefe4a413269d60e5f6244641648ee89"), looks := true }, kinds := [], alts := [], laidByText := true, laidKinds := [.data, .data, .data, .data, .sentinel, .sentinel, .pinned], laidTests := true, laidLooks := .later }
def DriftMemoryUptoCardSaid : Prop := Claim7.holds Tryz.pinned (.plain (OpenSpec.upto driftMemorySpec)) driftMemoryUptoCard

/-- THE SECOND FORM's CARD OF 'laganlaw02.DriftSeas'. -/
def driftSeasUptoCard : Claim7 := { stood := { row := driftSeasUptoRow, standIns := [], harness := (true, "6537d3ae7bdefc4f30499698611b5f12eefe4a413269d60e5f6244641648ee89"), looks := true }, kinds := [], alts := [], laidByText := true, laidKinds := [.data, .data, .data, .data, .sentinel, .sentinel, .pinned], laidTests := true, laidLooks := .later }
def DriftSeasUptoCardSaid : Prop := Claim7.holds Tryz.pinned (.plain (OpenSpec.upto driftSeasSpec)) driftSeasUptoCard

/-- THE SECOND FORM's CARD OF 'laganlaw02.DriftNarrows'. -/
def driftNarrowsUptoCard : Claim7 := { stood := { row := driftNarrowsUptoRow, standIns := [], harness := (true, "6537d3ae7bdefc4f30499698611b5f12eefe4a413269d60e5f6244641648ee89"), looks := true }, kinds := [], alts := [], laidByText := true, laidKinds := [.data, .data, .data, .data, .sentinel, .sentinel, .pinned], laidTests := true, laidLooks := .later }
def DriftNarrowsUptoCardSaid : Prop := Claim7.holds Tryz.pinned (.plain (OpenSpec.upto driftNarrowsSpec)) driftNarrowsUptoCard

/-- THE SECOND FORM's CARD OF 'laganlaw02.DriftLines'. -/
def driftLinesUptoCard : Claim7 := { stood := { row := driftLinesUptoRow, standIns := [], harness := (true, "6537d3ae7bdefc4f30499698611b5f12eefe4a413269d60e5f6244641648ee89"), looks := true }, kinds := [], alts := [], laidByText := true, laidKinds := [.data, .data, .data, .data, .sentinel, .sentinel, .pinned], laidTests := true, laidLooks := .later }
def DriftLinesUptoCardSaid : Prop := Claim7.holds Tryz.pinned (.plain (OpenSpec.upto driftLinesSpec)) driftLinesUptoCard

/-- THE SECOND FORM's CARD OF 'laganlaw02.DriftSteps'. -/
def driftStepsUptoCard : Claim7 := { stood := { row := driftStepsUptoRow, standIns := [], harness := (true, "6537d3ae7bdefc4f30499698611b5f12eefe4a413269d60e5f6244641648ee89"), looks := true }, kinds := [], alts := [], laidByText := true, laidKinds := [.data, .data, .data, .data, .sentinel, .sentinel, .pinned], laidTests := true, laidLooks := .later }
def DriftStepsUptoCardSaid : Prop := Claim7.holds Tryz.pinned (.plain (OpenSpec.upto driftStepsSpec)) driftStepsUptoCard

/-- THE SECOND FORM's CARD OF 'laganlaw02.DriftWinds'. -/
def driftWindsUptoCard : Claim7 := { stood := { row := driftWindsUptoRow, standIns := [], harness := (true, "6537d3ae7bdefc4f30499698611b5f12eefe4a413269d60e5f6244641648ee89"), looks := true }, kinds := [], alts := [], laidByText := true, laidKinds := [.data, .data, .data, .data, .sentinel, .sentinel, .pinned], laidTests := true, laidLooks := .later }
def DriftWindsUptoCardSaid : Prop := Claim7.holds Tryz.pinned (.plain (OpenSpec.upto driftWindsSpec)) driftWindsUptoCard

/-- THE SECOND FORM's CARD OF 'laganlaw02.DriftLands'. -/
def driftLandsUptoCard : Claim7 := { stood := { row := driftLandsUptoRow, standIns := [], harness := (true, "6537d3ae7bdefc4f30499698611b5f12eefe4a413269d60e5f6244641648ee89"), looks := true }, kinds := [], alts := [], laidByText := true, laidKinds := [.data, .data, .data, .data, .sentinel, .sentinel, .pinned], laidTests := true, laidLooks := .later }
def DriftLandsUptoCardSaid : Prop := Claim7.holds Tryz.pinned (.plain (OpenSpec.upto driftLandsSpec)) driftLandsUptoCard

/-- THE SECOND FORM's CARD OF 'laganlaw02.DriftLosses'. -/
def driftLossesUptoCard : Claim7 := { stood := { row := driftLossesUptoRow, standIns := [], harness := (true, "6537d3ae7bdefc4f30499698611b5f12eefe4a413269d60e5f6244641648ee89"), looks := true }, kinds := [], alts := [], laidByText := true, laidKinds := [.data, .data, .data, .data, .sentinel, .sentinel, .pinned], laidTests := true, laidLooks := .later }
def DriftLossesUptoCardSaid : Prop := Claim7.holds Tryz.pinned (.plain (OpenSpec.upto driftLossesSpec)) driftLossesUptoCard

/-- THE SECOND FORM's CARD OF 'laganlaw02.DriftWider'. -/
def driftWiderUptoCard : Claim7 := { stood := { row := driftWiderUptoRow, standIns := [], harness := (true, "6537d3ae7bdefc4f30499698611b5f12eefe4a413269d60e5f6244641648ee89"), looks := true }, kinds := [], alts := [], laidByText := true, laidKinds := [.data, .data, .data, .data, .sentinel, .sentinel, .pinned], laidTests := true, laidLooks := .later }
def DriftWiderUptoCardSaid : Prop := Claim7.holds Tryz.pinned (.plain (OpenSpec.upto driftWiderSpec)) driftWiderUptoCard

/-- THE SECOND FORM's CARD OF 'laganlaw02.DriftMoves'. -/
def driftMovesUptoCard : Claim7 := { stood := { row := driftMovesUptoRow, standIns := [], harness := (true, "6537d3ae7bdefc4f30499698611b5f12eefe4a413269d60e5f6244641648ee89"), looks := true }, kinds := [], alts := [], laidByText := true, laidKinds := [.data, .data, .data, .data, .sentinel, .sentinel, .pinned], laidTests := true, laidLooks := .later }
def DriftMovesUptoCardSaid : Prop := Claim7.holds Tryz.pinned (.plain (OpenSpec.upto driftMovesSpec)) driftMovesUptoCard

/-- THE SECOND FORM's CARD OF 'laganlaw02.DriftBack'. -/
def driftBackUptoCard : Claim7 := { stood := { row := driftBackUptoRow, standIns := [], harness := (true, "6537d3ae7bdefc4f30499698611b5f12eefe4a413269d60e5f6244641648ee89"), looks := true }, kinds := [], alts := [], laidByText := true, laidKinds := [.data, .data, .data, .data, .sentinel, .sentinel, .pinned], laidTests := true, laidLooks := .later }
def DriftBackUptoCardSaid : Prop := Claim7.holds Tryz.pinned (.plain (OpenSpec.upto driftBackSpec)) driftBackUptoCard

/-- THE SECOND FORM's CARD OF 'laganlaw02.DriftShows'. -/
def driftShowsUptoCard : Claim7 := { stood := { row := driftShowsUptoRow, standIns := [], harness := (true, "6537d3ae7bdefc4f30499698611b5f12eefe4a413269d60e5f6244641648ee89"), looks := true }, kinds := [], alts := [], laidByText := true, laidKinds := [.data, .data, .data, .data, .sentinel, .sentinel, .pinned], laidTests := true, laidLooks := .later }
def DriftShowsUptoCardSaid : Prop := Claim7.holds Tryz.pinned (.plain (OpenSpec.upto driftShowsSpec)) driftShowsUptoCard

/-- THE SECOND FORM's CARD OF 'laganlaw02.DriftEither'. -/
def driftEitherUptoCard : Claim7 := { stood := { row := driftEitherUptoRow, standIns := [], harness := (true, "6537d3ae7bdefc4f30499698611b5f12eefe4a413269d60e5f6244641648ee89"), looks := true }, kinds := [], alts := [], laidByText := true, laidKinds := [.data, .data, .data, .data, .sentinel, .sentinel, .pinned], laidTests := true, laidLooks := .later }
def DriftEitherUptoCardSaid : Prop := Claim7.holds Tryz.pinned (.plain (OpenSpec.upto driftEitherSpec)) driftEitherUptoCard
end Rows
end Go.Proofs.YtjekioabkmijbaaGreatDoor
