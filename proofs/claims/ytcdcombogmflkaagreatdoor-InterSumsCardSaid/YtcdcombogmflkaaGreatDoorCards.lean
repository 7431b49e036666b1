/-
  DERIVED. GIVEN WITH THE SEED: THE CARDS: each row of YtcdcombogmflkaaGreatDoorRows.lean that lists a variable, with what it lists TIED to the program's text (the seventh form; the later family's looks); each row that meets fmt, with fmt's text TOLD by the authors' own Lean function (tested against real Go, not proved from fmt's source: count such statements apart). THE CARD IS WHAT COUNTS. Prove the row's statement (the work); the ties are given (YtcdcombogmflkaaGreatDoorTie.lean); close each card by the builder's one call (the guide's Derived/Test/ToyasCard.lean, 'card_holds'). Laid BY PROGRAM, IN A SANDBOX (cutbox-door.mjs). By AI agents, Wed Nov 11 2026. No macro, syntax, notation, axiom, sorry.
-/
import Derived.Test.YtcdcombogmflkaaGreatDoorRows
import GoSem.ClaimSeven
namespace Go.Proofs.YtcdcombogmflkaaGreatDoor
namespace Rows

/-- THE TIED CARD OF 'greenwoodlaw13.SwapTells'. -/
def swapTellsCard : Claim7 := { stood := { row := swapTellsRow, standIns := [], harness := (true, "99565a86e08b40f764b1d708e4dbc50f70915568942898c8e203dd24f15d80cd"), looks := true }, kinds := [], alts := [], laidByText := true, laidKinds := [.handle], laidTests := true, laidLooks := .later }
def SwapTellsCardSaid : Prop := Claim7.holds Tryz.pinned (.plain (OpenSpec.ofChange swapTellsSpec)) swapTellsCard

/-- THE TIED CARD OF 'greenwoodlaw13.SwapAugments'. -/
def swapAugmentsCard : Claim7 := { stood := { row := swapAugmentsRow, standIns := [], harness := (true, "99565a86e08b40f764b1d708e4dbc50f70915568942898c8e203dd24f15d80cd"), looks := true }, kinds := [], alts := [], laidByText := true, laidKinds := [.handle], laidTests := true, laidLooks := .later }
def SwapAugmentsCardSaid : Prop := Claim7.holds Tryz.pinned (.plain (OpenSpec.ofChange swapAugmentsSpec)) swapAugmentsCard

/-- THE TIED CARD OF 'greenwoodlaw13.SwapStuck'. -/
def swapStuckCard : Claim7 := { stood := { row := swapStuckRow, standIns := [], harness := (true, "99565a86e08b40f764b1d708e4dbc50f70915568942898c8e203dd24f15d80cd"), looks := true }, kinds := [], alts := [], laidByText := true, laidKinds := [.handle], laidTests := true, laidLooks := .later }
def SwapStuckCardSaid : Prop := Claim7.holds Tryz.pinned (.plain (OpenSpec.ofChange swapStuckSpec)) swapStuckCard

/-- THE TIED CARD OF 'greenwoodlaw13.SwapBack'. -/
def swapBackCard : Claim7 := { stood := { row := swapBackRow, standIns := [], harness := (true, "99565a86e08b40f764b1d708e4dbc50f70915568942898c8e203dd24f15d80cd"), looks := true }, kinds := [], alts := [], laidByText := true, laidKinds := [.handle], laidTests := true, laidLooks := .later }
def SwapBackCardSaid : Prop := Claim7.holds Tryz.pinned (.plain (OpenSpec.ofChange swapBackSpec)) swapBackCard

/-- THE TIED CARD OF 'greenwoodlaw13.SwapNone'. -/
def swapNoneCard : Claim7 := { stood := { row := swapNoneRow, standIns := [], harness := (true, "99565a86e08b40f764b1d708e4dbc50f70915568942898c8e203dd24f15d80cd"), looks := true }, kinds := [], alts := [], laidByText := true, laidKinds := [.handle], laidTests := true, laidLooks := .later }
def SwapNoneCardSaid : Prop := Claim7.holds Tryz.pinned (.plain (OpenSpec.ofChange swapNoneSpec)) swapNoneCard

/-- THE TIED CARD OF 'greenwoodlaw13.SwapSame'. -/
def swapSameCard : Claim7 := { stood := { row := swapSameRow, standIns := [], harness := (true, "99565a86e08b40f764b1d708e4dbc50f70915568942898c8e203dd24f15d80cd"), looks := true }, kinds := [], alts := [], laidByText := true, laidKinds := [.handle], laidTests := true, laidLooks := .later }
def SwapSameCardSaid : Prop := Claim7.holds Tryz.pinned (.plain (OpenSpec.ofChange swapSameSpec)) swapSameCard

/-- THE TIED CARD OF 'greenwoodlaw14.InterTells'. -/
def interTellsCard : Claim7 := { stood := { row := interTellsRow, standIns := [], harness := (true, "99565a86e08b40f764b1d708e4dbc50f70915568942898c8e203dd24f15d80cd"), looks := true }, kinds := [], alts := [], laidByText := true, laidKinds := [.handle], laidTests := true, laidLooks := .later }
def InterTellsCardSaid : Prop := Claim7.holds Tryz.pinned (.plain (OpenSpec.ofChange interTellsSpec)) interTellsCard

/-- THE TIED CARD OF 'greenwoodlaw14.InterGreatest'. -/
def interGreatestCard : Claim7 := { stood := { row := interGreatestRow, standIns := [], harness := (true, "99565a86e08b40f764b1d708e4dbc50f70915568942898c8e203dd24f15d80cd"), looks := true }, kinds := [], alts := [], laidByText := true, laidKinds := [.handle], laidTests := true, laidLooks := .later }
def InterGreatestCardSaid : Prop := Claim7.holds Tryz.pinned (.plain (OpenSpec.ofChange interGreatestSpec)) interGreatestCard

/-- THE TIED CARD OF 'greenwoodlaw14.InterTurns'. -/
def interTurnsCard : Claim7 := { stood := { row := interTurnsRow, standIns := [], harness := (true, "99565a86e08b40f764b1d708e4dbc50f70915568942898c8e203dd24f15d80cd"), looks := true }, kinds := [], alts := [], laidByText := true, laidKinds := [.handle], laidTests := true, laidLooks := .later }
def InterTurnsCardSaid : Prop := Claim7.holds Tryz.pinned (.plain (OpenSpec.ofChange interTurnsSpec)) interTurnsCard

/-- THE TIED CARD OF 'greenwoodlaw14.InterMatching'. -/
def interMatchingCard : Claim7 := { stood := { row := interMatchingRow, standIns := [], harness := (true, "99565a86e08b40f764b1d708e4dbc50f70915568942898c8e203dd24f15d80cd"), looks := true }, kinds := [], alts := [], laidByText := true, laidKinds := [.handle], laidTests := true, laidLooks := .later }
def InterMatchingCardSaid : Prop := Claim7.holds Tryz.pinned (.plain (OpenSpec.ofChange interMatchingSpec)) interMatchingCard

/-- THE TIED CARD OF 'greenwoodlaw14.InterSums'. -/
def interSumsCard : Claim7 := { stood := { row := interSumsRow, standIns := [], harness := (true, "99565a86e08b40f764b1d708e4dbc50f70915568942898c8e203dd24f15d80cd"), looks := true }, kinds := [], alts := [], laidByText := true, laidKinds := [.handle], laidTests := true, laidLooks := .later }
def InterSumsCardSaid : Prop := Claim7.holds Tryz.pinned (.plain (OpenSpec.ofChange interSumsSpec)) interSumsCard

/-- THE TIED CARD OF 'greenwoodlaw15.SplitTells'. -/
def splitTellsCard : Claim7 := { stood := { row := splitTellsRow, standIns := [], harness := (true, "99565a86e08b40f764b1d708e4dbc50f70915568942898c8e203dd24f15d80cd"), looks := true }, kinds := [], alts := [], laidByText := true, laidKinds := [.handle], laidTests := true, laidLooks := .later }
def SplitTellsCardSaid : Prop := Claim7.holds Tryz.pinned (.plain (OpenSpec.ofChange splitTellsSpec)) splitTellsCard

/-- THE TIED CARD OF 'greenwoodlaw15.SplitHeaviest'. -/
def splitHeaviestCard : Claim7 := { stood := { row := splitHeaviestRow, standIns := [], harness := (true, "99565a86e08b40f764b1d708e4dbc50f70915568942898c8e203dd24f15d80cd"), looks := true }, kinds := [], alts := [], laidByText := true, laidKinds := [.handle], laidTests := true, laidLooks := .later }
def SplitHeaviestCardSaid : Prop := Claim7.holds Tryz.pinned (.plain (OpenSpec.ofChange splitHeaviestSpec)) splitHeaviestCard

/-- THE TIED CARD OF 'greenwoodlaw15.SplitShifts'. -/
def splitShiftsCard : Claim7 := { stood := { row := splitShiftsRow, standIns := [], harness := (true, "99565a86e08b40f764b1d708e4dbc50f70915568942898c8e203dd24f15d80cd"), looks := true }, kinds := [], alts := [], laidByText := true, laidKinds := [.handle], laidTests := true, laidLooks := .later }
def SplitShiftsCardSaid : Prop := Claim7.holds Tryz.pinned (.plain (OpenSpec.ofChange splitShiftsSpec)) splitShiftsCard

/-- THE TIED CARD OF 'greenwoodlaw15.SplitNone'. -/
def splitNoneCard : Claim7 := { stood := { row := splitNoneRow, standIns := [], harness := (true, "99565a86e08b40f764b1d708e4dbc50f70915568942898c8e203dd24f15d80cd"), looks := true }, kinds := [], alts := [], laidByText := true, laidKinds := [.handle], laidTests := true, laidLooks := .later }
def SplitNoneCardSaid : Prop := Claim7.holds Tryz.pinned (.plain (OpenSpec.ofChange splitNoneSpec)) splitNoneCard

/-- THE TIED CARD OF 'greenwoodlaw15.SplitConcave'. -/
def splitConcaveCard : Claim7 := { stood := { row := splitConcaveRow, standIns := [], harness := (true, "99565a86e08b40f764b1d708e4dbc50f70915568942898c8e203dd24f15d80cd"), looks := true }, kinds := [], alts := [], laidByText := true, laidKinds := [.handle], laidTests := true, laidLooks := .later }
def SplitConcaveCardSaid : Prop := Claim7.holds Tryz.pinned (.plain (OpenSpec.ofChange splitConcaveSpec)) splitConcaveCard

/-- THE SECOND FORM's CARD OF 'greenwoodlaw13.SwapTells'. -/
def swapTellsUptoCard : Claim7 := { stood := { row := swapTellsUptoRow, standIns := [], harness := (true, "99565a86e08b40f764b1d708e4dbc50f70915568942898c8e203dd24f15d80cd"), looks := true }, kinds := [], alts := [], laidByText := true, laidKinds := [.handle], laidTests := true, laidLooks := .later }
def SwapTellsUptoCardSaid : Prop := Claim7.holds Tryz.pinned (.plain (OpenSpec.upto swapTellsSpec)) swapTellsUptoCard

/-- THE SECOND FORM's CARD OF 'greenwoodlaw13.SwapAugments'. -/
def swapAugmentsUptoCard : Claim7 := { stood := { row := swapAugmentsUptoRow, standIns := [], harness := (true, "99565a86e08b40f764b1d708e4dbc50f70915568942898c8e203dd24f15d80cd"), looks := true }, kinds := [], alts := [], laidByText := true, laidKinds := [.handle], laidTests := true, laidLooks := .later }
def SwapAugmentsUptoCardSaid : Prop := Claim7.holds Tryz.pinned (.plain (OpenSpec.upto swapAugmentsSpec)) swapAugmentsUptoCard

/-- THE SECOND FORM's CARD OF 'greenwoodlaw13.SwapStuck'. -/
def swapStuckUptoCard : Claim7 := { stood := { row := swapStuckUptoRow, standIns := [], harness := (true, "99565a86e08b40f764b1d708e4dbc50f70915568942898c8e203dd24f15d80cd"), looks := true }, kinds := [], alts := [], laidByText := true, laidKinds := [.handle], laidTests := true, laidLooks := .later }
def SwapStuckUptoCardSaid : Prop := Claim7.holds Tryz.pinned (.plain (OpenSpec.upto swapStuckSpec)) swapStuckUptoCard

/-- THE SECOND FORM's CARD OF 'greenwoodlaw13.SwapBack'. -/
def swapBackUptoCard : Claim7 := { stood := { row := swapBackUptoRow, standIns := [], harness := (true, "99565a86e08b40f764b1d708e4dbc50f70915568942898c8e203dd24f15d80cd"), looks := true }, kinds := [], alts := [], laidByText := true, laidKinds := [.handle], laidTests := true, laidLooks := .later }
def SwapBackUptoCardSaid : Prop := Claim7.holds Tryz.pinned (.plain (OpenSpec.upto swapBackSpec)) swapBackUptoCard

/-- THE SECOND FORM's CARD OF 'greenwoodlaw13.SwapNone'. -/
def swapNoneUptoCard : Claim7 := { stood := { row := swapNoneUptoRow, standIns := [], harness := (true, "99565a86e08b40f764b1d708e4dbc50f70915568942898c8e203dd24f15d80cd"), looks := true }, kinds := [], alts := [], laidByText := true, laidKinds := [.handle], laidTests := true, laidLooks := .later }
def SwapNoneUptoCardSaid : Prop := Claim7.holds Tryz.pinned (.plain (OpenSpec.upto swapNoneSpec)) swapNoneUptoCard

/-- THE SECOND FORM's CARD OF 'greenwoodlaw13.SwapSame'. -/
def swapSameUptoCard : Claim7 := { stood := { row := swapSameUptoRow, standIns := [], harness := (true, "99565a86e08b40f764b1d708e4dbc50f70915568942898c8e203dd24f15d80cd"), looks := true }, kinds := [], alts := [], laidByText := true, laidKinds := [.handle], laidTests := true, laidLooks := .later }
def SwapSameUptoCardSaid : Prop := Claim7.holds Tryz.pinned (.plain (OpenSpec.upto swapSameSpec)) swapSameUptoCard

/-- THE SECOND FORM's CARD OF 'greenwoodlaw14.InterTells'. -/
def interTellsUptoCard : Claim7 := { stood := { row := interTellsUptoRow, standIns := [], harness := (true, "99565a86e08b40f764b1d708e4dbc50f70915568942898c8e203dd24f15d80cd"), looks := true }, kinds := [], alts := [], laidByText := true, laidKinds := [.handle], laidTests := true, laidLooks := .later }
def InterTellsUptoCardSaid : Prop := Claim7.holds Tryz.pinned (.plain (OpenSpec.upto interTellsSpec)) interTellsUptoCard

/-- THE SECOND FORM's CARD OF 'greenwoodlaw14.InterGreatest'. -/
def interGreatestUptoCard : Claim7 := { stood := { row := interGreatestUptoRow, standIns := [], harness := (true, "99565a86e08b40f764b1d708e4dbc50f70915568942898c8e203dd24f15d80cd"), looks := true }, kinds := [], alts := [], laidByText := true, laidKinds := [.handle], laidTests := true, laidLooks := .later }
def InterGreatestUptoCardSaid : Prop := Claim7.holds Tryz.pinned (.plain (OpenSpec.upto interGreatestSpec)) interGreatestUptoCard

/-- THE SECOND FORM's CARD OF 'greenwoodlaw14.InterTurns'. -/
def interTurnsUptoCard : Claim7 := { stood := { row := interTurnsUptoRow, standIns := [], harness := (true, "99565a86e08b40f764b1d708e4dbc50f70915568942898c8e203dd24f15d80cd"), looks := true }, kinds := [], alts := [], laidByText := true, laidKinds := [.handle], laidTests := true, laidLooks := .later }
def InterTurnsUptoCardSaid : Prop := Claim7.holds Tryz.pinned (.plain (OpenSpec.upto interTurnsSpec)) interTurnsUptoCard

/-- THE SECOND FORM's CARD OF 'greenwoodlaw14.InterMatching'. -/
def interMatchingUptoCard : Claim7 := { stood := { row := interMatchingUptoRow, standIns := [], harness := (true, "99565a86e08b40f764b1d708e4dbc50f70915568942898c8e203dd24f15d80cd"), looks := true }, kinds := [], alts := [], laidByText := true, laidKinds := [.handle], laidTests := true, laidLooks := .later }
def InterMatchingUptoCardSaid : Prop := Claim7.holds Tryz.pinned (.plain (OpenSpec.upto interMatchingSpec)) interMatchingUptoCard

/-- THE SECOND FORM's CARD OF 'greenwoodlaw14.InterSums'. -/
def interSumsUptoCard : Claim7 := { stood := { row := interSumsUptoRow, standIns := [], harness := (true, "99565a86e08b40f764b1d708e4dbc50f70915568942898c8e203dd24f15d80cd"), looks := true }, kinds := [], alts := [], laidByText := true, laidKinds := [.handle], laidTests := true, laidLooks := .later }
def InterSumsUptoCardSaid : Prop := Claim7.holds Tryz.pinned (.plain (OpenSpec.upto interSumsSpec)) interSumsUptoCard

/-- THE SECOND FORM's CARD OF 'greenwoodlaw15.SplitTells'. -/
def splitTellsUptoCard : Claim7 := { stood := { row := splitTellsUptoRow, standIns := [], harness := (true, "99565a86e08b40f764b1d708e4dbc50f70915568942898c8e203dd24f15d80cd"), looks := true }, kinds := [], alts := [], laidByText := true, laidKinds := [.handle], laidTests := true, laidLooks := .later }
def SplitTellsUptoCardSaid : Prop := Claim7.holds Tryz.pinned (.plain (OpenSpec.upto splitTellsSpec)) splitTellsUptoCard

/-- THE SECOND FORM's CARD OF 'greenwoodlaw15.SplitHeaviest'. -/
def splitHeaviestUptoCard : Claim7 := { stood := { row := splitHeaviestUptoRow, standIns := [], harness := (true, "99565a86e08b40f764b1d708e4dbc50f70915568942898c8e203dd24f15d80cd"), looks := true }, kinds := [], alts := [], laidByText := true, laidKinds := [.handle], laidTests := true, laidLooks := .later }
def SplitHeaviestUptoCardSaid : Prop := Claim7.holds Tryz.pinned (.plain (OpenSpec.upto splitHeaviestSpec)) splitHeaviestUptoCard

/-- THE SECOND FORM's CARD OF 'greenwoodlaw15.SplitShifts'. -/
def splitShiftsUptoCard : Claim7 := { stood := { row := splitShiftsUptoRow, standIns := [], harness := (true, "99565a86e08b40f764b1d708e4dbc50f70915568942898c8e203dd24f15d80cd"), looks := true }, kinds := [], alts := [], laidByText := true, laidKinds := [.handle], laidTests := true, laidLooks := .later }
def SplitShiftsUptoCardSaid : Prop := Claim7.holds Tryz.pinned (.plain (OpenSpec.upto splitShiftsSpec)) splitShiftsUptoCard

/-- THE SECOND FORM's CARD OF 'greenwoodlaw15.SplitNone'. -/
def splitNoneUptoCard : Claim7 := { stood := { row := splitNoneUptoRow, standIns := [], harness := (true, "99565a86e08b40f764b1d708e4dbc50f70915568942898c8e203dd24f15d80cd"), looks := true }, kinds := [], alts := [], laidByText := true, laidKinds := [.handle], laidTests := true, laidLooks := .later }
def SplitNoneUptoCardSaid : Prop := Claim7.holds Tryz.pinned (.plain (OpenSpec.upto splitNoneSpec)) splitNoneUptoCard

/-- THE SECOND FORM's CARD OF 'greenwoodlaw15.SplitConcave'. -/
def splitConcaveUptoCard : Claim7 := { stood := { row := splitConcaveUptoRow, standIns := [], harness := (true, "99565a86e08b40f764b1d708e4dbc50f70915568942898c8e203dd24f15d80cd"), looks := true }, kinds := [], alts := [], laidByText := true, laidKinds := [.handle], laidTests := true, laidLooks := .later }
def SplitConcaveUptoCardSaid : Prop := Claim7.holds Tryz.pinned (.plain (OpenSpec.upto splitConcaveSpec)) splitConcaveUptoCard
end Rows
end Go.Proofs.YtcdcombogmflkaaGreatDoor
