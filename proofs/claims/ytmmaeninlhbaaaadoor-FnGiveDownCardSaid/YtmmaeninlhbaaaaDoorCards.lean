/-
  DERIVED. GIVEN WITH THE SEED: THE CARDS: each row of YtmmaeninlhbaaaaDoorRows.lean that lists a variable, with what it lists TIED to the program's text (the seventh form; the later family's looks); each row that meets fmt, with fmt's text TOLD by the authors' own Lean function (tested against real Go, not proved from fmt's source: count such statements apart). THE CARD IS WHAT COUNTS. Prove the row's statement (the work); the ties are given (YtmmaeninlhbaaaaDoorTie.lean); close each card by the builder's one call (the guide's Derived/Test/ToyasCard.lean, 'card_holds'). Laid BY PROGRAM, IN A SANDBOX (cutbox-door.mjs). By AI agents, Wed Nov 11 2026. No macro, syntax, notation, axiom, sorry.
-/
import Derived.Test.YtmmaeninlhbaaaaDoorRows
import GoSem.ClaimSeven
namespace Go.Proofs.YtmmaeninlhbaaaaDoor
namespace Rows

/-- THE TIED CARD OF 'laws.FnGiveDown'. -/
def fnGiveDownCard : Claim7 := { stood := { row := fnGiveDownRow, standIns := [], harness := (true, "44243487856132fa1f9807ce01443069c8523f183becfe710273d88255863d10"), looks := false }, kinds := [], alts := [], laidByText := true, laidKinds := [.data, .data, .data], laidTests := true, laidLooks := .later }
def FnGiveDownCardSaid : Prop := Claim7.holds Tryd.pinned (.plain (OpenSpec.ofChange fnGiveDownSpec)) fnGiveDownCard

/-- THE TIED CARD OF 'laws.FnCarsDown'. -/
def fnCarsDownCard : Claim7 := { stood := { row := fnCarsDownRow, standIns := [], harness := (true, "44243487856132fa1f9807ce01443069c8523f183becfe710273d88255863d10"), looks := false }, kinds := [], alts := [], laidByText := true, laidKinds := [.data, .data, .data], laidTests := true, laidLooks := .later }
def FnCarsDownCardSaid : Prop := Claim7.holds Tryd.pinned (.plain (OpenSpec.ofChange fnCarsDownSpec)) fnCarsDownCard

/-- THE TIED CARD OF 'laws.FnGiveValid'. -/
def fnGiveValidCard : Claim7 := { stood := { row := fnGiveValidRow, standIns := [], harness := (true, "44243487856132fa1f9807ce01443069c8523f183becfe710273d88255863d10"), looks := false }, kinds := [], alts := [], laidByText := true, laidKinds := [.data, .data, .data], laidTests := true, laidLooks := .later }
def FnGiveValidCardSaid : Prop := Claim7.holds Tryd.pinned (.plain (OpenSpec.ofChange fnGiveValidSpec)) fnGiveValidCard

/-- THE TIED CARD OF 'laws.FnGiveWaste'. -/
def fnGiveWasteCard : Claim7 := { stood := { row := fnGiveWasteRow, standIns := [], harness := (true, "44243487856132fa1f9807ce01443069c8523f183becfe710273d88255863d10"), looks := false }, kinds := [], alts := [], laidByText := true, laidKinds := [.data, .data, .data], laidTests := true, laidLooks := .later }
def FnGiveWasteCardSaid : Prop := Claim7.holds Tryd.pinned (.plain (OpenSpec.ofChange fnGiveWasteSpec)) fnGiveWasteCard

/-- THE TIED CARD OF 'laws.FnGiveMost'. -/
def fnGiveMostCard : Claim7 := { stood := { row := fnGiveMostRow, standIns := [], harness := (true, "44243487856132fa1f9807ce01443069c8523f183becfe710273d88255863d10"), looks := false }, kinds := [], alts := [], laidByText := true, laidKinds := [.data, .data, .data], laidTests := true, laidLooks := .later }
def FnGiveMostCardSaid : Prop := Claim7.holds Tryd.pinned (.plain (OpenSpec.ofChange fnGiveMostSpec)) fnGiveMostCard

/-- THE TIED CARD OF 'laws.FnGiveBest'. -/
def fnGiveBestCard : Claim7 := { stood := { row := fnGiveBestRow, standIns := [], harness := (true, "44243487856132fa1f9807ce01443069c8523f183becfe710273d88255863d10"), looks := false }, kinds := [], alts := [], laidByText := true, laidKinds := [.data, .data, .data], laidTests := true, laidLooks := .later }
def FnGiveBestCardSaid : Prop := Claim7.holds Tryd.pinned (.plain (OpenSpec.ofChange fnGiveBestSpec)) fnGiveBestCard

/-- THE SECOND FORM's CARD OF 'laws.FnGiveDown'. -/
def fnGiveDownUptoCard : Claim7 := { stood := { row := fnGiveDownUptoRow, standIns := [], harness := (true, "44243487856132fa1f9807ce01443069c8523f183becfe710273d88255863d10"), looks := false }, kinds := [], alts := [], laidByText := true, laidKinds := [.data, .data, .data], laidTests := true, laidLooks := .later }
def FnGiveDownUptoCardSaid : Prop := Claim7.holds Tryd.pinned (.plain (OpenSpec.upto fnGiveDownSpec)) fnGiveDownUptoCard

/-- THE SECOND FORM's CARD OF 'laws.FnCarsDown'. -/
def fnCarsDownUptoCard : Claim7 := { stood := { row := fnCarsDownUptoRow, standIns := [], harness := (true, "44243487856132fa1f9807ce01443069c8523f183becfe710273d88255863d10"), looks := false }, kinds := [], alts := [], laidByText := true, laidKinds := [.data, .data, .data], laidTests := true, laidLooks := .later }
def FnCarsDownUptoCardSaid : Prop := Claim7.holds Tryd.pinned (.plain (OpenSpec.upto fnCarsDownSpec)) fnCarsDownUptoCard

/-- THE SECOND FORM's CARD OF 'laws.FnGiveValid'. -/
def fnGiveValidUptoCard : Claim7 := { stood := { row := fnGiveValidUptoRow, standIns := [], harness := (true, "44243487856132fa1f9807ce01443069c8523f183becfe710273d88255863d10"), looks := false }, kinds := [], alts := [], laidByText := true, laidKinds := [.data, .data, .data], laidTests := true, laidLooks := .later }
def FnGiveValidUptoCardSaid : Prop := Claim7.holds Tryd.pinned (.plain (OpenSpec.upto fnGiveValidSpec)) fnGiveValidUptoCard

/-- THE SECOND FORM's CARD OF 'laws.FnGiveWaste'. -/
def fnGiveWasteUptoCard : Claim7 := { stood := { row := fnGiveWasteUptoRow, standIns := [], harness := (true, "44243487856132fa1f9807ce01443069c8523f183becfe710273d88255863d10"), looks := false }, kinds := [], alts := [], laidByText := true, laidKinds := [.data, .data, .data], laidTests := true, laidLooks := .later }
def FnGiveWasteUptoCardSaid : Prop := Claim7.holds Tryd.pinned (.plain (OpenSpec.upto fnGiveWasteSpec)) fnGiveWasteUptoCard

/-- THE SECOND FORM's CARD OF 'laws.FnGiveMost'. -/
def fnGiveMostUptoCard : Claim7 := { stood := { row := fnGiveMostUptoRow, standIns := [], harness := (true, "44243487856132fa1f9807ce01443069c8523f183becfe710273d88255863d10"), looks := false }, kinds := [], alts := [], laidByText := true, laidKinds := [.data, .data, .data], laidTests := true, laidLooks := .later }
def FnGiveMostUptoCardSaid : Prop := Claim7.holds Tryd.pinned (.plain (OpenSpec.upto fnGiveMostSpec)) fnGiveMostUptoCard

/-- THE SECOND FORM's CARD OF 'laws.FnGiveBest'. -/
def fnGiveBestUptoCard : Claim7 := { stood := { row := fnGiveBestUptoRow, standIns := [], harness := (true, "44243487856132fa1f9807ce01443069c8523f183becfe710273d88255863d10"), looks := false }, kinds := [], alts := [], laidByText := true, laidKinds := [.data, .data, .data], laidTests := true, laidLooks := .later }
def FnGiveBestUptoCardSaid : Prop := Claim7.holds Tryd.pinned (.plain (OpenSpec.upto fnGiveBestSpec)) fnGiveBestUptoCard
end Rows
end Go.Proofs.YtmmaeninlhbaaaaDoor
