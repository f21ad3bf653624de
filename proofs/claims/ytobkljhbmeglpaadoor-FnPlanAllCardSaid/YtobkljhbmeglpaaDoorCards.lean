/-
  DERIVED. GIVEN WITH THE SEED: THE CARDS: each row of YtobkljhbmeglpaaDoorRows.lean that lists a variable, with what it lists TIED to the program's text (the seventh form; the later family's looks); each row that meets fmt, with fmt's text TOLD by the authors' own Lean function (tested against real Go, not proved from fmt's source: count such statements apart). THE CARD IS WHAT COUNTS. Prove the row's statement (the work); the ties are given (YtobkljhbmeglpaaDoorTie.lean); close each card by the builder's one call (the guide's Derived/Test/ToyasCard.lean, 'card_holds'). Laid BY PROGRAM, IN A SANDBOX (cutbox-door.mjs). By AI agents, Wed Nov 11 2026. No macro, syntax, notation, axiom, sorry.
-/
import Derived.Test.YtobkljhbmeglpaaDoorRows
import GoSem.ClaimSeven
namespace Go.Proofs.YtobkljhbmeglpaaDoor
namespace Rows

/-- THE TIED CARD OF 'laws.FnNeedValid'. -/
def fnNeedValidCard : Claim7 := { stood := { row := fnNeedValidRow, standIns := [], harness := (true, "590ee0e3e253421a22039e036af9355d02525ab551378de82e20937e01ca1c0c"), looks := false }, kinds := [], alts := [], laidByText := true, laidKinds := [.data, .data, .data], laidTests := true, laidLooks := .later }
def FnNeedValidCardSaid : Prop := Claim7.holds Tryd.pinned (.plain (OpenSpec.ofChange fnNeedValidSpec)) fnNeedValidCard

/-- THE TIED CARD OF 'laws.FnFeedValid'. -/
def fnFeedValidCard : Claim7 := { stood := { row := fnFeedValidRow, standIns := [], harness := (true, "590ee0e3e253421a22039e036af9355d02525ab551378de82e20937e01ca1c0c"), looks := false }, kinds := [], alts := [], laidByText := true, laidKinds := [.data, .data, .data], laidTests := true, laidLooks := .later }
def FnFeedValidCardSaid : Prop := Claim7.holds Tryd.pinned (.plain (OpenSpec.ofChange fnFeedValidSpec)) fnFeedValidCard

/-- THE TIED CARD OF 'laws.FnRateIn'. -/
def fnRateInCard : Claim7 := { stood := { row := fnRateInRow, standIns := [], harness := (true, "590ee0e3e253421a22039e036af9355d02525ab551378de82e20937e01ca1c0c"), looks := false }, kinds := [], alts := [], laidByText := true, laidKinds := [.data, .data, .data], laidTests := true, laidLooks := .later }
def FnRateInCardSaid : Prop := Claim7.holds Tryd.pinned (.plain (OpenSpec.ofChange fnRateInSpec)) fnRateInCard

/-- THE TIED CARD OF 'laws.FnNeedsValid'. -/
def fnNeedsValidCard : Claim7 := { stood := { row := fnNeedsValidRow, standIns := [], harness := (true, "590ee0e3e253421a22039e036af9355d02525ab551378de82e20937e01ca1c0c"), looks := false }, kinds := [], alts := [], laidByText := true, laidKinds := [.data, .data, .data], laidTests := true, laidLooks := .later }
def FnNeedsValidCardSaid : Prop := Claim7.holds Tryd.pinned (.plain (OpenSpec.ofChange fnNeedsValidSpec)) fnNeedsValidCard

/-- THE TIED CARD OF 'laws.FnPlanUnits'. -/
def fnPlanUnitsCard : Claim7 := { stood := { row := fnPlanUnitsRow, standIns := [], harness := (true, "590ee0e3e253421a22039e036af9355d02525ab551378de82e20937e01ca1c0c"), looks := false }, kinds := [], alts := [], laidByText := true, laidKinds := [.data, .data, .data], laidTests := true, laidLooks := .later }
def FnPlanUnitsCardSaid : Prop := Claim7.holds Tryd.pinned (.plain (OpenSpec.ofChange fnPlanUnitsSpec)) fnPlanUnitsCard

/-- THE TIED CARD OF 'laws.FnLoadCost'. -/
def fnLoadCostCard : Claim7 := { stood := { row := fnLoadCostRow, standIns := [], harness := (true, "590ee0e3e253421a22039e036af9355d02525ab551378de82e20937e01ca1c0c"), looks := false }, kinds := [], alts := [], laidByText := true, laidKinds := [.data, .data, .data], laidTests := true, laidLooks := .later }
def FnLoadCostCardSaid : Prop := Claim7.holds Tryd.pinned (.plain (OpenSpec.ofChange fnLoadCostSpec)) fnLoadCostCard

/-- THE TIED CARD OF 'laws.FnCutUnits'. -/
def fnCutUnitsCard : Claim7 := { stood := { row := fnCutUnitsRow, standIns := [], harness := (true, "590ee0e3e253421a22039e036af9355d02525ab551378de82e20937e01ca1c0c"), looks := false }, kinds := [], alts := [], laidByText := true, laidKinds := [.data, .data, .data], laidTests := true, laidLooks := .later }
def FnCutUnitsCardSaid : Prop := Claim7.holds Tryd.pinned (.plain (OpenSpec.ofChange fnCutUnitsSpec)) fnCutUnitsCard

/-- THE TIED CARD OF 'laws.FnLeastFeed'. -/
def fnLeastFeedCard : Claim7 := { stood := { row := fnLeastFeedRow, standIns := [], harness := (true, "590ee0e3e253421a22039e036af9355d02525ab551378de82e20937e01ca1c0c"), looks := false }, kinds := [], alts := [], laidByText := true, laidKinds := [.data, .data, .data], laidTests := true, laidLooks := .later }
def FnLeastFeedCardSaid : Prop := Claim7.holds Tryd.pinned (.plain (OpenSpec.ofChange fnLeastFeedSpec)) fnLeastFeedCard

/-- THE TIED CARD OF 'laws.FnPlanAll'. -/
def fnPlanAllCard : Claim7 := { stood := { row := fnPlanAllRow, standIns := [], harness := (true, "590ee0e3e253421a22039e036af9355d02525ab551378de82e20937e01ca1c0c"), looks := false }, kinds := [], alts := [], laidByText := true, laidKinds := [.data, .data, .data], laidTests := true, laidLooks := .later }
def FnPlanAllCardSaid : Prop := Claim7.holds Tryd.pinned (.plain (OpenSpec.ofChange fnPlanAllSpec)) fnPlanAllCard

/-- THE TIED CARD OF 'laws.FnPlanLoad'. -/
def fnPlanLoadCard : Claim7 := { stood := { row := fnPlanLoadRow, standIns := [], harness := (true, "590ee0e3e253421a22039e036af9355d02525ab551378de82e20937e01ca1c0c"), looks := false }, kinds := [], alts := [], laidByText := true, laidKinds := [.data, .data, .data], laidTests := true, laidLooks := .later }
def FnPlanLoadCardSaid : Prop := Claim7.holds Tryd.pinned (.plain (OpenSpec.ofChange fnPlanLoadSpec)) fnPlanLoadCard

/-- THE SECOND FORM's CARD OF 'laws.FnNeedValid'. -/
def fnNeedValidUptoCard : Claim7 := { stood := { row := fnNeedValidUptoRow, standIns := [], harness := (true, "590ee0e3e253421a22039e036af9355d02525ab551378de82e20937e01ca1c0c"), looks := false }, kinds := [], alts := [], laidByText := true, laidKinds := [.data, .data, .data], laidTests := true, laidLooks := .later }
def FnNeedValidUptoCardSaid : Prop := Claim7.holds Tryd.pinned (.plain (OpenSpec.upto fnNeedValidSpec)) fnNeedValidUptoCard

/-- THE SECOND FORM's CARD OF 'laws.FnFeedValid'. -/
def fnFeedValidUptoCard : Claim7 := { stood := { row := fnFeedValidUptoRow, standIns := [], harness := (true, "590ee0e3e253421a22039e036af9355d02525ab551378de82e20937e01ca1c0c"), looks := false }, kinds := [], alts := [], laidByText := true, laidKinds := [.data, .data, .data], laidTests := true, laidLooks := .later }
def FnFeedValidUptoCardSaid : Prop := Claim7.holds Tryd.pinned (.plain (OpenSpec.upto fnFeedValidSpec)) fnFeedValidUptoCard

/-- THE SECOND FORM's CARD OF 'laws.FnRateIn'. -/
def fnRateInUptoCard : Claim7 := { stood := { row := fnRateInUptoRow, standIns := [], harness := (true, "590ee0e3e253421a22039e036af9355d02525ab551378de82e20937e01ca1c0c"), looks := false }, kinds := [], alts := [], laidByText := true, laidKinds := [.data, .data, .data], laidTests := true, laidLooks := .later }
def FnRateInUptoCardSaid : Prop := Claim7.holds Tryd.pinned (.plain (OpenSpec.upto fnRateInSpec)) fnRateInUptoCard

/-- THE SECOND FORM's CARD OF 'laws.FnNeedsValid'. -/
def fnNeedsValidUptoCard : Claim7 := { stood := { row := fnNeedsValidUptoRow, standIns := [], harness := (true, "590ee0e3e253421a22039e036af9355d02525ab551378de82e20937e01ca1c0c"), looks := false }, kinds := [], alts := [], laidByText := true, laidKinds := [.data, .data, .data], laidTests := true, laidLooks := .later }
def FnNeedsValidUptoCardSaid : Prop := Claim7.holds Tryd.pinned (.plain (OpenSpec.upto fnNeedsValidSpec)) fnNeedsValidUptoCard

/-- THE SECOND FORM's CARD OF 'laws.FnPlanUnits'. -/
def fnPlanUnitsUptoCard : Claim7 := { stood := { row := fnPlanUnitsUptoRow, standIns := [], harness := (true, "590ee0e3e253421a22039e036af9355d02525ab551378de82e20937e01ca1c0c"), looks := false }, kinds := [], alts := [], laidByText := true, laidKinds := [.data, .data, .data], laidTests := true, laidLooks := .later }
def FnPlanUnitsUptoCardSaid : Prop := Claim7.holds Tryd.pinned (.plain (OpenSpec.upto fnPlanUnitsSpec)) fnPlanUnitsUptoCard

/-- THE SECOND FORM's CARD OF 'laws.FnLoadCost'. -/
def fnLoadCostUptoCard : Claim7 := { stood := { row := fnLoadCostUptoRow, standIns := [], harness := (true, "590ee0e3e253421a22039e036af9355d02525ab551378de82e20937e01ca1c0c"), looks := false }, kinds := [], alts := [], laidByText := true, laidKinds := [.data, .data, .data], laidTests := true, laidLooks := .later }
def FnLoadCostUptoCardSaid : Prop := Claim7.holds Tryd.pinned (.plain (OpenSpec.upto fnLoadCostSpec)) fnLoadCostUptoCard

/-- THE SECOND FORM's CARD OF 'laws.FnCutUnits'. -/
def fnCutUnitsUptoCard : Claim7 := { stood := { row := fnCutUnitsUptoRow, standIns := [], harness := (true, "590ee0e3e253421a22039e036af9355d02525ab551378de82e20937e01ca1c0c"), looks := false }, kinds := [], alts := [], laidByText := true, laidKinds := [.data, .data, .data], laidTests := true, laidLooks := .later }
def FnCutUnitsUptoCardSaid : Prop := Claim7.holds Tryd.pinned (.plain (OpenSpec.upto fnCutUnitsSpec)) fnCutUnitsUptoCard

/-- THE SECOND FORM's CARD OF 'laws.FnLeastFeed'. -/
def fnLeastFeedUptoCard : Claim7 := { stood := { row := fnLeastFeedUptoRow, standIns := [], harness := (true, "590ee0e3e253421a22039e036af9355d02525ab551378de82e20937e01ca1c0c"), looks := false }, kinds := [], alts := [], laidByText := true, laidKinds := [.data, .data, .data], laidTests := true, laidLooks := .later }
def FnLeastFeedUptoCardSaid : Prop := Claim7.holds Tryd.pinned (.plain (OpenSpec.upto fnLeastFeedSpec)) fnLeastFeedUptoCard

/-- THE SECOND FORM's CARD OF 'laws.FnPlanAll'. -/
def fnPlanAllUptoCard : Claim7 := { stood := { row := fnPlanAllUptoRow, standIns := [], harness := (true, "590ee0e3e253421a22039e036af9355d02525ab551378de82e20937e01ca1c0c"), looks := false }, kinds := [], alts := [], laidByText := true, laidKinds := [.data, .data, .data], laidTests := true, laidLooks := .later }
def FnPlanAllUptoCardSaid : Prop := Claim7.holds Tryd.pinned (.plain (OpenSpec.upto fnPlanAllSpec)) fnPlanAllUptoCard

/-- THE SECOND FORM's CARD OF 'laws.FnPlanLoad'. -/
def fnPlanLoadUptoCard : Claim7 := { stood := { row := fnPlanLoadUptoRow, standIns := [], harness := (true, "590ee0e3e253421a22039e036af9355d02525ab551378de82e20937e01ca1c0c"), looks := false }, kinds := [], alts := [], laidByText := true, laidKinds := [.data, .data, .data], laidTests := true, laidLooks := .later }
def FnPlanLoadUptoCardSaid : Prop := Claim7.holds Tryd.pinned (.plain (OpenSpec.upto fnPlanLoadSpec)) fnPlanLoadUptoCard
end Rows
end Go.Proofs.YtobkljhbmeglpaaDoor
