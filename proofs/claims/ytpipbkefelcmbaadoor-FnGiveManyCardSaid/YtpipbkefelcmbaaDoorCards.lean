/-
  DERIVED. GIVEN WITH THE SEED: THE CARDS: each row of YtpipbkefelcmbaaDoorRows.lean that lists a variable, with what it lists TIED to the program's text (the seventh form; the later family's looks); each row that meets fmt, with fmt's text TOLD by the authors' own Lean function (tested against real Go, not proved from fmt's source: count such statements apart). THE CARD IS WHAT COUNTS. Prove the row's statement (the work); the ties are given (YtpipbkefelcmbaaDoorTie.lean); close each card by the builder's one call (the guide's Derived/Test/ToyasCard.lean, 'card_holds'). Laid BY PROGRAM, IN A SANDBOX (cutbox-door.mjs). By AI agents, Wed Nov 11 2026. No macro, syntax, notation, axiom, sorry.
-/
import Derived.Test.YtpipbkefelcmbaaDoorRows
import GoSem.ClaimSeven
namespace Go.Proofs.YtpipbkefelcmbaaDoor
namespace Rows

/-- THE TIED CARD OF 'laws.FnFits'. -/
def fnFitsCard : Claim7 := { stood := { row := fnFitsRow, standIns := [], harness := (true, "ef05ee65d6106e3426b699e69f3eca691b8a4337461950217a104e40f00c0998"), looks := false }, kinds := [], alts := [], laidByText := true, laidKinds := [.data, .data, .data], laidTests := true, laidLooks := .later }
def FnFitsCardSaid : Prop := Claim7.holds Tryd.pinned (.plain (OpenSpec.ofChange fnFitsSpec)) fnFitsCard

/-- THE TIED CARD OF 'laws.FnCarValid'. -/
def fnCarValidCard : Claim7 := { stood := { row := fnCarValidRow, standIns := [], harness := (true, "ef05ee65d6106e3426b699e69f3eca691b8a4337461950217a104e40f00c0998"), looks := false }, kinds := [], alts := [], laidByText := true, laidKinds := [.data, .data, .data], laidTests := true, laidLooks := .later }
def FnCarValidCardSaid : Prop := Claim7.holds Tryd.pinned (.plain (OpenSpec.ofChange fnCarValidSpec)) fnCarValidCard

/-- THE TIED CARD OF 'laws.FnPlacesValid'. -/
def fnPlacesValidCard : Claim7 := { stood := { row := fnPlacesValidRow, standIns := [], harness := (true, "ef05ee65d6106e3426b699e69f3eca691b8a4337461950217a104e40f00c0998"), looks := false }, kinds := [], alts := [], laidByText := true, laidKinds := [.data, .data, .data], laidTests := true, laidLooks := .later }
def FnPlacesValidCardSaid : Prop := Claim7.holds Tryd.pinned (.plain (OpenSpec.ofChange fnPlacesValidSpec)) fnPlacesValidCard

/-- THE TIED CARD OF 'laws.FnCarsValid'. -/
def fnCarsValidCard : Claim7 := { stood := { row := fnCarsValidRow, standIns := [], harness := (true, "ef05ee65d6106e3426b699e69f3eca691b8a4337461950217a104e40f00c0998"), looks := false }, kinds := [], alts := [], laidByText := true, laidKinds := [.data, .data, .data], laidTests := true, laidLooks := .later }
def FnCarsValidCardSaid : Prop := Claim7.holds Tryd.pinned (.plain (OpenSpec.ofChange fnCarsValidSpec)) fnCarsValidCard

/-- THE TIED CARD OF 'laws.FnPlacesFor'. -/
def fnPlacesForCard : Claim7 := { stood := { row := fnPlacesForRow, standIns := [], harness := (true, "ef05ee65d6106e3426b699e69f3eca691b8a4337461950217a104e40f00c0998"), looks := false }, kinds := [], alts := [], laidByText := true, laidKinds := [.data, .data, .data], laidTests := true, laidLooks := .later }
def FnPlacesForCardSaid : Prop := Claim7.holds Tryd.pinned (.plain (OpenSpec.ofChange fnPlacesForSpec)) fnPlacesForCard

/-- THE TIED CARD OF 'laws.FnNested'. -/
def fnNestedCard : Claim7 := { stood := { row := fnNestedRow, standIns := [], harness := (true, "ef05ee65d6106e3426b699e69f3eca691b8a4337461950217a104e40f00c0998"), looks := false }, kinds := [], alts := [], laidByText := true, laidKinds := [.data, .data, .data], laidTests := true, laidLooks := .later }
def FnNestedCardSaid : Prop := Claim7.holds Tryd.pinned (.plain (OpenSpec.ofChange fnNestedSpec)) fnNestedCard

/-- THE TIED CARD OF 'laws.FnGiveMany'. -/
def fnGiveManyCard : Claim7 := { stood := { row := fnGiveManyRow, standIns := [], harness := (true, "ef05ee65d6106e3426b699e69f3eca691b8a4337461950217a104e40f00c0998"), looks := false }, kinds := [], alts := [], laidByText := true, laidKinds := [.data, .data, .data], laidTests := true, laidLooks := .later }
def FnGiveManyCardSaid : Prop := Claim7.holds Tryd.pinned (.plain (OpenSpec.ofChange fnGiveManySpec)) fnGiveManyCard

/-- THE TIED CARD OF 'laws.FnPlacesOf'. -/
def fnPlacesOfCard : Claim7 := { stood := { row := fnPlacesOfRow, standIns := [], harness := (true, "ef05ee65d6106e3426b699e69f3eca691b8a4337461950217a104e40f00c0998"), looks := false }, kinds := [], alts := [], laidByText := true, laidKinds := [.data, .data, .data], laidTests := true, laidLooks := .later }
def FnPlacesOfCardSaid : Prop := Claim7.holds Tryd.pinned (.plain (OpenSpec.ofChange fnPlacesOfSpec)) fnPlacesOfCard

/-- THE SECOND FORM's CARD OF 'laws.FnFits'. -/
def fnFitsUptoCard : Claim7 := { stood := { row := fnFitsUptoRow, standIns := [], harness := (true, "ef05ee65d6106e3426b699e69f3eca691b8a4337461950217a104e40f00c0998"), looks := false }, kinds := [], alts := [], laidByText := true, laidKinds := [.data, .data, .data], laidTests := true, laidLooks := .later }
def FnFitsUptoCardSaid : Prop := Claim7.holds Tryd.pinned (.plain (OpenSpec.upto fnFitsSpec)) fnFitsUptoCard

/-- THE SECOND FORM's CARD OF 'laws.FnCarValid'. -/
def fnCarValidUptoCard : Claim7 := { stood := { row := fnCarValidUptoRow, standIns := [], harness := (true, "ef05ee65d6106e3426b699e69f3eca691b8a4337461950217a104e40f00c0998"), looks := false }, kinds := [], alts := [], laidByText := true, laidKinds := [.data, .data, .data], laidTests := true, laidLooks := .later }
def FnCarValidUptoCardSaid : Prop := Claim7.holds Tryd.pinned (.plain (OpenSpec.upto fnCarValidSpec)) fnCarValidUptoCard

/-- THE SECOND FORM's CARD OF 'laws.FnPlacesValid'. -/
def fnPlacesValidUptoCard : Claim7 := { stood := { row := fnPlacesValidUptoRow, standIns := [], harness := (true, "ef05ee65d6106e3426b699e69f3eca691b8a4337461950217a104e40f00c0998"), looks := false }, kinds := [], alts := [], laidByText := true, laidKinds := [.data, .data, .data], laidTests := true, laidLooks := .later }
def FnPlacesValidUptoCardSaid : Prop := Claim7.holds Tryd.pinned (.plain (OpenSpec.upto fnPlacesValidSpec)) fnPlacesValidUptoCard

/-- THE SECOND FORM's CARD OF 'laws.FnCarsValid'. -/
def fnCarsValidUptoCard : Claim7 := { stood := { row := fnCarsValidUptoRow, standIns := [], harness := (true, "ef05ee65d6106e3426b699e69f3eca691b8a4337461950217a104e40f00c0998"), looks := false }, kinds := [], alts := [], laidByText := true, laidKinds := [.data, .data, .data], laidTests := true, laidLooks := .later }
def FnCarsValidUptoCardSaid : Prop := Claim7.holds Tryd.pinned (.plain (OpenSpec.upto fnCarsValidSpec)) fnCarsValidUptoCard

/-- THE SECOND FORM's CARD OF 'laws.FnPlacesFor'. -/
def fnPlacesForUptoCard : Claim7 := { stood := { row := fnPlacesForUptoRow, standIns := [], harness := (true, "ef05ee65d6106e3426b699e69f3eca691b8a4337461950217a104e40f00c0998"), looks := false }, kinds := [], alts := [], laidByText := true, laidKinds := [.data, .data, .data], laidTests := true, laidLooks := .later }
def FnPlacesForUptoCardSaid : Prop := Claim7.holds Tryd.pinned (.plain (OpenSpec.upto fnPlacesForSpec)) fnPlacesForUptoCard

/-- THE SECOND FORM's CARD OF 'laws.FnNested'. -/
def fnNestedUptoCard : Claim7 := { stood := { row := fnNestedUptoRow, standIns := [], harness := (true, "ef05ee65d6106e3426b699e69f3eca691b8a4337461950217a104e40f00c0998"), looks := false }, kinds := [], alts := [], laidByText := true, laidKinds := [.data, .data, .data], laidTests := true, laidLooks := .later }
def FnNestedUptoCardSaid : Prop := Claim7.holds Tryd.pinned (.plain (OpenSpec.upto fnNestedSpec)) fnNestedUptoCard

/-- THE SECOND FORM's CARD OF 'laws.FnGiveMany'. -/
def fnGiveManyUptoCard : Claim7 := { stood := { row := fnGiveManyUptoRow, standIns := [], harness := (true, "ef05ee65d6106e3426b699e69f3eca691b8a4337461950217a104e40f00c0998"), looks := false }, kinds := [], alts := [], laidByText := true, laidKinds := [.data, .data, .data], laidTests := true, laidLooks := .later }
def FnGiveManyUptoCardSaid : Prop := Claim7.holds Tryd.pinned (.plain (OpenSpec.upto fnGiveManySpec)) fnGiveManyUptoCard

/-- THE SECOND FORM's CARD OF 'laws.FnPlacesOf'. -/
def fnPlacesOfUptoCard : Claim7 := { stood := { row := fnPlacesOfUptoRow, standIns := [], harness := (true, "ef05ee65d6106e3426b699e69f3eca691b8a4337461950217a104e40f00c0998"), looks := false }, kinds := [], alts := [], laidByText := true, laidKinds := [.data, .data, .data], laidTests := true, laidLooks := .later }
def FnPlacesOfUptoCardSaid : Prop := Claim7.holds Tryd.pinned (.plain (OpenSpec.upto fnPlacesOfSpec)) fnPlacesOfUptoCard
end Rows
end Go.Proofs.YtpipbkefelcmbaaDoor
