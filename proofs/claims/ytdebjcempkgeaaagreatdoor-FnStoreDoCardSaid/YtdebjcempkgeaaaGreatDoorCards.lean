/-
  DERIVED. GIVEN WITH THE SEED: THE CARDS: each row of YtdebjcempkgeaaaGreatDoorRows.lean that lists a variable, with what it lists TIED to the program's text (the seventh form; the later family's looks); each row that meets fmt, with fmt's text TOLD by the authors' own Lean function (tested against real Go, not proved from fmt's source: count such statements apart). THE CARD IS WHAT COUNTS. Prove the row's statement (the work); the ties are given (YtdebjcempkgeaaaGreatDoorTie.lean); close each card by the builder's one call (the guide's Derived/Test/ToyasCard.lean, 'card_holds'). Laid BY PROGRAM, IN A SANDBOX (cutbox-door.mjs). By AI agents, Wed Nov 11 2026. No macro, syntax, notation, axiom, sorry.
-/
import Derived.Test.YtdebjcempkgeaaaGreatDoorRows
import GoSem.ClaimSeven
namespace Go.Proofs.YtdebjcempkgeaaaGreatDoor
namespace Rows

/-- THE TIED CARD OF 'laws.FnStoreDo'. -/
def fnStoreDoCard : Claim7 := { stood := { row := fnStoreDoRow, standIns := [], harness := (true, "181e4ceb245b3751185979a286e8e36a47dd581e935c57c04ecbc2bf1eddf6d7"), looks := false }, kinds := [], alts := [], laidByText := true, laidKinds := [.data, .data, .data], laidTests := true, laidLooks := .later }
def FnStoreDoCardSaid : Prop := Claim7.holds Tryz.pinned (.plain (OpenSpec.ofChange fnStoreDoSpec)) fnStoreDoCard

/-- THE SECOND FORM's CARD OF 'laws.FnStoreDo'. -/
def fnStoreDoUptoCard : Claim7 := { stood := { row := fnStoreDoUptoRow, standIns := [], harness := (true, "181e4ceb245b3751185979a286e8e36a47dd581e935c57c04ecbc2bf1eddf6d7"), looks := false }, kinds := [], alts := [], laidByText := true, laidKinds := [.data, .data, .data], laidTests := true, laidLooks := .later }
def FnStoreDoUptoCardSaid : Prop := Claim7.holds Tryz.pinned (.plain (OpenSpec.upto fnStoreDoSpec)) fnStoreDoUptoCard
end Rows
end Go.Proofs.YtdebjcempkgeaaaGreatDoor
