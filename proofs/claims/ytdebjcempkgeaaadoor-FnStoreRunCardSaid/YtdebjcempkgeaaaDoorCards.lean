/-
  DERIVED. GIVEN WITH THE SEED: THE CARDS: each row of YtdebjcempkgeaaaDoorRows.lean that lists a variable, with what it lists TIED to the program's text (the seventh form; the later family's looks); each row that meets fmt, with fmt's text TOLD by the authors' own Lean function (tested against real Go, not proved from fmt's source: count such statements apart). THE CARD IS WHAT COUNTS. Prove the row's statement (the work); the ties are given (YtdebjcempkgeaaaDoorTie.lean); close each card by the builder's one call (the guide's Derived/Test/ToyasCard.lean, 'card_holds'). Laid BY PROGRAM, IN A SANDBOX (cutbox-door.mjs). By AI agents, Wed Nov 11 2026. No macro, syntax, notation, axiom, sorry.
-/
import Derived.Test.YtdebjcempkgeaaaDoorRows
import GoSem.ClaimSeven
namespace Go.Proofs.YtdebjcempkgeaaaDoor
namespace Rows

/-- THE TIED CARD OF 'laws.FnStoreRun'. -/
def fnStoreRunCard : Claim7 := { stood := { row := fnStoreRunRow, standIns := [], harness := (true, "7a72eb03ae7c481964a2df59ea34f8e54fb6554090c1f99ee3e34d648b6a17ee"), looks := false }, kinds := [], alts := [], laidByText := true, laidKinds := [.data, .data, .data], laidTests := true, laidLooks := .later }
def FnStoreRunCardSaid : Prop := Claim7.holds Tryd.pinned (.plain (OpenSpec.ofChange fnStoreRunSpec)) fnStoreRunCard

/-- THE SECOND FORM's CARD OF 'laws.FnStoreRun'. -/
def fnStoreRunUptoCard : Claim7 := { stood := { row := fnStoreRunUptoRow, standIns := [], harness := (true, "7a72eb03ae7c481964a2df59ea34f8e54fb6554090c1f99ee3e34d648b6a17ee"), looks := false }, kinds := [], alts := [], laidByText := true, laidKinds := [.data, .data, .data], laidTests := true, laidLooks := .later }
def FnStoreRunUptoCardSaid : Prop := Claim7.holds Tryd.pinned (.plain (OpenSpec.upto fnStoreRunSpec)) fnStoreRunUptoCard
end Rows
end Go.Proofs.YtdebjcempkgeaaaDoor
