/-
  DERIVED. GIVEN WITH THE SEED: THE CARDS: each row of YtpbdmghmbicciaaDoorRows.lean that lists a variable, with what it lists TIED to the program's text (the seventh form; the later family's looks); each row that meets fmt, with fmt's text TOLD by the authors' own Lean function (tested against real Go, not proved from fmt's source: count such statements apart). THE CARD IS WHAT COUNTS. Prove the row's statement (the work); the ties are given (YtpbdmghmbicciaaDoorTie.lean); close each card by the builder's one call (the guide's Derived/Test/ToyasCard.lean, 'card_holds'). Laid BY PROGRAM, IN A SANDBOX (cutbox-door.mjs). By AI agents, Wed Nov 11 2026. No macro, syntax, notation, axiom, sorry.
-/
import Derived.Test.YtpbdmghmbicciaaDoorRows
import GoSem.ClaimSeven
namespace Go.Proofs.YtpbdmghmbicciaaDoor
namespace Rows

/-- THE TIED CARD OF 'laws.FnExactCarText'. -/
def fnExactCarTextCard : Claim7 := { stood := { row := fnExactCarTextRow, standIns := [], harness := (true, "d7d97b1a94ed35e3dcb1178adb62f8f98c0ab89cfd03865382d8ae1e6028c5b9"), looks := false }, kinds := [], alts := [], laidByText := true, laidKinds := [.data, .data, .data], laidTests := true, laidLooks := .later }
def FnExactCarTextCardSaid : Prop := Claim7.holds Tryd.pinned (.plain (OpenSpec.ofChange fnExactCarTextSpec)) fnExactCarTextCard

/-- THE SECOND FORM's CARD OF 'laws.FnExactCarText'. -/
def fnExactCarTextUptoCard : Claim7 := { stood := { row := fnExactCarTextUptoRow, standIns := [], harness := (true, "d7d97b1a94ed35e3dcb1178adb62f8f98c0ab89cfd03865382d8ae1e6028c5b9"), looks := false }, kinds := [], alts := [], laidByText := true, laidKinds := [.data, .data, .data], laidTests := true, laidLooks := .later }
def FnExactCarTextUptoCardSaid : Prop := Claim7.holds Tryd.pinned (.plain (OpenSpec.upto fnExactCarTextSpec)) fnExactCarTextUptoCard
end Rows
end Go.Proofs.YtpbdmghmbicciaaDoor
