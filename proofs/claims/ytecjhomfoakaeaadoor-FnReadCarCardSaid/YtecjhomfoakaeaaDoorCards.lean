/-
  DERIVED. GIVEN WITH THE SEED: THE CARDS: each row of YtecjhomfoakaeaaDoorRows.lean that lists a variable, with what it lists TIED to the program's text (the seventh form; the later family's looks); each row that meets fmt, with fmt's text TOLD by the authors' own Lean function (tested against real Go, not proved from fmt's source: count such statements apart). THE CARD IS WHAT COUNTS. Prove the row's statement (the work); the ties are given (YtecjhomfoakaeaaDoorTie.lean); close each card by the builder's one call (the guide's Derived/Test/ToyasCard.lean, 'card_holds'). Laid BY PROGRAM, IN A SANDBOX (cutbox-door.mjs). By AI agents, Wed Nov 11 2026. No macro, syntax, notation, axiom, sorry.
-/
import Derived.Test.YtecjhomfoakaeaaDoorRows
import GoSem.ClaimSeven
namespace Go.Proofs.YtecjhomfoakaeaaDoor
namespace Rows

/-- THE TIED CARD OF 'laws.FnExactReadCar'. -/
def fnExactReadCarCard : Claim7 := { stood := { row := fnExactReadCarRow, standIns := [], harness := (true, "a9e301f3a9869612bc4f2d4d162d64508b6e270fd6f69cb47e3c3c2d4c48b5d2"), looks := false }, kinds := [], alts := [], laidByText := true, laidKinds := [.data, .data, .data, .data, .pinned], laidTests := true, laidLooks := .later }
def FnExactReadCarCardSaid : Prop := Claim7.holds Tryd.pinned (.plain (OpenSpec.ofChange fnExactReadCarSpec)) fnExactReadCarCard

/-- THE TIED CARD OF 'laws.FnCarText'. -/
def fnCarTextCard : Claim7 := { stood := { row := fnCarTextRow, standIns := [], harness := (true, "a9e301f3a9869612bc4f2d4d162d64508b6e270fd6f69cb47e3c3c2d4c48b5d2"), looks := false }, kinds := [], alts := [], laidByText := true, laidKinds := [.data, .data, .data, .data, .pinned], laidTests := true, laidLooks := .later }
def FnCarTextCardSaid : Prop := Claim7.holds Tryd.pinned (.plain (OpenSpec.ofChange fnCarTextSpec)) fnCarTextCard

/-- THE TIED CARD OF 'laws.FnReadCar'. -/
def fnReadCarCard : Claim7 := { stood := { row := fnReadCarRow, standIns := [], harness := (true, "a9e301f3a9869612bc4f2d4d162d64508b6e270fd6f69cb47e3c3c2d4c48b5d2"), looks := false }, kinds := [], alts := [], laidByText := true, laidKinds := [.data, .data, .data, .data, .pinned], laidTests := true, laidLooks := .later }
def FnReadCarCardSaid : Prop := Claim7.holds Tryd.pinned (.plain (OpenSpec.ofChange fnReadCarSpec)) fnReadCarCard

/-- THE SECOND FORM's CARD OF 'laws.FnExactReadCar'. -/
def fnExactReadCarUptoCard : Claim7 := { stood := { row := fnExactReadCarUptoRow, standIns := [], harness := (true, "a9e301f3a9869612bc4f2d4d162d64508b6e270fd6f69cb47e3c3c2d4c48b5d2"), looks := false }, kinds := [], alts := [], laidByText := true, laidKinds := [.data, .data, .data, .data, .pinned], laidTests := true, laidLooks := .later }
def FnExactReadCarUptoCardSaid : Prop := Claim7.holds Tryd.pinned (.plain (OpenSpec.upto fnExactReadCarSpec)) fnExactReadCarUptoCard

/-- THE SECOND FORM's CARD OF 'laws.FnCarText'. -/
def fnCarTextUptoCard : Claim7 := { stood := { row := fnCarTextUptoRow, standIns := [], harness := (true, "a9e301f3a9869612bc4f2d4d162d64508b6e270fd6f69cb47e3c3c2d4c48b5d2"), looks := false }, kinds := [], alts := [], laidByText := true, laidKinds := [.data, .data, .data, .data, .pinned], laidTests := true, laidLooks := .later }
def FnCarTextUptoCardSaid : Prop := Claim7.holds Tryd.pinned (.plain (OpenSpec.upto fnCarTextSpec)) fnCarTextUptoCard

/-- THE SECOND FORM's CARD OF 'laws.FnReadCar'. -/
def fnReadCarUptoCard : Claim7 := { stood := { row := fnReadCarUptoRow, standIns := [], harness := (true, "a9e301f3a9869612bc4f2d4d162d64508b6e270fd6f69cb47e3c3c2d4c48b5d2"), looks := false }, kinds := [], alts := [], laidByText := true, laidKinds := [.data, .data, .data, .data, .pinned], laidTests := true, laidLooks := .later }
def FnReadCarUptoCardSaid : Prop := Claim7.holds Tryd.pinned (.plain (OpenSpec.upto fnReadCarSpec)) fnReadCarUptoCard
end Rows
end Go.Proofs.YtecjhomfoakaeaaDoor
