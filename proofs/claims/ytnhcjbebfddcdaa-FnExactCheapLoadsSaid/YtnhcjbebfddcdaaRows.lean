/-
  No cell of these rows narrows 'for every input' (looked for: loops, veiled, ifaces, maps, wideKeys, modest, calm, conditions, laid).
  DERIVED. THE GIVEN ROWS OF THIS SEAT. 12 by the template 'for every input the law returns true; each argument reads behind the call as it read before'; 0 by the template 'total and deterministic' (their statements: YtnhcjbebfddcdaaTotals.lean).
  GIVEN WITH THE SEED: the statements are not yours to turn. If you find one false, say at which input.
  Laid BY PROGRAM, IN A SANDBOX (cutbox-rows.mjs): the forced cells as the released guide's own fill.sh prints them over the translation fb72b2eef31af7cd… (all of the seat's roots in one cut). By AI agents, Wed Nov 11 2026. No macro, syntax, notation, axiom, sorry.
-/
import Derived.Test.YtnhcjbebfddcdaaChecked
import GoSem.Claim
import GoSem.ClaimJoined
import GoSem.ClaimMapViews
import Derived.JoinedTies
import Derived.KernelRfl
namespace Go.Proofs.Ytnhcjbebfddcdaa
/- THE CELL 'sum', in the pinned program and in every row, IS THE sha256 OF THE DUMP (.gsa) THAT YtnhcjbebfddcdaaProg.lean LOADS. Nothing in Lean hashes anything: it is a label: what it is worth is what the hold of that sum in a sandbox is worth. -/
noncomputable def Try.pinned : Pinned := { name := "ytnhcjbebfddcdaa", sum := "fb72b2eef31af7cd97b29b5c51556cf1b5142fd8e9037f35315305a9025ae7c9", checked := Try.checked }
namespace Rows
def none {H : Type} : Left H := { results := [], args := [] }

/-- 'laws.FnExactLoadCost': WHATEVER THE INPUT: true; the input reads as it did. -/
def fnExactLoadCostSpec : ChangeSpec := { name := "fnExactLoadCost", fn := fun _ => fun
  | [d1, d2] => { results := [.lit (.bool true)], args := [d1, d2] }
  | _ => none }
def fnExactLoadCostRow : OpenClaim := { program := "ytnhcjbebfddcdaa", sum := "fb72b2eef31af7cd97b29b5c51556cf1b5142fd8e9037f35315305a9025ae7c9", func := "loop.example/parkinghouse/laws.FnExactLoadCost", spec := "fnExactLoadCost", apart := false }
def FnExactLoadCostSaid : Prop := fnExactLoadCostRow.holds Try.pinned (OpenSpec.ofChange fnExactLoadCostSpec)

/-- ITS FALSE NEIGHBOUR: 'it returns false'. Refute it at one input. -/
def fnExactLoadCostWrong : ChangeSpec := { name := "fnExactLoadCost", fn := fun _ => fun
  | [d1, d2] => { results := [.lit (.bool false)], args := [d1, d2] }
  | _ => none }
def FnExactLoadCostWrongFalsely : Prop := fnExactLoadCostRow.holds Try.pinned (OpenSpec.ofChange fnExactLoadCostWrong)

/-- 'laws.FnExactPlanLoad': WHATEVER THE INPUT: true; the input reads as it did. -/
def fnExactPlanLoadSpec : ChangeSpec := { name := "fnExactPlanLoad", fn := fun _ => fun
  | [d1, d2] => { results := [.lit (.bool true)], args := [d1, d2] }
  | _ => none }
def fnExactPlanLoadRow : OpenClaim := { program := "ytnhcjbebfddcdaa", sum := "fb72b2eef31af7cd97b29b5c51556cf1b5142fd8e9037f35315305a9025ae7c9", func := "loop.example/parkinghouse/laws.FnExactPlanLoad", spec := "fnExactPlanLoad", apart := false }
def FnExactPlanLoadSaid : Prop := fnExactPlanLoadRow.holds Try.pinned (OpenSpec.ofChange fnExactPlanLoadSpec)

/-- ITS FALSE NEIGHBOUR: 'it returns false'. Refute it at one input. -/
def fnExactPlanLoadWrong : ChangeSpec := { name := "fnExactPlanLoad", fn := fun _ => fun
  | [d1, d2] => { results := [.lit (.bool false)], args := [d1, d2] }
  | _ => none }
def FnExactPlanLoadWrongFalsely : Prop := fnExactPlanLoadRow.holds Try.pinned (OpenSpec.ofChange fnExactPlanLoadWrong)

/-- 'laws.FnExactNeedsValid': WHATEVER THE INPUT: true; the input reads as it did. -/
def fnExactNeedsValidSpec : ChangeSpec := { name := "fnExactNeedsValid", fn := fun _ => fun
  | [d] => { results := [.lit (.bool true)], args := [d] }
  | _ => none }
def fnExactNeedsValidRow : OpenClaim := { program := "ytnhcjbebfddcdaa", sum := "fb72b2eef31af7cd97b29b5c51556cf1b5142fd8e9037f35315305a9025ae7c9", func := "loop.example/parkinghouse/laws.FnExactNeedsValid", spec := "fnExactNeedsValid", apart := false }
def FnExactNeedsValidSaid : Prop := fnExactNeedsValidRow.holds Try.pinned (OpenSpec.ofChange fnExactNeedsValidSpec)

/-- ITS FALSE NEIGHBOUR: 'it returns false'. Refute it at one input. -/
def fnExactNeedsValidWrong : ChangeSpec := { name := "fnExactNeedsValid", fn := fun _ => fun
  | [d] => { results := [.lit (.bool false)], args := [d] }
  | _ => none }
def FnExactNeedsValidWrongFalsely : Prop := fnExactNeedsValidRow.holds Try.pinned (OpenSpec.ofChange fnExactNeedsValidWrong)

/-- 'laws.FnExactPlanAll': WHATEVER THE INPUT: true; the input reads as it did. -/
def fnExactPlanAllSpec : ChangeSpec := { name := "fnExactPlanAll", fn := fun _ => fun
  | [d] => { results := [.lit (.bool true)], args := [d] }
  | _ => none }
def fnExactPlanAllRow : OpenClaim := { program := "ytnhcjbebfddcdaa", sum := "fb72b2eef31af7cd97b29b5c51556cf1b5142fd8e9037f35315305a9025ae7c9", func := "loop.example/parkinghouse/laws.FnExactPlanAll", spec := "fnExactPlanAll", apart := false }
def FnExactPlanAllSaid : Prop := fnExactPlanAllRow.holds Try.pinned (OpenSpec.ofChange fnExactPlanAllSpec)

/-- ITS FALSE NEIGHBOUR: 'it returns false'. Refute it at one input. -/
def fnExactPlanAllWrong : ChangeSpec := { name := "fnExactPlanAll", fn := fun _ => fun
  | [d] => { results := [.lit (.bool false)], args := [d] }
  | _ => none }
def FnExactPlanAllWrongFalsely : Prop := fnExactPlanAllRow.holds Try.pinned (OpenSpec.ofChange fnExactPlanAllWrong)

/-- 'laws.FnExactCutUnits': WHATEVER THE INPUT: true; the input reads as it did. -/
def fnExactCutUnitsSpec : ChangeSpec := { name := "fnExactCutUnits", fn := fun _ => fun
  | [d1, d2, d3] => { results := [.lit (.bool true)], args := [d1, d2, d3] }
  | _ => none }
def fnExactCutUnitsRow : OpenClaim := { program := "ytnhcjbebfddcdaa", sum := "fb72b2eef31af7cd97b29b5c51556cf1b5142fd8e9037f35315305a9025ae7c9", func := "loop.example/parkinghouse/laws.FnExactCutUnits", spec := "fnExactCutUnits", apart := false }
def FnExactCutUnitsSaid : Prop := fnExactCutUnitsRow.holds Try.pinned (OpenSpec.ofChange fnExactCutUnitsSpec)

/-- ITS FALSE NEIGHBOUR: 'it returns false'. Refute it at one input. -/
def fnExactCutUnitsWrong : ChangeSpec := { name := "fnExactCutUnits", fn := fun _ => fun
  | [d1, d2, d3] => { results := [.lit (.bool false)], args := [d1, d2, d3] }
  | _ => none }
def FnExactCutUnitsWrongFalsely : Prop := fnExactCutUnitsRow.holds Try.pinned (OpenSpec.ofChange fnExactCutUnitsWrong)

/-- 'laws.FnExactMostUnits': WHATEVER THE INPUT: true; the input reads as it did. -/
def fnExactMostUnitsSpec : ChangeSpec := { name := "fnExactMostUnits", fn := fun _ => fun
  | [d1, d2] => { results := [.lit (.bool true)], args := [d1, d2] }
  | _ => none }
def fnExactMostUnitsRow : OpenClaim := { program := "ytnhcjbebfddcdaa", sum := "fb72b2eef31af7cd97b29b5c51556cf1b5142fd8e9037f35315305a9025ae7c9", func := "loop.example/parkinghouse/laws.FnExactMostUnits", spec := "fnExactMostUnits", apart := false }
def FnExactMostUnitsSaid : Prop := fnExactMostUnitsRow.holds Try.pinned (OpenSpec.ofChange fnExactMostUnitsSpec)

/-- ITS FALSE NEIGHBOUR: 'it returns false'. Refute it at one input. -/
def fnExactMostUnitsWrong : ChangeSpec := { name := "fnExactMostUnits", fn := fun _ => fun
  | [d1, d2] => { results := [.lit (.bool false)], args := [d1, d2] }
  | _ => none }
def FnExactMostUnitsWrongFalsely : Prop := fnExactMostUnitsRow.holds Try.pinned (OpenSpec.ofChange fnExactMostUnitsWrong)

/-- 'laws.FnExactEnough': WHATEVER THE INPUT: true; the input reads as it did. -/
def fnExactEnoughSpec : ChangeSpec := { name := "fnExactEnough", fn := fun _ => fun
  | [d1, d2] => { results := [.lit (.bool true)], args := [d1, d2] }
  | _ => none }
def fnExactEnoughRow : OpenClaim := { program := "ytnhcjbebfddcdaa", sum := "fb72b2eef31af7cd97b29b5c51556cf1b5142fd8e9037f35315305a9025ae7c9", func := "loop.example/parkinghouse/laws.FnExactEnough", spec := "fnExactEnough", apart := false }
def FnExactEnoughSaid : Prop := fnExactEnoughRow.holds Try.pinned (OpenSpec.ofChange fnExactEnoughSpec)

/-- ITS FALSE NEIGHBOUR: 'it returns false'. Refute it at one input. -/
def fnExactEnoughWrong : ChangeSpec := { name := "fnExactEnough", fn := fun _ => fun
  | [d1, d2] => { results := [.lit (.bool false)], args := [d1, d2] }
  | _ => none }
def FnExactEnoughWrongFalsely : Prop := fnExactEnoughRow.holds Try.pinned (OpenSpec.ofChange fnExactEnoughWrong)

/-- 'laws.FnExactLeastFeed': WHATEVER THE INPUT: true; the input reads as it did. -/
def fnExactLeastFeedSpec : ChangeSpec := { name := "fnExactLeastFeed", fn := fun _ => fun
  | [d] => { results := [.lit (.bool true)], args := [d] }
  | _ => none }
def fnExactLeastFeedRow : OpenClaim := { program := "ytnhcjbebfddcdaa", sum := "fb72b2eef31af7cd97b29b5c51556cf1b5142fd8e9037f35315305a9025ae7c9", func := "loop.example/parkinghouse/laws.FnExactLeastFeed", spec := "fnExactLeastFeed", apart := false }
def FnExactLeastFeedSaid : Prop := fnExactLeastFeedRow.holds Try.pinned (OpenSpec.ofChange fnExactLeastFeedSpec)

/-- ITS FALSE NEIGHBOUR: 'it returns false'. Refute it at one input. -/
def fnExactLeastFeedWrong : ChangeSpec := { name := "fnExactLeastFeed", fn := fun _ => fun
  | [d] => { results := [.lit (.bool false)], args := [d] }
  | _ => none }
def FnExactLeastFeedWrongFalsely : Prop := fnExactLeastFeedRow.holds Try.pinned (OpenSpec.ofChange fnExactLeastFeedWrong)

/-- 'laws.FnExactTightHours': WHATEVER THE INPUT: true; the input reads as it did. -/
def fnExactTightHoursSpec : ChangeSpec := { name := "fnExactTightHours", fn := fun _ => fun
  | [d1, d2] => { results := [.lit (.bool true)], args := [d1, d2] }
  | _ => none }
def fnExactTightHoursRow : OpenClaim := { program := "ytnhcjbebfddcdaa", sum := "fb72b2eef31af7cd97b29b5c51556cf1b5142fd8e9037f35315305a9025ae7c9", func := "loop.example/parkinghouse/laws.FnExactTightHours", spec := "fnExactTightHours", apart := false }
def FnExactTightHoursSaid : Prop := fnExactTightHoursRow.holds Try.pinned (OpenSpec.ofChange fnExactTightHoursSpec)

/-- ITS FALSE NEIGHBOUR: 'it returns false'. Refute it at one input. -/
def fnExactTightHoursWrong : ChangeSpec := { name := "fnExactTightHours", fn := fun _ => fun
  | [d1, d2] => { results := [.lit (.bool false)], args := [d1, d2] }
  | _ => none }
def FnExactTightHoursWrongFalsely : Prop := fnExactTightHoursRow.holds Try.pinned (OpenSpec.ofChange fnExactTightHoursWrong)

/-- 'laws.FnExactPlanValid': WHATEVER THE INPUT: true; the input reads as it did. -/
def fnExactPlanValidSpec : ChangeSpec := { name := "fnExactPlanValid", fn := fun _ => fun
  | [d1, d2, d3] => { results := [.lit (.bool true)], args := [d1, d2, d3] }
  | _ => none }
def fnExactPlanValidRow : OpenClaim := { program := "ytnhcjbebfddcdaa", sum := "fb72b2eef31af7cd97b29b5c51556cf1b5142fd8e9037f35315305a9025ae7c9", func := "loop.example/parkinghouse/laws.FnExactPlanValid", spec := "fnExactPlanValid", apart := false }
def FnExactPlanValidSaid : Prop := fnExactPlanValidRow.holds Try.pinned (OpenSpec.ofChange fnExactPlanValidSpec)

/-- ITS FALSE NEIGHBOUR: 'it returns false'. Refute it at one input. -/
def fnExactPlanValidWrong : ChangeSpec := { name := "fnExactPlanValid", fn := fun _ => fun
  | [d1, d2, d3] => { results := [.lit (.bool false)], args := [d1, d2, d3] }
  | _ => none }
def FnExactPlanValidWrongFalsely : Prop := fnExactPlanValidRow.holds Try.pinned (OpenSpec.ofChange fnExactPlanValidWrong)

/-- 'laws.FnExactCheapLoads': WHATEVER THE INPUT: true; the input reads as it did. -/
def fnExactCheapLoadsSpec : ChangeSpec := { name := "fnExactCheapLoads", fn := fun _ => fun
  | [d1, d2, d3] => { results := [.lit (.bool true)], args := [d1, d2, d3] }
  | _ => none }
def fnExactCheapLoadsRow : OpenClaim := { program := "ytnhcjbebfddcdaa", sum := "fb72b2eef31af7cd97b29b5c51556cf1b5142fd8e9037f35315305a9025ae7c9", func := "loop.example/parkinghouse/laws.FnExactCheapLoads", spec := "fnExactCheapLoads", apart := false }
def FnExactCheapLoadsSaid : Prop := fnExactCheapLoadsRow.holds Try.pinned (OpenSpec.ofChange fnExactCheapLoadsSpec)

/-- ITS FALSE NEIGHBOUR: 'it returns false'. Refute it at one input. -/
def fnExactCheapLoadsWrong : ChangeSpec := { name := "fnExactCheapLoads", fn := fun _ => fun
  | [d1, d2, d3] => { results := [.lit (.bool false)], args := [d1, d2, d3] }
  | _ => none }
def FnExactCheapLoadsWrongFalsely : Prop := fnExactCheapLoadsRow.holds Try.pinned (OpenSpec.ofChange fnExactCheapLoadsWrong)

/-- 'laws.FnExactCheapCost': WHATEVER THE INPUT: true; the input reads as it did. -/
def fnExactCheapCostSpec : ChangeSpec := { name := "fnExactCheapCost", fn := fun _ => fun
  | [d1, d2, d3] => { results := [.lit (.bool true)], args := [d1, d2, d3] }
  | _ => none }
def fnExactCheapCostRow : OpenClaim := { program := "ytnhcjbebfddcdaa", sum := "fb72b2eef31af7cd97b29b5c51556cf1b5142fd8e9037f35315305a9025ae7c9", func := "loop.example/parkinghouse/laws.FnExactCheapCost", spec := "fnExactCheapCost", apart := false }
def FnExactCheapCostSaid : Prop := fnExactCheapCostRow.holds Try.pinned (OpenSpec.ofChange fnExactCheapCostSpec)

/-- ITS FALSE NEIGHBOUR: 'it returns false'. Refute it at one input. -/
def fnExactCheapCostWrong : ChangeSpec := { name := "fnExactCheapCost", fn := fun _ => fun
  | [d1, d2, d3] => { results := [.lit (.bool false)], args := [d1, d2, d3] }
  | _ => none }
def FnExactCheapCostWrongFalsely : Prop := fnExactCheapCostRow.holds Try.pinned (OpenSpec.ofChange fnExactCheapCostWrong)

/- THE SECOND FORM. 'bulk': how many values and letters a reading holds, each counted each time it is reached (what is shared counts as often as it is met; a slice's spare places count too). A statement '..UptoSaid' is the law's where the arguments, and the package variables that the reading takes, are together of bulk at most 1048576: NARROWER than '..Said'. Prove '..Said' where nothing that the law and all that it calls make is longer than what came in: it says more and counts as full. Else prove '..UptoSaid'. A law counts once. -/
mutual
def uptoBulk {H : Type} : DataW H → Nat
  | .lit (.string bytes) => bytes.length + 1
  | .lit _ => 1
  | .nil => 1
  | .ptr d => uptoBulk d + 1
  | .slice elems spare => uptoBulkAll elems + uptoBulkAll spare + 1
  | .agg parts => uptoBulkAll parts + 1
  | .iface _ d => uptoBulk d + 1
  | .map entries => uptoBulkEntries entries + 1
  | .held _ => 1
def uptoBulkAll {H : Type} : List (DataW H) → Nat
  | [] => 0
  | d :: r => uptoBulk d + uptoBulkAll r
def uptoBulkEntries {H : Type} : List (Lit × DataW H) → Nat
  | [] => 0
  | x :: r => uptoBulkEntry x + uptoBulkEntries r
def uptoBulkEntry {H : Type} : Lit × DataW H → Nat
  | (.string bytes, d) => bytes.length + uptoBulk d + 1
  | (_, d) => uptoBulk d + 1
 end
def uptoSmall : (H : Type) → List (DataW H) → Bool := fun _ ds => decide (uptoBulkAll ds ≤ 1048576)
def OpenSpec.upto (s : _root_.Go.ChangeSpec) : _root_.Go.OpenSpec := { _root_.Go.OpenSpec.ofChange s with cond := some uptoSmall }

/-- 'laws.FnExactLoadCost', WHERE WHAT IT READS IS OF BULK AT MOST 1048576: true; the input reads as it did. -/
def fnExactLoadCostUptoRow : OpenClaim := { program := "ytnhcjbebfddcdaa", sum := "fb72b2eef31af7cd97b29b5c51556cf1b5142fd8e9037f35315305a9025ae7c9", func := "loop.example/parkinghouse/laws.FnExactLoadCost", spec := "fnExactLoadCost", apart := false, narrowed := true }
def FnExactLoadCostUptoSaid : Prop := fnExactLoadCostUptoRow.holds Try.pinned (OpenSpec.upto fnExactLoadCostSpec)

/-- 'laws.FnExactPlanLoad', WHERE WHAT IT READS IS OF BULK AT MOST 1048576: true; the input reads as it did. -/
def fnExactPlanLoadUptoRow : OpenClaim := { program := "ytnhcjbebfddcdaa", sum := "fb72b2eef31af7cd97b29b5c51556cf1b5142fd8e9037f35315305a9025ae7c9", func := "loop.example/parkinghouse/laws.FnExactPlanLoad", spec := "fnExactPlanLoad", apart := false, narrowed := true }
def FnExactPlanLoadUptoSaid : Prop := fnExactPlanLoadUptoRow.holds Try.pinned (OpenSpec.upto fnExactPlanLoadSpec)

/-- 'laws.FnExactNeedsValid', WHERE WHAT IT READS IS OF BULK AT MOST 1048576: true; the input reads as it did. -/
def fnExactNeedsValidUptoRow : OpenClaim := { program := "ytnhcjbebfddcdaa", sum := "fb72b2eef31af7cd97b29b5c51556cf1b5142fd8e9037f35315305a9025ae7c9", func := "loop.example/parkinghouse/laws.FnExactNeedsValid", spec := "fnExactNeedsValid", apart := false, narrowed := true }
def FnExactNeedsValidUptoSaid : Prop := fnExactNeedsValidUptoRow.holds Try.pinned (OpenSpec.upto fnExactNeedsValidSpec)

/-- 'laws.FnExactPlanAll', WHERE WHAT IT READS IS OF BULK AT MOST 1048576: true; the input reads as it did. -/
def fnExactPlanAllUptoRow : OpenClaim := { program := "ytnhcjbebfddcdaa", sum := "fb72b2eef31af7cd97b29b5c51556cf1b5142fd8e9037f35315305a9025ae7c9", func := "loop.example/parkinghouse/laws.FnExactPlanAll", spec := "fnExactPlanAll", apart := false, narrowed := true }
def FnExactPlanAllUptoSaid : Prop := fnExactPlanAllUptoRow.holds Try.pinned (OpenSpec.upto fnExactPlanAllSpec)

/-- 'laws.FnExactCutUnits', WHERE WHAT IT READS IS OF BULK AT MOST 1048576: true; the input reads as it did. -/
def fnExactCutUnitsUptoRow : OpenClaim := { program := "ytnhcjbebfddcdaa", sum := "fb72b2eef31af7cd97b29b5c51556cf1b5142fd8e9037f35315305a9025ae7c9", func := "loop.example/parkinghouse/laws.FnExactCutUnits", spec := "fnExactCutUnits", apart := false, narrowed := true }
def FnExactCutUnitsUptoSaid : Prop := fnExactCutUnitsUptoRow.holds Try.pinned (OpenSpec.upto fnExactCutUnitsSpec)

/-- 'laws.FnExactMostUnits', WHERE WHAT IT READS IS OF BULK AT MOST 1048576: true; the input reads as it did. -/
def fnExactMostUnitsUptoRow : OpenClaim := { program := "ytnhcjbebfddcdaa", sum := "fb72b2eef31af7cd97b29b5c51556cf1b5142fd8e9037f35315305a9025ae7c9", func := "loop.example/parkinghouse/laws.FnExactMostUnits", spec := "fnExactMostUnits", apart := false, narrowed := true }
def FnExactMostUnitsUptoSaid : Prop := fnExactMostUnitsUptoRow.holds Try.pinned (OpenSpec.upto fnExactMostUnitsSpec)

/-- 'laws.FnExactEnough', WHERE WHAT IT READS IS OF BULK AT MOST 1048576: true; the input reads as it did. -/
def fnExactEnoughUptoRow : OpenClaim := { program := "ytnhcjbebfddcdaa", sum := "fb72b2eef31af7cd97b29b5c51556cf1b5142fd8e9037f35315305a9025ae7c9", func := "loop.example/parkinghouse/laws.FnExactEnough", spec := "fnExactEnough", apart := false, narrowed := true }
def FnExactEnoughUptoSaid : Prop := fnExactEnoughUptoRow.holds Try.pinned (OpenSpec.upto fnExactEnoughSpec)

/-- 'laws.FnExactLeastFeed', WHERE WHAT IT READS IS OF BULK AT MOST 1048576: true; the input reads as it did. -/
def fnExactLeastFeedUptoRow : OpenClaim := { program := "ytnhcjbebfddcdaa", sum := "fb72b2eef31af7cd97b29b5c51556cf1b5142fd8e9037f35315305a9025ae7c9", func := "loop.example/parkinghouse/laws.FnExactLeastFeed", spec := "fnExactLeastFeed", apart := false, narrowed := true }
def FnExactLeastFeedUptoSaid : Prop := fnExactLeastFeedUptoRow.holds Try.pinned (OpenSpec.upto fnExactLeastFeedSpec)

/-- 'laws.FnExactTightHours', WHERE WHAT IT READS IS OF BULK AT MOST 1048576: true; the input reads as it did. -/
def fnExactTightHoursUptoRow : OpenClaim := { program := "ytnhcjbebfddcdaa", sum := "fb72b2eef31af7cd97b29b5c51556cf1b5142fd8e9037f35315305a9025ae7c9", func := "loop.example/parkinghouse/laws.FnExactTightHours", spec := "fnExactTightHours", apart := false, narrowed := true }
def FnExactTightHoursUptoSaid : Prop := fnExactTightHoursUptoRow.holds Try.pinned (OpenSpec.upto fnExactTightHoursSpec)

/-- 'laws.FnExactPlanValid', WHERE WHAT IT READS IS OF BULK AT MOST 1048576: true; the input reads as it did. -/
def fnExactPlanValidUptoRow : OpenClaim := { program := "ytnhcjbebfddcdaa", sum := "fb72b2eef31af7cd97b29b5c51556cf1b5142fd8e9037f35315305a9025ae7c9", func := "loop.example/parkinghouse/laws.FnExactPlanValid", spec := "fnExactPlanValid", apart := false, narrowed := true }
def FnExactPlanValidUptoSaid : Prop := fnExactPlanValidUptoRow.holds Try.pinned (OpenSpec.upto fnExactPlanValidSpec)

/-- 'laws.FnExactCheapLoads', WHERE WHAT IT READS IS OF BULK AT MOST 1048576: true; the input reads as it did. -/
def fnExactCheapLoadsUptoRow : OpenClaim := { program := "ytnhcjbebfddcdaa", sum := "fb72b2eef31af7cd97b29b5c51556cf1b5142fd8e9037f35315305a9025ae7c9", func := "loop.example/parkinghouse/laws.FnExactCheapLoads", spec := "fnExactCheapLoads", apart := false, narrowed := true }
def FnExactCheapLoadsUptoSaid : Prop := fnExactCheapLoadsUptoRow.holds Try.pinned (OpenSpec.upto fnExactCheapLoadsSpec)

/-- 'laws.FnExactCheapCost', WHERE WHAT IT READS IS OF BULK AT MOST 1048576: true; the input reads as it did. -/
def fnExactCheapCostUptoRow : OpenClaim := { program := "ytnhcjbebfddcdaa", sum := "fb72b2eef31af7cd97b29b5c51556cf1b5142fd8e9037f35315305a9025ae7c9", func := "loop.example/parkinghouse/laws.FnExactCheapCost", spec := "fnExactCheapCost", apart := false, narrowed := true }
def FnExactCheapCostUptoSaid : Prop := fnExactCheapCostUptoRow.holds Try.pinned (OpenSpec.upto fnExactCheapCostSpec)

end Rows
end Go.Proofs.Ytnhcjbebfddcdaa
