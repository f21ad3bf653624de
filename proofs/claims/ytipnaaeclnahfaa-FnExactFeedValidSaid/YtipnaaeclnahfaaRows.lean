/-
  No cell of these rows narrows 'for every input' (looked for: loops, veiled, ifaces, maps, wideKeys, modest, calm, conditions, laid).
  DERIVED. THE GIVEN ROWS OF THIS SEAT. 7 by the template 'for every input the law returns true; each argument reads behind the call as it read before'; 0 by the template 'total and deterministic' (their statements: YtipnaaeclnahfaaTotals.lean).
  GIVEN WITH THE SEED: the statements are not yours to turn. If you find one false, say at which input.
  Laid BY PROGRAM, IN A SANDBOX (cutbox-rows.mjs): the forced cells as the released guide's own fill.sh prints them over the translation c53391539730b3e9… (all of the seat's roots in one cut). By AI agents, Wed Nov 11 2026. No macro, syntax, notation, axiom, sorry.
-/
import Derived.Test.YtipnaaeclnahfaaChecked
import GoSem.Claim
import GoSem.ClaimJoined
import GoSem.ClaimMapViews
import Derived.JoinedTies
import Derived.KernelRfl
namespace Go.Proofs.Ytipnaaeclnahfaa
/- THE CELL 'sum', in the pinned program and in every row, IS THE sha256 OF THE DUMP (.gsa) THAT YtipnaaeclnahfaaProg.lean LOADS. Nothing in Lean hashes anything: it is a label: what it is worth is what the hold of that sum in a sandbox is worth. -/
noncomputable def Try.pinned : Pinned := { name := "ytipnaaeclnahfaa", sum := "c53391539730b3e9a2688633d839f3efdba0633c2bf4fdc0114d2166441f27a1", checked := Try.checked }
namespace Rows
def none {H : Type} : Left H := { results := [], args := [] }

/-- 'laws.FnExactNeedValid': WHATEVER THE INPUT: true; the input reads as it did. -/
def fnExactNeedValidSpec : ChangeSpec := { name := "fnExactNeedValid", fn := fun _ => fun
  | [d] => { results := [.lit (.bool true)], args := [d] }
  | _ => none }
def fnExactNeedValidRow : OpenClaim := { program := "ytipnaaeclnahfaa", sum := "c53391539730b3e9a2688633d839f3efdba0633c2bf4fdc0114d2166441f27a1", func := "loop.example/parkinghouse/laws.FnExactNeedValid", spec := "fnExactNeedValid", apart := false }
def FnExactNeedValidSaid : Prop := fnExactNeedValidRow.holds Try.pinned (OpenSpec.ofChange fnExactNeedValidSpec)

/-- ITS FALSE NEIGHBOUR: 'it returns false'. Refute it at one input. -/
def fnExactNeedValidWrong : ChangeSpec := { name := "fnExactNeedValid", fn := fun _ => fun
  | [d] => { results := [.lit (.bool false)], args := [d] }
  | _ => none }
def FnExactNeedValidWrongFalsely : Prop := fnExactNeedValidRow.holds Try.pinned (OpenSpec.ofChange fnExactNeedValidWrong)

/-- 'laws.FnExactCarValid': WHATEVER THE INPUT: true; the input reads as it did. -/
def fnExactCarValidSpec : ChangeSpec := { name := "fnExactCarValid", fn := fun _ => fun
  | [d] => { results := [.lit (.bool true)], args := [d] }
  | _ => none }
def fnExactCarValidRow : OpenClaim := { program := "ytipnaaeclnahfaa", sum := "c53391539730b3e9a2688633d839f3efdba0633c2bf4fdc0114d2166441f27a1", func := "loop.example/parkinghouse/laws.FnExactCarValid", spec := "fnExactCarValid", apart := false }
def FnExactCarValidSaid : Prop := fnExactCarValidRow.holds Try.pinned (OpenSpec.ofChange fnExactCarValidSpec)

/-- ITS FALSE NEIGHBOUR: 'it returns false'. Refute it at one input. -/
def fnExactCarValidWrong : ChangeSpec := { name := "fnExactCarValid", fn := fun _ => fun
  | [d] => { results := [.lit (.bool false)], args := [d] }
  | _ => none }
def FnExactCarValidWrongFalsely : Prop := fnExactCarValidRow.holds Try.pinned (OpenSpec.ofChange fnExactCarValidWrong)

/-- 'laws.FnExactFits': WHATEVER THE INPUT: true; the input reads as it did. -/
def fnExactFitsSpec : ChangeSpec := { name := "fnExactFits", fn := fun _ => fun
  | [d1, d2] => { results := [.lit (.bool true)], args := [d1, d2] }
  | _ => none }
def fnExactFitsRow : OpenClaim := { program := "ytipnaaeclnahfaa", sum := "c53391539730b3e9a2688633d839f3efdba0633c2bf4fdc0114d2166441f27a1", func := "loop.example/parkinghouse/laws.FnExactFits", spec := "fnExactFits", apart := false }
def FnExactFitsSaid : Prop := fnExactFitsRow.holds Try.pinned (OpenSpec.ofChange fnExactFitsSpec)

/-- ITS FALSE NEIGHBOUR: 'it returns false'. Refute it at one input. -/
def fnExactFitsWrong : ChangeSpec := { name := "fnExactFits", fn := fun _ => fun
  | [d1, d2] => { results := [.lit (.bool false)], args := [d1, d2] }
  | _ => none }
def FnExactFitsWrongFalsely : Prop := fnExactFitsRow.holds Try.pinned (OpenSpec.ofChange fnExactFitsWrong)

/-- 'laws.FnExactPlanUnits': WHATEVER THE INPUT: true; the input reads as it did. -/
def fnExactPlanUnitsSpec : ChangeSpec := { name := "fnExactPlanUnits", fn := fun _ => fun
  | [d] => { results := [.lit (.bool true)], args := [d] }
  | _ => none }
def fnExactPlanUnitsRow : OpenClaim := { program := "ytipnaaeclnahfaa", sum := "c53391539730b3e9a2688633d839f3efdba0633c2bf4fdc0114d2166441f27a1", func := "loop.example/parkinghouse/laws.FnExactPlanUnits", spec := "fnExactPlanUnits", apart := false }
def FnExactPlanUnitsSaid : Prop := fnExactPlanUnitsRow.holds Try.pinned (OpenSpec.ofChange fnExactPlanUnitsSpec)

/-- ITS FALSE NEIGHBOUR: 'it returns false'. Refute it at one input. -/
def fnExactPlanUnitsWrong : ChangeSpec := { name := "fnExactPlanUnits", fn := fun _ => fun
  | [d] => { results := [.lit (.bool false)], args := [d] }
  | _ => none }
def FnExactPlanUnitsWrongFalsely : Prop := fnExactPlanUnitsRow.holds Try.pinned (OpenSpec.ofChange fnExactPlanUnitsWrong)

/-- 'laws.FnExactGiveMany': WHATEVER THE INPUT: true; the input reads as it did. -/
def fnExactGiveManySpec : ChangeSpec := { name := "fnExactGiveMany", fn := fun _ => fun
  | [d] => { results := [.lit (.bool true)], args := [d] }
  | _ => none }
def fnExactGiveManyRow : OpenClaim := { program := "ytipnaaeclnahfaa", sum := "c53391539730b3e9a2688633d839f3efdba0633c2bf4fdc0114d2166441f27a1", func := "loop.example/parkinghouse/laws.FnExactGiveMany", spec := "fnExactGiveMany", apart := false }
def FnExactGiveManySaid : Prop := fnExactGiveManyRow.holds Try.pinned (OpenSpec.ofChange fnExactGiveManySpec)

/-- ITS FALSE NEIGHBOUR: 'it returns false'. Refute it at one input. -/
def fnExactGiveManyWrong : ChangeSpec := { name := "fnExactGiveMany", fn := fun _ => fun
  | [d] => { results := [.lit (.bool false)], args := [d] }
  | _ => none }
def FnExactGiveManyWrongFalsely : Prop := fnExactGiveManyRow.holds Try.pinned (OpenSpec.ofChange fnExactGiveManyWrong)

/-- 'laws.FnExactRateIn': WHATEVER THE INPUT: true; the input reads as it did. -/
def fnExactRateInSpec : ChangeSpec := { name := "fnExactRateIn", fn := fun _ => fun
  | [d1, d2] => { results := [.lit (.bool true)], args := [d1, d2] }
  | _ => none }
def fnExactRateInRow : OpenClaim := { program := "ytipnaaeclnahfaa", sum := "c53391539730b3e9a2688633d839f3efdba0633c2bf4fdc0114d2166441f27a1", func := "loop.example/parkinghouse/laws.FnExactRateIn", spec := "fnExactRateIn", apart := false }
def FnExactRateInSaid : Prop := fnExactRateInRow.holds Try.pinned (OpenSpec.ofChange fnExactRateInSpec)

/-- ITS FALSE NEIGHBOUR: 'it returns false'. Refute it at one input. -/
def fnExactRateInWrong : ChangeSpec := { name := "fnExactRateIn", fn := fun _ => fun
  | [d1, d2] => { results := [.lit (.bool false)], args := [d1, d2] }
  | _ => none }
def FnExactRateInWrongFalsely : Prop := fnExactRateInRow.holds Try.pinned (OpenSpec.ofChange fnExactRateInWrong)

/-- 'laws.FnExactFeedValid': WHATEVER THE INPUT: true; the input reads as it did. -/
def fnExactFeedValidSpec : ChangeSpec := { name := "fnExactFeedValid", fn := fun _ => fun
  | [d] => { results := [.lit (.bool true)], args := [d] }
  | _ => none }
def fnExactFeedValidRow : OpenClaim := { program := "ytipnaaeclnahfaa", sum := "c53391539730b3e9a2688633d839f3efdba0633c2bf4fdc0114d2166441f27a1", func := "loop.example/parkinghouse/laws.FnExactFeedValid", spec := "fnExactFeedValid", apart := false }
def FnExactFeedValidSaid : Prop := fnExactFeedValidRow.holds Try.pinned (OpenSpec.ofChange fnExactFeedValidSpec)

/-- ITS FALSE NEIGHBOUR: 'it returns false'. Refute it at one input. -/
def fnExactFeedValidWrong : ChangeSpec := { name := "fnExactFeedValid", fn := fun _ => fun
  | [d] => { results := [.lit (.bool false)], args := [d] }
  | _ => none }
def FnExactFeedValidWrongFalsely : Prop := fnExactFeedValidRow.holds Try.pinned (OpenSpec.ofChange fnExactFeedValidWrong)

/- THE SECOND FORM. 'bulk': how many values and letters a reading holds, each counted each time it is reached (what is shared counts as often as it is met; a slice's spare places count too). A statement '..UptoSaid' is the law's where the arguments, and the package variables that the reading takes, are together of bulk at most 1048576: NARROWER than '..Said'. Prove '..Said' where nothing that the law and all that it calls make is longer than what came in: it says more and counts as full. Else prove '..UptoSaid'. A law counts once. -/
mutual
def uptoBulk {H : Type} : DataW H → Nat
  | .lit (.string bytes) => bytes.length + 1
  | .lit _ => 1
  | .nil => 1
  | .ptr d => uptoBulk d + 1
  | .slice elems spare => uptoBulkAll elems + uptoBulkAll spare + 1
  | .agg parts => uptoBulkAll parts + 1
  | .iface _ d => uptoBulk d + 1
  | .map entries => uptoBulkEntries entries + 1
  | .held _ => 1
def uptoBulkAll {H : Type} : List (DataW H) → Nat
  | [] => 0
  | d :: r => uptoBulk d + uptoBulkAll r
def uptoBulkEntries {H : Type} : List (Lit × DataW H) → Nat
  | [] => 0
  | x :: r => uptoBulkEntry x + uptoBulkEntries r
def uptoBulkEntry {H : Type} : Lit × DataW H → Nat
  | (.string bytes, d) => bytes.length + uptoBulk d + 1
  | (_, d) => uptoBulk d + 1
 end
def uptoSmall : (H : Type) → List (DataW H) → Bool := fun _ ds => decide (uptoBulkAll ds ≤ 1048576)
def OpenSpec.upto (s : _root_.Go.ChangeSpec) : _root_.Go.OpenSpec := { _root_.Go.OpenSpec.ofChange s with cond := some uptoSmall }

/-- 'laws.FnExactNeedValid', WHERE WHAT IT READS IS OF BULK AT MOST 1048576: true; the input reads as it did. -/
def fnExactNeedValidUptoRow : OpenClaim := { program := "ytipnaaeclnahfaa", sum := "c53391539730b3e9a2688633d839f3efdba0633c2bf4fdc0114d2166441f27a1", func := "loop.example/parkinghouse/laws.FnExactNeedValid", spec := "fnExactNeedValid", apart := false, narrowed := true }
def FnExactNeedValidUptoSaid : Prop := fnExactNeedValidUptoRow.holds Try.pinned (OpenSpec.upto fnExactNeedValidSpec)

/-- 'laws.FnExactCarValid', WHERE WHAT IT READS IS OF BULK AT MOST 1048576: true; the input reads as it did. -/
def fnExactCarValidUptoRow : OpenClaim := { program := "ytipnaaeclnahfaa", sum := "c53391539730b3e9a2688633d839f3efdba0633c2bf4fdc0114d2166441f27a1", func := "loop.example/parkinghouse/laws.FnExactCarValid", spec := "fnExactCarValid", apart := false, narrowed := true }
def FnExactCarValidUptoSaid : Prop := fnExactCarValidUptoRow.holds Try.pinned (OpenSpec.upto fnExactCarValidSpec)

/-- 'laws.FnExactFits', WHERE WHAT IT READS IS OF BULK AT MOST 1048576: true; the input reads as it did. -/
def fnExactFitsUptoRow : OpenClaim := { program := "ytipnaaeclnahfaa", sum := "c53391539730b3e9a2688633d839f3efdba0633c2bf4fdc0114d2166441f27a1", func := "loop.example/parkinghouse/laws.FnExactFits", spec := "fnExactFits", apart := false, narrowed := true }
def FnExactFitsUptoSaid : Prop := fnExactFitsUptoRow.holds Try.pinned (OpenSpec.upto fnExactFitsSpec)

/-- 'laws.FnExactPlanUnits', WHERE WHAT IT READS IS OF BULK AT MOST 1048576: true; the input reads as it did. -/
def fnExactPlanUnitsUptoRow : OpenClaim := { program := "ytipnaaeclnahfaa", sum := "c53391539730b3e9a2688633d839f3efdba0633c2bf4fdc0114d2166441f27a1", func := "loop.example/parkinghouse/laws.FnExactPlanUnits", spec := "fnExactPlanUnits", apart := false, narrowed := true }
def FnExactPlanUnitsUptoSaid : Prop := fnExactPlanUnitsUptoRow.holds Try.pinned (OpenSpec.upto fnExactPlanUnitsSpec)

/-- 'laws.FnExactGiveMany', WHERE WHAT IT READS IS OF BULK AT MOST 1048576: true; the input reads as it did. -/
def fnExactGiveManyUptoRow : OpenClaim := { program := "ytipnaaeclnahfaa", sum := "c53391539730b3e9a2688633d839f3efdba0633c2bf4fdc0114d2166441f27a1", func := "loop.example/parkinghouse/laws.FnExactGiveMany", spec := "fnExactGiveMany", apart := false, narrowed := true }
def FnExactGiveManyUptoSaid : Prop := fnExactGiveManyUptoRow.holds Try.pinned (OpenSpec.upto fnExactGiveManySpec)

/-- 'laws.FnExactRateIn', WHERE WHAT IT READS IS OF BULK AT MOST 1048576: true; the input reads as it did. -/
def fnExactRateInUptoRow : OpenClaim := { program := "ytipnaaeclnahfaa", sum := "c53391539730b3e9a2688633d839f3efdba0633c2bf4fdc0114d2166441f27a1", func := "loop.example/parkinghouse/laws.FnExactRateIn", spec := "fnExactRateIn", apart := false, narrowed := true }
def FnExactRateInUptoSaid : Prop := fnExactRateInUptoRow.holds Try.pinned (OpenSpec.upto fnExactRateInSpec)

/-- 'laws.FnExactFeedValid', WHERE WHAT IT READS IS OF BULK AT MOST 1048576: true; the input reads as it did. -/
def fnExactFeedValidUptoRow : OpenClaim := { program := "ytipnaaeclnahfaa", sum := "c53391539730b3e9a2688633d839f3efdba0633c2bf4fdc0114d2166441f27a1", func := "loop.example/parkinghouse/laws.FnExactFeedValid", spec := "fnExactFeedValid", apart := false, narrowed := true }
def FnExactFeedValidUptoSaid : Prop := fnExactFeedValidUptoRow.holds Try.pinned (OpenSpec.upto fnExactFeedValidSpec)

end Rows
end Go.Proofs.Ytipnaaeclnahfaa
