/-
  No cell of these rows narrows 'for every input' (looked for: loops, veiled, ifaces, maps, wideKeys, modest, calm, conditions, laid).
  DERIVED. THE GIVEN ROWS OF THIS SEAT. 11 by the template 'for every input the law returns true; each argument reads behind the call as it read before'; 0 by the template 'total and deterministic' (their statements: YtkbfkolfgcjbiaaTotals.lean).
  GIVEN WITH THE SEED: the statements are not yours to turn. If you find one false, say at which input.
  Laid BY PROGRAM, IN A SANDBOX (cutbox-rows.mjs): the forced cells as the released guide's own fill.sh prints them over the translation 9fb7e0923f1a967f… (all of the seat's roots in one cut). By AI agents, Wed Nov 11 2026. No macro, syntax, notation, axiom, sorry.
-/
import Derived.Test.YtkbfkolfgcjbiaaChecked
import GoSem.Claim
import GoSem.ClaimJoined
import GoSem.ClaimMapViews
import Derived.JoinedTies
import Derived.KernelRfl
namespace Go.Proofs.Ytkbfkolfgcjbiaa
/- THE CELL 'sum', in the pinned program and in every row, IS THE sha256 OF THE DUMP (.gsa) THAT YtkbfkolfgcjbiaaProg.lean LOADS. Nothing in Lean hashes anything: it is a label: what it is worth is what the hold of that sum in a sandbox is worth. -/
noncomputable def Try.pinned : Pinned := { name := "ytkbfkolfgcjbiaa", sum := "9fb7e0923f1a967f1aba8ca9e42a5145a01d88a10043576acf89b444d4ac0f0a", checked := Try.checked }
namespace Rows
def none {H : Type} : Left H := { results := [], args := [] }

/-- 'laws.FnExactPlacesValid': WHATEVER THE INPUT: true; the input reads as it did. -/
def fnExactPlacesValidSpec : ChangeSpec := { name := "fnExactPlacesValid", fn := fun _ => fun
  | [d] => { results := [.lit (.bool true)], args := [d] }
  | _ => none }
def fnExactPlacesValidRow : OpenClaim := { program := "ytkbfkolfgcjbiaa", sum := "9fb7e0923f1a967f1aba8ca9e42a5145a01d88a10043576acf89b444d4ac0f0a", func := "loop.example/parkinghouse/laws.FnExactPlacesValid", spec := "fnExactPlacesValid", apart := false }
def FnExactPlacesValidSaid : Prop := fnExactPlacesValidRow.holds Try.pinned (OpenSpec.ofChange fnExactPlacesValidSpec)

/-- ITS FALSE NEIGHBOUR: 'it returns false'. Refute it at one input. -/
def fnExactPlacesValidWrong : ChangeSpec := { name := "fnExactPlacesValid", fn := fun _ => fun
  | [d] => { results := [.lit (.bool false)], args := [d] }
  | _ => none }
def FnExactPlacesValidWrongFalsely : Prop := fnExactPlacesValidRow.holds Try.pinned (OpenSpec.ofChange fnExactPlacesValidWrong)

/-- 'laws.FnExactCarsValid': WHATEVER THE INPUT: true; the input reads as it did. -/
def fnExactCarsValidSpec : ChangeSpec := { name := "fnExactCarsValid", fn := fun _ => fun
  | [d] => { results := [.lit (.bool true)], args := [d] }
  | _ => none }
def fnExactCarsValidRow : OpenClaim := { program := "ytkbfkolfgcjbiaa", sum := "9fb7e0923f1a967f1aba8ca9e42a5145a01d88a10043576acf89b444d4ac0f0a", func := "loop.example/parkinghouse/laws.FnExactCarsValid", spec := "fnExactCarsValid", apart := false }
def FnExactCarsValidSaid : Prop := fnExactCarsValidRow.holds Try.pinned (OpenSpec.ofChange fnExactCarsValidSpec)

/-- ITS FALSE NEIGHBOUR: 'it returns false'. Refute it at one input. -/
def fnExactCarsValidWrong : ChangeSpec := { name := "fnExactCarsValid", fn := fun _ => fun
  | [d] => { results := [.lit (.bool false)], args := [d] }
  | _ => none }
def FnExactCarsValidWrongFalsely : Prop := fnExactCarsValidRow.holds Try.pinned (OpenSpec.ofChange fnExactCarsValidWrong)

/-- 'laws.FnExactNested': WHATEVER THE INPUT: true; the input reads as it did. -/
def fnExactNestedSpec : ChangeSpec := { name := "fnExactNested", fn := fun _ => fun
  | [d] => { results := [.lit (.bool true)], args := [d] }
  | _ => none }
def fnExactNestedRow : OpenClaim := { program := "ytkbfkolfgcjbiaa", sum := "9fb7e0923f1a967f1aba8ca9e42a5145a01d88a10043576acf89b444d4ac0f0a", func := "loop.example/parkinghouse/laws.FnExactNested", spec := "fnExactNested", apart := false }
def FnExactNestedSaid : Prop := fnExactNestedRow.holds Try.pinned (OpenSpec.ofChange fnExactNestedSpec)

/-- ITS FALSE NEIGHBOUR: 'it returns false'. Refute it at one input. -/
def fnExactNestedWrong : ChangeSpec := { name := "fnExactNested", fn := fun _ => fun
  | [d] => { results := [.lit (.bool false)], args := [d] }
  | _ => none }
def FnExactNestedWrongFalsely : Prop := fnExactNestedRow.holds Try.pinned (OpenSpec.ofChange fnExactNestedWrong)

/-- 'laws.FnExactPlacesFor': WHATEVER THE INPUT: true; the input reads as it did. -/
def fnExactPlacesForSpec : ChangeSpec := { name := "fnExactPlacesFor", fn := fun _ => fun
  | [d1, d2] => { results := [.lit (.bool true)], args := [d1, d2] }
  | _ => none }
def fnExactPlacesForRow : OpenClaim := { program := "ytkbfkolfgcjbiaa", sum := "9fb7e0923f1a967f1aba8ca9e42a5145a01d88a10043576acf89b444d4ac0f0a", func := "loop.example/parkinghouse/laws.FnExactPlacesFor", spec := "fnExactPlacesFor", apart := false }
def FnExactPlacesForSaid : Prop := fnExactPlacesForRow.holds Try.pinned (OpenSpec.ofChange fnExactPlacesForSpec)

/-- ITS FALSE NEIGHBOUR: 'it returns false'. Refute it at one input. -/
def fnExactPlacesForWrong : ChangeSpec := { name := "fnExactPlacesFor", fn := fun _ => fun
  | [d1, d2] => { results := [.lit (.bool false)], args := [d1, d2] }
  | _ => none }
def FnExactPlacesForWrongFalsely : Prop := fnExactPlacesForRow.holds Try.pinned (OpenSpec.ofChange fnExactPlacesForWrong)

/-- 'laws.FnExactGiveValid': WHATEVER THE INPUT: true; the input reads as it did. -/
def fnExactGiveValidSpec : ChangeSpec := { name := "fnExactGiveValid", fn := fun _ => fun
  | [d1, d2, d3] => { results := [.lit (.bool true)], args := [d1, d2, d3] }
  | _ => none }
def fnExactGiveValidRow : OpenClaim := { program := "ytkbfkolfgcjbiaa", sum := "9fb7e0923f1a967f1aba8ca9e42a5145a01d88a10043576acf89b444d4ac0f0a", func := "loop.example/parkinghouse/laws.FnExactGiveValid", spec := "fnExactGiveValid", apart := false }
def FnExactGiveValidSaid : Prop := fnExactGiveValidRow.holds Try.pinned (OpenSpec.ofChange fnExactGiveValidSpec)

/-- ITS FALSE NEIGHBOUR: 'it returns false'. Refute it at one input. -/
def fnExactGiveValidWrong : ChangeSpec := { name := "fnExactGiveValid", fn := fun _ => fun
  | [d1, d2, d3] => { results := [.lit (.bool false)], args := [d1, d2, d3] }
  | _ => none }
def FnExactGiveValidWrongFalsely : Prop := fnExactGiveValidRow.holds Try.pinned (OpenSpec.ofChange fnExactGiveValidWrong)

/-- 'laws.FnExactGiveWaste': WHATEVER THE INPUT: true; the input reads as it did. -/
def fnExactGiveWasteSpec : ChangeSpec := { name := "fnExactGiveWaste", fn := fun _ => fun
  | [d1, d2, d3] => { results := [.lit (.bool true)], args := [d1, d2, d3] }
  | _ => none }
def fnExactGiveWasteRow : OpenClaim := { program := "ytkbfkolfgcjbiaa", sum := "9fb7e0923f1a967f1aba8ca9e42a5145a01d88a10043576acf89b444d4ac0f0a", func := "loop.example/parkinghouse/laws.FnExactGiveWaste", spec := "fnExactGiveWaste", apart := false }
def FnExactGiveWasteSaid : Prop := fnExactGiveWasteRow.holds Try.pinned (OpenSpec.ofChange fnExactGiveWasteSpec)

/-- ITS FALSE NEIGHBOUR: 'it returns false'. Refute it at one input. -/
def fnExactGiveWasteWrong : ChangeSpec := { name := "fnExactGiveWaste", fn := fun _ => fun
  | [d1, d2, d3] => { results := [.lit (.bool false)], args := [d1, d2, d3] }
  | _ => none }
def FnExactGiveWasteWrongFalsely : Prop := fnExactGiveWasteRow.holds Try.pinned (OpenSpec.ofChange fnExactGiveWasteWrong)

/-- 'laws.FnExactPlacesOf': WHATEVER THE INPUT: true; the input reads as it did. -/
def fnExactPlacesOfSpec : ChangeSpec := { name := "fnExactPlacesOf", fn := fun _ => fun
  | [d1, d2, d3] => { results := [.lit (.bool true)], args := [d1, d2, d3] }
  | _ => none }
def fnExactPlacesOfRow : OpenClaim := { program := "ytkbfkolfgcjbiaa", sum := "9fb7e0923f1a967f1aba8ca9e42a5145a01d88a10043576acf89b444d4ac0f0a", func := "loop.example/parkinghouse/laws.FnExactPlacesOf", spec := "fnExactPlacesOf", apart := false }
def FnExactPlacesOfSaid : Prop := fnExactPlacesOfRow.holds Try.pinned (OpenSpec.ofChange fnExactPlacesOfSpec)

/-- ITS FALSE NEIGHBOUR: 'it returns false'. Refute it at one input. -/
def fnExactPlacesOfWrong : ChangeSpec := { name := "fnExactPlacesOf", fn := fun _ => fun
  | [d1, d2, d3] => { results := [.lit (.bool false)], args := [d1, d2, d3] }
  | _ => none }
def FnExactPlacesOfWrongFalsely : Prop := fnExactPlacesOfRow.holds Try.pinned (OpenSpec.ofChange fnExactPlacesOfWrong)

/-- 'laws.FnExactCarsDown': WHATEVER THE INPUT: true; the input reads as it did. -/
def fnExactCarsDownSpec : ChangeSpec := { name := "fnExactCarsDown", fn := fun _ => fun
  | [d] => { results := [.lit (.bool true)], args := [d] }
  | _ => none }
def fnExactCarsDownRow : OpenClaim := { program := "ytkbfkolfgcjbiaa", sum := "9fb7e0923f1a967f1aba8ca9e42a5145a01d88a10043576acf89b444d4ac0f0a", func := "loop.example/parkinghouse/laws.FnExactCarsDown", spec := "fnExactCarsDown", unfollowed := true, recurses := true, apart := false }
def FnExactCarsDownSaid : Prop := fnExactCarsDownRow.holds Try.pinned (OpenSpec.ofChange fnExactCarsDownSpec)

/-- ITS FALSE NEIGHBOUR: 'it returns false'. Refute it at one input. -/
def fnExactCarsDownWrong : ChangeSpec := { name := "fnExactCarsDown", fn := fun _ => fun
  | [d] => { results := [.lit (.bool false)], args := [d] }
  | _ => none }
def FnExactCarsDownWrongFalsely : Prop := fnExactCarsDownRow.holds Try.pinned (OpenSpec.ofChange fnExactCarsDownWrong)

/-- 'laws.FnExactGiveDown': WHATEVER THE INPUT: true; the input reads as it did. -/
def fnExactGiveDownSpec : ChangeSpec := { name := "fnExactGiveDown", fn := fun _ => fun
  | [d1, d2] => { results := [.lit (.bool true)], args := [d1, d2] }
  | _ => none }
def fnExactGiveDownRow : OpenClaim := { program := "ytkbfkolfgcjbiaa", sum := "9fb7e0923f1a967f1aba8ca9e42a5145a01d88a10043576acf89b444d4ac0f0a", func := "loop.example/parkinghouse/laws.FnExactGiveDown", spec := "fnExactGiveDown", unfollowed := true, recurses := true, apart := false }
def FnExactGiveDownSaid : Prop := fnExactGiveDownRow.holds Try.pinned (OpenSpec.ofChange fnExactGiveDownSpec)

/-- ITS FALSE NEIGHBOUR: 'it returns false'. Refute it at one input. -/
def fnExactGiveDownWrong : ChangeSpec := { name := "fnExactGiveDown", fn := fun _ => fun
  | [d1, d2] => { results := [.lit (.bool false)], args := [d1, d2] }
  | _ => none }
def FnExactGiveDownWrongFalsely : Prop := fnExactGiveDownRow.holds Try.pinned (OpenSpec.ofChange fnExactGiveDownWrong)

/-- 'laws.FnExactGiveMost': WHATEVER THE INPUT: true; the input reads as it did. -/
def fnExactGiveMostSpec : ChangeSpec := { name := "fnExactGiveMost", fn := fun _ => fun
  | [d1, d2] => { results := [.lit (.bool true)], args := [d1, d2] }
  | _ => none }
def fnExactGiveMostRow : OpenClaim := { program := "ytkbfkolfgcjbiaa", sum := "9fb7e0923f1a967f1aba8ca9e42a5145a01d88a10043576acf89b444d4ac0f0a", func := "loop.example/parkinghouse/laws.FnExactGiveMost", spec := "fnExactGiveMost", recurses := true, apart := false }
def FnExactGiveMostSaid : Prop := fnExactGiveMostRow.holds Try.pinned (OpenSpec.ofChange fnExactGiveMostSpec)

/-- ITS FALSE NEIGHBOUR: 'it returns false'. Refute it at one input. -/
def fnExactGiveMostWrong : ChangeSpec := { name := "fnExactGiveMost", fn := fun _ => fun
  | [d1, d2] => { results := [.lit (.bool false)], args := [d1, d2] }
  | _ => none }
def FnExactGiveMostWrongFalsely : Prop := fnExactGiveMostRow.holds Try.pinned (OpenSpec.ofChange fnExactGiveMostWrong)

/-- 'laws.FnExactGiveBest': WHATEVER THE INPUT: true; the input reads as it did. -/
def fnExactGiveBestSpec : ChangeSpec := { name := "fnExactGiveBest", fn := fun _ => fun
  | [d1, d2] => { results := [.lit (.bool true)], args := [d1, d2] }
  | _ => none }
def fnExactGiveBestRow : OpenClaim := { program := "ytkbfkolfgcjbiaa", sum := "9fb7e0923f1a967f1aba8ca9e42a5145a01d88a10043576acf89b444d4ac0f0a", func := "loop.example/parkinghouse/laws.FnExactGiveBest", spec := "fnExactGiveBest", recurses := true, apart := false }
def FnExactGiveBestSaid : Prop := fnExactGiveBestRow.holds Try.pinned (OpenSpec.ofChange fnExactGiveBestSpec)

/-- ITS FALSE NEIGHBOUR: 'it returns false'. Refute it at one input. -/
def fnExactGiveBestWrong : ChangeSpec := { name := "fnExactGiveBest", fn := fun _ => fun
  | [d1, d2] => { results := [.lit (.bool false)], args := [d1, d2] }
  | _ => none }
def FnExactGiveBestWrongFalsely : Prop := fnExactGiveBestRow.holds Try.pinned (OpenSpec.ofChange fnExactGiveBestWrong)

/- THE SECOND FORM. 'bulk': how many values and letters a reading holds, each counted each time it is reached (what is shared counts as often as it is met; a slice's spare places count too). A statement '..UptoSaid' is the law's where the arguments, and the package variables that the reading takes, are together of bulk at most 1048576: NARROWER than '..Said'. Prove '..Said' where nothing that the law and all that it calls make is longer than what came in: it says more and counts as full. Else prove '..UptoSaid'. A law counts once. -/
mutual
def uptoBulk {H : Type} : DataW H → Nat
  | .lit (.string bytes) => bytes.length + 1
  | .lit _ => 1
  | .nil => 1
  | .ptr d => uptoBulk d + 1
  | .slice elems spare => uptoBulkAll elems + uptoBulkAll spare + 1
  | .agg parts => uptoBulkAll parts + 1
  | .iface _ d => uptoBulk d + 1
  | .map entries => uptoBulkEntries entries + 1
  | .held _ => 1
def uptoBulkAll {H : Type} : List (DataW H) → Nat
  | [] => 0
  | d :: r => uptoBulk d + uptoBulkAll r
def uptoBulkEntries {H : Type} : List (Lit × DataW H) → Nat
  | [] => 0
  | x :: r => uptoBulkEntry x + uptoBulkEntries r
def uptoBulkEntry {H : Type} : Lit × DataW H → Nat
  | (.string bytes, d) => bytes.length + uptoBulk d + 1
  | (_, d) => uptoBulk d + 1
 end
def uptoSmall : (H : Type) → List (DataW H) → Bool := fun _ ds => decide (uptoBulkAll ds ≤ 1048576)
def OpenSpec.upto (s : _root_.Go.ChangeSpec) : _root_.Go.OpenSpec := { _root_.Go.OpenSpec.ofChange s with cond := some uptoSmall }

/-- 'laws.FnExactPlacesValid', WHERE WHAT IT READS IS OF BULK AT MOST 1048576: true; the input reads as it did. -/
def fnExactPlacesValidUptoRow : OpenClaim := { program := "ytkbfkolfgcjbiaa", sum := "9fb7e0923f1a967f1aba8ca9e42a5145a01d88a10043576acf89b444d4ac0f0a", func := "loop.example/parkinghouse/laws.FnExactPlacesValid", spec := "fnExactPlacesValid", apart := false, narrowed := true }
def FnExactPlacesValidUptoSaid : Prop := fnExactPlacesValidUptoRow.holds Try.pinned (OpenSpec.upto fnExactPlacesValidSpec)

/-- 'laws.FnExactCarsValid', WHERE WHAT IT READS IS OF BULK AT MOST 1048576: true; the input reads as it did. -/
def fnExactCarsValidUptoRow : OpenClaim := { program := "ytkbfkolfgcjbiaa", sum := "9fb7e0923f1a967f1aba8ca9e42a5145a01d88a10043576acf89b444d4ac0f0a", func := "loop.example/parkinghouse/laws.FnExactCarsValid", spec := "fnExactCarsValid", apart := false, narrowed := true }
def FnExactCarsValidUptoSaid : Prop := fnExactCarsValidUptoRow.holds Try.pinned (OpenSpec.upto fnExactCarsValidSpec)

/-- 'laws.FnExactNested', WHERE WHAT IT READS IS OF BULK AT MOST 1048576: true; the input reads as it did. -/
def fnExactNestedUptoRow : OpenClaim := { program := "ytkbfkolfgcjbiaa", sum := "9fb7e0923f1a967f1aba8ca9e42a5145a01d88a10043576acf89b444d4ac0f0a", func := "loop.example/parkinghouse/laws.FnExactNested", spec := "fnExactNested", apart := false, narrowed := true }
def FnExactNestedUptoSaid : Prop := fnExactNestedUptoRow.holds Try.pinned (OpenSpec.upto fnExactNestedSpec)

/-- 'laws.FnExactPlacesFor', WHERE WHAT IT READS IS OF BULK AT MOST 1048576: true; the input reads as it did. -/
def fnExactPlacesForUptoRow : OpenClaim := { program := "ytkbfkolfgcjbiaa", sum := "9fb7e0923f1a967f1aba8ca9e42a5145a01d88a10043576acf89b444d4ac0f0a", func := "loop.example/parkinghouse/laws.FnExactPlacesFor", spec := "fnExactPlacesFor", apart := false, narrowed := true }
def FnExactPlacesForUptoSaid : Prop := fnExactPlacesForUptoRow.holds Try.pinned (OpenSpec.upto fnExactPlacesForSpec)

/-- 'laws.FnExactGiveValid', WHERE WHAT IT READS IS OF BULK AT MOST 1048576: true; the input reads as it did. -/
def fnExactGiveValidUptoRow : OpenClaim := { program := "ytkbfkolfgcjbiaa", sum := "9fb7e0923f1a967f1aba8ca9e42a5145a01d88a10043576acf89b444d4ac0f0a", func := "loop.example/parkinghouse/laws.FnExactGiveValid", spec := "fnExactGiveValid", apart := false, narrowed := true }
def FnExactGiveValidUptoSaid : Prop := fnExactGiveValidUptoRow.holds Try.pinned (OpenSpec.upto fnExactGiveValidSpec)

/-- 'laws.FnExactGiveWaste', WHERE WHAT IT READS IS OF BULK AT MOST 1048576: true; the input reads as it did. -/
def fnExactGiveWasteUptoRow : OpenClaim := { program := "ytkbfkolfgcjbiaa", sum := "9fb7e0923f1a967f1aba8ca9e42a5145a01d88a10043576acf89b444d4ac0f0a", func := "loop.example/parkinghouse/laws.FnExactGiveWaste", spec := "fnExactGiveWaste", apart := false, narrowed := true }
def FnExactGiveWasteUptoSaid : Prop := fnExactGiveWasteUptoRow.holds Try.pinned (OpenSpec.upto fnExactGiveWasteSpec)

/-- 'laws.FnExactPlacesOf', WHERE WHAT IT READS IS OF BULK AT MOST 1048576: true; the input reads as it did. -/
def fnExactPlacesOfUptoRow : OpenClaim := { program := "ytkbfkolfgcjbiaa", sum := "9fb7e0923f1a967f1aba8ca9e42a5145a01d88a10043576acf89b444d4ac0f0a", func := "loop.example/parkinghouse/laws.FnExactPlacesOf", spec := "fnExactPlacesOf", apart := false, narrowed := true }
def FnExactPlacesOfUptoSaid : Prop := fnExactPlacesOfUptoRow.holds Try.pinned (OpenSpec.upto fnExactPlacesOfSpec)

/-- 'laws.FnExactCarsDown', WHERE WHAT IT READS IS OF BULK AT MOST 1048576: true; the input reads as it did. -/
def fnExactCarsDownUptoRow : OpenClaim := { program := "ytkbfkolfgcjbiaa", sum := "9fb7e0923f1a967f1aba8ca9e42a5145a01d88a10043576acf89b444d4ac0f0a", func := "loop.example/parkinghouse/laws.FnExactCarsDown", spec := "fnExactCarsDown", unfollowed := true, recurses := true, apart := false, narrowed := true }
def FnExactCarsDownUptoSaid : Prop := fnExactCarsDownUptoRow.holds Try.pinned (OpenSpec.upto fnExactCarsDownSpec)

/-- 'laws.FnExactGiveDown', WHERE WHAT IT READS IS OF BULK AT MOST 1048576: true; the input reads as it did. -/
def fnExactGiveDownUptoRow : OpenClaim := { program := "ytkbfkolfgcjbiaa", sum := "9fb7e0923f1a967f1aba8ca9e42a5145a01d88a10043576acf89b444d4ac0f0a", func := "loop.example/parkinghouse/laws.FnExactGiveDown", spec := "fnExactGiveDown", unfollowed := true, recurses := true, apart := false, narrowed := true }
def FnExactGiveDownUptoSaid : Prop := fnExactGiveDownUptoRow.holds Try.pinned (OpenSpec.upto fnExactGiveDownSpec)

/-- 'laws.FnExactGiveMost', WHERE WHAT IT READS IS OF BULK AT MOST 1048576: true; the input reads as it did. -/
def fnExactGiveMostUptoRow : OpenClaim := { program := "ytkbfkolfgcjbiaa", sum := "9fb7e0923f1a967f1aba8ca9e42a5145a01d88a10043576acf89b444d4ac0f0a", func := "loop.example/parkinghouse/laws.FnExactGiveMost", spec := "fnExactGiveMost", recurses := true, apart := false, narrowed := true }
def FnExactGiveMostUptoSaid : Prop := fnExactGiveMostUptoRow.holds Try.pinned (OpenSpec.upto fnExactGiveMostSpec)

/-- 'laws.FnExactGiveBest', WHERE WHAT IT READS IS OF BULK AT MOST 1048576: true; the input reads as it did. -/
def fnExactGiveBestUptoRow : OpenClaim := { program := "ytkbfkolfgcjbiaa", sum := "9fb7e0923f1a967f1aba8ca9e42a5145a01d88a10043576acf89b444d4ac0f0a", func := "loop.example/parkinghouse/laws.FnExactGiveBest", spec := "fnExactGiveBest", recurses := true, apart := false, narrowed := true }
def FnExactGiveBestUptoSaid : Prop := fnExactGiveBestUptoRow.holds Try.pinned (OpenSpec.upto fnExactGiveBestSpec)

end Rows
end Go.Proofs.Ytkbfkolfgcjbiaa
