/-
  NARROWER THAN 'FOR EVERY INPUT', by the rows' own cells (each row's printed sentence says how): FnNeedValid: laid · FnFeedValid: laid · FnRateIn: laid · FnNeedsValid: laid · FnPlanUnits: laid · FnLoadCost: laid · FnCutUnits: laid · FnLeastFeed: laid · FnPlanAll: laid · FnPlanLoad: laid.
  DERIVED. THE GIVEN ROWS OF THIS SEAT. 10 by the template 'for every input the law returns true; each argument reads behind the call as it read before'; 0 by the template 'total and deterministic' (their statements: YtobkljhbmeglpaaDoorTotals.lean).
  GIVEN WITH THE SEED: the statements are not yours to turn. If you find one false, say at which input.
  Laid BY PROGRAM, IN A SANDBOX (cutbox-rows.mjs): the forced cells as the released guide's own fill.sh prints them over the translation 0929add5d9501060… (all of the seat's roots in one cut). By AI agents, Wed Nov 11 2026. No macro, syntax, notation, axiom, sorry.
-/
import Derived.Test.YtobkljhbmeglpaaDoorChecked
import GoSem.Claim
import GoSem.ClaimJoined
import GoSem.ClaimMapViews
import Derived.JoinedTies
import Derived.KernelRfl
namespace Go.Proofs.YtobkljhbmeglpaaDoor
/- THE CELL 'sum', in the pinned program and in every row, IS THE sha256 OF THE DUMP (.gsa) THAT YtobkljhbmeglpaaDoorProg.lean LOADS. Nothing in Lean hashes anything: it is a label: what it is worth is what the hold of that sum in a sandbox is worth. -/
noncomputable def Tryd.pinned : Pinned := { name := "ytobkljhbmeglpaadoor", sum := "0929add5d95010608ee7b703d8fbeee6e2826320c0a2c0fcac0a5113300a9f12", checked := Tryd.checked }
namespace Rows
def none {H : Type} : Left H := { results := [], args := [] }

/- WHAT THE LISTED PACKAGE-LEVEL VARIABLES READ AS WHEN THE CALL BEGINS. Each datum BY PROGRAM (the guide's laid-datum.mjs) off the statement by which the dump's own 'gosem.cut.vars' lays the variable. In a bare row this is a premise. The card (YtobkljhbmeglpaaDoorCards.lean) ties it to the program's text. -/
def laid_math_bits_deBruijn32tab {H : Type} : DataW H := .agg [.lit (.int .u8 0), .lit (.int .u8 1), .lit (.int .u8 28), .lit (.int .u8 2), .lit (.int .u8 29), .lit (.int .u8 14), .lit (.int .u8 24), .lit (.int .u8 3), .lit (.int .u8 30), .lit (.int .u8 22), .lit (.int .u8 20), .lit (.int .u8 15), .lit (.int .u8 25), .lit (.int .u8 17), .lit (.int .u8 4), .lit (.int .u8 8), .lit (.int .u8 31), .lit (.int .u8 27), .lit (.int .u8 13), .lit (.int .u8 23), .lit (.int .u8 21), .lit (.int .u8 19), .lit (.int .u8 16), .lit (.int .u8 7), .lit (.int .u8 26), .lit (.int .u8 12), .lit (.int .u8 18), .lit (.int .u8 6), .lit (.int .u8 11), .lit (.int .u8 5), .lit (.int .u8 10), .lit (.int .u8 9)]
def laid_math_bits_deBruijn64tab {H : Type} : DataW H := .agg [.lit (.int .u8 0), .lit (.int .u8 1), .lit (.int .u8 56), .lit (.int .u8 2), .lit (.int .u8 57), .lit (.int .u8 49), .lit (.int .u8 28), .lit (.int .u8 3), .lit (.int .u8 61), .lit (.int .u8 58), .lit (.int .u8 42), .lit (.int .u8 50), .lit (.int .u8 38), .lit (.int .u8 29), .lit (.int .u8 17), .lit (.int .u8 4), .lit (.int .u8 62), .lit (.int .u8 47), .lit (.int .u8 59), .lit (.int .u8 36), .lit (.int .u8 45), .lit (.int .u8 43), .lit (.int .u8 51), .lit (.int .u8 22), .lit (.int .u8 53), .lit (.int .u8 39), .lit (.int .u8 33), .lit (.int .u8 30), .lit (.int .u8 24), .lit (.int .u8 18), .lit (.int .u8 12), .lit (.int .u8 5), .lit (.int .u8 63), .lit (.int .u8 55), .lit (.int .u8 48), .lit (.int .u8 27), .lit (.int .u8 60), .lit (.int .u8 41), .lit (.int .u8 37), .lit (.int .u8 16), .lit (.int .u8 46), .lit (.int .u8 35), .lit (.int .u8 44), .lit (.int .u8 21), .lit (.int .u8 52), .lit (.int .u8 32), .lit (.int .u8 23), .lit (.int .u8 11), .lit (.int .u8 54), .lit (.int .u8 26), .lit (.int .u8 40), .lit (.int .u8 15), .lit (.int .u8 34), .lit (.int .u8 20), .lit (.int .u8 31), .lit (.int .u8 10), .lit (.int .u8 25), .lit (.int .u8 14), .lit (.int .u8 19), .lit (.int .u8 9), .lit (.int .u8 13), .lit (.int .u8 8), .lit (.int .u8 7), .lit (.int .u8 6)]
def laid_internal_strconv_uint64pow10 {H : Type} : DataW H := .agg [.lit (.int .u64 1), .lit (.int .u64 10), .lit (.int .u64 100), .lit (.int .u64 1000), .lit (.int .u64 10000), .lit (.int .u64 100000), .lit (.int .u64 1000000), .lit (.int .u64 10000000), .lit (.int .u64 100000000), .lit (.int .u64 1000000000), .lit (.int .u64 10000000000), .lit (.int .u64 100000000000), .lit (.int .u64 1000000000000), .lit (.int .u64 10000000000000), .lit (.int .u64 100000000000000), .lit (.int .u64 1000000000000000), .lit (.int .u64 10000000000000000), .lit (.int .u64 100000000000000000), .lit (.int .u64 1000000000000000000), .lit (.int .u64 10000000000000000000)]

/-- 'laws.FnNeedValid': WHATEVER THE INPUT: true; the input reads as it did. -/
def fnNeedValidSpec : ChangeSpec := { name := "fnNeedValid", fn := fun _ => fun
  | [d] => { results := [.lit (.bool true)], args := [d] }
  | _ => none }
def fnNeedValidRow : OpenClaim := { program := "ytobkljhbmeglpaadoor", sum := "0929add5d95010608ee7b703d8fbeee6e2826320c0a2c0fcac0a5113300a9f12", func := "loop.example/parkinghouse/laws.FnNeedValid", spec := "fnNeedValid", inPlace := ["internal/abi.NoEscape"], named := ["internal/strconv.uint64pow10", "math/bits.deBruijn32tab", "math/bits.deBruijn64tab"], apart := false, laid := [("math/bits.deBruijn32tab", laid_math_bits_deBruijn32tab), ("math/bits.deBruijn64tab", laid_math_bits_deBruijn64tab), ("internal/strconv.uint64pow10", laid_internal_strconv_uint64pow10)] }
def FnNeedValidSaid : Prop := fnNeedValidRow.holds Tryd.pinned (OpenSpec.ofChange fnNeedValidSpec)

/-- ITS FALSE NEIGHBOUR: 'it returns false'. Refute it at one input. -/
def fnNeedValidWrong : ChangeSpec := { name := "fnNeedValid", fn := fun _ => fun
  | [d] => { results := [.lit (.bool false)], args := [d] }
  | _ => none }
def FnNeedValidWrongFalsely : Prop := fnNeedValidRow.holds Tryd.pinned (OpenSpec.ofChange fnNeedValidWrong)

/-- 'laws.FnFeedValid': WHATEVER THE INPUT: true; the input reads as it did. -/
def fnFeedValidSpec : ChangeSpec := { name := "fnFeedValid", fn := fun _ => fun
  | [d] => { results := [.lit (.bool true)], args := [d] }
  | _ => none }
def fnFeedValidRow : OpenClaim := { program := "ytobkljhbmeglpaadoor", sum := "0929add5d95010608ee7b703d8fbeee6e2826320c0a2c0fcac0a5113300a9f12", func := "loop.example/parkinghouse/laws.FnFeedValid", spec := "fnFeedValid", inPlace := ["internal/abi.NoEscape"], named := ["internal/strconv.uint64pow10", "math/bits.deBruijn32tab", "math/bits.deBruijn64tab"], apart := false, laid := [("math/bits.deBruijn32tab", laid_math_bits_deBruijn32tab), ("math/bits.deBruijn64tab", laid_math_bits_deBruijn64tab), ("internal/strconv.uint64pow10", laid_internal_strconv_uint64pow10)] }
def FnFeedValidSaid : Prop := fnFeedValidRow.holds Tryd.pinned (OpenSpec.ofChange fnFeedValidSpec)

/-- ITS FALSE NEIGHBOUR: 'it returns false'. Refute it at one input. -/
def fnFeedValidWrong : ChangeSpec := { name := "fnFeedValid", fn := fun _ => fun
  | [d] => { results := [.lit (.bool false)], args := [d] }
  | _ => none }
def FnFeedValidWrongFalsely : Prop := fnFeedValidRow.holds Tryd.pinned (OpenSpec.ofChange fnFeedValidWrong)

/-- 'laws.FnRateIn': WHATEVER THE INPUT: true; the input reads as it did. -/
def fnRateInSpec : ChangeSpec := { name := "fnRateIn", fn := fun _ => fun
  | [d] => { results := [.lit (.bool true)], args := [d] }
  | _ => none }
def fnRateInRow : OpenClaim := { program := "ytobkljhbmeglpaadoor", sum := "0929add5d95010608ee7b703d8fbeee6e2826320c0a2c0fcac0a5113300a9f12", func := "loop.example/parkinghouse/laws.FnRateIn", spec := "fnRateIn", inPlace := ["internal/abi.NoEscape"], named := ["internal/strconv.uint64pow10", "math/bits.deBruijn32tab", "math/bits.deBruijn64tab"], apart := false, laid := [("math/bits.deBruijn32tab", laid_math_bits_deBruijn32tab), ("math/bits.deBruijn64tab", laid_math_bits_deBruijn64tab), ("internal/strconv.uint64pow10", laid_internal_strconv_uint64pow10)] }
def FnRateInSaid : Prop := fnRateInRow.holds Tryd.pinned (OpenSpec.ofChange fnRateInSpec)

/-- ITS FALSE NEIGHBOUR: 'it returns false'. Refute it at one input. -/
def fnRateInWrong : ChangeSpec := { name := "fnRateIn", fn := fun _ => fun
  | [d] => { results := [.lit (.bool false)], args := [d] }
  | _ => none }
def FnRateInWrongFalsely : Prop := fnRateInRow.holds Tryd.pinned (OpenSpec.ofChange fnRateInWrong)

/-- 'laws.FnNeedsValid': WHATEVER THE INPUT: true; the input reads as it did. -/
def fnNeedsValidSpec : ChangeSpec := { name := "fnNeedsValid", fn := fun _ => fun
  | [d] => { results := [.lit (.bool true)], args := [d] }
  | _ => none }
def fnNeedsValidRow : OpenClaim := { program := "ytobkljhbmeglpaadoor", sum := "0929add5d95010608ee7b703d8fbeee6e2826320c0a2c0fcac0a5113300a9f12", func := "loop.example/parkinghouse/laws.FnNeedsValid", spec := "fnNeedsValid", inPlace := ["internal/abi.NoEscape"], named := ["internal/strconv.uint64pow10", "math/bits.deBruijn32tab", "math/bits.deBruijn64tab"], apart := false, laid := [("math/bits.deBruijn32tab", laid_math_bits_deBruijn32tab), ("math/bits.deBruijn64tab", laid_math_bits_deBruijn64tab), ("internal/strconv.uint64pow10", laid_internal_strconv_uint64pow10)] }
def FnNeedsValidSaid : Prop := fnNeedsValidRow.holds Tryd.pinned (OpenSpec.ofChange fnNeedsValidSpec)

/-- ITS FALSE NEIGHBOUR: 'it returns false'. Refute it at one input. -/
def fnNeedsValidWrong : ChangeSpec := { name := "fnNeedsValid", fn := fun _ => fun
  | [d] => { results := [.lit (.bool false)], args := [d] }
  | _ => none }
def FnNeedsValidWrongFalsely : Prop := fnNeedsValidRow.holds Tryd.pinned (OpenSpec.ofChange fnNeedsValidWrong)

/-- 'laws.FnPlanUnits': WHATEVER THE INPUT: true; the input reads as it did. -/
def fnPlanUnitsSpec : ChangeSpec := { name := "fnPlanUnits", fn := fun _ => fun
  | [d] => { results := [.lit (.bool true)], args := [d] }
  | _ => none }
def fnPlanUnitsRow : OpenClaim := { program := "ytobkljhbmeglpaadoor", sum := "0929add5d95010608ee7b703d8fbeee6e2826320c0a2c0fcac0a5113300a9f12", func := "loop.example/parkinghouse/laws.FnPlanUnits", spec := "fnPlanUnits", inPlace := ["internal/abi.NoEscape"], named := ["internal/strconv.uint64pow10", "math/bits.deBruijn32tab", "math/bits.deBruijn64tab"], apart := false, laid := [("math/bits.deBruijn32tab", laid_math_bits_deBruijn32tab), ("math/bits.deBruijn64tab", laid_math_bits_deBruijn64tab), ("internal/strconv.uint64pow10", laid_internal_strconv_uint64pow10)] }
def FnPlanUnitsSaid : Prop := fnPlanUnitsRow.holds Tryd.pinned (OpenSpec.ofChange fnPlanUnitsSpec)

/-- ITS FALSE NEIGHBOUR: 'it returns false'. Refute it at one input. -/
def fnPlanUnitsWrong : ChangeSpec := { name := "fnPlanUnits", fn := fun _ => fun
  | [d] => { results := [.lit (.bool false)], args := [d] }
  | _ => none }
def FnPlanUnitsWrongFalsely : Prop := fnPlanUnitsRow.holds Tryd.pinned (OpenSpec.ofChange fnPlanUnitsWrong)

/-- 'laws.FnLoadCost': WHATEVER THE INPUT: true; the input reads as it did. -/
def fnLoadCostSpec : ChangeSpec := { name := "fnLoadCost", fn := fun _ => fun
  | [d] => { results := [.lit (.bool true)], args := [d] }
  | _ => none }
def fnLoadCostRow : OpenClaim := { program := "ytobkljhbmeglpaadoor", sum := "0929add5d95010608ee7b703d8fbeee6e2826320c0a2c0fcac0a5113300a9f12", func := "loop.example/parkinghouse/laws.FnLoadCost", spec := "fnLoadCost", inPlace := ["internal/abi.NoEscape"], named := ["internal/strconv.uint64pow10", "math/bits.deBruijn32tab", "math/bits.deBruijn64tab"], apart := false, laid := [("math/bits.deBruijn32tab", laid_math_bits_deBruijn32tab), ("math/bits.deBruijn64tab", laid_math_bits_deBruijn64tab), ("internal/strconv.uint64pow10", laid_internal_strconv_uint64pow10)] }
def FnLoadCostSaid : Prop := fnLoadCostRow.holds Tryd.pinned (OpenSpec.ofChange fnLoadCostSpec)

/-- ITS FALSE NEIGHBOUR: 'it returns false'. Refute it at one input. -/
def fnLoadCostWrong : ChangeSpec := { name := "fnLoadCost", fn := fun _ => fun
  | [d] => { results := [.lit (.bool false)], args := [d] }
  | _ => none }
def FnLoadCostWrongFalsely : Prop := fnLoadCostRow.holds Tryd.pinned (OpenSpec.ofChange fnLoadCostWrong)

/-- 'laws.FnCutUnits': WHATEVER THE INPUT: true; the input reads as it did. -/
def fnCutUnitsSpec : ChangeSpec := { name := "fnCutUnits", fn := fun _ => fun
  | [d] => { results := [.lit (.bool true)], args := [d] }
  | _ => none }
def fnCutUnitsRow : OpenClaim := { program := "ytobkljhbmeglpaadoor", sum := "0929add5d95010608ee7b703d8fbeee6e2826320c0a2c0fcac0a5113300a9f12", func := "loop.example/parkinghouse/laws.FnCutUnits", spec := "fnCutUnits", inPlace := ["internal/abi.NoEscape"], named := ["internal/strconv.uint64pow10", "math/bits.deBruijn32tab", "math/bits.deBruijn64tab"], apart := false, laid := [("math/bits.deBruijn32tab", laid_math_bits_deBruijn32tab), ("math/bits.deBruijn64tab", laid_math_bits_deBruijn64tab), ("internal/strconv.uint64pow10", laid_internal_strconv_uint64pow10)] }
def FnCutUnitsSaid : Prop := fnCutUnitsRow.holds Tryd.pinned (OpenSpec.ofChange fnCutUnitsSpec)

/-- ITS FALSE NEIGHBOUR: 'it returns false'. Refute it at one input. -/
def fnCutUnitsWrong : ChangeSpec := { name := "fnCutUnits", fn := fun _ => fun
  | [d] => { results := [.lit (.bool false)], args := [d] }
  | _ => none }
def FnCutUnitsWrongFalsely : Prop := fnCutUnitsRow.holds Tryd.pinned (OpenSpec.ofChange fnCutUnitsWrong)

/-- 'laws.FnLeastFeed': WHATEVER THE INPUT: true; the input reads as it did. -/
def fnLeastFeedSpec : ChangeSpec := { name := "fnLeastFeed", fn := fun _ => fun
  | [d] => { results := [.lit (.bool true)], args := [d] }
  | _ => none }
def fnLeastFeedRow : OpenClaim := { program := "ytobkljhbmeglpaadoor", sum := "0929add5d95010608ee7b703d8fbeee6e2826320c0a2c0fcac0a5113300a9f12", func := "loop.example/parkinghouse/laws.FnLeastFeed", spec := "fnLeastFeed", inPlace := ["internal/abi.NoEscape"], named := ["internal/strconv.uint64pow10", "math/bits.deBruijn32tab", "math/bits.deBruijn64tab"], apart := false, laid := [("math/bits.deBruijn32tab", laid_math_bits_deBruijn32tab), ("math/bits.deBruijn64tab", laid_math_bits_deBruijn64tab), ("internal/strconv.uint64pow10", laid_internal_strconv_uint64pow10)] }
def FnLeastFeedSaid : Prop := fnLeastFeedRow.holds Tryd.pinned (OpenSpec.ofChange fnLeastFeedSpec)

/-- ITS FALSE NEIGHBOUR: 'it returns false'. Refute it at one input. -/
def fnLeastFeedWrong : ChangeSpec := { name := "fnLeastFeed", fn := fun _ => fun
  | [d] => { results := [.lit (.bool false)], args := [d] }
  | _ => none }
def FnLeastFeedWrongFalsely : Prop := fnLeastFeedRow.holds Tryd.pinned (OpenSpec.ofChange fnLeastFeedWrong)

/-- 'laws.FnPlanAll': WHATEVER THE INPUT: true; the input reads as it did. -/
def fnPlanAllSpec : ChangeSpec := { name := "fnPlanAll", fn := fun _ => fun
  | [d] => { results := [.lit (.bool true)], args := [d] }
  | _ => none }
def fnPlanAllRow : OpenClaim := { program := "ytobkljhbmeglpaadoor", sum := "0929add5d95010608ee7b703d8fbeee6e2826320c0a2c0fcac0a5113300a9f12", func := "loop.example/parkinghouse/laws.FnPlanAll", spec := "fnPlanAll", inPlace := ["internal/abi.NoEscape"], named := ["internal/strconv.uint64pow10", "math/bits.deBruijn32tab", "math/bits.deBruijn64tab"], apart := false, laid := [("math/bits.deBruijn32tab", laid_math_bits_deBruijn32tab), ("math/bits.deBruijn64tab", laid_math_bits_deBruijn64tab), ("internal/strconv.uint64pow10", laid_internal_strconv_uint64pow10)] }
def FnPlanAllSaid : Prop := fnPlanAllRow.holds Tryd.pinned (OpenSpec.ofChange fnPlanAllSpec)

/-- ITS FALSE NEIGHBOUR: 'it returns false'. Refute it at one input. -/
def fnPlanAllWrong : ChangeSpec := { name := "fnPlanAll", fn := fun _ => fun
  | [d] => { results := [.lit (.bool false)], args := [d] }
  | _ => none }
def FnPlanAllWrongFalsely : Prop := fnPlanAllRow.holds Tryd.pinned (OpenSpec.ofChange fnPlanAllWrong)

/-- 'laws.FnPlanLoad': WHATEVER THE INPUT: true; the input reads as it did. -/
def fnPlanLoadSpec : ChangeSpec := { name := "fnPlanLoad", fn := fun _ => fun
  | [d] => { results := [.lit (.bool true)], args := [d] }
  | _ => none }
def fnPlanLoadRow : OpenClaim := { program := "ytobkljhbmeglpaadoor", sum := "0929add5d95010608ee7b703d8fbeee6e2826320c0a2c0fcac0a5113300a9f12", func := "loop.example/parkinghouse/laws.FnPlanLoad", spec := "fnPlanLoad", inPlace := ["internal/abi.NoEscape"], named := ["internal/strconv.uint64pow10", "math/bits.deBruijn32tab", "math/bits.deBruijn64tab"], apart := false, laid := [("math/bits.deBruijn32tab", laid_math_bits_deBruijn32tab), ("math/bits.deBruijn64tab", laid_math_bits_deBruijn64tab), ("internal/strconv.uint64pow10", laid_internal_strconv_uint64pow10)] }
def FnPlanLoadSaid : Prop := fnPlanLoadRow.holds Tryd.pinned (OpenSpec.ofChange fnPlanLoadSpec)

/-- ITS FALSE NEIGHBOUR: 'it returns false'. Refute it at one input. -/
def fnPlanLoadWrong : ChangeSpec := { name := "fnPlanLoad", fn := fun _ => fun
  | [d] => { results := [.lit (.bool false)], args := [d] }
  | _ => none }
def FnPlanLoadWrongFalsely : Prop := fnPlanLoadRow.holds Tryd.pinned (OpenSpec.ofChange fnPlanLoadWrong)

/- THE SECOND FORM. 'bulk': how many values and letters a reading holds, each counted each time it is reached (what is shared counts as often as it is met; a slice's spare places count too). A statement '..UptoSaid' is the law's where the arguments, and the package variables that the reading takes, are together of bulk at most 1048576: NARROWER than '..Said'. Prove '..Said' where nothing that the law and all that it calls make is longer than what came in: it says more and counts as full. Else prove '..UptoSaid'. A law counts once. -/
mutual
def uptoBulk {H : Type} : DataW H → Nat
  | .lit (.string bytes) => bytes.length + 1
  | .lit _ => 1
  | .nil => 1
  | .ptr d => uptoBulk d + 1
  | .slice elems spare => uptoBulkAll elems + uptoBulkAll spare + 1
  | .agg parts => uptoBulkAll parts + 1
  | .iface _ d => uptoBulk d + 1
  | .map entries => uptoBulkEntries entries + 1
  | .held _ => 1
def uptoBulkAll {H : Type} : List (DataW H) → Nat
  | [] => 0
  | d :: r => uptoBulk d + uptoBulkAll r
def uptoBulkEntries {H : Type} : List (Lit × DataW H) → Nat
  | [] => 0
  | x :: r => uptoBulkEntry x + uptoBulkEntries r
def uptoBulkEntry {H : Type} : Lit × DataW H → Nat
  | (.string bytes, d) => bytes.length + uptoBulk d + 1
  | (_, d) => uptoBulk d + 1
 end
def uptoSmall : (H : Type) → List (DataW H) → Bool := fun _ ds => decide (uptoBulkAll ds ≤ 1048576)
def OpenSpec.upto (s : _root_.Go.ChangeSpec) : _root_.Go.OpenSpec := { _root_.Go.OpenSpec.ofChange s with cond := some uptoSmall }

/-- 'laws.FnNeedValid', WHERE WHAT IT READS IS OF BULK AT MOST 1048576: true; the input reads as it did. -/
def fnNeedValidUptoRow : OpenClaim := { program := "ytobkljhbmeglpaadoor", sum := "0929add5d95010608ee7b703d8fbeee6e2826320c0a2c0fcac0a5113300a9f12", func := "loop.example/parkinghouse/laws.FnNeedValid", spec := "fnNeedValid", inPlace := ["internal/abi.NoEscape"], named := ["internal/strconv.uint64pow10", "math/bits.deBruijn32tab", "math/bits.deBruijn64tab"], apart := false, laid := [("math/bits.deBruijn32tab", laid_math_bits_deBruijn32tab), ("math/bits.deBruijn64tab", laid_math_bits_deBruijn64tab), ("internal/strconv.uint64pow10", laid_internal_strconv_uint64pow10)], narrowed := true }
def FnNeedValidUptoSaid : Prop := fnNeedValidUptoRow.holds Tryd.pinned (OpenSpec.upto fnNeedValidSpec)

/-- 'laws.FnFeedValid', WHERE WHAT IT READS IS OF BULK AT MOST 1048576: true; the input reads as it did. -/
def fnFeedValidUptoRow : OpenClaim := { program := "ytobkljhbmeglpaadoor", sum := "0929add5d95010608ee7b703d8fbeee6e2826320c0a2c0fcac0a5113300a9f12", func := "loop.example/parkinghouse/laws.FnFeedValid", spec := "fnFeedValid", inPlace := ["internal/abi.NoEscape"], named := ["internal/strconv.uint64pow10", "math/bits.deBruijn32tab", "math/bits.deBruijn64tab"], apart := false, laid := [("math/bits.deBruijn32tab", laid_math_bits_deBruijn32tab), ("math/bits.deBruijn64tab", laid_math_bits_deBruijn64tab), ("internal/strconv.uint64pow10", laid_internal_strconv_uint64pow10)], narrowed := true }
def FnFeedValidUptoSaid : Prop := fnFeedValidUptoRow.holds Tryd.pinned (OpenSpec.upto fnFeedValidSpec)

/-- 'laws.FnRateIn', WHERE WHAT IT READS IS OF BULK AT MOST 1048576: true; the input reads as it did. -/
def fnRateInUptoRow : OpenClaim := { program := "ytobkljhbmeglpaadoor", sum := "0929add5d95010608ee7b703d8fbeee6e2826320c0a2c0fcac0a5113300a9f12", func := "loop.example/parkinghouse/laws.FnRateIn", spec := "fnRateIn", inPlace := ["internal/abi.NoEscape"], named := ["internal/strconv.uint64pow10", "math/bits.deBruijn32tab", "math/bits.deBruijn64tab"], apart := false, laid := [("math/bits.deBruijn32tab", laid_math_bits_deBruijn32tab), ("math/bits.deBruijn64tab", laid_math_bits_deBruijn64tab), ("internal/strconv.uint64pow10", laid_internal_strconv_uint64pow10)], narrowed := true }
def FnRateInUptoSaid : Prop := fnRateInUptoRow.holds Tryd.pinned (OpenSpec.upto fnRateInSpec)

/-- 'laws.FnNeedsValid', WHERE WHAT IT READS IS OF BULK AT MOST 1048576: true; the input reads as it did. -/
def fnNeedsValidUptoRow : OpenClaim := { program := "ytobkljhbmeglpaadoor", sum := "0929add5d95010608ee7b703d8fbeee6e2826320c0a2c0fcac0a5113300a9f12", func := "loop.example/parkinghouse/laws.FnNeedsValid", spec := "fnNeedsValid", inPlace := ["internal/abi.NoEscape"], named := ["internal/strconv.uint64pow10", "math/bits.deBruijn32tab", "math/bits.deBruijn64tab"], apart := false, laid := [("math/bits.deBruijn32tab", laid_math_bits_deBruijn32tab), ("math/bits.deBruijn64tab", laid_math_bits_deBruijn64tab), ("internal/strconv.uint64pow10", laid_internal_strconv_uint64pow10)], narrowed := true }
def FnNeedsValidUptoSaid : Prop := fnNeedsValidUptoRow.holds Tryd.pinned (OpenSpec.upto fnNeedsValidSpec)

/-- 'laws.FnPlanUnits', WHERE WHAT IT READS IS OF BULK AT MOST 1048576: true; the input reads as it did. -/
def fnPlanUnitsUptoRow : OpenClaim := { program := "ytobkljhbmeglpaadoor", sum := "0929add5d95010608ee7b703d8fbeee6e2826320c0a2c0fcac0a5113300a9f12", func := "loop.example/parkinghouse/laws.FnPlanUnits", spec := "fnPlanUnits", inPlace := ["internal/abi.NoEscape"], named := ["internal/strconv.uint64pow10", "math/bits.deBruijn32tab", "math/bits.deBruijn64tab"], apart := false, laid := [("math/bits.deBruijn32tab", laid_math_bits_deBruijn32tab), ("math/bits.deBruijn64tab", laid_math_bits_deBruijn64tab), ("internal/strconv.uint64pow10", laid_internal_strconv_uint64pow10)], narrowed := true }
def FnPlanUnitsUptoSaid : Prop := fnPlanUnitsUptoRow.holds Tryd.pinned (OpenSpec.upto fnPlanUnitsSpec)

/-- 'laws.FnLoadCost', WHERE WHAT IT READS IS OF BULK AT MOST 1048576: true; the input reads as it did. -/
def fnLoadCostUptoRow : OpenClaim := { program := "ytobkljhbmeglpaadoor", sum := "0929add5d95010608ee7b703d8fbeee6e2826320c0a2c0fcac0a5113300a9f12", func := "loop.example/parkinghouse/laws.FnLoadCost", spec := "fnLoadCost", inPlace := ["internal/abi.NoEscape"], named := ["internal/strconv.uint64pow10", "math/bits.deBruijn32tab", "math/bits.deBruijn64tab"], apart := false, laid := [("math/bits.deBruijn32tab", laid_math_bits_deBruijn32tab), ("math/bits.deBruijn64tab", laid_math_bits_deBruijn64tab), ("internal/strconv.uint64pow10", laid_internal_strconv_uint64pow10)], narrowed := true }
def FnLoadCostUptoSaid : Prop := fnLoadCostUptoRow.holds Tryd.pinned (OpenSpec.upto fnLoadCostSpec)

/-- 'laws.FnCutUnits', WHERE WHAT IT READS IS OF BULK AT MOST 1048576: true; the input reads as it did. -/
def fnCutUnitsUptoRow : OpenClaim := { program := "ytobkljhbmeglpaadoor", sum := "0929add5d95010608ee7b703d8fbeee6e2826320c0a2c0fcac0a5113300a9f12", func := "loop.example/parkinghouse/laws.FnCutUnits", spec := "fnCutUnits", inPlace := ["internal/abi.NoEscape"], named := ["internal/strconv.uint64pow10", "math/bits.deBruijn32tab", "math/bits.deBruijn64tab"], apart := false, laid := [("math/bits.deBruijn32tab", laid_math_bits_deBruijn32tab), ("math/bits.deBruijn64tab", laid_math_bits_deBruijn64tab), ("internal/strconv.uint64pow10", laid_internal_strconv_uint64pow10)], narrowed := true }
def FnCutUnitsUptoSaid : Prop := fnCutUnitsUptoRow.holds Tryd.pinned (OpenSpec.upto fnCutUnitsSpec)

/-- 'laws.FnLeastFeed', WHERE WHAT IT READS IS OF BULK AT MOST 1048576: true; the input reads as it did. -/
def fnLeastFeedUptoRow : OpenClaim := { program := "ytobkljhbmeglpaadoor", sum := "0929add5d95010608ee7b703d8fbeee6e2826320c0a2c0fcac0a5113300a9f12", func := "loop.example/parkinghouse/laws.FnLeastFeed", spec := "fnLeastFeed", inPlace := ["internal/abi.NoEscape"], named := ["internal/strconv.uint64pow10", "math/bits.deBruijn32tab", "math/bits.deBruijn64tab"], apart := false, laid := [("math/bits.deBruijn32tab", laid_math_bits_deBruijn32tab), ("math/bits.deBruijn64tab", laid_math_bits_deBruijn64tab), ("internal/strconv.uint64pow10", laid_internal_strconv_uint64pow10)], narrowed := true }
def FnLeastFeedUptoSaid : Prop := fnLeastFeedUptoRow.holds Tryd.pinned (OpenSpec.upto fnLeastFeedSpec)

/-- 'laws.FnPlanAll', WHERE WHAT IT READS IS OF BULK AT MOST 1048576: true; the input reads as it did. -/
def fnPlanAllUptoRow : OpenClaim := { program := "ytobkljhbmeglpaadoor", sum := "0929add5d95010608ee7b703d8fbeee6e2826320c0a2c0fcac0a5113300a9f12", func := "loop.example/parkinghouse/laws.FnPlanAll", spec := "fnPlanAll", inPlace := ["internal/abi.NoEscape"], named := ["internal/strconv.uint64pow10", "math/bits.deBruijn32tab", "math/bits.deBruijn64tab"], apart := false, laid := [("math/bits.deBruijn32tab", laid_math_bits_deBruijn32tab), ("math/bits.deBruijn64tab", laid_math_bits_deBruijn64tab), ("internal/strconv.uint64pow10", laid_internal_strconv_uint64pow10)], narrowed := true }
def FnPlanAllUptoSaid : Prop := fnPlanAllUptoRow.holds Tryd.pinned (OpenSpec.upto fnPlanAllSpec)

/-- 'laws.FnPlanLoad', WHERE WHAT IT READS IS OF BULK AT MOST 1048576: true; the input reads as it did. -/
def fnPlanLoadUptoRow : OpenClaim := { program := "ytobkljhbmeglpaadoor", sum := "0929add5d95010608ee7b703d8fbeee6e2826320c0a2c0fcac0a5113300a9f12", func := "loop.example/parkinghouse/laws.FnPlanLoad", spec := "fnPlanLoad", inPlace := ["internal/abi.NoEscape"], named := ["internal/strconv.uint64pow10", "math/bits.deBruijn32tab", "math/bits.deBruijn64tab"], apart := false, laid := [("math/bits.deBruijn32tab", laid_math_bits_deBruijn32tab), ("math/bits.deBruijn64tab", laid_math_bits_deBruijn64tab), ("internal/strconv.uint64pow10", laid_internal_strconv_uint64pow10)], narrowed := true }
def FnPlanLoadUptoSaid : Prop := fnPlanLoadUptoRow.holds Tryd.pinned (OpenSpec.upto fnPlanLoadSpec)

end Rows
end Go.Proofs.YtobkljhbmeglpaaDoor
