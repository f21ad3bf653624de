/-
  NARROWER THAN 'FOR EVERY INPUT', by the rows' own cells (each row's printed sentence says how): FnFits: laid · FnCarValid: laid · FnPlacesValid: laid · FnCarsValid: laid · FnPlacesFor: laid · FnNested: laid · FnGiveMany: laid · FnPlacesOf: laid.
  DERIVED. THE GIVEN ROWS OF THIS SEAT. 8 by the template 'for every input the law returns true; each argument reads behind the call as it read before'; 0 by the template 'total and deterministic' (their statements: YtpipbkefelcmbaaDoorTotals.lean).
  GIVEN WITH THE SEED: the statements are not yours to turn. If you find one false, say at which input.
  Laid BY PROGRAM, IN A SANDBOX (cutbox-rows.mjs): the forced cells as the released guide's own fill.sh prints them over the translation 87f8c734f3f3cdec… (all of the seat's roots in one cut). By AI agents, Wed Nov 11 2026. No macro, syntax, notation, axiom, sorry.
-/
import Derived.Test.YtpipbkefelcmbaaDoorChecked
import GoSem.Claim
import GoSem.ClaimJoined
import GoSem.ClaimMapViews
import Derived.JoinedTies
import Derived.KernelRfl
namespace Go.Proofs.YtpipbkefelcmbaaDoor
/- THE CELL 'sum', in the pinned program and in every row, IS THE sha256 OF THE DUMP (.gsa) THAT YtpipbkefelcmbaaDoorProg.lean LOADS. Nothing in Lean hashes anything: it is a label: what it is worth is what the hold of that sum in a sandbox is worth. -/
noncomputable def Tryd.pinned : Pinned := { name := "ytpipbkefelcmbaadoor", sum := "87f8c734f3f3cdecc63296fd1d290dcfdb1b2da32ecab2da2a43bf0bed6a9e47", checked := Tryd.checked }
namespace Rows
def none {H : Type} : Left H := { results := [], args := [] }

/- WHAT THE LISTED PACKAGE-LEVEL VARIABLES READ AS WHEN THE CALL BEGINS. Each datum BY PROGRAM (the guide's laid-datum.mjs) off the statement by which the dump's own 'gosem.cut.vars' lays the variable. In a bare row this is a premise. The card (YtpipbkefelcmbaaDoorCards.lean) ties it to the program's text. -/
def laid_math_bits_deBruijn32tab {H : Type} : DataW H := .agg [.lit (.int .u8 0), .lit (.int .u8 1), .lit (.int .u8 28), .lit (.int .u8 2), .lit (.int .u8 29), .lit (.int .u8 14), .lit (.int .u8 24), .lit (.int .u8 3), .lit (.int .u8 30), .lit (.int .u8 22), .lit (.int .u8 20), .lit (.int .u8 15), .lit (.int .u8 25), .lit (.int .u8 17), .lit (.int .u8 4), .lit (.int .u8 8), .lit (.int .u8 31), .lit (.int .u8 27), .lit (.int .u8 13), .lit (.int .u8 23), .lit (.int .u8 21), .lit (.int .u8 19), .lit (.int .u8 16), .lit (.int .u8 7), .lit (.int .u8 26), .lit (.int .u8 12), .lit (.int .u8 18), .lit (.int .u8 6), .lit (.int .u8 11), .lit (.int .u8 5), .lit (.int .u8 10), .lit (.int .u8 9)]
def laid_math_bits_deBruijn64tab {H : Type} : DataW H := .agg [.lit (.int .u8 0), .lit (.int .u8 1), .lit (.int .u8 56), .lit (.int .u8 2), .lit (.int .u8 57), .lit (.int .u8 49), .lit (.int .u8 28), .lit (.int .u8 3), .lit (.int .u8 61), .lit (.int .u8 58), .lit (.int .u8 42), .lit (.int .u8 50), .lit (.int .u8 38), .lit (.int .u8 29), .lit (.int .u8 17), .lit (.int .u8 4), .lit (.int .u8 62), .lit (.int .u8 47), .lit (.int .u8 59), .lit (.int .u8 36), .lit (.int .u8 45), .lit (.int .u8 43), .lit (.int .u8 51), .lit (.int .u8 22), .lit (.int .u8 53), .lit (.int .u8 39), .lit (.int .u8 33), .lit (.int .u8 30), .lit (.int .u8 24), .lit (.int .u8 18), .lit (.int .u8 12), .lit (.int .u8 5), .lit (.int .u8 63), .lit (.int .u8 55), .lit (.int .u8 48), .lit (.int .u8 27), .lit (.int .u8 60), .lit (.int .u8 41), .lit (.int .u8 37), .lit (.int .u8 16), .lit (.int .u8 46), .lit (.int .u8 35), .lit (.int .u8 44), .lit (.int .u8 21), .lit (.int .u8 52), .lit (.int .u8 32), .lit (.int .u8 23), .lit (.int .u8 11), .lit (.int .u8 54), .lit (.int .u8 26), .lit (.int .u8 40), .lit (.int .u8 15), .lit (.int .u8 34), .lit (.int .u8 20), .lit (.int .u8 31), .lit (.int .u8 10), .lit (.int .u8 25), .lit (.int .u8 14), .lit (.int .u8 19), .lit (.int .u8 9), .lit (.int .u8 13), .lit (.int .u8 8), .lit (.int .u8 7), .lit (.int .u8 6)]
def laid_internal_strconv_uint64pow10 {H : Type} : DataW H := .agg [.lit (.int .u64 1), .lit (.int .u64 10), .lit (.int .u64 100), .lit (.int .u64 1000), .lit (.int .u64 10000), .lit (.int .u64 100000), .lit (.int .u64 1000000), .lit (.int .u64 10000000), .lit (.int .u64 100000000), .lit (.int .u64 1000000000), .lit (.int .u64 10000000000), .lit (.int .u64 100000000000), .lit (.int .u64 1000000000000), .lit (.int .u64 10000000000000), .lit (.int .u64 100000000000000), .lit (.int .u64 1000000000000000), .lit (.int .u64 10000000000000000), .lit (.int .u64 100000000000000000), .lit (.int .u64 1000000000000000000), .lit (.int .u64 10000000000000000000)]

/-- 'laws.FnFits': WHATEVER THE INPUT: true; the input reads as it did. -/
def fnFitsSpec : ChangeSpec := { name := "fnFits", fn := fun _ => fun
  | [d] => { results := [.lit (.bool true)], args := [d] }
  | _ => none }
def fnFitsRow : OpenClaim := { program := "ytpipbkefelcmbaadoor", sum := "87f8c734f3f3cdecc63296fd1d290dcfdb1b2da32ecab2da2a43bf0bed6a9e47", func := "loop.example/parkinghouse/laws.FnFits", spec := "fnFits", inPlace := ["internal/abi.NoEscape"], named := ["internal/strconv.uint64pow10", "math/bits.deBruijn32tab", "math/bits.deBruijn64tab"], apart := false, laid := [("math/bits.deBruijn32tab", laid_math_bits_deBruijn32tab), ("math/bits.deBruijn64tab", laid_math_bits_deBruijn64tab), ("internal/strconv.uint64pow10", laid_internal_strconv_uint64pow10)] }
def FnFitsSaid : Prop := fnFitsRow.holds Tryd.pinned (OpenSpec.ofChange fnFitsSpec)

/-- ITS FALSE NEIGHBOUR: 'it returns false'. Refute it at one input. -/
def fnFitsWrong : ChangeSpec := { name := "fnFits", fn := fun _ => fun
  | [d] => { results := [.lit (.bool false)], args := [d] }
  | _ => none }
def FnFitsWrongFalsely : Prop := fnFitsRow.holds Tryd.pinned (OpenSpec.ofChange fnFitsWrong)

/-- 'laws.FnCarValid': WHATEVER THE INPUT: true; the input reads as it did. -/
def fnCarValidSpec : ChangeSpec := { name := "fnCarValid", fn := fun _ => fun
  | [d] => { results := [.lit (.bool true)], args := [d] }
  | _ => none }
def fnCarValidRow : OpenClaim := { program := "ytpipbkefelcmbaadoor", sum := "87f8c734f3f3cdecc63296fd1d290dcfdb1b2da32ecab2da2a43bf0bed6a9e47", func := "loop.example/parkinghouse/laws.FnCarValid", spec := "fnCarValid", inPlace := ["internal/abi.NoEscape"], named := ["internal/strconv.uint64pow10", "math/bits.deBruijn32tab", "math/bits.deBruijn64tab"], apart := false, laid := [("math/bits.deBruijn32tab", laid_math_bits_deBruijn32tab), ("math/bits.deBruijn64tab", laid_math_bits_deBruijn64tab), ("internal/strconv.uint64pow10", laid_internal_strconv_uint64pow10)] }
def FnCarValidSaid : Prop := fnCarValidRow.holds Tryd.pinned (OpenSpec.ofChange fnCarValidSpec)

/-- ITS FALSE NEIGHBOUR: 'it returns false'. Refute it at one input. -/
def fnCarValidWrong : ChangeSpec := { name := "fnCarValid", fn := fun _ => fun
  | [d] => { results := [.lit (.bool false)], args := [d] }
  | _ => none }
def FnCarValidWrongFalsely : Prop := fnCarValidRow.holds Tryd.pinned (OpenSpec.ofChange fnCarValidWrong)

/-- 'laws.FnPlacesValid': WHATEVER THE INPUT: true; the input reads as it did. -/
def fnPlacesValidSpec : ChangeSpec := { name := "fnPlacesValid", fn := fun _ => fun
  | [d] => { results := [.lit (.bool true)], args := [d] }
  | _ => none }
def fnPlacesValidRow : OpenClaim := { program := "ytpipbkefelcmbaadoor", sum := "87f8c734f3f3cdecc63296fd1d290dcfdb1b2da32ecab2da2a43bf0bed6a9e47", func := "loop.example/parkinghouse/laws.FnPlacesValid", spec := "fnPlacesValid", inPlace := ["internal/abi.NoEscape"], named := ["internal/strconv.uint64pow10", "math/bits.deBruijn32tab", "math/bits.deBruijn64tab"], apart := false, laid := [("math/bits.deBruijn32tab", laid_math_bits_deBruijn32tab), ("math/bits.deBruijn64tab", laid_math_bits_deBruijn64tab), ("internal/strconv.uint64pow10", laid_internal_strconv_uint64pow10)] }
def FnPlacesValidSaid : Prop := fnPlacesValidRow.holds Tryd.pinned (OpenSpec.ofChange fnPlacesValidSpec)

/-- ITS FALSE NEIGHBOUR: 'it returns false'. Refute it at one input. -/
def fnPlacesValidWrong : ChangeSpec := { name := "fnPlacesValid", fn := fun _ => fun
  | [d] => { results := [.lit (.bool false)], args := [d] }
  | _ => none }
def FnPlacesValidWrongFalsely : Prop := fnPlacesValidRow.holds Tryd.pinned (OpenSpec.ofChange fnPlacesValidWrong)

/-- 'laws.FnCarsValid': WHATEVER THE INPUT: true; the input reads as it did. -/
def fnCarsValidSpec : ChangeSpec := { name := "fnCarsValid", fn := fun _ => fun
  | [d] => { results := [.lit (.bool true)], args := [d] }
  | _ => none }
def fnCarsValidRow : OpenClaim := { program := "ytpipbkefelcmbaadoor", sum := "87f8c734f3f3cdecc63296fd1d290dcfdb1b2da32ecab2da2a43bf0bed6a9e47", func := "loop.example/parkinghouse/laws.FnCarsValid", spec := "fnCarsValid", inPlace := ["internal/abi.NoEscape"], named := ["internal/strconv.uint64pow10", "math/bits.deBruijn32tab", "math/bits.deBruijn64tab"], apart := false, laid := [("math/bits.deBruijn32tab", laid_math_bits_deBruijn32tab), ("math/bits.deBruijn64tab", laid_math_bits_deBruijn64tab), ("internal/strconv.uint64pow10", laid_internal_strconv_uint64pow10)] }
def FnCarsValidSaid : Prop := fnCarsValidRow.holds Tryd.pinned (OpenSpec.ofChange fnCarsValidSpec)

/-- ITS FALSE NEIGHBOUR: 'it returns false'. Refute it at one input. -/
def fnCarsValidWrong : ChangeSpec := { name := "fnCarsValid", fn := fun _ => fun
  | [d] => { results := [.lit (.bool false)], args := [d] }
  | _ => none }
def FnCarsValidWrongFalsely : Prop := fnCarsValidRow.holds Tryd.pinned (OpenSpec.ofChange fnCarsValidWrong)

/-- 'laws.FnPlacesFor': WHATEVER THE INPUT: true; the input reads as it did. -/
def fnPlacesForSpec : ChangeSpec := { name := "fnPlacesFor", fn := fun _ => fun
  | [d] => { results := [.lit (.bool true)], args := [d] }
  | _ => none }
def fnPlacesForRow : OpenClaim := { program := "ytpipbkefelcmbaadoor", sum := "87f8c734f3f3cdecc63296fd1d290dcfdb1b2da32ecab2da2a43bf0bed6a9e47", func := "loop.example/parkinghouse/laws.FnPlacesFor", spec := "fnPlacesFor", inPlace := ["internal/abi.NoEscape"], named := ["internal/strconv.uint64pow10", "math/bits.deBruijn32tab", "math/bits.deBruijn64tab"], apart := false, laid := [("math/bits.deBruijn32tab", laid_math_bits_deBruijn32tab), ("math/bits.deBruijn64tab", laid_math_bits_deBruijn64tab), ("internal/strconv.uint64pow10", laid_internal_strconv_uint64pow10)] }
def FnPlacesForSaid : Prop := fnPlacesForRow.holds Tryd.pinned (OpenSpec.ofChange fnPlacesForSpec)

/-- ITS FALSE NEIGHBOUR: 'it returns false'. Refute it at one input. -/
def fnPlacesForWrong : ChangeSpec := { name := "fnPlacesFor", fn := fun _ => fun
  | [d] => { results := [.lit (.bool false)], args := [d] }
  | _ => none }
def FnPlacesForWrongFalsely : Prop := fnPlacesForRow.holds Tryd.pinned (OpenSpec.ofChange fnPlacesForWrong)

/-- 'laws.FnNested': WHATEVER THE INPUT: true; the input reads as it did. -/
def fnNestedSpec : ChangeSpec := { name := "fnNested", fn := fun _ => fun
  | [d] => { results := [.lit (.bool true)], args := [d] }
  | _ => none }
def fnNestedRow : OpenClaim := { program := "ytpipbkefelcmbaadoor", sum := "87f8c734f3f3cdecc63296fd1d290dcfdb1b2da32ecab2da2a43bf0bed6a9e47", func := "loop.example/parkinghouse/laws.FnNested", spec := "fnNested", inPlace := ["internal/abi.NoEscape"], named := ["internal/strconv.uint64pow10", "math/bits.deBruijn32tab", "math/bits.deBruijn64tab"], apart := false, laid := [("math/bits.deBruijn32tab", laid_math_bits_deBruijn32tab), ("math/bits.deBruijn64tab", laid_math_bits_deBruijn64tab), ("internal/strconv.uint64pow10", laid_internal_strconv_uint64pow10)] }
def FnNestedSaid : Prop := fnNestedRow.holds Tryd.pinned (OpenSpec.ofChange fnNestedSpec)

/-- ITS FALSE NEIGHBOUR: 'it returns false'. Refute it at one input. -/
def fnNestedWrong : ChangeSpec := { name := "fnNested", fn := fun _ => fun
  | [d] => { results := [.lit (.bool false)], args := [d] }
  | _ => none }
def FnNestedWrongFalsely : Prop := fnNestedRow.holds Tryd.pinned (OpenSpec.ofChange fnNestedWrong)

/-- 'laws.FnGiveMany': WHATEVER THE INPUT: true; the input reads as it did. -/
def fnGiveManySpec : ChangeSpec := { name := "fnGiveMany", fn := fun _ => fun
  | [d] => { results := [.lit (.bool true)], args := [d] }
  | _ => none }
def fnGiveManyRow : OpenClaim := { program := "ytpipbkefelcmbaadoor", sum := "87f8c734f3f3cdecc63296fd1d290dcfdb1b2da32ecab2da2a43bf0bed6a9e47", func := "loop.example/parkinghouse/laws.FnGiveMany", spec := "fnGiveMany", inPlace := ["internal/abi.NoEscape"], named := ["internal/strconv.uint64pow10", "math/bits.deBruijn32tab", "math/bits.deBruijn64tab"], apart := false, laid := [("math/bits.deBruijn32tab", laid_math_bits_deBruijn32tab), ("math/bits.deBruijn64tab", laid_math_bits_deBruijn64tab), ("internal/strconv.uint64pow10", laid_internal_strconv_uint64pow10)] }
def FnGiveManySaid : Prop := fnGiveManyRow.holds Tryd.pinned (OpenSpec.ofChange fnGiveManySpec)

/-- ITS FALSE NEIGHBOUR: 'it returns false'. Refute it at one input. -/
def fnGiveManyWrong : ChangeSpec := { name := "fnGiveMany", fn := fun _ => fun
  | [d] => { results := [.lit (.bool false)], args := [d] }
  | _ => none }
def FnGiveManyWrongFalsely : Prop := fnGiveManyRow.holds Tryd.pinned (OpenSpec.ofChange fnGiveManyWrong)

/-- 'laws.FnPlacesOf': WHATEVER THE INPUT: true; the input reads as it did. -/
def fnPlacesOfSpec : ChangeSpec := { name := "fnPlacesOf", fn := fun _ => fun
  | [d] => { results := [.lit (.bool true)], args := [d] }
  | _ => none }
def fnPlacesOfRow : OpenClaim := { program := "ytpipbkefelcmbaadoor", sum := "87f8c734f3f3cdecc63296fd1d290dcfdb1b2da32ecab2da2a43bf0bed6a9e47", func := "loop.example/parkinghouse/laws.FnPlacesOf", spec := "fnPlacesOf", inPlace := ["internal/abi.NoEscape"], named := ["internal/strconv.uint64pow10", "math/bits.deBruijn32tab", "math/bits.deBruijn64tab"], apart := false, laid := [("math/bits.deBruijn32tab", laid_math_bits_deBruijn32tab), ("math/bits.deBruijn64tab", laid_math_bits_deBruijn64tab), ("internal/strconv.uint64pow10", laid_internal_strconv_uint64pow10)] }
def FnPlacesOfSaid : Prop := fnPlacesOfRow.holds Tryd.pinned (OpenSpec.ofChange fnPlacesOfSpec)

/-- ITS FALSE NEIGHBOUR: 'it returns false'. Refute it at one input. -/
def fnPlacesOfWrong : ChangeSpec := { name := "fnPlacesOf", fn := fun _ => fun
  | [d] => { results := [.lit (.bool false)], args := [d] }
  | _ => none }
def FnPlacesOfWrongFalsely : Prop := fnPlacesOfRow.holds Tryd.pinned (OpenSpec.ofChange fnPlacesOfWrong)

/- THE SECOND FORM. 'bulk': how many values and letters a reading holds, each counted each time it is reached (what is shared counts as often as it is met; a slice's spare places count too). A statement '..UptoSaid' is the law's where the arguments, and the package variables that the reading takes, are together of bulk at most 1048576: NARROWER than '..Said'. Prove '..Said' where nothing that the law and all that it calls make is longer than what came in: it says more and counts as full. Else prove '..UptoSaid'. A law counts once. -/
mutual
def uptoBulk {H : Type} : DataW H → Nat
  | .lit (.string bytes) => bytes.length + 1
  | .lit _ => 1
  | .nil => 1
  | .ptr d => uptoBulk d + 1
  | .slice elems spare => uptoBulkAll elems + uptoBulkAll spare + 1
  | .agg parts => uptoBulkAll parts + 1
  | .iface _ d => uptoBulk d + 1
  | .map entries => uptoBulkEntries entries + 1
  | .held _ => 1
def uptoBulkAll {H : Type} : List (DataW H) → Nat
  | [] => 0
  | d :: r => uptoBulk d + uptoBulkAll r
def uptoBulkEntries {H : Type} : List (Lit × DataW H) → Nat
  | [] => 0
  | x :: r => uptoBulkEntry x + uptoBulkEntries r
def uptoBulkEntry {H : Type} : Lit × DataW H → Nat
  | (.string bytes, d) => bytes.length + uptoBulk d + 1
  | (_, d) => uptoBulk d + 1
 end
def uptoSmall : (H : Type) → List (DataW H) → Bool := fun _ ds => decide (uptoBulkAll ds ≤ 1048576)
def OpenSpec.upto (s : _root_.Go.ChangeSpec) : _root_.Go.OpenSpec := { _root_.Go.OpenSpec.ofChange s with cond := some uptoSmall }

/-- 'laws.FnFits', WHERE WHAT IT READS IS OF BULK AT MOST 1048576: true; the input reads as it did. -/
def fnFitsUptoRow : OpenClaim := { program := "ytpipbkefelcmbaadoor", sum := "87f8c734f3f3cdecc63296fd1d290dcfdb1b2da32ecab2da2a43bf0bed6a9e47", func := "loop.example/parkinghouse/laws.FnFits", spec := "fnFits", inPlace := ["internal/abi.NoEscape"], named := ["internal/strconv.uint64pow10", "math/bits.deBruijn32tab", "math/bits.deBruijn64tab"], apart := false, laid := [("math/bits.deBruijn32tab", laid_math_bits_deBruijn32tab), ("math/bits.deBruijn64tab", laid_math_bits_deBruijn64tab), ("internal/strconv.uint64pow10", laid_internal_strconv_uint64pow10)], narrowed := true }
def FnFitsUptoSaid : Prop := fnFitsUptoRow.holds Tryd.pinned (OpenSpec.upto fnFitsSpec)

/-- 'laws.FnCarValid', WHERE WHAT IT READS IS OF BULK AT MOST 1048576: true; the input reads as it did. -/
def fnCarValidUptoRow : OpenClaim := { program := "ytpipbkefelcmbaadoor", sum := "87f8c734f3f3cdecc63296fd1d290dcfdb1b2da32ecab2da2a43bf0bed6a9e47", func := "loop.example/parkinghouse/laws.FnCarValid", spec := "fnCarValid", inPlace := ["internal/abi.NoEscape"], named := ["internal/strconv.uint64pow10", "math/bits.deBruijn32tab", "math/bits.deBruijn64tab"], apart := false, laid := [("math/bits.deBruijn32tab", laid_math_bits_deBruijn32tab), ("math/bits.deBruijn64tab", laid_math_bits_deBruijn64tab), ("internal/strconv.uint64pow10", laid_internal_strconv_uint64pow10)], narrowed := true }
def FnCarValidUptoSaid : Prop := fnCarValidUptoRow.holds Tryd.pinned (OpenSpec.upto fnCarValidSpec)

/-- 'laws.FnPlacesValid', WHERE WHAT IT READS IS OF BULK AT MOST 1048576: true; the input reads as it did. -/
def fnPlacesValidUptoRow : OpenClaim := { program := "ytpipbkefelcmbaadoor", sum := "87f8c734f3f3cdecc63296fd1d290dcfdb1b2da32ecab2da2a43bf0bed6a9e47", func := "loop.example/parkinghouse/laws.FnPlacesValid", spec := "fnPlacesValid", inPlace := ["internal/abi.NoEscape"], named := ["internal/strconv.uint64pow10", "math/bits.deBruijn32tab", "math/bits.deBruijn64tab"], apart := false, laid := [("math/bits.deBruijn32tab", laid_math_bits_deBruijn32tab), ("math/bits.deBruijn64tab", laid_math_bits_deBruijn64tab), ("internal/strconv.uint64pow10", laid_internal_strconv_uint64pow10)], narrowed := true }
def FnPlacesValidUptoSaid : Prop := fnPlacesValidUptoRow.holds Tryd.pinned (OpenSpec.upto fnPlacesValidSpec)

/-- 'laws.FnCarsValid', WHERE WHAT IT READS IS OF BULK AT MOST 1048576: true; the input reads as it did. -/
def fnCarsValidUptoRow : OpenClaim := { program := "ytpipbkefelcmbaadoor", sum := "87f8c734f3f3cdecc63296fd1d290dcfdb1b2da32ecab2da2a43bf0bed6a9e47", func := "loop.example/parkinghouse/laws.FnCarsValid", spec := "fnCarsValid", inPlace := ["internal/abi.NoEscape"], named := ["internal/strconv.uint64pow10", "math/bits.deBruijn32tab", "math/bits.deBruijn64tab"], apart := false, laid := [("math/bits.deBruijn32tab", laid_math_bits_deBruijn32tab), ("math/bits.deBruijn64tab", laid_math_bits_deBruijn64tab), ("internal/strconv.uint64pow10", laid_internal_strconv_uint64pow10)], narrowed := true }
def FnCarsValidUptoSaid : Prop := fnCarsValidUptoRow.holds Tryd.pinned (OpenSpec.upto fnCarsValidSpec)

/-- 'laws.FnPlacesFor', WHERE WHAT IT READS IS OF BULK AT MOST 1048576: true; the input reads as it did. -/
def fnPlacesForUptoRow : OpenClaim := { program := "ytpipbkefelcmbaadoor", sum := "87f8c734f3f3cdecc63296fd1d290dcfdb1b2da32ecab2da2a43bf0bed6a9e47", func := "loop.example/parkinghouse/laws.FnPlacesFor", spec := "fnPlacesFor", inPlace := ["internal/abi.NoEscape"], named := ["internal/strconv.uint64pow10", "math/bits.deBruijn32tab", "math/bits.deBruijn64tab"], apart := false, laid := [("math/bits.deBruijn32tab", laid_math_bits_deBruijn32tab), ("math/bits.deBruijn64tab", laid_math_bits_deBruijn64tab), ("internal/strconv.uint64pow10", laid_internal_strconv_uint64pow10)], narrowed := true }
def FnPlacesForUptoSaid : Prop := fnPlacesForUptoRow.holds Tryd.pinned (OpenSpec.upto fnPlacesForSpec)

/-- 'laws.FnNested', WHERE WHAT IT READS IS OF BULK AT MOST 1048576: true; the input reads as it did. -/
def fnNestedUptoRow : OpenClaim := { program := "ytpipbkefelcmbaadoor", sum := "87f8c734f3f3cdecc63296fd1d290dcfdb1b2da32ecab2da2a43bf0bed6a9e47", func := "loop.example/parkinghouse/laws.FnNested", spec := "fnNested", inPlace := ["internal/abi.NoEscape"], named := ["internal/strconv.uint64pow10", "math/bits.deBruijn32tab", "math/bits.deBruijn64tab"], apart := false, laid := [("math/bits.deBruijn32tab", laid_math_bits_deBruijn32tab), ("math/bits.deBruijn64tab", laid_math_bits_deBruijn64tab), ("internal/strconv.uint64pow10", laid_internal_strconv_uint64pow10)], narrowed := true }
def FnNestedUptoSaid : Prop := fnNestedUptoRow.holds Tryd.pinned (OpenSpec.upto fnNestedSpec)

/-- 'laws.FnGiveMany', WHERE WHAT IT READS IS OF BULK AT MOST 1048576: true; the input reads as it did. -/
def fnGiveManyUptoRow : OpenClaim := { program := "ytpipbkefelcmbaadoor", sum := "87f8c734f3f3cdecc63296fd1d290dcfdb1b2da32ecab2da2a43bf0bed6a9e47", func := "loop.example/parkinghouse/laws.FnGiveMany", spec := "fnGiveMany", inPlace := ["internal/abi.NoEscape"], named := ["internal/strconv.uint64pow10", "math/bits.deBruijn32tab", "math/bits.deBruijn64tab"], apart := false, laid := [("math/bits.deBruijn32tab", laid_math_bits_deBruijn32tab), ("math/bits.deBruijn64tab", laid_math_bits_deBruijn64tab), ("internal/strconv.uint64pow10", laid_internal_strconv_uint64pow10)], narrowed := true }
def FnGiveManyUptoSaid : Prop := fnGiveManyUptoRow.holds Tryd.pinned (OpenSpec.upto fnGiveManySpec)

/-- 'laws.FnPlacesOf', WHERE WHAT IT READS IS OF BULK AT MOST 1048576: true; the input reads as it did. -/
def fnPlacesOfUptoRow : OpenClaim := { program := "ytpipbkefelcmbaadoor", sum := "87f8c734f3f3cdecc63296fd1d290dcfdb1b2da32ecab2da2a43bf0bed6a9e47", func := "loop.example/parkinghouse/laws.FnPlacesOf", spec := "fnPlacesOf", inPlace := ["internal/abi.NoEscape"], named := ["internal/strconv.uint64pow10", "math/bits.deBruijn32tab", "math/bits.deBruijn64tab"], apart := false, laid := [("math/bits.deBruijn32tab", laid_math_bits_deBruijn32tab), ("math/bits.deBruijn64tab", laid_math_bits_deBruijn64tab), ("internal/strconv.uint64pow10", laid_internal_strconv_uint64pow10)], narrowed := true }
def FnPlacesOfUptoSaid : Prop := fnPlacesOfUptoRow.holds Tryd.pinned (OpenSpec.upto fnPlacesOfSpec)

end Rows
end Go.Proofs.YtpipbkefelcmbaaDoor
