/-
  DERIVED: THE SHELF's CONTRACTS AT THIS DUMP, IN PLAIN WORDS (tools/lay-plain.mjs out of 'TrydShelf.lean', which tools/lay-shelf.mjs wrote): THE SAME DECLARATIONS UNDER THE SAME NAMES: 'import', 'namespace', 'open', 'def', 'theorem' AND NOTHING ELSE: no command of the shelf's: FOR A HAND-IN. Each laying: the table of numbers ('.._ren') and one theorem, a field a fact of the dump's own or the kernel's comparison; each contract: ONE APPLICATION.
-/
import Derived.Shelf.Strings.Builder1
import Derived.Shelf.Strconv.Itoa0
import Derived.Shelf.Strconv.Itoa1
import Derived.Shelf.LaysM
import Derived.Shelf.Strconv.Itoa2
import Derived.Shelf.Strconv.Itoa3
import Derived.Shelf.Sort.Plain
import Derived.Shelf.Slices.Turned
import Derived.Shelf.Slices.In.SortNone
import Derived.Test.YtdebjcempkgeaaaDoorProg
namespace Go.Proofs
open Go.Shelf
def Tryd.lays169_ren : Go.Shelf.Ren := ⟨fun | 169 => 41 | n => n, fun | 70 => 61 | 9 => 9 | 0 => 0 | 72 => 63 | 37 => 22 | 127 => 84 | 3 => 3 | 5 => 5 | n => n, fun | n => n⟩
theorem Tryd.lays169 : Go.Proofs.Lays.n169 Tryd.prog Tryd.lays169_ren := {
  mixed := by kernel_rfl
  f169 := Tryd.func41.trans (congrArg some (by kernel_rfl))
  t0 := Tryd.underlying0
  a0 := Tryd.isAgg0
  z0 := Tryd.sizeOf0
  v0 := Tryd.zeroValue0
  t3 := Tryd.underlying3
  a3 := Tryd.isAgg3
  z3 := Tryd.sizeOf3
  v3 := Tryd.zeroValue3
  t9 := Tryd.underlying9
  a9 := Tryd.isAgg9
  z9 := Tryd.sizeOf9
  v9 := Tryd.zeroValue9
  t37 := Tryd.underlying22
  a37 := Tryd.isAgg22
  z37 := Tryd.sizeOf22
  v37 := Tryd.zeroValue22
  t70 := Tryd.underlying61
  a70 := Tryd.isAgg61
  z70 := Tryd.sizeOf61
  v70 := Tryd.zeroValue61
  t72 := Tryd.underlying63
  a72 := Tryd.isAgg63
  z72 := Tryd.sizeOf63
  v72 := Tryd.zeroValue63
  t127 := Tryd.underlying84
  a127 := Tryd.isAgg84
  z127 := Tryd.sizeOf84
  v127 := Tryd.zeroValue84 }
theorem Tryd.Builder_Extra_169 : Builder.Extra Tryd.prog Tryd.lays169_ren := {
  sizeBuilder := by kernel_rfl
  liesBuilder := by kernel_rfl
  t5 := Tryd.underlying5
  a5 := Tryd.isAgg5
  z5 := Tryd.sizeOf5
  v5 := Tryd.zeroValue5
  infoByte := by kernel_rfl
  cellsByte := by kernel_rfl
  sizeByte := by kernel_rfl
  neB5 := by decide }
open Go.RowKit in
/-- (*strings.Builder).String: "String returns the accumulated string.": WHATEVER THE BUILDER HOLDS. (LAID: no walk: one application.) -/
theorem Tryd.Builder_String_any (B b : Nat) (l : List UInt8) (w : World) (h : Lib.IsBuilder 63 5 B b (Lib.byteCells l) w) (hBw : B ≤ w.heap.size) :
    Calls Tryd.prog 41 #[.pointer (some ⟨b, 0, none⟩)] w fun e w' => e = .returned (.string ⟨l.toArray⟩) ∧ Below B w w' := Any.Builder_String_any Tryd.lays169 Tryd.Builder_Extra_169 B b l w h hBw
def Tryd.lays243_ren : Go.Shelf.Ren := ⟨fun | 243 => 56 | 246 => 77 | 283 => 88 | 284 => 89 | 285 => 90 | 286 => 91 | 129 => 67 | 317 => 94 | 318 => 95 | 319 => 96 | 320 => 97 | 337 => 99 | 338 => 100 | n => n, fun | 3 => 3 | 9 => 9 | 2 => 2 | 4 => 4 | 171 => 113 | 0 => 0 | 53 => 97 | 37 => 22 | 5 => 5 | 173 => 115 | 212 => 121 | 51 => 95 | 20 => 20 | 213 => 122 | 46 => 73 | 232 => 124 | 233 => 125 | n => n, fun | 17 => 0 | 18 => 1 | 19 => 2 | n => n⟩
theorem Tryd.lays243 : Go.Proofs.Lays.n243 Tryd.prog Tryd.lays243_ren := {
  mixed := by kernel_rfl
  f129 := Tryd.func67.trans (congrArg some (by kernel_rfl))
  f243 := Tryd.func56.trans (congrArg some (by kernel_rfl))
  f246 := Tryd.func77.trans (congrArg some (by kernel_rfl))
  f283 := Tryd.func88.trans (congrArg some (by kernel_rfl))
  f284 := Tryd.func89.trans (congrArg some (by kernel_rfl))
  f285 := Tryd.func90.trans (congrArg some (by kernel_rfl))
  f286 := Tryd.func91.trans (congrArg some (by kernel_rfl))
  f317 := Tryd.func94.trans (congrArg some (by kernel_rfl))
  f318 := Tryd.func95.trans (congrArg some (by kernel_rfl))
  f319 := Tryd.func96.trans (congrArg some (by kernel_rfl))
  f320 := Tryd.func97.trans (congrArg some (by kernel_rfl))
  f337 := Tryd.func99.trans (congrArg some (by kernel_rfl))
  f338 := Tryd.func100.trans (congrArg some (by kernel_rfl))
  t0 := Tryd.underlying0
  a0 := Tryd.isAgg0
  z0 := Tryd.sizeOf0
  v0 := Tryd.zeroValue0
  t2 := Tryd.underlying2
  a2 := Tryd.isAgg2
  z2 := Tryd.sizeOf2
  v2 := Tryd.zeroValue2
  t3 := Tryd.underlying3
  a3 := Tryd.isAgg3
  z3 := Tryd.sizeOf3
  v3 := Tryd.zeroValue3
  t4 := Tryd.underlying4
  a4 := Tryd.isAgg4
  z4 := Tryd.sizeOf4
  v4 := Tryd.zeroValue4
  t5 := Tryd.underlying5
  a5 := Tryd.isAgg5
  z5 := Tryd.sizeOf5
  v5 := Tryd.zeroValue5
  t9 := Tryd.underlying9
  a9 := Tryd.isAgg9
  z9 := Tryd.sizeOf9
  v9 := Tryd.zeroValue9
  t20 := Tryd.underlying20
  a20 := Tryd.isAgg20
  z20 := Tryd.sizeOf20
  v20 := Tryd.zeroValue20
  t37 := Tryd.underlying22
  a37 := Tryd.isAgg22
  z37 := Tryd.sizeOf22
  v37 := Tryd.zeroValue22
  t46 := Tryd.underlying73
  a46 := Tryd.isAgg73
  z46 := Tryd.sizeOf73
  v46 := Tryd.zeroValue73
  t51 := Tryd.underlying95
  a51 := Tryd.isAgg95
  z51 := Tryd.sizeOf95
  v51 := Tryd.zeroValue95
  t53 := Tryd.underlying97
  a53 := Tryd.isAgg97
  z53 := Tryd.sizeOf97
  v53 := Tryd.zeroValue97
  t171 := Tryd.underlying113
  a171 := Tryd.isAgg113
  z171 := Tryd.sizeOf113
  v171 := Tryd.zeroValue113
  t173 := Tryd.underlying115
  a173 := Tryd.isAgg115
  z173 := Tryd.sizeOf115
  v173 := Tryd.zeroValue115
  t212 := Tryd.underlying121
  a212 := Tryd.isAgg121
  z212 := Tryd.sizeOf121
  v212 := Tryd.zeroValue121
  t213 := Tryd.underlying122
  a213 := Tryd.isAgg122
  z213 := Tryd.sizeOf122
  t232 := Tryd.underlying124
  a232 := Tryd.isAgg124
  z232 := Tryd.sizeOf124
  v232 := Tryd.zeroValue124
  t233 := Tryd.underlying125
  a233 := Tryd.isAgg125
  z233 := Tryd.sizeOf125
  v233 := Tryd.zeroValue125
  g17 := by kernel_rfl
  g18 := by kernel_rfl
  g19 := by kernel_rfl }
open Go.RowKit Go.Sort Go.Lib in
/-- THE ROAD WITHOUT THE TABLE: 0 <= i < 100. (LAID: no walk: one application.) -/
theorem Tryd.internal_strconv_Itoa_small (i : Nat) (hi : i < 100) (w : World) :
    Calls Tryd.prog 56 #[.int .i64 i] w fun e w' => e = .returned (.string ⟨(Lib.decDigits i).toArray⟩) ∧ w' = w := Any.internal_strconv_Itoa_small Tryd.lays243 i hi w
def Tryd.lays171_ren : Go.Shelf.Ren := ⟨fun | 171 => 40 | 243 => 56 | 246 => 77 | 283 => 88 | 284 => 89 | 285 => 90 | 286 => 91 | 129 => 67 | 317 => 94 | 318 => 95 | 319 => 96 | 320 => 97 | 337 => 99 | 338 => 100 | n => n, fun | 3 => 3 | 9 => 9 | 2 => 2 | 4 => 4 | 171 => 113 | 0 => 0 | 53 => 97 | 37 => 22 | 5 => 5 | 173 => 115 | 212 => 121 | 51 => 95 | 20 => 20 | 213 => 122 | 46 => 73 | 232 => 124 | 233 => 125 | n => n, fun | 17 => 0 | 18 => 1 | 19 => 2 | n => n⟩
theorem Tryd.lays171 : Go.Proofs.Lays.n171 Tryd.prog Tryd.lays171_ren := {
  mixed := by kernel_rfl
  f129 := Tryd.func67.trans (congrArg some (by kernel_rfl))
  f171 := Tryd.func40.trans (congrArg some (by kernel_rfl))
  f243 := Tryd.func56.trans (congrArg some (by kernel_rfl))
  f246 := Tryd.func77.trans (congrArg some (by kernel_rfl))
  f283 := Tryd.func88.trans (congrArg some (by kernel_rfl))
  f284 := Tryd.func89.trans (congrArg some (by kernel_rfl))
  f285 := Tryd.func90.trans (congrArg some (by kernel_rfl))
  f286 := Tryd.func91.trans (congrArg some (by kernel_rfl))
  f317 := Tryd.func94.trans (congrArg some (by kernel_rfl))
  f318 := Tryd.func95.trans (congrArg some (by kernel_rfl))
  f319 := Tryd.func96.trans (congrArg some (by kernel_rfl))
  f320 := Tryd.func97.trans (congrArg some (by kernel_rfl))
  f337 := Tryd.func99.trans (congrArg some (by kernel_rfl))
  f338 := Tryd.func100.trans (congrArg some (by kernel_rfl))
  t0 := Tryd.underlying0
  a0 := Tryd.isAgg0
  z0 := Tryd.sizeOf0
  v0 := Tryd.zeroValue0
  t2 := Tryd.underlying2
  a2 := Tryd.isAgg2
  z2 := Tryd.sizeOf2
  v2 := Tryd.zeroValue2
  t3 := Tryd.underlying3
  a3 := Tryd.isAgg3
  z3 := Tryd.sizeOf3
  v3 := Tryd.zeroValue3
  t4 := Tryd.underlying4
  a4 := Tryd.isAgg4
  z4 := Tryd.sizeOf4
  v4 := Tryd.zeroValue4
  t5 := Tryd.underlying5
  a5 := Tryd.isAgg5
  z5 := Tryd.sizeOf5
  v5 := Tryd.zeroValue5
  t9 := Tryd.underlying9
  a9 := Tryd.isAgg9
  z9 := Tryd.sizeOf9
  v9 := Tryd.zeroValue9
  t20 := Tryd.underlying20
  a20 := Tryd.isAgg20
  z20 := Tryd.sizeOf20
  v20 := Tryd.zeroValue20
  t37 := Tryd.underlying22
  a37 := Tryd.isAgg22
  z37 := Tryd.sizeOf22
  v37 := Tryd.zeroValue22
  t46 := Tryd.underlying73
  a46 := Tryd.isAgg73
  z46 := Tryd.sizeOf73
  v46 := Tryd.zeroValue73
  t51 := Tryd.underlying95
  a51 := Tryd.isAgg95
  z51 := Tryd.sizeOf95
  v51 := Tryd.zeroValue95
  t53 := Tryd.underlying97
  a53 := Tryd.isAgg97
  z53 := Tryd.sizeOf97
  v53 := Tryd.zeroValue97
  t171 := Tryd.underlying113
  a171 := Tryd.isAgg113
  z171 := Tryd.sizeOf113
  v171 := Tryd.zeroValue113
  t173 := Tryd.underlying115
  a173 := Tryd.isAgg115
  z173 := Tryd.sizeOf115
  v173 := Tryd.zeroValue115
  t212 := Tryd.underlying121
  a212 := Tryd.isAgg121
  z212 := Tryd.sizeOf121
  v212 := Tryd.zeroValue121
  t213 := Tryd.underlying122
  a213 := Tryd.isAgg122
  z213 := Tryd.sizeOf122
  t232 := Tryd.underlying124
  a232 := Tryd.isAgg124
  z232 := Tryd.sizeOf124
  v232 := Tryd.zeroValue124
  t233 := Tryd.underlying125
  a233 := Tryd.isAgg125
  z233 := Tryd.sizeOf125
  v233 := Tryd.zeroValue125
  g17 := by kernel_rfl
  g18 := by kernel_rfl
  g19 := by kernel_rfl }
open Go.RowKit Go.Sort Go.Lib in
/-- THE ROAD WITHOUT THE TABLE: 0 <= i < 100: NO PREMISE ON THE WORLD, AND THE WORLD IS AS IT WAS: a row that keeps its argument in that range need list no table ('laid = []'). (LAID: no walk: one application.) -/
theorem Tryd.strconv_Itoa_small (i : Nat) (hi : i < 100) (w : World) :
    Calls Tryd.prog 40 #[.int .i64 i] w fun e w' => e = .returned (.string ⟨(Lib.decDigits i).toArray⟩) ∧ w' = w := Any.strconv_Itoa_small Tryd.lays171 i hi w
def Tryd.lays189_ren : Go.Shelf.Ren := ⟨fun | 189 => 27 | 125 => 43 | 257 => 42 | 128 => 66 | 129 => 67 | 294 => 57 | 295 => 58 | 296 => 59 | 297 => 60 | 298 => 61 | 299 => 62 | 216 => 63 | 300 => 64 | 301 => 65 | 328 => 78 | 329 => 79 | 330 => 80 | 331 => 81 | 332 => 82 | 215 => 83 | 343 => 92 | n => n, fun | 28 => 23 | 3 => 3 | 46 => 73 | 0 => 0 | 51 => 95 | 53 => 97 | 4 => 4 | 183 => 87 | 182 => 86 | 131 => 92 | 5 => 5 | 9 => 9 | 218 => 106 | 222 => 110 | 228 => 117 | 229 => 118 | n => n, fun | n => n⟩
theorem Tryd.lays189 : Go.Proofs.Lays.n189 Tryd.prog Tryd.lays189_ren := {
  mixed := by kernel_rfl
  f125 := Tryd.func43.trans (congrArg some (by kernel_rfl))
  f128 := Tryd.func66.trans (congrArg some (by kernel_rfl))
  f129 := Tryd.func67.trans (congrArg some (by kernel_rfl))
  f189 := Tryd.func27.trans (congrArg some (by kernel_rfl))
  f215 := Tryd.func83.trans (congrArg some (by kernel_rfl))
  f216 := Tryd.func63.trans (congrArg some (by kernel_rfl))
  f257 := Tryd.func42.trans (congrArg some (by kernel_rfl))
  f294 := Tryd.func57.trans (congrArg some (by kernel_rfl))
  f295 := Tryd.func58.trans (congrArg some (by kernel_rfl))
  f296 := Tryd.func59.trans (congrArg some (by kernel_rfl))
  f297 := Tryd.func60.trans (congrArg some (by kernel_rfl))
  f298 := Tryd.func61.trans (congrArg some (by kernel_rfl))
  f299 := Tryd.func62.trans (congrArg some (by kernel_rfl))
  f300 := Tryd.func64.trans (congrArg some (by kernel_rfl))
  f301 := Tryd.func65.trans (congrArg some (by kernel_rfl))
  f328 := Tryd.func78.trans (congrArg some (by kernel_rfl))
  f329 := Tryd.func79.trans (congrArg some (by kernel_rfl))
  f330 := Tryd.func80.trans (congrArg some (by kernel_rfl))
  f331 := Tryd.func81.trans (congrArg some (by kernel_rfl))
  f332 := Tryd.func82.trans (congrArg some (by kernel_rfl))
  f343 := Tryd.func92.trans (congrArg some (by kernel_rfl))
  t0 := Tryd.underlying0
  a0 := Tryd.isAgg0
  z0 := Tryd.sizeOf0
  v0 := Tryd.zeroValue0
  t3 := Tryd.underlying3
  a3 := Tryd.isAgg3
  z3 := Tryd.sizeOf3
  v3 := Tryd.zeroValue3
  t4 := Tryd.underlying4
  a4 := Tryd.isAgg4
  z4 := Tryd.sizeOf4
  v4 := Tryd.zeroValue4
  t5 := Tryd.underlying5
  a5 := Tryd.isAgg5
  z5 := Tryd.sizeOf5
  v5 := Tryd.zeroValue5
  t9 := Tryd.underlying9
  a9 := Tryd.isAgg9
  z9 := Tryd.sizeOf9
  v9 := Tryd.zeroValue9
  t28 := Tryd.underlying23
  a28 := Tryd.isAgg23
  z28 := Tryd.sizeOf23
  v28 := Tryd.zeroValue23
  t46 := Tryd.underlying73
  a46 := Tryd.isAgg73
  z46 := Tryd.sizeOf73
  v46 := Tryd.zeroValue73
  t51 := Tryd.underlying95
  a51 := Tryd.isAgg95
  z51 := Tryd.sizeOf95
  v51 := Tryd.zeroValue95
  t53 := Tryd.underlying97
  a53 := Tryd.isAgg97
  z53 := Tryd.sizeOf97
  v53 := Tryd.zeroValue97
  t131 := Tryd.underlying92
  a131 := Tryd.isAgg92
  z131 := Tryd.sizeOf92
  v131 := Tryd.zeroValue92
  t182 := Tryd.underlying86
  a182 := Tryd.isAgg86
  z182 := Tryd.sizeOf86
  v182 := Tryd.zeroValue86
  t183 := Tryd.underlying87
  a183 := Tryd.isAgg87
  z183 := Tryd.sizeOf87
  v183 := Tryd.zeroValue87
  t218 := Tryd.underlying106
  a218 := Tryd.isAgg106
  z218 := Tryd.sizeOf106
  v218 := Tryd.zeroValue106
  t222 := Tryd.underlying110
  a222 := Tryd.isAgg110
  z222 := Tryd.sizeOf110
  v222 := Tryd.zeroValue110
  t228 := Tryd.underlying117
  a228 := Tryd.isAgg117
  z228 := Tryd.sizeOf117
  v228 := Tryd.zeroValue117
  t229 := Tryd.underlying118
  a229 := Tryd.isAgg118
  z229 := Tryd.sizeOf118
  v229 := Tryd.zeroValue118 }
open Go.Sort Go.RowKit in
theorem Tryd.slices_Sort_int (blk off cap : Nat) (zs : List Int) (w : World) (hH : Holds (Value.int .i64) w blk off zs.toArray) (hblk : blk < w.heap.size) (hsz : zs.length < 4611686018427387904) :
    Calls Tryd.prog 27 #[.slice (some ⟨blk, off, none⟩) zs.length cap] w fun e w' =>
      e = .returned (.tuple #[]) ∧ ∃ n os, w' = grow (putRow (Value.int .i64) (Sort.ahead w n) blk off (zs.mergeSort fun x y => decide (x ≤ y)).toArray) os := Any.slices_Sort_int Tryd.lays189 blk off cap zs w hH hblk hsz
def Tryd.lays108_ren : Go.Shelf.Ren := ⟨fun | 108 => 26 | n => n, fun | 28 => 23 | 3 => 3 | 0 => 0 | 4 => 4 | n => n, fun | n => n⟩
theorem Tryd.lays108 : Go.Proofs.Lays.n108 Tryd.prog Tryd.lays108_ren := {
  mixed := by kernel_rfl
  f108 := Tryd.func26.trans (congrArg some (by kernel_rfl))
  t0 := Tryd.underlying0
  a0 := Tryd.isAgg0
  z0 := Tryd.sizeOf0
  v0 := Tryd.zeroValue0
  t3 := Tryd.underlying3
  a3 := Tryd.isAgg3
  z3 := Tryd.sizeOf3
  v3 := Tryd.zeroValue3
  t4 := Tryd.underlying4
  a4 := Tryd.isAgg4
  z4 := Tryd.sizeOf4
  v4 := Tryd.zeroValue4
  t28 := Tryd.underlying23
  a28 := Tryd.isAgg23
  z28 := Tryd.sizeOf23
  v28 := Tryd.zeroValue23 }
open Go.Lib in
/-- slices.Index at []int: "Index returns the index of the first occurrence of v in s, or -1 if not present.": IT RETURNS 'Lib.idxOf (the elements) v'; the world is as it was. 'zs': what the cells behind the slice's address hold (its spare capacity too, if you have it); 'zs.take n': its elements. (LAID: no walk: one application.) -/
theorem Tryd.slices_Index_int (b off n c : Nat) (zs : List Int) (x : Int) (w : World) (hz : n ≤ zs.length) (hbig : n ≤ 9223372036854775807) (hc : ∀ j, j < zs.length → w.cell? ⟨b, off + j, none⟩ = some (.int .i64 (zs.getD j 0))) :
    Calls Tryd.prog 26 #[.slice (some ⟨b, off, none⟩) n c, .int .i64 x] w fun e w' => e = .returned (.int .i64 (Lib.idxOf (zs.take n) x)) ∧ w' = w := Any.slices_Index_int Tryd.lays108 b off n c zs x w hz hbig hc
open Go.Lib in
/-- The same at a slice of length 0, a nil one too: no cell is known, none is asked for. (LAID: no walk: one application.) -/
theorem Tryd.slices_Index_int_empty (a : Option Addr) (c : Nat) (x : Int) (w : World) :
    Calls Tryd.prog 26 #[.slice a 0 c, .int .i64 x] w fun e w' => e = .returned (.int .i64 (Lib.idxOf [] x)) ∧ w' = w := Any.slices_Index_int_empty Tryd.lays108 a c x w
open Go.RowKit Go.Sort in
/-- .. and plain. (LAID: no walk: one application.) -/
theorem Tryd.slices_Sort_int_none (p : Option Addr) (cap : Nat) (w : World) :
    Calls Tryd.prog 27 #[.slice p 0 cap] w fun e w' => e = .returned (.tuple #[]) ∧ w' = w := Any.slices_Sort_int_none Tryd.lays189 p cap w
end Go.Proofs
