/-
  The walk of laws.FnExactCarText: it returns true, whatever comes in.
-/
import Derived.Test.YtpbdmghmbicciaaDoorCarTx
namespace Go.Proofs.YtpbdmghmbicciaaDoor
open Go.ChangeShapes Go.WideShapes Go.ChangeAt Go.RowKit

set_option maxHeartbeats 2000000 in
theorem lawExactCarText (a b c d : Int) (w : World) : Calls Tryd.prog 3 #[.agg #[.int .i64 a, .int .i64 b, .int .i64 c, .int .i64 d]] w (RV w (.bool true)) := by
  have hW := Whole.new w 23 [.int .i64 a, .int .i64 b, .int .i64 c, .int .i64 d]
  have hB : Below w.heap.size w (w.alloc (.cells #[.int .i64 a, .int .i64 b, .int .i64 c, .int .i64 d] 23)) := (Below.refl _ _).alloc (Nat.le_refl _) _
  obtain ⟨T, hT⟩ : ∃ x : List UInt8, Hid (x = carT a b c d) := ⟨carT a b c d, Lib.hid rfl⟩
  go_enter Tryd.func3, Tryd.ntmps3
  go_wp2_with fail
  refine (toCar_any _ _ _ _ _).mono ?_; rintro e w1 ⟨rfl, hb1⟩
  have hW1 := hW.below hb1
  have hB1 := below_next hB hb1
  go_wp2_with fail
  refine (specCarText_any _ _ _ _ _).mono ?_; rintro e w2 ⟨rfl, hb2⟩
  have hW2 := hW1.below hb2
  have hB2 := below_next hB1 hb2
  have hq0 := hW2.cell 0
  have hq1 := hW2.cell 1
  have hq2 := hW2.cell 2
  have hq3 := hW2.cell 3
  simp only [List.getElem?_cons_zero, List.getElem?_cons_succ] at hq0 hq1 hq2 hq3
  rw [← hT.out]
  go_wp2_with fail
  refine (toCar_any _ _ _ _ _).mono ?_; rintro e w3 ⟨rfl, hb3⟩
  have hB3 := below_next hB2 hb3
  go_wp2_with fail
  refine (carText_any _ _ _ _ _).mono ?_; rintro e w4 ⟨rfl, hb4⟩
  have hB4 := below_next hB3 hb4
  rw [← hT.out]
  go_wp2
  go_ret
  exact ⟨rfl, hB4⟩
end Go.Proofs.YtpbdmghmbicciaaDoor
