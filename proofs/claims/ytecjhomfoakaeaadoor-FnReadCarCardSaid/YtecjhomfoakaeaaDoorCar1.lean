/-
  One car and one place: CarValid, Fits of the program and of the reference, and their copies.
-/
import Derived.Test.YtecjhomfoakaeaaDoorL1
import Derived.Test.YtecjhomfoakaeaaDoorLib
namespace Go.Proofs.YtecjhomfoakaeaaDoor
open Go.ChangeShapes Go.WideShapes Go.ChangeAt Go.RowKit

set_option maxHeartbeats 1000000 in
theorem sizeIn_any (x l : Int) (w : World) :
    Calls Tryd.prog 26 #[.int .i64 x, .int .i64 l] w (RS w (.bool (decide (l ≤ x) && decide (x ≤ 9)))) := by
  go_enter Tryd.func26, Tryd.ntmps26
  go_wp2
  all_goals
    go_ret
    refine ⟨ret_bool ?_, rfl⟩
    simp; try omega
def carB (a b c d : Int) : Bool := decide (1 ≤ a) && decide (a ≤ 99) && decide (1 ≤ b) && decide (b ≤ 9) && decide (1 ≤ c) && decide (c ≤ 9) && decide (1 ≤ d) && decide (d ≤ 9)
set_option maxHeartbeats 1000000 in
theorem carValid_any (a b c d : Int) (w : World) :
    Calls Tryd.prog 12 #[.agg #[.int .i64 a, .int .i64 b, .int .i64 c, .int .i64 d]] w (RV w (.bool (carB a b c d))) := by
  go_enter Tryd.func12, Tryd.ntmps12
  go_wp2_with (go_at_call 26; refine (sizeIn_any _ _ _).mono ?_; rintro e w1 ⟨rfl, rfl⟩)
  all_goals
    go_ret
    refine ⟨ret_bool ?_, (Below.refl _ _).alloc (Nat.le_refl _) _⟩
    rw [Bool.eq_iff_iff]; simp [carB]; omega
set_option maxHeartbeats 1000000 in
theorem specCarValid_any (a b c d : Int) (w : World) :
    Calls Tryd.prog 24 #[.agg #[.int .i64 a, .int .i64 b, .int .i64 c, .int .i64 d]] w (RV w (.bool (carB a b c d))) := by
  go_enter Tryd.func24, Tryd.ntmps24
  go_wp2_with (go_at_call 28; refine (l1In_any _ _ _ _).mono ?_; rintro e w1 ⟨rfl, rfl⟩)
  all_goals
    go_ret
    refine ⟨ret_bool ?_, (Below.refl _ _).alloc (Nat.le_refl _) _⟩
    rw [Bool.eq_iff_iff]; simp [carB]; omega
end Go.Proofs.YtecjhomfoakaeaaDoor
