/-
  One car and one place: CarValid, Fits of the program and of the reference, and their copies.
-/
import Derived.Test.YtpbdmghmbicciaaDoorL1
import Derived.Test.YtpbdmghmbicciaaDoorLib
namespace Go.Proofs.YtpbdmghmbicciaaDoor
open Go.ChangeShapes Go.WideShapes Go.ChangeAt Go.RowKit

set_option maxHeartbeats 1000000 in
theorem sizeIn_any (x l : Int) (w : World) :
    Calls Tryd.prog 12 #[.int .i64 x, .int .i64 l] w (RS w (.bool (decide (l ≤ x) && decide (x ≤ 9)))) := by
  go_enter Tryd.func12, Tryd.ntmps12
  go_wp2
  all_goals
    go_ret
    refine ⟨ret_bool ?_, rfl⟩
    simp; try omega
def carB (a b c d : Int) : Bool := decide (1 ≤ a) && decide (a ≤ 99) && decide (1 ≤ b) && decide (b ≤ 9) && decide (1 ≤ c) && decide (c ≤ 9) && decide (1 ≤ d) && decide (d ≤ 9)
set_option maxHeartbeats 1000000 in
theorem carValid_any (a b c d : Int) (w : World) :
    Calls Tryd.prog 9 #[.agg #[.int .i64 a, .int .i64 b, .int .i64 c, .int .i64 d]] w (RV w (.bool (carB a b c d))) := by
  go_enter Tryd.func9, Tryd.ntmps9
  go_wp2_with (go_at_call 12; refine (sizeIn_any _ _ _).mono ?_; rintro e w1 ⟨rfl, rfl⟩)
  all_goals
    go_ret
    refine ⟨ret_bool ?_, (Below.refl _ _).alloc (Nat.le_refl _) _⟩
    rw [Bool.eq_iff_iff]; simp [carB]; omega
set_option maxHeartbeats 1000000 in
theorem specCarValid_any (a b c d : Int) (w : World) :
    Calls Tryd.prog 7 #[.agg #[.int .i64 a, .int .i64 b, .int .i64 c, .int .i64 d]] w (RV w (.bool (carB a b c d))) := by
  go_enter Tryd.func7, Tryd.ntmps7
  go_wp2_with (go_at_call 11; refine (l1In_any _ _ _ _).mono ?_; rintro e w1 ⟨rfl, rfl⟩)
  all_goals
    go_ret
    refine ⟨ret_bool ?_, (Below.refl _ _).alloc (Nat.le_refl _) _⟩
    rw [Bool.eq_iff_iff]; simp [carB]; omega
set_option maxHeartbeats 1000000 in
theorem toCar_any (a b c d : Int) (w : World) :
    Calls Tryd.prog 5 #[.agg #[.int .i64 a, .int .i64 b, .int .i64 c, .int .i64 d]] w (RV w (.agg #[.int .i64 a, .int .i64 b, .int .i64 c, .int .i64 d])) := by
  go_enter Tryd.func5, Tryd.ntmps5
  go_wp2
  refine bodyPost_ret (v := .agg #[.int .i64 a, .int .i64 b, .int .i64 c, .int .i64 d]) (by simp [results, Tryd.results5, go_sem]) rfl ⟨rfl, ?_⟩
  exact (((Below.refl _ _).alloc (Nat.le_refl _) _).alloc (by simp) _).alloc (by simp; omega) _
end Go.Proofs.YtpbdmghmbicciaaDoor
