/-
  One car and one place: CarValid, Fits of the program and of the reference, and their copies.
-/
import Derived.Test.YtpipbkefelcmbaaDoorL1
import Derived.Test.YtpipbkefelcmbaaDoorLib
namespace Go.Proofs.YtpipbkefelcmbaaDoor
open Go.ChangeShapes Go.WideShapes Go.ChangeAt Go.RowKit

set_option maxHeartbeats 1000000 in
theorem sizeIn_any (x l : Int) (w : World) :
    Calls Tryd.prog 43 #[.int .i64 x, .int .i64 l] w (RS w (.bool (decide (l ≤ x) && decide (x ≤ 9)))) := by
  go_enter Tryd.func43, Tryd.ntmps43
  go_wp2
  all_goals
    go_ret
    refine ⟨ret_bool ?_, rfl⟩
    simp; try omega
def carB (a b c d : Int) : Bool := decide (1 ≤ a) && decide (a ≤ 99) && decide (1 ≤ b) && decide (b ≤ 9) && decide (1 ≤ c) && decide (c ≤ 9) && decide (1 ≤ d) && decide (d ≤ 9)
set_option maxHeartbeats 1000000 in
theorem carValid_any (a b c d : Int) (w : World) :
    Calls Tryd.prog 16 #[.agg #[.int .i64 a, .int .i64 b, .int .i64 c, .int .i64 d]] w (RV w (.bool (carB a b c d))) := by
  go_enter Tryd.func16, Tryd.ntmps16
  go_wp2_with (go_at_call 43; refine (sizeIn_any _ _ _).mono ?_; rintro e w1 ⟨rfl, rfl⟩)
  all_goals
    go_ret
    refine ⟨ret_bool ?_, (Below.refl _ _).alloc (Nat.le_refl _) _⟩
    rw [Bool.eq_iff_iff]; simp [carB]; omega
set_option maxHeartbeats 1000000 in
theorem specCarValid_any (a b c d : Int) (w : World) :
    Calls Tryd.prog 17 #[.agg #[.int .i64 a, .int .i64 b, .int .i64 c, .int .i64 d]] w (RV w (.bool (carB a b c d))) := by
  go_enter Tryd.func17, Tryd.ntmps17
  go_wp2_with (go_at_call 44; refine (l1In_any _ _ _ _).mono ?_; rintro e w1 ⟨rfl, rfl⟩)
  all_goals
    go_ret
    refine ⟨ret_bool ?_, (Below.refl _ _).alloc (Nat.le_refl _) _⟩
    rw [Bool.eq_iff_iff]; simp [carB]; omega
def fitsB (b c d p q r : Int) : Bool := decide (b ≤ p) && decide (c ≤ q) && decide (d ≤ r)
set_option maxHeartbeats 1000000 in
theorem fits_any (a b c d p q r : Int) (w : World) :
    Calls Tryd.prog 12 #[.agg #[.int .i64 a, .int .i64 b, .int .i64 c, .int .i64 d], .agg #[.int .i64 p, .int .i64 q, .int .i64 r]] w (RV w (.bool (fitsB b c d p q r))) := by
  go_enter Tryd.func12, Tryd.ntmps12
  go_wp2
  all_goals
    go_ret
    refine ⟨ret_bool ?_, ((Below.refl _ _).alloc (Nat.le_refl _) _).alloc (by simp) _⟩
    rw [Bool.eq_iff_iff]; simp [fitsB]; omega
set_option maxHeartbeats 1000000 in
theorem specFits_any (a b c d p q r : Int) (w : World) :
    Calls Tryd.prog 13 #[.agg #[.int .i64 a, .int .i64 b, .int .i64 c, .int .i64 d], .agg #[.int .i64 p, .int .i64 q, .int .i64 r]] w (RV w (.bool (fitsB b c d p q r))) := by
  go_enter Tryd.func13, Tryd.ntmps13
  go_wp2
  all_goals
    go_ret
    refine ⟨ret_bool ?_, ((Below.refl _ _).alloc (Nat.le_refl _) _).alloc (by simp) _⟩
    rw [Bool.eq_iff_iff]; simp [fitsB]; omega
end Go.Proofs.YtpipbkefelcmbaaDoor
