/-
  One car and one place: CarValid, Fits of the program and of the reference, and their copies.
-/
import Derived.Test.YtmmaeninlhbaaaaDoorL1
import Derived.Test.YtmmaeninlhbaaaaDoorLib
namespace Go.Proofs.YtmmaeninlhbaaaaDoor
open Go.ChangeShapes Go.WideShapes Go.ChangeAt Go.RowKit

set_option maxHeartbeats 1000000 in
theorem sizeIn_any (x l : Int) (w : World) :
    Calls Tryd.prog 58 #[.int .i64 x, .int .i64 l] w (RS w (.bool (decide (l ≤ x) && decide (x ≤ 9)))) := by
  go_enter Tryd.func58, Tryd.ntmps58
  go_wp2
  all_goals
    go_ret
    refine ⟨ret_bool ?_, rfl⟩
    simp; try omega
def carB (a b c d : Int) : Bool := decide (1 ≤ a) && decide (a ≤ 99) && decide (1 ≤ b) && decide (b ≤ 9) && decide (1 ≤ c) && decide (c ≤ 9) && decide (1 ≤ d) && decide (d ≤ 9)
set_option maxHeartbeats 1000000 in
theorem carValid_any (a b c d : Int) (w : World) :
    Calls Tryd.prog 57 #[.agg #[.int .i64 a, .int .i64 b, .int .i64 c, .int .i64 d]] w (RV w (.bool (carB a b c d))) := by
  go_enter Tryd.func57, Tryd.ntmps57
  go_wp2_with (go_at_call 58; refine (sizeIn_any _ _ _).mono ?_; rintro e w1 ⟨rfl, rfl⟩)
  all_goals
    go_ret
    refine ⟨ret_bool ?_, (Below.refl _ _).alloc (Nat.le_refl _) _⟩
    rw [Bool.eq_iff_iff]; simp [carB]; omega
set_option maxHeartbeats 1000000 in
theorem specCarValid_any (a b c d : Int) (w : World) :
    Calls Tryd.prog 40 #[.agg #[.int .i64 a, .int .i64 b, .int .i64 c, .int .i64 d]] w (RV w (.bool (carB a b c d))) := by
  go_enter Tryd.func40, Tryd.ntmps40
  go_wp2_with (go_at_call 42; refine (l1In_any _ _ _ _).mono ?_; rintro e w1 ⟨rfl, rfl⟩)
  all_goals
    go_ret
    refine ⟨ret_bool ?_, (Below.refl _ _).alloc (Nat.le_refl _) _⟩
    rw [Bool.eq_iff_iff]; simp [carB]; omega
def fitsB (b c d p q r : Int) : Bool := decide (b ≤ p) && decide (c ≤ q) && decide (d ≤ r)
set_option maxHeartbeats 1000000 in
theorem fits_any (a b c d p q r : Int) (w : World) :
    Calls Tryd.prog 35 #[.agg #[.int .i64 a, .int .i64 b, .int .i64 c, .int .i64 d], .agg #[.int .i64 p, .int .i64 q, .int .i64 r]] w (RV w (.bool (fitsB b c d p q r))) := by
  go_enter Tryd.func35, Tryd.ntmps35
  go_wp2
  all_goals
    go_ret
    refine ⟨ret_bool ?_, ((Below.refl _ _).alloc (Nat.le_refl _) _).alloc (by simp) _⟩
    rw [Bool.eq_iff_iff]; simp [fitsB]; omega
set_option maxHeartbeats 1000000 in
theorem specFits_any (a b c d p q r : Int) (w : World) :
    Calls Tryd.prog 59 #[.agg #[.int .i64 a, .int .i64 b, .int .i64 c, .int .i64 d], .agg #[.int .i64 p, .int .i64 q, .int .i64 r]] w (RV w (.bool (fitsB b c d p q r))) := by
  go_enter Tryd.func59, Tryd.ntmps59
  go_wp2
  all_goals
    go_ret
    refine ⟨ret_bool ?_, ((Below.refl _ _).alloc (Nat.le_refl _) _).alloc (by simp) _⟩
    rw [Bool.eq_iff_iff]; simp [fitsB]; omega
end Go.Proofs.YtmmaeninlhbaaaaDoor
