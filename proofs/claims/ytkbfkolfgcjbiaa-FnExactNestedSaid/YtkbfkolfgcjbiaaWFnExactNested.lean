/-
  The walk of laws.FnExactNested: it returns true, whatever comes in.
-/
import Derived.Test.YtkbfkolfgcjbiaaNest
import Derived.Test.YtkbfkolfgcjbiaaOpenC
namespace Go.Proofs.Ytkbfkolfgcjbiaa
open Go.ChangeShapes Go.WideShapes Go.ChangeAt Go.RowKit

set_option maxHeartbeats 4000000 in
theorem lawNested (A0 : Option Addr) (n0 c0 : Nat) (x0 : List C4) (w : World) (m0 : n0 ≤ maxLen) (s0 : CarsAt w A0 n0 x0) :
    Calls Try.prog 5 #[.slice A0 n0 c0] w (RV w (.bool true)) := by
  unfold maxLen at m0
  go_enter Try.func5, Try.ntmps5
  go_wp2_with fail
  refine (szCarS_any A0 n0 c0 (1048576) _ (by omega) (by omega) (by omega)).mono ?_; rintro e w0 ⟨rfl, rfl⟩
  by_cases g0 : (1048576 : Int) < n0
  · rw [if_pos g0]
    go_wp2
    go_ret
    exact ⟨rfl, Below.refl _ _⟩
  rw [if_neg g0]
  have HB : Below w.heap.size w w := Below.refl _ _
  go_wp2_with fail
  refine (toCarS_any A0 n0 c0 x0 _ (by omega) (s0.below HB)).mono ?_; rintro e w1 ⟨pA0, pc0, rfl, po0, hbw1⟩
  replace HB := below_next HB hbw1
  go_wp2_with fail
  refine (specNested_any pA0 n0 pc0 x0 _ po0.cap po0.slAt).mono ?_; rintro e w2 ⟨pr, rfl, pp, hbw2⟩
  replace HB := below_next HB hbw2
  replace po0 := po0.below hbw2
  go_wp2_with fail
  refine (toCarS_any A0 n0 c0 x0 _ (by omega) (s0.below HB)).mono ?_; rintro e w3 ⟨x_A0, x_c0, rfl, x_o0, hbw3⟩
  replace HB := below_next HB hbw3
  go_wp2_with fail
  refine (nested_any x_A0 n0 x_c0 x0 _ x_o0.cap x_o0.slAt).mono ?_; rintro e w4 ⟨x_r, rfl, x_p, hbw4⟩
  replace HB := below_next HB hbw4
  replace x_o0 := x_o0.below hbw4
  obtain rfl := nestedR_same pp x_p
  go_wp2_with fail
  refine (toCarS_any A0 n0 c0 x0 _ (by omega) (s0.below HB)).mono ?_; rintro e w5 ⟨y_A0, y_c0, rfl, y_o0, hbw5⟩
  replace HB := below_next HB hbw5
  replace x_o0 := x_o0.below hbw5
  go_wp2_with fail
  refine (eqCarS_same x_A0 y_A0 n0 x_c0 y_c0 x0 _ (by omega) x_o0.slAt y_o0.slAt).mono ?_; rintro e w6 ⟨rfl, hbw6⟩
  replace HB := below_next HB hbw6
  replace x_o0 := x_o0.below hbw6
  go_wp2
  go_ret
  exact ⟨rfl, HB⟩
end Go.Proofs.Ytkbfkolfgcjbiaa
