/-
  The walk of laws.FnExactGiveMost: it returns true, whatever comes in.
-/
import Derived.Test.YtkbfkolfgcjbiaaMost3
import Derived.Test.YtkbfkolfgcjbiaaOpenC
namespace Go.Proofs.Ytkbfkolfgcjbiaa
open Go.ChangeShapes Go.WideShapes Go.ChangeAt Go.RowKit

set_option maxHeartbeats 4000000 in
theorem lawGiveMost (A0 : Option Addr) (n0 c0 : Nat) (x0 : List C4) (A1 : Option Addr) (n1 c1 : Nat) (x1 : List P3) (w : World) (m0 : n0 ≤ maxLen) (s0 : CarsAt w A0 n0 x0) (m1 : n1 ≤ maxLen) (s1 : PlacesAt w A1 n1 x1) :
    Calls Try.prog 12 #[.slice A0 n0 c0, .slice A1 n1 c1] w (RV w (.bool true)) := by
  unfold maxLen at m0
  unfold maxLen at m1
  go_enter Try.func12, Try.ntmps12
  go_wp2_with fail
  refine (szCarS_any A0 n0 c0 (1048576) _ (by omega) (by omega) (by omega)).mono ?_; rintro e w0 ⟨rfl, rfl⟩
  by_cases g0 : (1048576 : Int) < n0
  · rw [if_pos g0]
    go_wp2
    go_ret
    exact ⟨rfl, Below.refl _ _⟩
  rw [if_neg g0]
  go_wp2_with fail
  refine (szPlaceS_any A1 n1 c1 (1048576 - n0) _ (by omega) (by omega) (by omega)).mono ?_; rintro e w0 ⟨rfl, rfl⟩
  by_cases g1 : (1048576 - n0 : Int) < n1
  · rw [if_pos g1]
    go_wp2
    go_ret
    exact ⟨rfl, Below.refl _ _⟩
  rw [if_neg g1]
  have HB : Below w.heap.size w w := Below.refl _ _
  go_wp2_with fail
  refine (toCarS_any A0 n0 c0 x0 _ (by omega) (s0.below HB)).mono ?_; rintro e w1 ⟨pA0, pc0, rfl, po0, hbw1⟩
  replace HB := below_next HB hbw1
  go_wp2_with fail
  refine (toPlaceS_any A1 n1 c1 x1 _ (by omega) (s1.below HB)).mono ?_; rintro e w2 ⟨pA1, pc1, rfl, po1, hbw2⟩
  replace HB := below_next HB hbw2
  replace po0 := po0.below hbw2
  go_wp2_with fail
  refine ((specGiveMost_any pA0 n0 pc0 x0 pA1 n1 pc1 x1 _ po0.cap po0.slAt (by omega) po1.slAt)).mono ?_; rintro e w3 ⟨rfl, hbw3⟩
  replace HB := below_next HB hbw3
  replace po0 := po0.below hbw3
  replace po1 := po1.below hbw3
  go_wp2_with fail
  refine (toCarS_any A0 n0 c0 x0 _ (by omega) (s0.below HB)).mono ?_; rintro e w4 ⟨x_A0, x_c0, rfl, x_o0, hbw4⟩
  replace HB := below_next HB hbw4
  go_wp2_with fail
  refine (toPlaceS_any A1 n1 c1 x1 _ (by omega) (s1.below HB)).mono ?_; rintro e w5 ⟨x_A1, x_c1, rfl, x_o1, hbw5⟩
  replace HB := below_next HB hbw5
  replace x_o0 := x_o0.below hbw5
  go_wp2_with fail
  refine ((giveMost_any x_A0 n0 x_c0 x0 x_A1 n1 x_c1 x1 _ x_o0.cap x_o0.slAt (by omega) x_o1.slAt)).mono ?_; rintro e w6 ⟨rfl, hbw6⟩
  replace HB := below_next HB hbw6
  replace x_o0 := x_o0.below hbw6
  replace x_o1 := x_o1.below hbw6
  go_wp2_with fail
  refine (toCarS_any A0 n0 c0 x0 _ (by omega) (s0.below HB)).mono ?_; rintro e w7 ⟨y_A0, y_c0, rfl, y_o0, hbw7⟩
  replace HB := below_next HB hbw7
  replace x_o0 := x_o0.below hbw7
  replace x_o1 := x_o1.below hbw7
  go_wp2_with fail
  refine (eqCarS_same x_A0 y_A0 n0 x_c0 y_c0 x0 _ (by omega) x_o0.slAt y_o0.slAt).mono ?_; rintro e w8 ⟨rfl, hbw8⟩
  replace HB := below_next HB hbw8
  replace x_o0 := x_o0.below hbw8
  replace x_o1 := x_o1.below hbw8
  go_wp2_with fail
  refine (toPlaceS_any A1 n1 c1 x1 _ (by omega) (s1.below HB)).mono ?_; rintro e w9 ⟨y_A1, y_c1, rfl, y_o1, hbw9⟩
  replace HB := below_next HB hbw9
  replace x_o0 := x_o0.below hbw9
  replace x_o1 := x_o1.below hbw9
  go_wp2_with fail
  refine (eqPlaceS_same x_A1 y_A1 n1 x_c1 y_c1 x1 _ (by omega) x_o1.slAt y_o1.slAt).mono ?_; rintro e w10 ⟨rfl, hbw10⟩
  replace HB := below_next HB hbw10
  replace x_o0 := x_o0.below hbw10
  replace x_o1 := x_o1.below hbw10
  go_wp2
  go_ret
  exact ⟨rfl, HB⟩
end Go.Proofs.Ytkbfkolfgcjbiaa
