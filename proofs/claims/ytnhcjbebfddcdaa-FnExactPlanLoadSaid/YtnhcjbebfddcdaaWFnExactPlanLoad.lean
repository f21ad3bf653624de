/-
  The walk of laws.FnExactPlanLoad: it returns true, whatever comes in.
-/
import Derived.Test.YtnhcjbebfddcdaaPlanHelp
import Derived.Test.YtnhcjbebfddcdaaOpenN
namespace Go.Proofs.Ytnhcjbebfddcdaa
open Go.ChangeShapes Go.WideShapes Go.ChangeAt Go.RowKit

set_option maxHeartbeats 4000000 in
theorem lawPlanLoad (A0 : Option Addr) (n0 c0 : Nat) (x0 : List (List Int)) (h1 : Int) (w : World) (m0 : n0 ≤ maxLen) (s0 : RowsAt w A0 n0 x0) :
    Calls Try.prog 4 #[.slice A0 n0 c0, .int .i64 h1] w (RV w (.bool true)) := by
  unfold maxLen at m0
  go_enter Try.func4, Try.ntmps4
  go_wp2_with fail
  refine (szIntSS_any A0 n0 c0 x0 (1048576) _ (by omega) s0 (by omega) (by omega)).mono ?_; rintro e w0 ⟨z0, rfl, rfl, q0, rfl | ⟨qz0, ql0, qa0⟩⟩
  · go_wp2
    go_ret
    exact ⟨rfl, Below.refl _ _⟩
  have qn0 : (n0 : Int) ≤ 1048576 := by have := s0.len; omega
  have qb0 : ∀ r ∈ x0, r.length ≤ 1048576 := fun r hr => by have := qa0 r hr; omega
  have QB0 := Lib.hid qb0
  clear qa0 qb0 ql0
  have HB : Below w.heap.size w w := Below.refl _ _
  go_wp2_with fail
  refine (toIntSS_any A0 n0 c0 x0 _ (by omega) (s0.below HB) QB0.out).mono ?_; rintro e w1 ⟨pA0, pc0, rfl, po0, hbw1⟩
  replace HB := below_next HB hbw1
  go_wp2_with fail
  refine (rv_of_rs (specPlanLoad_any pA0 n0 pc0 x0 h1 _ (by omega) po0.rowsAt)).mono ?_; rintro e w2 ⟨rfl, hbw2⟩
  replace HB := below_next HB hbw2
  replace po0 := po0.below hbw2
  go_wp2_with fail
  refine (toIntSS_any A0 n0 c0 x0 _ (by omega) (s0.below HB) QB0.out).mono ?_; rintro e w3 ⟨x_A0, x_c0, rfl, x_o0, hbw3⟩
  replace HB := below_next HB hbw3
  go_wp2_with fail
  refine (rv_of_rs (planLoad_any x_A0 n0 x_c0 x0 h1 _ (by omega) x_o0.rowsAt)).mono ?_; rintro e w4 ⟨rfl, hbw4⟩
  replace HB := below_next HB hbw4
  replace x_o0 := x_o0.below hbw4
  go_wp2_with fail
  refine (toIntSS_any A0 n0 c0 x0 _ (by omega) (s0.below HB) QB0.out).mono ?_; rintro e w5 ⟨y_A0, y_c0, rfl, y_o0, hbw5⟩
  replace HB := below_next HB hbw5
  replace x_o0 := x_o0.below hbw5
  go_wp2_with fail
  refine (eqIntSS_same x_A0 y_A0 n0 x_c0 y_c0 x0 _ (by omega) x_o0.rowsAt y_o0.rowsAt).mono ?_; rintro e w6 ⟨rfl, hbw6⟩
  replace HB := below_next HB hbw6
  replace x_o0 := x_o0.below hbw6
  go_wp2
  go_ret
  exact ⟨rfl, HB⟩
end Go.Proofs.Ytnhcjbebfddcdaa
