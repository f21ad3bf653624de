/-
  The walk of laws.FnExactCarsDown: it returns true, whatever comes in.
-/
import Derived.Test.YtikhoekdoocjpaaSortS
import Derived.Test.YtikhoekdoocjpaaOpenC
namespace Go.Proofs.Ytikhoekdoocjpaa
open Go.ChangeShapes Go.WideShapes Go.ChangeAt Go.RowKit

set_option maxHeartbeats 4000000 in
theorem lawCarsDown (A0 : Option Addr) (n0 c0 : Nat) (x0 : List C4) (w : World) (m0 : n0 ≤ maxLen) (s0 : CarsAt w A0 n0 x0) :
    Calls Try.prog 3 #[.slice A0 n0 c0] w (RV w (.bool true)) := by
  unfold maxLen at m0
  go_enter Try.func3, Try.ntmps3
  go_wp2_with fail
  refine (szCarS_any A0 n0 c0 (1048576) _ (by omega) (by omega) (by omega)).mono ?_; rintro e w0 ⟨rfl, rfl⟩
  by_cases g0 : (1048576 : Int) < n0
  · rw [if_pos g0]
    go_wp2
    go_ret
    exact ⟨rfl, Below.refl _ _⟩
  rw [if_neg g0]
  have HB : Below w.heap.size w w := Below.refl _ _
  go_wp2_with fail
  refine (toCarS_any A0 n0 c0 x0 _ (by omega) (s0.below HB)).mono ?_; rintro e w1 ⟨pA0, pc0, rfl, po0, hbw1⟩
  replace HB := below_next HB hbw1
  go_wp2_with fail
  refine (specCarsDown_any pA0 n0 pc0 x0 _ po0.cap po0.slAt).mono ?_; rintro e w2 ⟨WA, Wn, Wc, rfl, hWn, Wo, hbw2⟩
  replace HB := below_next HB hbw2
  replace po0 := po0.below hbw2
  have lW : Wn ≤ 1048576 := by have h := downL_short x0; omega
  have HWn := Lib.hid hWn
  clear hWn
  have LWo := Wo.lies
  go_wp2_with fail
  refine (toCarS_any A0 n0 c0 x0 _ (by omega) (s0.below HB)).mono ?_; rintro e w3 ⟨x_A0, x_c0, rfl, x_o0, hbw3⟩
  replace HB := below_next HB hbw3
  replace Wo := Wo.below hbw3
  have Lx_o0 := x_o0.lies
  go_wp2_with fail
  refine (carsDown_any x_A0 n0 x_c0 x0 _ x_o0.cap x_o0.slAt).mono ?_; rintro e w4 ⟨GA, Gn, Gc, rfl, hGn, Go, hbw4⟩
  replace HB := below_next HB hbw4
  replace Wo := Wo.below hbw4
  replace x_o0 := x_o0.below hbw4
  have lG : Gn ≤ 1048576 := by have h := downL_short x0; omega
  obtain rfl : Wn = Gn := HWn.out.trans hGn.symm
  clear hGn
  have LGo := Go.lies
  go_wp2_with fail
  refine (eqIntS_any GA WA Wn Gc Wn Wc _ _ _ (by omega) Go.slAt Wo.slAt).mono ?_; rintro e w5 ⟨rfl, hbw5⟩
  replace HB := below_next HB hbw5
  replace Wo := Wo.below hbw5
  replace x_o0 := x_o0.below hbw5
  replace Go := Go.below hbw5
  go_wp2_with fail
  refine (toCarS_any A0 n0 c0 x0 _ (by omega) (s0.below HB)).mono ?_; rintro e w6 ⟨y_A0, y_c0, rfl, y_o0, hbw6⟩
  replace HB := below_next HB hbw6
  replace Wo := Wo.below hbw6
  replace x_o0 := x_o0.below hbw6
  replace Go := Go.below hbw6
  go_wp2_with fail
  refine (eqCarS_same x_A0 y_A0 n0 x_c0 y_c0 x0 _ (by omega) x_o0.slAt y_o0.slAt).mono ?_; rintro e w7 ⟨rfl, hbw7⟩
  replace HB := below_next HB hbw7
  replace Wo := Wo.below hbw7
  replace x_o0 := x_o0.below hbw7
  replace Go := Go.below hbw7
  have hs := HB.size
  have hs1 := hbw1.size
  have hs2 := hbw2.size
  have hs3 := hbw3.size
  have hs4 := hbw4.size
  have hs5 := hbw5.size
  have hs6 := hbw6.size
  have hs7 := hbw7.size
  go_wp2_with fail
  refine (markCarS_any x_A0 n0 x_c0 _ _ _ _ x_o0 (by omega) (by omega) (by omega)).mono ?_; rintro e w8 ⟨rfl, hgw8⟩
  have hsw8 := hgw8.size
  replace HB := below_grown HB hgw8 Lx_o0 (by omega)
  replace Wo := Wo.grown hgw8 LWo Lx_o0 (by omega)
  replace Go := Go.grown hgw8 LGo Lx_o0 (by omega)
  go_wp2_with fail
  refine (eqIntS_any GA WA Wn Gc Wn Wc _ _ _ (by omega) Go.slAt Wo.slAt).mono ?_; rintro e w9 ⟨rfl, hbw9⟩
  replace HB := below_next HB hbw9
  replace Wo := Wo.below hbw9
  replace Go := Go.below hbw9
  have hs9 := hbw9.size
  go_wp2_with fail
  refine (markIntS_any GA Wn Gc _ _ _ _ Go (by omega) (by omega) (by omega)).mono ?_; rintro e w10 ⟨rfl, hgw10, Go'⟩
  have hsw10 := hgw10.size
  replace HB := below_grown HB hgw10 LGo (by omega)
  replace Wo := Wo.grown hgw10 LWo LGo (by omega)
  go_wp2_with fail
  refine (heldIntS_any GA Wn Gc _ _ Go'.slAt (by omega) (by omega) (by omega)).mono ?_; rintro e w0 ⟨rfl, rfl⟩
  go_wp2_with fail
  refine (toCarS_any A0 n0 c0 x0 _ (by omega) (s0.below HB)).mono ?_; rintro e w11 ⟨z_A0, z_c0, rfl, z_o0, hbw11⟩
  replace HB := below_next HB hbw11
  replace Wo := Wo.below hbw11
  replace Go' := Go'.below hbw11
  go_wp2_with fail
  refine (carsDown_any z_A0 n0 z_c0 x0 _ z_o0.cap z_o0.slAt).mono ?_; rintro e w12 ⟨HA, Hn, Hc, rfl, hHn, Ho, hbw12⟩
  replace HB := below_next HB hbw12
  replace Wo := Wo.below hbw12
  replace Go' := Go'.below hbw12
  replace z_o0 := z_o0.below hbw12
  have lH : Hn ≤ 1048576 := by have h := downL_short x0; omega
  obtain rfl : Wn = Hn := HWn.out.trans hHn.symm
  clear hHn
  go_wp2_with fail
  refine (eqIntS_any HA WA Wn Hc Wn Wc _ _ _ (by omega) Ho.slAt Wo.slAt).mono ?_; rintro e w13 ⟨rfl, hbw13⟩
  replace HB := below_next HB hbw13
  replace Wo := Wo.below hbw13
  replace Go' := Go'.below hbw13
  replace Ho := Ho.below hbw13
  go_wp2_with fail
  refine (heldIntS_any GA Wn Gc _ _ Go'.slAt (by omega) (by omega) (by omega)).mono ?_; rintro e w0 ⟨rfl, rfl⟩
  go_wp2
  go_ret
  exact ⟨rfl, HB⟩
end Go.Proofs.Ytikhoekdoocjpaa
