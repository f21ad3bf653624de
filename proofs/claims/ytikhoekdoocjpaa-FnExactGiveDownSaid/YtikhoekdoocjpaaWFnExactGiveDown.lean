/-
  The walk of laws.FnExactGiveDown: it returns true, whatever comes in.
-/
import Derived.Test.YtikhoekdoocjpaaSGWalk
import Derived.Test.YtikhoekdoocjpaaOpenC
namespace Go.Proofs.Ytikhoekdoocjpaa
open Go.ChangeShapes Go.WideShapes Go.ChangeAt Go.RowKit

set_option maxHeartbeats 4000000 in
theorem lawGiveDown (A0 : Option Addr) (n0 c0 : Nat) (x0 : List C4) (A1 : Option Addr) (n1 c1 : Nat) (x1 : List P3) (w : World) (m0 : n0 ≤ maxLen) (s0 : CarsAt w A0 n0 x0) (m1 : n1 ≤ maxLen) (s1 : PlacesAt w A1 n1 x1) :
    Calls Try.prog 4 #[.slice A0 n0 c0, .slice A1 n1 c1] w (RV w (.bool true)) := by
  unfold maxLen at m0
  unfold maxLen at m1
  go_enter Try.func4, Try.ntmps4
  go_wp2_with fail
  refine (szCarS_any A0 n0 c0 (1048576) _ (by omega) (by omega) (by omega)).mono ?_; rintro e w0 ⟨rfl, rfl⟩
  by_cases g0 : (1048576 : Int) < n0
  · rw [if_pos g0]
    go_wp2
    go_ret
    exact ⟨rfl, Below.refl _ _⟩
  rw [if_neg g0]
  go_wp2_with fail
  refine (szPlaceS_any A1 n1 c1 (1048576 - n0) _ (by omega) (by omega) (by omega)).mono ?_; rintro e w0 ⟨rfl, rfl⟩
  by_cases g1 : (1048576 - n0 : Int) < n1
  · rw [if_pos g1]
    go_wp2
    go_ret
    exact ⟨rfl, Below.refl _ _⟩
  rw [if_neg g1]
  have HB : Below w.heap.size w w := Below.refl _ _
  go_wp2_with fail
  refine (toCarS_any A0 n0 c0 x0 _ (by omega) (s0.below HB)).mono ?_; rintro e w1 ⟨pA0, pc0, rfl, po0, hbw1⟩
  replace HB := below_next HB hbw1
  go_wp2_with fail
  refine (toPlaceS_any A1 n1 c1 x1 _ (by omega) (s1.below HB)).mono ?_; rintro e w2 ⟨pA1, pc1, rfl, po1, hbw2⟩
  replace HB := below_next HB hbw2
  replace po0 := po0.below hbw2
  go_wp2_with fail
  refine (specGiveDown_any pA0 n0 pc0 x0 pA1 n1 pc1 x1 _ po0.cap po0.slAt (by omega) po1.slAt).mono ?_; rintro e w3 ⟨WA, Wn, Wc, rfl, hWn, Wo, hbw3⟩
  replace HB := below_next HB hbw3
  replace po0 := po0.below hbw3
  replace po1 := po1.below hbw3
  have lW : Wn ≤ 1048576 := by have h := giveDL_short x0 x1; omega
  have HWn := Lib.hid hWn
  clear hWn
  have LWo := Wo.lies
  go_wp2_with fail
  refine (toCarS_any A0 n0 c0 x0 _ (by omega) (s0.below HB)).mono ?_; rintro e w4 ⟨x_A0, x_c0, rfl, x_o0, hbw4⟩
  replace HB := below_next HB hbw4
  replace Wo := Wo.below hbw4
  have Lx_o0 := x_o0.lies
  go_wp2_with fail
  refine (toPlaceS_any A1 n1 c1 x1 _ (by omega) (s1.below HB)).mono ?_; rintro e w5 ⟨x_A1, x_c1, rfl, x_o1, hbw5⟩
  replace HB := below_next HB hbw5
  replace Wo := Wo.below hbw5
  replace x_o0 := x_o0.below hbw5
  have Lx_o1 := x_o1.lies
  go_wp2_with fail
  refine (giveDown_any x_A0 n0 x_c0 x0 x_A1 n1 x_c1 x1 _ x_o0.cap x_o0.slAt (by omega) x_o1.slAt).mono ?_; rintro e w6 ⟨GA, Gn, Gc, rfl, hGn, Go, hbw6⟩
  replace HB := below_next HB hbw6
  replace Wo := Wo.below hbw6
  replace x_o0 := x_o0.below hbw6
  replace x_o1 := x_o1.below hbw6
  have lG : Gn ≤ 1048576 := by have h := giveDL_short x0 x1; omega
  obtain rfl : Wn = Gn := HWn.out.trans hGn.symm
  clear hGn
  have LGo := Go.lies
  go_wp2_with fail
  refine (eqIntS_any GA WA Wn Gc Wn Wc _ _ _ (by omega) Go.slAt Wo.slAt).mono ?_; rintro e w7 ⟨rfl, hbw7⟩
  replace HB := below_next HB hbw7
  replace Wo := Wo.below hbw7
  replace x_o0 := x_o0.below hbw7
  replace x_o1 := x_o1.below hbw7
  replace Go := Go.below hbw7
  go_wp2_with fail
  refine (toCarS_any A0 n0 c0 x0 _ (by omega) (s0.below HB)).mono ?_; rintro e w8 ⟨y_A0, y_c0, rfl, y_o0, hbw8⟩
  replace HB := below_next HB hbw8
  replace Wo := Wo.below hbw8
  replace x_o0 := x_o0.below hbw8
  replace x_o1 := x_o1.below hbw8
  replace Go := Go.below hbw8
  go_wp2_with fail
  refine (eqCarS_same x_A0 y_A0 n0 x_c0 y_c0 x0 _ (by omega) x_o0.slAt y_o0.slAt).mono ?_; rintro e w9 ⟨rfl, hbw9⟩
  replace HB := below_next HB hbw9
  replace Wo := Wo.below hbw9
  replace x_o0 := x_o0.below hbw9
  replace x_o1 := x_o1.below hbw9
  replace Go := Go.below hbw9
  go_wp2_with fail
  refine (toPlaceS_any A1 n1 c1 x1 _ (by omega) (s1.below HB)).mono ?_; rintro e w10 ⟨y_A1, y_c1, rfl, y_o1, hbw10⟩
  replace HB := below_next HB hbw10
  replace Wo := Wo.below hbw10
  replace x_o0 := x_o0.below hbw10
  replace x_o1 := x_o1.below hbw10
  replace Go := Go.below hbw10
  go_wp2_with fail
  refine (eqPlaceS_same x_A1 y_A1 n1 x_c1 y_c1 x1 _ (by omega) x_o1.slAt y_o1.slAt).mono ?_; rintro e w11 ⟨rfl, hbw11⟩
  replace HB := below_next HB hbw11
  replace Wo := Wo.below hbw11
  replace x_o0 := x_o0.below hbw11
  replace x_o1 := x_o1.below hbw11
  replace Go := Go.below hbw11
  have hs := HB.size
  have hs1 := hbw1.size
  have hs2 := hbw2.size
  have hs3 := hbw3.size
  have hs4 := hbw4.size
  have hs5 := hbw5.size
  have hs6 := hbw6.size
  have hs7 := hbw7.size
  have hs8 := hbw8.size
  have hs9 := hbw9.size
  have hs10 := hbw10.size
  have hs11 := hbw11.size
  go_wp2_with fail
  refine (markCarS_any x_A0 n0 x_c0 _ _ _ _ x_o0 (by omega) (by omega) (by omega)).mono ?_; rintro e w12 ⟨rfl, hgw12⟩
  have hsw12 := hgw12.size
  replace HB := below_grown HB hgw12 Lx_o0 (by omega)
  replace Wo := Wo.grown hgw12 LWo Lx_o0 (by omega)
  replace x_o1 := x_o1.grown hgw12 Lx_o1 Lx_o0 (by omega)
  replace Go := Go.grown hgw12 LGo Lx_o0 (by omega)
  go_wp2_with fail
  refine (markPlaceS_any x_A1 n1 x_c1 _ _ _ _ x_o1 (by omega) (by omega) (by omega)).mono ?_; rintro e w13 ⟨rfl, hgw13⟩
  have hsw13 := hgw13.size
  replace HB := below_grown HB hgw13 Lx_o1 (by omega)
  replace Wo := Wo.grown hgw13 LWo Lx_o1 (by omega)
  replace Go := Go.grown hgw13 LGo Lx_o1 (by omega)
  go_wp2_with fail
  refine (eqIntS_any GA WA Wn Gc Wn Wc _ _ _ (by omega) Go.slAt Wo.slAt).mono ?_; rintro e w14 ⟨rfl, hbw14⟩
  replace HB := below_next HB hbw14
  replace Wo := Wo.below hbw14
  replace Go := Go.below hbw14
  have hs14 := hbw14.size
  go_wp2_with fail
  refine (markIntS_any GA Wn Gc _ _ _ _ Go (by omega) (by omega) (by omega)).mono ?_; rintro e w15 ⟨rfl, hgw15, Go'⟩
  have hsw15 := hgw15.size
  replace HB := below_grown HB hgw15 LGo (by omega)
  replace Wo := Wo.grown hgw15 LWo LGo (by omega)
  go_wp2_with fail
  refine (heldIntS_any GA Wn Gc _ _ Go'.slAt (by omega) (by omega) (by omega)).mono ?_; rintro e w0 ⟨rfl, rfl⟩
  go_wp2_with fail
  refine (toCarS_any A0 n0 c0 x0 _ (by omega) (s0.below HB)).mono ?_; rintro e w16 ⟨z_A0, z_c0, rfl, z_o0, hbw16⟩
  replace HB := below_next HB hbw16
  replace Wo := Wo.below hbw16
  replace Go' := Go'.below hbw16
  go_wp2_with fail
  refine (toPlaceS_any A1 n1 c1 x1 _ (by omega) (s1.below HB)).mono ?_; rintro e w17 ⟨z_A1, z_c1, rfl, z_o1, hbw17⟩
  replace HB := below_next HB hbw17
  replace Wo := Wo.below hbw17
  replace Go' := Go'.below hbw17
  replace z_o0 := z_o0.below hbw17
  go_wp2_with fail
  refine (giveDown_any z_A0 n0 z_c0 x0 z_A1 n1 z_c1 x1 _ z_o0.cap z_o0.slAt (by omega) z_o1.slAt).mono ?_; rintro e w18 ⟨HA, Hn, Hc, rfl, hHn, Ho, hbw18⟩
  replace HB := below_next HB hbw18
  replace Wo := Wo.below hbw18
  replace Go' := Go'.below hbw18
  replace z_o0 := z_o0.below hbw18
  replace z_o1 := z_o1.below hbw18
  have lH : Hn ≤ 1048576 := by have h := giveDL_short x0 x1; omega
  obtain rfl : Wn = Hn := HWn.out.trans hHn.symm
  clear hHn
  go_wp2_with fail
  refine (eqIntS_any HA WA Wn Hc Wn Wc _ _ _ (by omega) Ho.slAt Wo.slAt).mono ?_; rintro e w19 ⟨rfl, hbw19⟩
  replace HB := below_next HB hbw19
  replace Wo := Wo.below hbw19
  replace Go' := Go'.below hbw19
  replace Ho := Ho.below hbw19
  go_wp2_with fail
  refine (heldIntS_any GA Wn Gc _ _ Go'.slAt (by omega) (by omega) (by omega)).mono ?_; rintro e w0 ⟨rfl, rfl⟩
  go_wp2
  go_ret
  exact ⟨rfl, HB⟩
end Go.Proofs.Ytikhoekdoocjpaa
