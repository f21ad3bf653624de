/-
  The walk of laws.FnExactMostPlan: it returns true, whatever comes in.
-/
import Derived.Test.YtecjhomfoakaeaaPMark
import Derived.Test.YtecjhomfoakaeaaPlanHelp
import Derived.Test.YtecjhomfoakaeaaOpenN
namespace Go.Proofs.Ytecjhomfoakaeaa
open Go.ChangeShapes Go.WideShapes Go.ChangeAt Go.RowKit

set_option maxHeartbeats 4000000 in
theorem lawMostPlan (A0 : Option Addr) (n0 c0 : Nat) (x0 : List N4) (A1 : Option Addr) (n1 c1 : Nat) (x1 : List Int) (w : World) (m0 : n0 ≤ maxLen) (s0 : NeedsAt w A0 n0 x0) (m1 : n1 ≤ maxLen) (s1 : IntsAt w A1 n1 x1) :
    Calls Try.prog 3 #[.slice A0 n0 c0, .slice A1 n1 c1] w (RV w (.bool true)) := by
  unfold maxLen at m0
  unfold maxLen at m1
  obtain ⟨h6, h5⟩ := planR_six x0 x1
  have H6 := Lib.hid h6
  have H5 := Lib.hid h5
  clear h6 h5
  by_cases g1 : 1048576 < n1
  · go_enter Try.func3, Try.ntmps3
    go_wp2
    go_ret
    exact ⟨rfl, Below.refl _ _⟩
  go_enter Try.func3, Try.ntmps3
  go_wp2_with fail
  refine (szNeedS_any A0 n0 c0 (1048576) _ (by omega) (by omega) (by omega)).mono ?_; rintro e w0 ⟨rfl, rfl⟩
  by_cases g0 : (1048576 : Int) < n0
  · rw [if_pos g0]
    go_wp2
    go_ret
    exact ⟨rfl, Below.refl _ _⟩
  rw [if_neg g0]
  have HB : Below w.heap.size w w := Below.refl _ _
  go_wp2_with fail
  refine (toNeedS_any A0 n0 c0 x0 _ (by omega) (s0.below HB)).mono ?_; rintro e w1 ⟨pA0, pc0, rfl, po0, hbw1⟩
  replace HB := below_next HB hbw1
  go_wp2_with fail
  refine (toIntS_any A1 n1 c1 x1 _ (by omega) (s1.below HB)).mono ?_; rintro e w2 ⟨pA1, pc1, rfl, po1, hbw2⟩
  replace HB := below_next HB hbw2
  replace po0 := po0.below hbw2
  go_wp2_with fail
  refine (specMostPlan_any pA0 n0 pc0 x0 pA1 n1 pc1 x1 _ (by omega) po0.slAt (by omega) po1.slAt).mono ?_; intro e w3 hres
  obtain ⟨WA, Wn, Wc, Wg, Ws, rfl, hWn, Wo, hbw3⟩ := PlanRes.pin H6.out hres
  clear hres
  replace HB := below_next HB hbw3
  replace po0 := po0.below hbw3
  replace po1 := po1.below hbw3
  have lW : Wn ≤ 5 := by have h := H5.out; omega
  have HWn := Lib.hid hWn
  clear hWn
  clear po0 po1
  go_wp2_with fail
  refine (toNeedS_any A0 n0 c0 x0 _ (by omega) (s0.below HB)).mono ?_; rintro e w4 ⟨x_A0, x_c0, rfl, x_o0, hbw4⟩
  replace HB := below_next HB hbw4
  replace Wo := Wo.below hbw4
  have Lx_o0 := x_o0.lies
  go_wp2_with fail
  refine (toIntS_any A1 n1 c1 x1 _ (by omega) (s1.below HB)).mono ?_; rintro e w5 ⟨x_A1, x_c1, rfl, x_o1, hbw5⟩
  replace HB := below_next HB hbw5
  replace Wo := Wo.below hbw5
  replace x_o0 := x_o0.below hbw5
  have Lx_o1 := x_o1.lies
  go_wp2_with fail
  refine (mostPlan_any x_A0 n0 x_c0 x0 x_A1 n1 x_c1 x1 _ (by omega) x_o0.slAt (by omega) x_o1.slAt).mono ?_; intro e w6 hres
  obtain ⟨GA, Gn, Gc, Gg, Gs, rfl, hGn, Go, hbw6⟩ := IPlanRes.pin H6.out hres
  clear hres
  replace HB := below_next HB hbw6
  replace Wo := Wo.below hbw6
  replace x_o0 := x_o0.below hbw6
  replace x_o1 := x_o1.below hbw6
  have lG : Gn ≤ 5 := by have h := H5.out; omega
  obtain rfl : Wn = Gn := HWn.out.trans hGn.symm
  clear hGn
  go_wp2_with fail
  refine (eqIntSS_same GA WA Wn Gc Wc _ _ (by omega) Go.rowsAt Wo.rowsAt).mono ?_; rintro e w7 ⟨rfl, hbw7⟩
  replace HB := below_next HB hbw7
  replace Wo := Wo.below hbw7
  replace x_o0 := x_o0.below hbw7
  replace x_o1 := x_o1.below hbw7
  replace Go := Go.below hbw7
  go_wp2_with fail
  refine (toNeedS_any A0 n0 c0 x0 _ (by omega) (s0.below HB)).mono ?_; rintro e w8 ⟨y_A0, y_c0, rfl, y_o0, hbw8⟩
  replace HB := below_next HB hbw8
  replace Wo := Wo.below hbw8
  replace x_o0 := x_o0.below hbw8
  replace x_o1 := x_o1.below hbw8
  replace Go := Go.below hbw8
  go_wp2_with fail
  refine (eqNeedS_same x_A0 y_A0 n0 x_c0 y_c0 x0 _ (by omega) x_o0.slAt y_o0.slAt).mono ?_; rintro e w9 ⟨rfl, hbw9⟩
  clear y_o0
  replace HB := below_next HB hbw9
  replace Wo := Wo.below hbw9
  replace x_o0 := x_o0.below hbw9
  replace x_o1 := x_o1.below hbw9
  replace Go := Go.below hbw9
  go_wp2_with fail
  refine (toIntS_any A1 n1 c1 x1 _ (by omega) (s1.below HB)).mono ?_; rintro e w10 ⟨y_A1, y_c1, rfl, y_o1, hbw10⟩
  replace HB := below_next HB hbw10
  replace Wo := Wo.below hbw10
  replace x_o0 := x_o0.below hbw10
  replace x_o1 := x_o1.below hbw10
  replace Go := Go.below hbw10
  go_wp2_with fail
  refine (eqIntS_any x_A1 y_A1 n1 x_c1 n1 y_c1 x1 x1 _ (by omega) x_o1.slAt y_o1.slAt).mono ?_; rintro e w11 ⟨rfl, hbw11⟩
  clear y_o1
  replace HB := below_next HB hbw11
  replace Wo := Wo.below hbw11
  replace x_o0 := x_o0.below hbw11
  replace x_o1 := x_o1.below hbw11
  replace Go := Go.below hbw11
  have hs := HB.size
  have hs1 := hbw1.size
  have hs2 := hbw2.size
  have hs3 := hbw3.size
  have hs4 := hbw4.size
  have hs5 := hbw5.size
  have hs6 := hbw6.size
  have hs7 := hbw7.size
  have hs8 := hbw8.size
  have hs9 := hbw9.size
  have hs10 := hbw10.size
  have hs11 := hbw11.size
  go_wp2_with fail
  refine (markNeedS_any x_A0 n0 x_c0 _ _ _ _ x_o0 (by omega) (by omega) (by omega)).mono ?_; rintro e w12 ⟨rfl, hgw12⟩
  have hsw12 := hgw12.size
  replace HB := below_grown HB hgw12 Lx_o0 (by omega)
  replace Wo := Wo.grown hgw12 Lx_o0 (by omega)
  replace x_o1 := x_o1.grown hgw12 Lx_o1 Lx_o0 (by omega)
  replace Go := Go.grown hgw12 Lx_o0 (by omega)
  go_wp2_with fail
  refine (markIntS_any x_A1 n1 x_c1 _ _ _ _ x_o1 (by omega) (by omega) (by omega)).mono ?_; rintro e w13 ⟨rfl, hgw13, -⟩
  have hsw13 := hgw13.size
  replace HB := below_grown HB hgw13 Lx_o1 (by omega)
  replace Wo := Wo.grown hgw13 Lx_o1 (by omega)
  replace Go := Go.grown hgw13 Lx_o1 (by omega)
  go_wp2_with fail
  refine (eqIntSS_same GA WA Wn Gc Wc _ _ (by omega) Go.rowsAt Wo.rowsAt).mono ?_; rintro e w14 ⟨rfl, hbw14⟩
  replace HB := below_next HB hbw14
  replace Wo := Wo.below hbw14
  replace Go := Go.below hbw14
  have hsw14 := hbw14.size
  go_wp2_with fail
  refine (markIntSS_any GA Wn Gc _ _ _ _ _ _ _ Go (by omega) (by omega) (by omega)).mono ?_; rintro e w15 ⟨rfl, hOw15, Gm⟩
  replace HB := below_out HB hOw15 (by omega)
  replace Wo := Wo.out hOw15 (by omega)
  clear Go
  go_wp2_with fail
  refine (heldIntSS_any GA Wn Gc _ _ _ _ _ _ Gm (by omega) (by omega) (by omega)).mono ?_; rintro e w0 ⟨rfl, rfl⟩
  go_wp2_with fail
  refine (toNeedS_any A0 n0 c0 x0 _ (by omega) (s0.below HB)).mono ?_; rintro e w16 ⟨z_A0, z_c0, rfl, z_o0, hbw16⟩
  replace HB := below_next HB hbw16
  replace Wo := Wo.below hbw16
  replace Gm := Gm.below hbw16
  go_wp2_with fail
  refine (toIntS_any A1 n1 c1 x1 _ (by omega) (s1.below HB)).mono ?_; rintro e w17 ⟨z_A1, z_c1, rfl, z_o1, hbw17⟩
  replace HB := below_next HB hbw17
  replace Wo := Wo.below hbw17
  replace Gm := Gm.below hbw17
  replace z_o0 := z_o0.below hbw17
  go_wp2_with fail
  refine (mostPlan_any z_A0 n0 z_c0 x0 z_A1 n1 z_c1 x1 _ (by omega) z_o0.slAt (by omega) z_o1.slAt).mono ?_; intro e w18 hres
  obtain ⟨HA, Hn, Hc, Hg, Hs, rfl, hHn, Ho, hbw18⟩ := IPlanRes.pin H6.out hres
  clear hres
  replace HB := below_next HB hbw18
  replace Wo := Wo.below hbw18
  replace Gm := Gm.below hbw18
  replace z_o0 := z_o0.below hbw18
  replace z_o1 := z_o1.below hbw18
  have lH : Hn ≤ 5 := by have h := H5.out; omega
  obtain rfl : Wn = Hn := HWn.out.trans hHn.symm
  clear hHn
  go_wp2_with fail
  refine (eqIntSS_same HA WA Wn Hc Wc _ _ (by omega) Ho.rowsAt Wo.rowsAt).mono ?_; rintro e w19 ⟨rfl, hbw19⟩
  replace HB := below_next HB hbw19
  replace Wo := Wo.below hbw19
  replace Gm := Gm.below hbw19
  replace Ho := Ho.below hbw19
  go_wp2_with fail
  refine (heldIntSS_any GA Wn Gc _ _ _ _ _ _ Gm (by omega) (by omega) (by omega)).mono ?_; rintro e w0 ⟨rfl, rfl⟩
  go_wp2
  go_ret
  exact ⟨rfl, HB⟩
end Go.Proofs.Ytecjhomfoakaeaa
