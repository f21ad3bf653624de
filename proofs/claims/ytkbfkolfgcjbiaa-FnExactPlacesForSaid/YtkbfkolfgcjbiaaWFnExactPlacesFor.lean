/-
  The walk of laws.FnExactPlacesFor: it returns true, whatever comes in.
-/
import Derived.Test.YtkbfkolfgcjbiaaPlFor
import Derived.Test.YtkbfkolfgcjbiaaOpenC
namespace Go.Proofs.Ytkbfkolfgcjbiaa
open Go.ChangeShapes Go.WideShapes Go.ChangeAt Go.RowKit

set_option maxHeartbeats 4000000 in
theorem lawPlacesFor (a0 b0 c0 d0 : Int) (A1 : Option Addr) (n1 c1 : Nat) (x1 : List P3) (w : World) (m1 : n1 ≤ maxLen) (s1 : PlacesAt w A1 n1 x1) :
    Calls Try.prog 6 #[.agg #[.int .i64 a0, .int .i64 b0, .int .i64 c0, .int .i64 d0], .slice A1 n1 c1] w (RV w (.bool true)) := by
  unfold maxLen at m1
  go_enter Try.func6, Try.ntmps6
  go_wp2_with fail
  refine (szPlaceS_any A1 n1 c1 (1048576) _ (by omega) (by omega) (by omega)).mono ?_; rintro e w0 ⟨rfl, rfl⟩
  by_cases g1 : (1048576 : Int) < n1
  · rw [if_pos g1]
    go_wp2
    go_ret
    exact ⟨rfl, (Below.refl _ _).alloc (Nat.le_refl _) _⟩
  rw [if_neg g1]
  have HB : Below w.heap.size w (w.alloc (.cells #[.int .i64 a0, .int .i64 b0, .int .i64 c0, .int .i64 d0] 37)) := (Below.refl _ _).alloc (Nat.le_refl _) _
  have hcar : Whole (w.alloc (.cells #[.int .i64 a0, .int .i64 b0, .int .i64 c0, .int .i64 d0] 37)) w.heap.size 37 [.int .i64 a0, .int .i64 b0, .int .i64 c0, .int .i64 d0] := Whole.new w _ _
  have hq0 := hcar.cell 0
  have hq1 := hcar.cell 1
  have hq2 := hcar.cell 2
  have hq3 := hcar.cell 3
  simp only [List.getElem?_cons_zero, List.getElem?_cons_succ] at hq0 hq1 hq2 hq3
  go_wp2_with fail
  refine (toCar_any _ _ _ _ _).mono ?_; rintro e w1 ⟨rfl, hbw1⟩
  clear hq0 hq1 hq2 hq3
  replace HB := below_next HB hbw1
  replace hcar := hcar.below hbw1
  go_wp2_with fail
  refine (toPlaceS_any A1 n1 c1 x1 _ (by omega) (s1.below HB)).mono ?_; rintro e w2 ⟨pA1, pc1, rfl, po1, hbw2⟩
  replace HB := below_next HB hbw2
  replace hcar := hcar.below hbw2
  go_wp2_with fail
  refine (specPlacesFor_any ⟨a0, b0, c0, d0⟩ pA1 n1 pc1 x1 _ (by omega) po1.slAt).mono ?_; rintro e w3 ⟨WA, Wn, Wc, rfl, hWn, Wo, hbw3⟩
  replace HB := below_next HB hbw3
  replace hcar := hcar.below hbw3
  replace po1 := po1.below hbw3
  have lW : Wn ≤ 1048576 := by have h := forL_short ⟨a0, b0, c0, d0⟩ x1; omega
  have HWn := Lib.hid hWn
  clear hWn
  have LWo := Wo.lies
  go_wp2_with fail
  refine (toPlaceS_any A1 n1 c1 x1 _ (by omega) (s1.below HB)).mono ?_; rintro e w4 ⟨x_A1, x_c1, rfl, x_o1, hbw4⟩
  replace HB := below_next HB hbw4
  replace hcar := hcar.below hbw4
  replace Wo := Wo.below hbw4
  have Lx_o1 := x_o1.lies
  have hq0 := hcar.cell 0
  have hq1 := hcar.cell 1
  have hq2 := hcar.cell 2
  have hq3 := hcar.cell 3
  simp only [List.getElem?_cons_zero, List.getElem?_cons_succ] at hq0 hq1 hq2 hq3
  go_wp2_with fail
  refine (toCar_any _ _ _ _ _).mono ?_; rintro e w5 ⟨rfl, hbw5⟩
  clear hq0 hq1 hq2 hq3
  replace HB := below_next HB hbw5
  replace hcar := hcar.below hbw5
  replace Wo := Wo.below hbw5
  replace x_o1 := x_o1.below hbw5
  go_wp2_with fail
  refine (placesFor_any ⟨a0, b0, c0, d0⟩ x_A1 n1 x_c1 x1 _ (by omega) x_o1.slAt).mono ?_; rintro e w6 ⟨GA, Gn, Gc, rfl, hGn, Go, hbw6⟩
  replace HB := below_next HB hbw6
  replace hcar := hcar.below hbw6
  replace Wo := Wo.below hbw6
  replace x_o1 := x_o1.below hbw6
  have lG : Gn ≤ 1048576 := by have h := forL_short ⟨a0, b0, c0, d0⟩ x1; omega
  obtain rfl : Wn = Gn := HWn.out.trans hGn.symm
  clear hGn
  have LGo := Go.lies
  go_wp2_with fail
  refine (eqIntS_any GA WA Wn Gc Wn Wc _ _ _ (by omega) Go.slAt Wo.slAt).mono ?_; rintro e w7 ⟨rfl, hbw7⟩
  replace HB := below_next HB hbw7
  replace hcar := hcar.below hbw7
  replace Wo := Wo.below hbw7
  replace x_o1 := x_o1.below hbw7
  replace Go := Go.below hbw7
  go_wp2_with fail
  refine (toPlaceS_any A1 n1 c1 x1 _ (by omega) (s1.below HB)).mono ?_; rintro e w8 ⟨y_A1, y_c1, rfl, y_o1, hbw8⟩
  replace HB := below_next HB hbw8
  replace hcar := hcar.below hbw8
  replace Wo := Wo.below hbw8
  replace x_o1 := x_o1.below hbw8
  replace Go := Go.below hbw8
  go_wp2_with fail
  refine (eqPlaceS_same x_A1 y_A1 n1 x_c1 y_c1 x1 _ (by omega) x_o1.slAt y_o1.slAt).mono ?_; rintro e w9 ⟨rfl, hbw9⟩
  replace HB := below_next HB hbw9
  replace hcar := hcar.below hbw9
  replace Wo := Wo.below hbw9
  replace x_o1 := x_o1.below hbw9
  replace Go := Go.below hbw9
  have hs := HB.size
  have hsb : (w.alloc (.cells #[.int .i64 a0, .int .i64 b0, .int .i64 c0, .int .i64 d0] 37)).heap.size = w.heap.size + 1 := by simp
  have hs1 := hbw1.size
  have hs2 := hbw2.size
  have hs3 := hbw3.size
  have hs4 := hbw4.size
  have hs5 := hbw5.size
  have hs6 := hbw6.size
  have hs7 := hbw7.size
  have hs8 := hbw8.size
  have hs9 := hbw9.size
  go_wp2_with fail
  refine (markPlaceS_any x_A1 n1 x_c1 _ _ _ _ x_o1 (by omega) (by omega) (by omega)).mono ?_; rintro e w10 ⟨rfl, hgw10⟩
  have hsw10 := hgw10.size
  replace HB := below_grown HB hgw10 Lx_o1 (by omega)
  replace hcar := hcar.grownN hgw10 Lx_o1 (by omega)
  replace Wo := Wo.grown hgw10 LWo Lx_o1 (by omega)
  replace Go := Go.grown hgw10 LGo Lx_o1 (by omega)
  go_wp2_with fail
  refine (eqIntS_any GA WA Wn Gc Wn Wc _ _ _ (by omega) Go.slAt Wo.slAt).mono ?_; rintro e w11 ⟨rfl, hbw11⟩
  replace HB := below_next HB hbw11
  replace hcar := hcar.below hbw11
  replace Wo := Wo.below hbw11
  replace Go := Go.below hbw11
  have hs11 := hbw11.size
  go_wp2_with fail
  refine (markIntS_any GA Wn Gc _ _ _ _ Go (by omega) (by omega) (by omega)).mono ?_; rintro e w12 ⟨rfl, hgw12, Go'⟩
  have hsw12 := hgw12.size
  replace HB := below_grown HB hgw12 LGo (by omega)
  replace hcar := hcar.grownN hgw12 LGo (by omega)
  replace Wo := Wo.grown hgw12 LWo LGo (by omega)
  go_wp2_with fail
  refine (heldIntS_any GA Wn Gc _ _ Go'.slAt (by omega) (by omega) (by omega)).mono ?_; rintro e w0 ⟨rfl, rfl⟩
  have hq0 := hcar.cell 0
  have hq1 := hcar.cell 1
  have hq2 := hcar.cell 2
  have hq3 := hcar.cell 3
  simp only [List.getElem?_cons_zero, List.getElem?_cons_succ] at hq0 hq1 hq2 hq3
  go_wp2_with fail
  refine (toCar_any _ _ _ _ _).mono ?_; rintro e w13 ⟨rfl, hbw13⟩
  clear hq0 hq1 hq2 hq3
  replace HB := below_next HB hbw13
  replace hcar := hcar.below hbw13
  replace Wo := Wo.below hbw13
  replace Go' := Go'.below hbw13
  go_wp2_with fail
  refine (toPlaceS_any A1 n1 c1 x1 _ (by omega) (s1.below HB)).mono ?_; rintro e w14 ⟨z_A1, z_c1, rfl, z_o1, hbw14⟩
  replace HB := below_next HB hbw14
  replace hcar := hcar.below hbw14
  replace Wo := Wo.below hbw14
  replace Go' := Go'.below hbw14
  go_wp2_with fail
  refine (placesFor_any ⟨a0, b0, c0, d0⟩ z_A1 n1 z_c1 x1 _ (by omega) z_o1.slAt).mono ?_; rintro e w15 ⟨HA, Hn, Hc, rfl, hHn, Ho, hbw15⟩
  replace HB := below_next HB hbw15
  replace hcar := hcar.below hbw15
  replace Wo := Wo.below hbw15
  replace Go' := Go'.below hbw15
  replace z_o1 := z_o1.below hbw15
  have lH : Hn ≤ 1048576 := by have h := forL_short ⟨a0, b0, c0, d0⟩ x1; omega
  obtain rfl : Wn = Hn := HWn.out.trans hHn.symm
  clear hHn
  go_wp2_with fail
  refine (eqIntS_any HA WA Wn Hc Wn Wc _ _ _ (by omega) Ho.slAt Wo.slAt).mono ?_; rintro e w16 ⟨rfl, hbw16⟩
  replace HB := below_next HB hbw16
  replace hcar := hcar.below hbw16
  replace Wo := Wo.below hbw16
  replace Go' := Go'.below hbw16
  replace Ho := Ho.below hbw16
  go_wp2_with fail
  refine (heldIntS_any GA Wn Gc _ _ Go'.slAt (by omega) (by omega) (by omega)).mono ?_; rintro e w0 ⟨rfl, rfl⟩
  go_wp2
  go_ret
  exact ⟨rfl, HB⟩
end Go.Proofs.Ytkbfkolfgcjbiaa
