/-
  A car that the reference draws.
-/
import Derived.Test.YtecjhomfoakaeaaDoorDrNeed
namespace Go.Proofs.YtecjhomfoakaeaaDoor
open Go.ChangeShapes Go.WideShapes Go.ChangeAt Go.RowKit

/-- A drawn car's numbers are small. -/
def CarIn (f t r u : Int) : Prop := (0 ≤ f ∧ f ≤ 100) ∧ (0 ≤ t ∧ t ≤ 10) ∧ (0 ≤ r ∧ r ≤ 10) ∧ (0 ≤ u ∧ u ≤ 10)
/-- The call answers a car; the reader has gone on. -/
def DrawC (w0 w : World) (R : Nat) (A : Option Addr) (n c : Nat) (bs : List Int) (K : Nat) (e : Ending) (w' : World) : Prop :=
  ∃ f t r u : Int, e = .returned (.agg #[.int .i64 f, .int .i64 t, .int .i64 r, .int .i64 u]) ∧ CarIn f t r u ∧ Rd w0 w' R A n c bs K ∧ Fr1 R w w'

set_option maxRecDepth 100000 in
set_option maxHeartbeats 4000000 in
theorem l20CarOf_any (w0 w : World) (R : Nat) (A : Option Addr) (n c : Nat) (bs : List Int) (J : Nat) (i q : Int) (h : Rd w0 w R A n c bs J) (hJ : J ≤ 900000) (hi0 : 0 ≤ i) (hi1 : i ≤ 100) (hq : 0 ≤ q) (hq2 : q ≤ 1000) :
    Calls Tryd.prog 21 #[.pointer (some ⟨R, 0, none⟩), .int .i64 i, .int .i64 q] w (DrawC w0 w R A n c bs (J + 10)) := by
  have hRl := h.lt
  have hR1 := h.below ((Below.refl w.heap.size w).alloc (Nat.le_refl _) (.cells #[.int .i64 0, .int .i64 0, .int .i64 0, .int .i64 0] 23))
  have hQ1 : Whole (w.alloc (.cells #[.int .i64 0, .int .i64 0, .int .i64 0, .int .i64 0] 23)) w.heap.size 23 [.int .i64 0, .int .i64 0, .int .i64 0, .int .i64 0] := Whole.new w _ _
  have hF1 : Fr1 R w (w.alloc (.cells #[.int .i64 0, .int .i64 0, .int .i64 0, .int .i64 0] 23)) := (Fr1.refl R w).below ((Below.refl _ _).alloc (Nat.le_refl _) _)
  go_enter Tryd.func21, Tryd.ntmps21
  go_wp2_with fail
  generalize w.alloc (.cells #[.int .i64 0, .int .i64 0, .int .i64 0, .int .i64 0] 23) = w1 at hR1 hQ1 hF1 ⊢
  refine (pick_any w0 _ R A n c bs J 6 hR1 (by omega)).mono ?_; rintro e w2 ⟨a, rfl, ha0, ha1, -, hR2, hf2⟩
  go_wp2_with fail
  refine (pick_any w0 _ R A n c bs (J + 1) 5 hR2 (by omega)).mono ?_; rintro e w3 ⟨b, rfl, hb0, hb1, -, hR3, hf3⟩
  go_wp2_with fail
  refine (pick_any w0 _ R A n c bs (J + 1 + 1) 6 hR3 (by omega)).mono ?_; rintro e w4 ⟨d, rfl, hd0, hd1, -, hR4, hf4⟩
  replace ha1 := ha1 (by omega)
  replace hb1 := hb1 (by omega)
  replace hd1 := hd1 (by omega)
  have hs1 := hF1.size
  have hs2 := hf2.size
  have hs3 := hf3.size
  have hs4 := hf4.size
  have hM7 : Whole (w4.alloc (.cells #[.int .i64 i, .int .i64 (1 + a), .int .i64 (1 + b), .int .i64 (1 + d)] 23)) w4.heap.size 23 [.int .i64 i, .int .i64 (1 + a), .int .i64 (1 + b), .int .i64 (1 + d)] := Whole.new w4 _ _
  have hb5 : Below w4.heap.size w4 (w4.alloc (.cells #[.int .i64 i, .int .i64 (1 + a), .int .i64 (1 + b), .int .i64 (1 + d)] 23)) := (Below.refl _ _).alloc (Nat.le_refl _) _
  have hxa : IntKind.i64.wrap (1 + a) = 1 + a := IntWalk.i64_in _ (by omega)
  have hxb : IntKind.i64.wrap (1 + b) = 1 + b := IntWalk.i64_in _ (by omega)
  have hxd : IntKind.i64.wrap (1 + d) = 1 + d := IntWalk.i64_in _ (by omega)
  go_wp2_with fail
  generalize w4.alloc (.cells #[.int .i64 i, .int .i64 (1 + a), .int .i64 (1 + b), .int .i64 (1 + d)] 23) = w7 at hM7 hb5 ⊢
  have hR7 := hR4.below hb5
  have hQ7 := (((hQ1.fr1 hf2 (by omega)).fr1 hf3 (by omega)).fr1 hf4 (by omega)).below hb5
  have hF7 := (((hF1.trans hf2).trans hf3).trans hf4).below hb5
  obtain ⟨M, HM⟩ : ∃ M, Hid (M = w4.heap.size) := ⟨_, rfl⟩
  obtain ⟨Q, HQ⟩ : ∃ Q, Hid (Q = w.heap.size) := ⟨_, rfl⟩
  have hQl := hQ1.lt
  rw [← HM.out] at hM7 ⊢
  rw [← HQ.out] at hQ7 hRl hs1 hQl ⊢
  have hMR : M ≠ R := by have := HM.out; omega
  have hQR : Q ≠ R := by omega
  have hQM : Q ≠ M := by have := HM.out; omega
  have hMQ : M ≠ Q := by have := HM.out; omega
  have hRM : R < M := by have := HM.out; omega
  have hQw : w.heap.size ≤ Q := by have := HQ.out; omega
  have hMw : w.heap.size ≤ M := by have := HM.out; have := HQ.out; omega
  clear hQ1 hF1 hR1 hR2 hR3 hR4 hf2 hf3 hf4 hs1 hs2 hs3 hs4 hb5 h hQl hxa hxb hxd
  refine (odd_any w0 _ R A n c bs (J + 3) q hR7 (by omega) (by omega) hq).mono ?_; rintro e w8 ⟨v8, rfl, -, hR8, hf8⟩
  have hM8 := hM7.fr1 hf8 hMR
  have hQ8 := hQ7.fr1 hf8 hQR
  have hF8 := hF7.trans hf8
  clear hM7 hR7 hF7 hQ7 hf8
  have fin : ∀ (wz : World) (z0 z1 z2 z3 : Int), CarIn z0 z1 z2 z3 → Whole wz M 23 [.int .i64 z0, .int .i64 z1, .int .i64 z2, .int .i64 z3] → Whole wz Q 23 [.int .i64 0, .int .i64 0, .int .i64 0, .int .i64 0] → Rd w0 wz R A n c bs (J + 10) → Fr1 R w wz →
      DrawC w0 w R A n c bs (J + 10) (.returned (.agg #[.int .i64 z0, .int .i64 z1, .int .i64 z2, .int .i64 z3])) ((((wz.setCell ⟨Q, 0, none⟩ (.int .i64 z0)).setCell ⟨Q, 1, none⟩ (.int .i64 z1)).setCell ⟨Q, 2, none⟩ (.int .i64 z2)).setCell ⟨Q, 3, none⟩ (.int .i64 z3)) :=
    fun wz z0 z1 z2 z3 hC _ _ hR hF => ⟨z0, z1, z2, z3, rfl, hC, (((hR.set (p := ⟨Q, 0, none⟩) hRl _).set (p := ⟨Q, 1, none⟩) hRl _).set (p := ⟨Q, 2, none⟩) hRl _).set (p := ⟨Q, 3, none⟩) hRl _, (((hF.far (p := ⟨Q, 0, none⟩) hQw _).far (p := ⟨Q, 1, none⟩) hQw _).far (p := ⟨Q, 2, none⟩) hQw _).far (p := ⟨Q, 3, none⟩) hQw _⟩
  have HFin := Lib.hid fin
  clear fin
  have hs8 := hF8.size
  cases v8
  · skip
    have hm0 : w8.cell? ⟨M, 0, none⟩ = some (.int .i64 i) := hM8.cell 0
    have hm1 : w8.cell? ⟨M, 1, none⟩ = some (.int .i64 (1 + a)) := hM8.cell 1
    have hm2 : w8.cell? ⟨M, 2, none⟩ = some (.int .i64 (1 + b)) := hM8.cell 2
    have hm3 : w8.cell? ⟨M, 3, none⟩ = some (.int .i64 (1 + d)) := hM8.cell 3
    have hq0 : w8.cell? ⟨Q, 0, none⟩ = some (.int .i64 0) := hQ8.cell 0
    have hq1 : w8.cell? ⟨Q, 1, none⟩ = some (.int .i64 0) := hQ8.cell 1
    have hq2 : w8.cell? ⟨Q, 2, none⟩ = some (.int .i64 0) := hQ8.cell 2
    have hq3 : w8.cell? ⟨Q, 3, none⟩ = some (.int .i64 0) := hQ8.cell 3
    have hz0 := hQ8.free 0
    have hz1 := hQ8.free 1
    have hz2 := hQ8.free 2
    have hz3 := hQ8.free 3
    go_wp2
    have hW := ((((hQ8.set_ 0 (.int .i64 i)).set_ 1 (.int .i64 (1 + a))).set_ 2 (.int .i64 (1 + b))).set_ 3 (.int .i64 (1 + d)))
    have hG := HFin.out w8 i (1 + a) (1 + b) (1 + d) (by simp only [CarIn]; omega) hM8 hQ8 (hR8.more (by omega)) hF8
    generalize ((((w8.setCell ⟨Q, 0, none⟩ (.int .i64 i)).setCell ⟨Q, 1, none⟩ (.int .i64 (1 + a))).setCell ⟨Q, 2, none⟩ (.int .i64 (1 + b))).setCell ⟨Q, 3, none⟩ (.int .i64 (1 + d))) = wz at hW hG ⊢
    have e0 : wz.cell? ⟨Q, 0, none⟩ = some (.int .i64 i) := hW.cell 0
    have e1 : wz.cell? ⟨Q, 1, none⟩ = some (.int .i64 (1 + a)) := hW.cell 1
    have e2 : wz.cell? ⟨Q, 2, none⟩ = some (.int .i64 (1 + b)) := hW.cell 2
    have e3 : wz.cell? ⟨Q, 3, none⟩ = some (.int .i64 (1 + d)) := hW.cell 3
    exact bodyPost_ret (v := .agg #[.int .i64 i, .int .i64 (1 + a), .int .i64 (1 + b), .int .i64 (1 + d)]) (by simp [results, Tryd.results21, go_sem, e0, e1, e2, e3]) rfl hG
  · go_wp2_with fail
    refine (pick_any w0 _ R A n c bs (J + 4) 4 hR8 (by omega)).mono ?_; rintro e w9 ⟨v9, rfl, hv90, hv91, -, hR9, hf9⟩
    replace hv91 := hv91 (by omega)
    have hM9 := hM8.fr1 hf9 hMR
    have hQ9 := hQ8.fr1 hf9 hQR
    have hF9 := hF8.trans hf9
    have hs9 := hF9.size
    clear hM8 hR8 hF8 hQ8 hf9
    have hv : v9 = 0 ∨ v9 = 1 ∨ v9 = 2 ∨ v9 = 3 := by omega
    rcases hv with rfl | rfl | rfl | rfl
    · go_wp2_with fail
      have hG9 : Whole (w9.alloc (.cells #[.int .i64 0, .int .i64 100] 3)) w9.heap.size 3 [.int .i64 0, .int .i64 100] := Whole.new w9 _ _
      have hb9 : Below w9.heap.size w9 (w9.alloc (.cells #[.int .i64 0, .int .i64 100] 3)) := (Below.refl _ _).alloc (Nat.le_refl _) _
      generalize w9.alloc (.cells #[.int .i64 0, .int .i64 100] 3) = wa at hG9 hb9 ⊢
      refine (pick_any w0 _ R A n c bs (J + 5) 2 (hR9.below hb9) (by omega)).mono ?_; rintro e w10 ⟨v10, rfl, hv100, hv101, -, hR10, hf10⟩
      replace hv101 := hv101 (by omega)
      have hGR : w9.heap.size ≠ R := by have := hR9.lt; omega
      have hG10 := hG9.fr1 hf10 hGR
      have hM10 := (hM9.below hb9).fr1 hf10 hMR
      have hQ10 := (hQ9.below hb9).fr1 hf10 hQR
      have hF10 := (hF9.below hb9).trans hf10
      obtain ⟨G, HG⟩ : ∃ G, Hid (G = w9.heap.size) := ⟨_, rfl⟩
      rw [← HG.out] at hG10 ⊢
      clear hGR hG9 hM9 hQ9 hR9 hF9 hf10
      have hg0 : w10.cell? ⟨M, 0, none⟩ = some (.int .i64 i) := hM10.cell 0
      have hg1 := hM10.free 0
      have hv : v10 = 0 ∨ v10 = 1 := by omega
      rcases hv with rfl | rfl
      · have hc0 : w10.cell? ⟨G, 0, none⟩ = some (.int .i64 0) := hG10.cell 0
        have hM11 := hM10.set_ 0 (.int .i64 0)
        have hQ11 := hQ10.far (p := ⟨M, 0, none⟩) hQM (.int .i64 0)
        have hR11 := hR10.set (p := ⟨M, 0, none⟩) hRM (.int .i64 0)
        have hF11 := hF10.far (p := ⟨M, 0, none⟩) hMw (.int .i64 0)
        have hm0 : (w10.setCell ⟨M, 0, none⟩ (.int .i64 0)).cell? ⟨M, 0, none⟩ = some (.int .i64 0) := hM11.cell 0
        have hm1 : (w10.setCell ⟨M, 0, none⟩ (.int .i64 0)).cell? ⟨M, 1, none⟩ = some (.int .i64 (1 + a)) := hM11.cell 1
        have hm2 : (w10.setCell ⟨M, 0, none⟩ (.int .i64 0)).cell? ⟨M, 2, none⟩ = some (.int .i64 (1 + b)) := hM11.cell 2
        have hm3 : (w10.setCell ⟨M, 0, none⟩ (.int .i64 0)).cell? ⟨M, 3, none⟩ = some (.int .i64 (1 + d)) := hM11.cell 3
        have hq0 : (w10.setCell ⟨M, 0, none⟩ (.int .i64 0)).cell? ⟨Q, 0, none⟩ = some (.int .i64 0) := hQ11.cell 0
        have hq1 : (w10.setCell ⟨M, 0, none⟩ (.int .i64 0)).cell? ⟨Q, 1, none⟩ = some (.int .i64 0) := hQ11.cell 1
        have hq2 : (w10.setCell ⟨M, 0, none⟩ (.int .i64 0)).cell? ⟨Q, 2, none⟩ = some (.int .i64 0) := hQ11.cell 2
        have hq3 : (w10.setCell ⟨M, 0, none⟩ (.int .i64 0)).cell? ⟨Q, 3, none⟩ = some (.int .i64 0) := hQ11.cell 3
        have hz0 := hQ11.free 0
        have hz1 := hQ11.free 1
        have hz2 := hQ11.free 2
        have hz3 := hQ11.free 3
        go_wp2
        have hW := ((((hQ11.set_ 0 (.int .i64 0)).set_ 1 (.int .i64 (1 + a))).set_ 2 (.int .i64 (1 + b))).set_ 3 (.int .i64 (1 + d)))
        have hG := HFin.out (w10.setCell ⟨M, 0, none⟩ (.int .i64 0)) 0 (1 + a) (1 + b) (1 + d) (by simp only [CarIn]; omega) hM11 hQ11 (hR11.more (by omega)) hF11
        generalize (((((w10.setCell ⟨M, 0, none⟩ (.int .i64 0)).setCell ⟨Q, 0, none⟩ (.int .i64 0)).setCell ⟨Q, 1, none⟩ (.int .i64 (1 + a))).setCell ⟨Q, 2, none⟩ (.int .i64 (1 + b))).setCell ⟨Q, 3, none⟩ (.int .i64 (1 + d))) = wz at hW hG ⊢
        have e0 : wz.cell? ⟨Q, 0, none⟩ = some (.int .i64 0) := hW.cell 0
        have e1 : wz.cell? ⟨Q, 1, none⟩ = some (.int .i64 (1 + a)) := hW.cell 1
        have e2 : wz.cell? ⟨Q, 2, none⟩ = some (.int .i64 (1 + b)) := hW.cell 2
        have e3 : wz.cell? ⟨Q, 3, none⟩ = some (.int .i64 (1 + d)) := hW.cell 3
        exact bodyPost_ret (v := .agg #[.int .i64 0, .int .i64 (1 + a), .int .i64 (1 + b), .int .i64 (1 + d)]) (by simp [results, Tryd.results21, go_sem, e0, e1, e2, e3]) rfl hG
      · have hc0 : w10.cell? ⟨G, 1, none⟩ = some (.int .i64 100) := hG10.cell 1
        have hM11 := hM10.set_ 0 (.int .i64 100)
        have hQ11 := hQ10.far (p := ⟨M, 0, none⟩) hQM (.int .i64 100)
        have hR11 := hR10.set (p := ⟨M, 0, none⟩) hRM (.int .i64 100)
        have hF11 := hF10.far (p := ⟨M, 0, none⟩) hMw (.int .i64 100)
        have hm0 : (w10.setCell ⟨M, 0, none⟩ (.int .i64 100)).cell? ⟨M, 0, none⟩ = some (.int .i64 100) := hM11.cell 0
        have hm1 : (w10.setCell ⟨M, 0, none⟩ (.int .i64 100)).cell? ⟨M, 1, none⟩ = some (.int .i64 (1 + a)) := hM11.cell 1
        have hm2 : (w10.setCell ⟨M, 0, none⟩ (.int .i64 100)).cell? ⟨M, 2, none⟩ = some (.int .i64 (1 + b)) := hM11.cell 2
        have hm3 : (w10.setCell ⟨M, 0, none⟩ (.int .i64 100)).cell? ⟨M, 3, none⟩ = some (.int .i64 (1 + d)) := hM11.cell 3
        have hq0 : (w10.setCell ⟨M, 0, none⟩ (.int .i64 100)).cell? ⟨Q, 0, none⟩ = some (.int .i64 0) := hQ11.cell 0
        have hq1 : (w10.setCell ⟨M, 0, none⟩ (.int .i64 100)).cell? ⟨Q, 1, none⟩ = some (.int .i64 0) := hQ11.cell 1
        have hq2 : (w10.setCell ⟨M, 0, none⟩ (.int .i64 100)).cell? ⟨Q, 2, none⟩ = some (.int .i64 0) := hQ11.cell 2
        have hq3 : (w10.setCell ⟨M, 0, none⟩ (.int .i64 100)).cell? ⟨Q, 3, none⟩ = some (.int .i64 0) := hQ11.cell 3
        have hz0 := hQ11.free 0
        have hz1 := hQ11.free 1
        have hz2 := hQ11.free 2
        have hz3 := hQ11.free 3
        go_wp2
        have hW := ((((hQ11.set_ 0 (.int .i64 100)).set_ 1 (.int .i64 (1 + a))).set_ 2 (.int .i64 (1 + b))).set_ 3 (.int .i64 (1 + d)))
        have hG := HFin.out (w10.setCell ⟨M, 0, none⟩ (.int .i64 100)) 100 (1 + a) (1 + b) (1 + d) (by simp only [CarIn]; omega) hM11 hQ11 (hR11.more (by omega)) hF11
        generalize (((((w10.setCell ⟨M, 0, none⟩ (.int .i64 100)).setCell ⟨Q, 0, none⟩ (.int .i64 100)).setCell ⟨Q, 1, none⟩ (.int .i64 (1 + a))).setCell ⟨Q, 2, none⟩ (.int .i64 (1 + b))).setCell ⟨Q, 3, none⟩ (.int .i64 (1 + d))) = wz at hW hG ⊢
        have e0 : wz.cell? ⟨Q, 0, none⟩ = some (.int .i64 100) := hW.cell 0
        have e1 : wz.cell? ⟨Q, 1, none⟩ = some (.int .i64 (1 + a)) := hW.cell 1
        have e2 : wz.cell? ⟨Q, 2, none⟩ = some (.int .i64 (1 + b)) := hW.cell 2
        have e3 : wz.cell? ⟨Q, 3, none⟩ = some (.int .i64 (1 + d)) := hW.cell 3
        exact bodyPost_ret (v := .agg #[.int .i64 100, .int .i64 (1 + a), .int .i64 (1 + b), .int .i64 (1 + d)]) (by simp [results, Tryd.results21, go_sem, e0, e1, e2, e3]) rfl hG
    · go_wp2_with fail
      have hG9 : Whole (w9.alloc (.cells #[.int .i64 0, .int .i64 10] 3)) w9.heap.size 3 [.int .i64 0, .int .i64 10] := Whole.new w9 _ _
      have hb9 : Below w9.heap.size w9 (w9.alloc (.cells #[.int .i64 0, .int .i64 10] 3)) := (Below.refl _ _).alloc (Nat.le_refl _) _
      generalize w9.alloc (.cells #[.int .i64 0, .int .i64 10] 3) = wa at hG9 hb9 ⊢
      refine (pick_any w0 _ R A n c bs (J + 5) 2 (hR9.below hb9) (by omega)).mono ?_; rintro e w10 ⟨v10, rfl, hv100, hv101, -, hR10, hf10⟩
      replace hv101 := hv101 (by omega)
      have hGR : w9.heap.size ≠ R := by have := hR9.lt; omega
      have hG10 := hG9.fr1 hf10 hGR
      have hM10 := (hM9.below hb9).fr1 hf10 hMR
      have hQ10 := (hQ9.below hb9).fr1 hf10 hQR
      have hF10 := (hF9.below hb9).trans hf10
      obtain ⟨G, HG⟩ : ∃ G, Hid (G = w9.heap.size) := ⟨_, rfl⟩
      rw [← HG.out] at hG10 ⊢
      clear hGR hG9 hM9 hQ9 hR9 hF9 hf10
      have hg0 : w10.cell? ⟨M, 1, none⟩ = some (.int .i64 (1 + a)) := hM10.cell 1
      have hg1 := hM10.free 1
      have hv : v10 = 0 ∨ v10 = 1 := by omega
      rcases hv with rfl | rfl
      · have hc0 : w10.cell? ⟨G, 0, none⟩ = some (.int .i64 0) := hG10.cell 0
        have hM11 := hM10.set_ 1 (.int .i64 0)
        have hQ11 := hQ10.far (p := ⟨M, 1, none⟩) hQM (.int .i64 0)
        have hR11 := hR10.set (p := ⟨M, 1, none⟩) hRM (.int .i64 0)
        have hF11 := hF10.far (p := ⟨M, 1, none⟩) hMw (.int .i64 0)
        have hm0 : (w10.setCell ⟨M, 1, none⟩ (.int .i64 0)).cell? ⟨M, 0, none⟩ = some (.int .i64 i) := hM11.cell 0
        have hm1 : (w10.setCell ⟨M, 1, none⟩ (.int .i64 0)).cell? ⟨M, 1, none⟩ = some (.int .i64 0) := hM11.cell 1
        have hm2 : (w10.setCell ⟨M, 1, none⟩ (.int .i64 0)).cell? ⟨M, 2, none⟩ = some (.int .i64 (1 + b)) := hM11.cell 2
        have hm3 : (w10.setCell ⟨M, 1, none⟩ (.int .i64 0)).cell? ⟨M, 3, none⟩ = some (.int .i64 (1 + d)) := hM11.cell 3
        have hq0 : (w10.setCell ⟨M, 1, none⟩ (.int .i64 0)).cell? ⟨Q, 0, none⟩ = some (.int .i64 0) := hQ11.cell 0
        have hq1 : (w10.setCell ⟨M, 1, none⟩ (.int .i64 0)).cell? ⟨Q, 1, none⟩ = some (.int .i64 0) := hQ11.cell 1
        have hq2 : (w10.setCell ⟨M, 1, none⟩ (.int .i64 0)).cell? ⟨Q, 2, none⟩ = some (.int .i64 0) := hQ11.cell 2
        have hq3 : (w10.setCell ⟨M, 1, none⟩ (.int .i64 0)).cell? ⟨Q, 3, none⟩ = some (.int .i64 0) := hQ11.cell 3
        have hz0 := hQ11.free 0
        have hz1 := hQ11.free 1
        have hz2 := hQ11.free 2
        have hz3 := hQ11.free 3
        go_wp2
        have hW := ((((hQ11.set_ 0 (.int .i64 i)).set_ 1 (.int .i64 0)).set_ 2 (.int .i64 (1 + b))).set_ 3 (.int .i64 (1 + d)))
        have hG := HFin.out (w10.setCell ⟨M, 1, none⟩ (.int .i64 0)) i 0 (1 + b) (1 + d) (by simp only [CarIn]; omega) hM11 hQ11 (hR11.more (by omega)) hF11
        generalize (((((w10.setCell ⟨M, 1, none⟩ (.int .i64 0)).setCell ⟨Q, 0, none⟩ (.int .i64 i)).setCell ⟨Q, 1, none⟩ (.int .i64 0)).setCell ⟨Q, 2, none⟩ (.int .i64 (1 + b))).setCell ⟨Q, 3, none⟩ (.int .i64 (1 + d))) = wz at hW hG ⊢
        have e0 : wz.cell? ⟨Q, 0, none⟩ = some (.int .i64 i) := hW.cell 0
        have e1 : wz.cell? ⟨Q, 1, none⟩ = some (.int .i64 0) := hW.cell 1
        have e2 : wz.cell? ⟨Q, 2, none⟩ = some (.int .i64 (1 + b)) := hW.cell 2
        have e3 : wz.cell? ⟨Q, 3, none⟩ = some (.int .i64 (1 + d)) := hW.cell 3
        exact bodyPost_ret (v := .agg #[.int .i64 i, .int .i64 0, .int .i64 (1 + b), .int .i64 (1 + d)]) (by simp [results, Tryd.results21, go_sem, e0, e1, e2, e3]) rfl hG
      · have hc0 : w10.cell? ⟨G, 1, none⟩ = some (.int .i64 10) := hG10.cell 1
        have hM11 := hM10.set_ 1 (.int .i64 10)
        have hQ11 := hQ10.far (p := ⟨M, 1, none⟩) hQM (.int .i64 10)
        have hR11 := hR10.set (p := ⟨M, 1, none⟩) hRM (.int .i64 10)
        have hF11 := hF10.far (p := ⟨M, 1, none⟩) hMw (.int .i64 10)
        have hm0 : (w10.setCell ⟨M, 1, none⟩ (.int .i64 10)).cell? ⟨M, 0, none⟩ = some (.int .i64 i) := hM11.cell 0
        have hm1 : (w10.setCell ⟨M, 1, none⟩ (.int .i64 10)).cell? ⟨M, 1, none⟩ = some (.int .i64 10) := hM11.cell 1
        have hm2 : (w10.setCell ⟨M, 1, none⟩ (.int .i64 10)).cell? ⟨M, 2, none⟩ = some (.int .i64 (1 + b)) := hM11.cell 2
        have hm3 : (w10.setCell ⟨M, 1, none⟩ (.int .i64 10)).cell? ⟨M, 3, none⟩ = some (.int .i64 (1 + d)) := hM11.cell 3
        have hq0 : (w10.setCell ⟨M, 1, none⟩ (.int .i64 10)).cell? ⟨Q, 0, none⟩ = some (.int .i64 0) := hQ11.cell 0
        have hq1 : (w10.setCell ⟨M, 1, none⟩ (.int .i64 10)).cell? ⟨Q, 1, none⟩ = some (.int .i64 0) := hQ11.cell 1
        have hq2 : (w10.setCell ⟨M, 1, none⟩ (.int .i64 10)).cell? ⟨Q, 2, none⟩ = some (.int .i64 0) := hQ11.cell 2
        have hq3 : (w10.setCell ⟨M, 1, none⟩ (.int .i64 10)).cell? ⟨Q, 3, none⟩ = some (.int .i64 0) := hQ11.cell 3
        have hz0 := hQ11.free 0
        have hz1 := hQ11.free 1
        have hz2 := hQ11.free 2
        have hz3 := hQ11.free 3
        go_wp2
        have hW := ((((hQ11.set_ 0 (.int .i64 i)).set_ 1 (.int .i64 10)).set_ 2 (.int .i64 (1 + b))).set_ 3 (.int .i64 (1 + d)))
        have hG := HFin.out (w10.setCell ⟨M, 1, none⟩ (.int .i64 10)) i 10 (1 + b) (1 + d) (by simp only [CarIn]; omega) hM11 hQ11 (hR11.more (by omega)) hF11
        generalize (((((w10.setCell ⟨M, 1, none⟩ (.int .i64 10)).setCell ⟨Q, 0, none⟩ (.int .i64 i)).setCell ⟨Q, 1, none⟩ (.int .i64 10)).setCell ⟨Q, 2, none⟩ (.int .i64 (1 + b))).setCell ⟨Q, 3, none⟩ (.int .i64 (1 + d))) = wz at hW hG ⊢
        have e0 : wz.cell? ⟨Q, 0, none⟩ = some (.int .i64 i) := hW.cell 0
        have e1 : wz.cell? ⟨Q, 1, none⟩ = some (.int .i64 10) := hW.cell 1
        have e2 : wz.cell? ⟨Q, 2, none⟩ = some (.int .i64 (1 + b)) := hW.cell 2
        have e3 : wz.cell? ⟨Q, 3, none⟩ = some (.int .i64 (1 + d)) := hW.cell 3
        exact bodyPost_ret (v := .agg #[.int .i64 i, .int .i64 10, .int .i64 (1 + b), .int .i64 (1 + d)]) (by simp [results, Tryd.results21, go_sem, e0, e1, e2, e3]) rfl hG
    · go_wp2_with fail
      have hG9 : Whole (w9.alloc (.cells #[.int .i64 0, .int .i64 10] 3)) w9.heap.size 3 [.int .i64 0, .int .i64 10] := Whole.new w9 _ _
      have hb9 : Below w9.heap.size w9 (w9.alloc (.cells #[.int .i64 0, .int .i64 10] 3)) := (Below.refl _ _).alloc (Nat.le_refl _) _
      generalize w9.alloc (.cells #[.int .i64 0, .int .i64 10] 3) = wa at hG9 hb9 ⊢
      refine (pick_any w0 _ R A n c bs (J + 5) 2 (hR9.below hb9) (by omega)).mono ?_; rintro e w10 ⟨v10, rfl, hv100, hv101, -, hR10, hf10⟩
      replace hv101 := hv101 (by omega)
      have hGR : w9.heap.size ≠ R := by have := hR9.lt; omega
      have hG10 := hG9.fr1 hf10 hGR
      have hM10 := (hM9.below hb9).fr1 hf10 hMR
      have hQ10 := (hQ9.below hb9).fr1 hf10 hQR
      have hF10 := (hF9.below hb9).trans hf10
      obtain ⟨G, HG⟩ : ∃ G, Hid (G = w9.heap.size) := ⟨_, rfl⟩
      rw [← HG.out] at hG10 ⊢
      clear hGR hG9 hM9 hQ9 hR9 hF9 hf10
      have hg0 : w10.cell? ⟨M, 2, none⟩ = some (.int .i64 (1 + b)) := hM10.cell 2
      have hg1 := hM10.free 2
      have hv : v10 = 0 ∨ v10 = 1 := by omega
      rcases hv with rfl | rfl
      · have hc0 : w10.cell? ⟨G, 0, none⟩ = some (.int .i64 0) := hG10.cell 0
        have hM11 := hM10.set_ 2 (.int .i64 0)
        have hQ11 := hQ10.far (p := ⟨M, 2, none⟩) hQM (.int .i64 0)
        have hR11 := hR10.set (p := ⟨M, 2, none⟩) hRM (.int .i64 0)
        have hF11 := hF10.far (p := ⟨M, 2, none⟩) hMw (.int .i64 0)
        have hm0 : (w10.setCell ⟨M, 2, none⟩ (.int .i64 0)).cell? ⟨M, 0, none⟩ = some (.int .i64 i) := hM11.cell 0
        have hm1 : (w10.setCell ⟨M, 2, none⟩ (.int .i64 0)).cell? ⟨M, 1, none⟩ = some (.int .i64 (1 + a)) := hM11.cell 1
        have hm2 : (w10.setCell ⟨M, 2, none⟩ (.int .i64 0)).cell? ⟨M, 2, none⟩ = some (.int .i64 0) := hM11.cell 2
        have hm3 : (w10.setCell ⟨M, 2, none⟩ (.int .i64 0)).cell? ⟨M, 3, none⟩ = some (.int .i64 (1 + d)) := hM11.cell 3
        have hq0 : (w10.setCell ⟨M, 2, none⟩ (.int .i64 0)).cell? ⟨Q, 0, none⟩ = some (.int .i64 0) := hQ11.cell 0
        have hq1 : (w10.setCell ⟨M, 2, none⟩ (.int .i64 0)).cell? ⟨Q, 1, none⟩ = some (.int .i64 0) := hQ11.cell 1
        have hq2 : (w10.setCell ⟨M, 2, none⟩ (.int .i64 0)).cell? ⟨Q, 2, none⟩ = some (.int .i64 0) := hQ11.cell 2
        have hq3 : (w10.setCell ⟨M, 2, none⟩ (.int .i64 0)).cell? ⟨Q, 3, none⟩ = some (.int .i64 0) := hQ11.cell 3
        have hz0 := hQ11.free 0
        have hz1 := hQ11.free 1
        have hz2 := hQ11.free 2
        have hz3 := hQ11.free 3
        go_wp2
        have hW := ((((hQ11.set_ 0 (.int .i64 i)).set_ 1 (.int .i64 (1 + a))).set_ 2 (.int .i64 0)).set_ 3 (.int .i64 (1 + d)))
        have hG := HFin.out (w10.setCell ⟨M, 2, none⟩ (.int .i64 0)) i (1 + a) 0 (1 + d) (by simp only [CarIn]; omega) hM11 hQ11 (hR11.more (by omega)) hF11
        generalize (((((w10.setCell ⟨M, 2, none⟩ (.int .i64 0)).setCell ⟨Q, 0, none⟩ (.int .i64 i)).setCell ⟨Q, 1, none⟩ (.int .i64 (1 + a))).setCell ⟨Q, 2, none⟩ (.int .i64 0)).setCell ⟨Q, 3, none⟩ (.int .i64 (1 + d))) = wz at hW hG ⊢
        have e0 : wz.cell? ⟨Q, 0, none⟩ = some (.int .i64 i) := hW.cell 0
        have e1 : wz.cell? ⟨Q, 1, none⟩ = some (.int .i64 (1 + a)) := hW.cell 1
        have e2 : wz.cell? ⟨Q, 2, none⟩ = some (.int .i64 0) := hW.cell 2
        have e3 : wz.cell? ⟨Q, 3, none⟩ = some (.int .i64 (1 + d)) := hW.cell 3
        exact bodyPost_ret (v := .agg #[.int .i64 i, .int .i64 (1 + a), .int .i64 0, .int .i64 (1 + d)]) (by simp [results, Tryd.results21, go_sem, e0, e1, e2, e3]) rfl hG
      · have hc0 : w10.cell? ⟨G, 1, none⟩ = some (.int .i64 10) := hG10.cell 1
        have hM11 := hM10.set_ 2 (.int .i64 10)
        have hQ11 := hQ10.far (p := ⟨M, 2, none⟩) hQM (.int .i64 10)
        have hR11 := hR10.set (p := ⟨M, 2, none⟩) hRM (.int .i64 10)
        have hF11 := hF10.far (p := ⟨M, 2, none⟩) hMw (.int .i64 10)
        have hm0 : (w10.setCell ⟨M, 2, none⟩ (.int .i64 10)).cell? ⟨M, 0, none⟩ = some (.int .i64 i) := hM11.cell 0
        have hm1 : (w10.setCell ⟨M, 2, none⟩ (.int .i64 10)).cell? ⟨M, 1, none⟩ = some (.int .i64 (1 + a)) := hM11.cell 1
        have hm2 : (w10.setCell ⟨M, 2, none⟩ (.int .i64 10)).cell? ⟨M, 2, none⟩ = some (.int .i64 10) := hM11.cell 2
        have hm3 : (w10.setCell ⟨M, 2, none⟩ (.int .i64 10)).cell? ⟨M, 3, none⟩ = some (.int .i64 (1 + d)) := hM11.cell 3
        have hq0 : (w10.setCell ⟨M, 2, none⟩ (.int .i64 10)).cell? ⟨Q, 0, none⟩ = some (.int .i64 0) := hQ11.cell 0
        have hq1 : (w10.setCell ⟨M, 2, none⟩ (.int .i64 10)).cell? ⟨Q, 1, none⟩ = some (.int .i64 0) := hQ11.cell 1
        have hq2 : (w10.setCell ⟨M, 2, none⟩ (.int .i64 10)).cell? ⟨Q, 2, none⟩ = some (.int .i64 0) := hQ11.cell 2
        have hq3 : (w10.setCell ⟨M, 2, none⟩ (.int .i64 10)).cell? ⟨Q, 3, none⟩ = some (.int .i64 0) := hQ11.cell 3
        have hz0 := hQ11.free 0
        have hz1 := hQ11.free 1
        have hz2 := hQ11.free 2
        have hz3 := hQ11.free 3
        go_wp2
        have hW := ((((hQ11.set_ 0 (.int .i64 i)).set_ 1 (.int .i64 (1 + a))).set_ 2 (.int .i64 10)).set_ 3 (.int .i64 (1 + d)))
        have hG := HFin.out (w10.setCell ⟨M, 2, none⟩ (.int .i64 10)) i (1 + a) 10 (1 + d) (by simp only [CarIn]; omega) hM11 hQ11 (hR11.more (by omega)) hF11
        generalize (((((w10.setCell ⟨M, 2, none⟩ (.int .i64 10)).setCell ⟨Q, 0, none⟩ (.int .i64 i)).setCell ⟨Q, 1, none⟩ (.int .i64 (1 + a))).setCell ⟨Q, 2, none⟩ (.int .i64 10)).setCell ⟨Q, 3, none⟩ (.int .i64 (1 + d))) = wz at hW hG ⊢
        have e0 : wz.cell? ⟨Q, 0, none⟩ = some (.int .i64 i) := hW.cell 0
        have e1 : wz.cell? ⟨Q, 1, none⟩ = some (.int .i64 (1 + a)) := hW.cell 1
        have e2 : wz.cell? ⟨Q, 2, none⟩ = some (.int .i64 10) := hW.cell 2
        have e3 : wz.cell? ⟨Q, 3, none⟩ = some (.int .i64 (1 + d)) := hW.cell 3
        exact bodyPost_ret (v := .agg #[.int .i64 i, .int .i64 (1 + a), .int .i64 10, .int .i64 (1 + d)]) (by simp [results, Tryd.results21, go_sem, e0, e1, e2, e3]) rfl hG
    · go_wp2_with fail
      have hG9 : Whole (w9.alloc (.cells #[.int .i64 0, .int .i64 10] 3)) w9.heap.size 3 [.int .i64 0, .int .i64 10] := Whole.new w9 _ _
      have hb9 : Below w9.heap.size w9 (w9.alloc (.cells #[.int .i64 0, .int .i64 10] 3)) := (Below.refl _ _).alloc (Nat.le_refl _) _
      generalize w9.alloc (.cells #[.int .i64 0, .int .i64 10] 3) = wa at hG9 hb9 ⊢
      refine (pick_any w0 _ R A n c bs (J + 5) 2 (hR9.below hb9) (by omega)).mono ?_; rintro e w10 ⟨v10, rfl, hv100, hv101, -, hR10, hf10⟩
      replace hv101 := hv101 (by omega)
      have hGR : w9.heap.size ≠ R := by have := hR9.lt; omega
      have hG10 := hG9.fr1 hf10 hGR
      have hM10 := (hM9.below hb9).fr1 hf10 hMR
      have hQ10 := (hQ9.below hb9).fr1 hf10 hQR
      have hF10 := (hF9.below hb9).trans hf10
      obtain ⟨G, HG⟩ : ∃ G, Hid (G = w9.heap.size) := ⟨_, rfl⟩
      rw [← HG.out] at hG10 ⊢
      clear hGR hG9 hM9 hQ9 hR9 hF9 hf10
      have hg0 : w10.cell? ⟨M, 3, none⟩ = some (.int .i64 (1 + d)) := hM10.cell 3
      have hg1 := hM10.free 3
      have hv : v10 = 0 ∨ v10 = 1 := by omega
      rcases hv with rfl | rfl
      · have hc0 : w10.cell? ⟨G, 0, none⟩ = some (.int .i64 0) := hG10.cell 0
        have hM11 := hM10.set_ 3 (.int .i64 0)
        have hQ11 := hQ10.far (p := ⟨M, 3, none⟩) hQM (.int .i64 0)
        have hR11 := hR10.set (p := ⟨M, 3, none⟩) hRM (.int .i64 0)
        have hF11 := hF10.far (p := ⟨M, 3, none⟩) hMw (.int .i64 0)
        have hm0 : (w10.setCell ⟨M, 3, none⟩ (.int .i64 0)).cell? ⟨M, 0, none⟩ = some (.int .i64 i) := hM11.cell 0
        have hm1 : (w10.setCell ⟨M, 3, none⟩ (.int .i64 0)).cell? ⟨M, 1, none⟩ = some (.int .i64 (1 + a)) := hM11.cell 1
        have hm2 : (w10.setCell ⟨M, 3, none⟩ (.int .i64 0)).cell? ⟨M, 2, none⟩ = some (.int .i64 (1 + b)) := hM11.cell 2
        have hm3 : (w10.setCell ⟨M, 3, none⟩ (.int .i64 0)).cell? ⟨M, 3, none⟩ = some (.int .i64 0) := hM11.cell 3
        have hq0 : (w10.setCell ⟨M, 3, none⟩ (.int .i64 0)).cell? ⟨Q, 0, none⟩ = some (.int .i64 0) := hQ11.cell 0
        have hq1 : (w10.setCell ⟨M, 3, none⟩ (.int .i64 0)).cell? ⟨Q, 1, none⟩ = some (.int .i64 0) := hQ11.cell 1
        have hq2 : (w10.setCell ⟨M, 3, none⟩ (.int .i64 0)).cell? ⟨Q, 2, none⟩ = some (.int .i64 0) := hQ11.cell 2
        have hq3 : (w10.setCell ⟨M, 3, none⟩ (.int .i64 0)).cell? ⟨Q, 3, none⟩ = some (.int .i64 0) := hQ11.cell 3
        have hz0 := hQ11.free 0
        have hz1 := hQ11.free 1
        have hz2 := hQ11.free 2
        have hz3 := hQ11.free 3
        go_wp2
        have hW := ((((hQ11.set_ 0 (.int .i64 i)).set_ 1 (.int .i64 (1 + a))).set_ 2 (.int .i64 (1 + b))).set_ 3 (.int .i64 0))
        have hG := HFin.out (w10.setCell ⟨M, 3, none⟩ (.int .i64 0)) i (1 + a) (1 + b) 0 (by simp only [CarIn]; omega) hM11 hQ11 (hR11.more (by omega)) hF11
        generalize (((((w10.setCell ⟨M, 3, none⟩ (.int .i64 0)).setCell ⟨Q, 0, none⟩ (.int .i64 i)).setCell ⟨Q, 1, none⟩ (.int .i64 (1 + a))).setCell ⟨Q, 2, none⟩ (.int .i64 (1 + b))).setCell ⟨Q, 3, none⟩ (.int .i64 0)) = wz at hW hG ⊢
        have e0 : wz.cell? ⟨Q, 0, none⟩ = some (.int .i64 i) := hW.cell 0
        have e1 : wz.cell? ⟨Q, 1, none⟩ = some (.int .i64 (1 + a)) := hW.cell 1
        have e2 : wz.cell? ⟨Q, 2, none⟩ = some (.int .i64 (1 + b)) := hW.cell 2
        have e3 : wz.cell? ⟨Q, 3, none⟩ = some (.int .i64 0) := hW.cell 3
        exact bodyPost_ret (v := .agg #[.int .i64 i, .int .i64 (1 + a), .int .i64 (1 + b), .int .i64 0]) (by simp [results, Tryd.results21, go_sem, e0, e1, e2, e3]) rfl hG
      · have hc0 : w10.cell? ⟨G, 1, none⟩ = some (.int .i64 10) := hG10.cell 1
        have hM11 := hM10.set_ 3 (.int .i64 10)
        have hQ11 := hQ10.far (p := ⟨M, 3, none⟩) hQM (.int .i64 10)
        have hR11 := hR10.set (p := ⟨M, 3, none⟩) hRM (.int .i64 10)
        have hF11 := hF10.far (p := ⟨M, 3, none⟩) hMw (.int .i64 10)
        have hm0 : (w10.setCell ⟨M, 3, none⟩ (.int .i64 10)).cell? ⟨M, 0, none⟩ = some (.int .i64 i) := hM11.cell 0
        have hm1 : (w10.setCell ⟨M, 3, none⟩ (.int .i64 10)).cell? ⟨M, 1, none⟩ = some (.int .i64 (1 + a)) := hM11.cell 1
        have hm2 : (w10.setCell ⟨M, 3, none⟩ (.int .i64 10)).cell? ⟨M, 2, none⟩ = some (.int .i64 (1 + b)) := hM11.cell 2
        have hm3 : (w10.setCell ⟨M, 3, none⟩ (.int .i64 10)).cell? ⟨M, 3, none⟩ = some (.int .i64 10) := hM11.cell 3
        have hq0 : (w10.setCell ⟨M, 3, none⟩ (.int .i64 10)).cell? ⟨Q, 0, none⟩ = some (.int .i64 0) := hQ11.cell 0
        have hq1 : (w10.setCell ⟨M, 3, none⟩ (.int .i64 10)).cell? ⟨Q, 1, none⟩ = some (.int .i64 0) := hQ11.cell 1
        have hq2 : (w10.setCell ⟨M, 3, none⟩ (.int .i64 10)).cell? ⟨Q, 2, none⟩ = some (.int .i64 0) := hQ11.cell 2
        have hq3 : (w10.setCell ⟨M, 3, none⟩ (.int .i64 10)).cell? ⟨Q, 3, none⟩ = some (.int .i64 0) := hQ11.cell 3
        have hz0 := hQ11.free 0
        have hz1 := hQ11.free 1
        have hz2 := hQ11.free 2
        have hz3 := hQ11.free 3
        go_wp2
        have hW := ((((hQ11.set_ 0 (.int .i64 i)).set_ 1 (.int .i64 (1 + a))).set_ 2 (.int .i64 (1 + b))).set_ 3 (.int .i64 10))
        have hG := HFin.out (w10.setCell ⟨M, 3, none⟩ (.int .i64 10)) i (1 + a) (1 + b) 10 (by simp only [CarIn]; omega) hM11 hQ11 (hR11.more (by omega)) hF11
        generalize (((((w10.setCell ⟨M, 3, none⟩ (.int .i64 10)).setCell ⟨Q, 0, none⟩ (.int .i64 i)).setCell ⟨Q, 1, none⟩ (.int .i64 (1 + a))).setCell ⟨Q, 2, none⟩ (.int .i64 (1 + b))).setCell ⟨Q, 3, none⟩ (.int .i64 10)) = wz at hW hG ⊢
        have e0 : wz.cell? ⟨Q, 0, none⟩ = some (.int .i64 i) := hW.cell 0
        have e1 : wz.cell? ⟨Q, 1, none⟩ = some (.int .i64 (1 + a)) := hW.cell 1
        have e2 : wz.cell? ⟨Q, 2, none⟩ = some (.int .i64 (1 + b)) := hW.cell 2
        have e3 : wz.cell? ⟨Q, 3, none⟩ = some (.int .i64 10) := hW.cell 3
        exact bodyPost_ret (v := .agg #[.int .i64 i, .int .i64 (1 + a), .int .i64 (1 + b), .int .i64 10]) (by simp [results, Tryd.results21, go_sem, e0, e1, e2, e3]) rfl hG
end Go.Proofs.YtecjhomfoakaeaaDoor
