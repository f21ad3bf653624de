/-
  A valid car that the reference draws.
-/
import Derived.Test.YtecjhomfoakaeaaDoorDrCar
import Derived.Test.YtecjhomfoakaeaaDoorCar1
namespace Go.Proofs.YtecjhomfoakaeaaDoor
open Go.ChangeShapes Go.WideShapes Go.ChangeAt Go.RowKit

/-- The call answers a valid car; the reader has gone on. -/
def DrawV (w0 w : World) (R : Nat) (A : Option Addr) (n c : Nat) (bs : List Int) (K : Nat) (e : Ending) (w' : World) : Prop :=
  ∃ f t r u : Int, e = .returned (.agg #[.int .i64 f, .int .i64 t, .int .i64 r, .int .i64 u]) ∧ Hid (carB f t r u = true) ∧ Rd w0 w' R A n c bs K ∧ Fr1 R w w'

set_option maxRecDepth 100000 in
set_option maxHeartbeats 4000000 in
theorem l20CarOf_zero (w0 w : World) (R : Nat) (A : Option Addr) (n c : Nat) (bs : List Int) (J : Nat) (i : Int) (h : Rd w0 w R A n c bs J) (hJ : J ≤ 900000) (hi0 : 1 ≤ i) (hi1 : i ≤ 99) :
    Calls Tryd.prog 21 #[.pointer (some ⟨R, 0, none⟩), .int .i64 i, .int .i64 0] w (DrawV w0 w R A n c bs (J + 10)) := by
  have hRl := h.lt
  have hR1 := h.below ((Below.refl w.heap.size w).alloc (Nat.le_refl _) (.cells #[.int .i64 0, .int .i64 0, .int .i64 0, .int .i64 0] 23))
  have hQ1 : Whole (w.alloc (.cells #[.int .i64 0, .int .i64 0, .int .i64 0, .int .i64 0] 23)) w.heap.size 23 [.int .i64 0, .int .i64 0, .int .i64 0, .int .i64 0] := Whole.new w _ _
  have hF1 : Fr1 R w (w.alloc (.cells #[.int .i64 0, .int .i64 0, .int .i64 0, .int .i64 0] 23)) := (Fr1.refl R w).below ((Below.refl _ _).alloc (Nat.le_refl _) _)
  go_enter Tryd.func21, Tryd.ntmps21
  go_wp2_with fail
  generalize w.alloc (.cells #[.int .i64 0, .int .i64 0, .int .i64 0, .int .i64 0] 23) = w1 at hR1 hQ1 hF1 ⊢
  refine (pick_any w0 _ R A n c bs J 6 hR1 (by omega)).mono ?_; rintro e w2 ⟨a, rfl, ha0, ha1, -, hR2, hf2⟩
  go_wp2_with fail
  refine (pick_any w0 _ R A n c bs (J + 1) 5 hR2 (by omega)).mono ?_; rintro e w3 ⟨b, rfl, hb0, hb1, -, hR3, hf3⟩
  go_wp2_with fail
  refine (pick_any w0 _ R A n c bs (J + 1 + 1) 6 hR3 (by omega)).mono ?_; rintro e w4 ⟨d, rfl, hd0, hd1, -, hR4, hf4⟩
  replace ha1 := ha1 (by omega)
  replace hb1 := hb1 (by omega)
  replace hd1 := hd1 (by omega)
  have hs1 := hF1.size
  have hs2 := hf2.size
  have hs3 := hf3.size
  have hs4 := hf4.size
  have hM7 : Whole (w4.alloc (.cells #[.int .i64 i, .int .i64 (1 + a), .int .i64 (1 + b), .int .i64 (1 + d)] 23)) w4.heap.size 23 [.int .i64 i, .int .i64 (1 + a), .int .i64 (1 + b), .int .i64 (1 + d)] := Whole.new w4 _ _
  have hb5 : Below w4.heap.size w4 (w4.alloc (.cells #[.int .i64 i, .int .i64 (1 + a), .int .i64 (1 + b), .int .i64 (1 + d)] 23)) := (Below.refl _ _).alloc (Nat.le_refl _) _
  have hxa : IntKind.i64.wrap (1 + a) = 1 + a := IntWalk.i64_in _ (by omega)
  have hxb : IntKind.i64.wrap (1 + b) = 1 + b := IntWalk.i64_in _ (by omega)
  have hxd : IntKind.i64.wrap (1 + d) = 1 + d := IntWalk.i64_in _ (by omega)
  go_wp2_with fail
  generalize w4.alloc (.cells #[.int .i64 i, .int .i64 (1 + a), .int .i64 (1 + b), .int .i64 (1 + d)] 23) = w7 at hM7 hb5 ⊢
  have hR7 := hR4.below hb5
  have hQ7 := (((hQ1.fr1 hf2 (by omega)).fr1 hf3 (by omega)).fr1 hf4 (by omega)).below hb5
  have hF7 := (((hF1.trans hf2).trans hf3).trans hf4).below hb5
  obtain ⟨M, HM⟩ : ∃ M, Hid (M = w4.heap.size) := ⟨_, rfl⟩
  obtain ⟨Q, HQ⟩ : ∃ Q, Hid (Q = w.heap.size) := ⟨_, rfl⟩
  have hQl := hQ1.lt
  rw [← HM.out] at hM7 ⊢
  rw [← HQ.out] at hQ7 hRl hs1 hQl ⊢
  have hMR : M ≠ R := by have := HM.out; omega
  have hQR : Q ≠ R := by omega
  have hQM : Q ≠ M := by have := HM.out; omega
  have hMQ : M ≠ Q := by have := HM.out; omega
  have hRM : R < M := by have := HM.out; omega
  have hQw : w.heap.size ≤ Q := by have := HQ.out; omega
  have hMw : w.heap.size ≤ M := by have := HM.out; have := HQ.out; omega
  clear hQ1 hF1 hR1 hR2 hR3 hR4 hf2 hf3 hf4 hs1 hs2 hs3 hs4 hb5 h hQl hxa hxb hxd
  refine (odd_any w0 _ R A n c bs (J + 3) 0 hR7 (by omega) (by omega) (by omega)).mono ?_; rintro e w8 ⟨v8, rfl, hv8, hR8, hf8⟩
  have hM8 := hM7.fr1 hf8 hMR
  have hQ8 := hQ7.fr1 hf8 hQR
  have hF8 := hF7.trans hf8
  clear hM7 hR7 hF7 hQ7 hf8
  have fin : ∀ (wz : World) (z0 z1 z2 z3 : Int), Hid (carB z0 z1 z2 z3 = true) → Whole wz M 23 [.int .i64 z0, .int .i64 z1, .int .i64 z2, .int .i64 z3] → Whole wz Q 23 [.int .i64 0, .int .i64 0, .int .i64 0, .int .i64 0] → Rd w0 wz R A n c bs (J + 10) → Fr1 R w wz →
      DrawV w0 w R A n c bs (J + 10) (.returned (.agg #[.int .i64 z0, .int .i64 z1, .int .i64 z2, .int .i64 z3])) ((((wz.setCell ⟨Q, 0, none⟩ (.int .i64 z0)).setCell ⟨Q, 1, none⟩ (.int .i64 z1)).setCell ⟨Q, 2, none⟩ (.int .i64 z2)).setCell ⟨Q, 3, none⟩ (.int .i64 z3)) :=
    fun wz z0 z1 z2 z3 hC _ _ hR hF => ⟨z0, z1, z2, z3, rfl, hC, (((hR.set (p := ⟨Q, 0, none⟩) hRl _).set (p := ⟨Q, 1, none⟩) hRl _).set (p := ⟨Q, 2, none⟩) hRl _).set (p := ⟨Q, 3, none⟩) hRl _, (((hF.far (p := ⟨Q, 0, none⟩) hQw _).far (p := ⟨Q, 1, none⟩) hQw _).far (p := ⟨Q, 2, none⟩) hQw _).far (p := ⟨Q, 3, none⟩) hQw _⟩
  have HFin := Lib.hid fin
  clear fin
  have hs8 := hF8.size
  obtain rfl := hv8 (by omega)
  clear hv8
  · skip
    have hm0 : w8.cell? ⟨M, 0, none⟩ = some (.int .i64 i) := hM8.cell 0
    have hm1 : w8.cell? ⟨M, 1, none⟩ = some (.int .i64 (1 + a)) := hM8.cell 1
    have hm2 : w8.cell? ⟨M, 2, none⟩ = some (.int .i64 (1 + b)) := hM8.cell 2
    have hm3 : w8.cell? ⟨M, 3, none⟩ = some (.int .i64 (1 + d)) := hM8.cell 3
    have hq0 : w8.cell? ⟨Q, 0, none⟩ = some (.int .i64 0) := hQ8.cell 0
    have hq1 : w8.cell? ⟨Q, 1, none⟩ = some (.int .i64 0) := hQ8.cell 1
    have hq2 : w8.cell? ⟨Q, 2, none⟩ = some (.int .i64 0) := hQ8.cell 2
    have hq3 : w8.cell? ⟨Q, 3, none⟩ = some (.int .i64 0) := hQ8.cell 3
    have hz0 := hQ8.free 0
    have hz1 := hQ8.free 1
    have hz2 := hQ8.free 2
    have hz3 := hQ8.free 3
    go_wp2
    have hW := ((((hQ8.set_ 0 (.int .i64 i)).set_ 1 (.int .i64 (1 + a))).set_ 2 (.int .i64 (1 + b))).set_ 3 (.int .i64 (1 + d)))
    have hG := HFin.out w8 i (1 + a) (1 + b) (1 + d) (Lib.hid (by simp only [carB, Bool.and_eq_true, decide_eq_true_eq]; omega)) hM8 hQ8 (hR8.more (by omega)) hF8
    generalize ((((w8.setCell ⟨Q, 0, none⟩ (.int .i64 i)).setCell ⟨Q, 1, none⟩ (.int .i64 (1 + a))).setCell ⟨Q, 2, none⟩ (.int .i64 (1 + b))).setCell ⟨Q, 3, none⟩ (.int .i64 (1 + d))) = wz at hW hG ⊢
    have e0 : wz.cell? ⟨Q, 0, none⟩ = some (.int .i64 i) := hW.cell 0
    have e1 : wz.cell? ⟨Q, 1, none⟩ = some (.int .i64 (1 + a)) := hW.cell 1
    have e2 : wz.cell? ⟨Q, 2, none⟩ = some (.int .i64 (1 + b)) := hW.cell 2
    have e3 : wz.cell? ⟨Q, 3, none⟩ = some (.int .i64 (1 + d)) := hW.cell 3
    exact bodyPost_ret (v := .agg #[.int .i64 i, .int .i64 (1 + a), .int .i64 (1 + b), .int .i64 (1 + d)]) (by simp [results, Tryd.results21, go_sem, e0, e1, e2, e3]) rfl hG
end Go.Proofs.YtecjhomfoakaeaaDoor
