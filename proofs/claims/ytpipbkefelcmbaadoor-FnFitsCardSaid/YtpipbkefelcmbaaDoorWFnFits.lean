/-
  The law FnFits: a car that fits does so if it is shorter by 1, and into a place that is longer by 1; and it fits into a place that is just as great as itself.
-/
import Derived.Test.YtpipbkefelcmbaaDoorDrCar
import Derived.Test.YtpipbkefelcmbaaDoorAlive
import Derived.Test.YtpipbkefelcmbaaDoorCar1
namespace Go.Proofs.YtpipbkefelcmbaaDoor
open Go.ChangeShapes Go.WideShapes Go.ChangeAt Go.RowKit

def DrawCP (w : World) (e : Ending) (w' : World) : Prop :=
  ∃ f t r u p q s : Int, e = .returned (.tuple #[.agg #[.int .i64 f, .int .i64 t, .int .i64 r, .int .i64 u], .agg #[.int .i64 p, .int .i64 q, .int .i64 s]]) ∧ CarIn f t r u ∧ ((1 ≤ p ∧ p ≤ 8) ∧ (1 ≤ q ∧ q ≤ 8) ∧ (1 ≤ s ∧ s ≤ 8)) ∧ Below w.heap.size w w'
set_option maxHeartbeats 2000000 in
theorem drawFits_any (w : World) (A : Option Addr) (n c : Nat) (bs : List Int) (hn : n ≤ c ∧ c ≤ 9223372036854775807) (hb : BytesAt w A n bs) :
    Calls Tryd.prog 11 #[.slice A n c] w (DrawCP w) := by
  have hQ0 : Whole (w.alloc (.cells #[.int .i64 0, .int .i64 0, .int .i64 0, .int .i64 0] 24)) w.heap.size 24 [.int .i64 0, .int .i64 0, .int .i64 0, .int .i64 0] := Whole.new w _ _
  have hQ1 := hQ0.alloc (.cells #[.int .i64 0, .int .i64 0, .int .i64 0] 26)
  have hP1 : Whole ((w.alloc (.cells #[.int .i64 0, .int .i64 0, .int .i64 0, .int .i64 0] 24)).alloc (.cells #[.int .i64 0, .int .i64 0, .int .i64 0] 26)) (w.heap.size + 1) 26 [.int .i64 0, .int .i64 0, .int .i64 0] := by
    have h := Whole.new (w.alloc (.cells #[.int .i64 0, .int .i64 0, .int .i64 0, .int .i64 0] 24)) 26 [.int .i64 0, .int .i64 0, .int .i64 0]
    simpa using h
  have hB1 : Below w.heap.size w ((w.alloc (.cells #[.int .i64 0, .int .i64 0, .int .i64 0, .int .i64 0] 24)).alloc (.cells #[.int .i64 0, .int .i64 0, .int .i64 0] 26)) := ((Below.refl _ _).alloc (Nat.le_refl _) _).alloc (by simp) _
  clear hQ0
  go_enter Tryd.func11, Tryd.ntmps11
  go_wp2_with fail
  generalize (w.alloc (.cells #[.int .i64 0, .int .i64 0, .int .i64 0, .int .i64 0] 24)).alloc (.cells #[.int .i64 0, .int .i64 0, .int .i64 0] 26) = w1 at hQ1 hP1 hB1 ⊢
  refine (open_any w1 A n c bs hn (hb.below hB1)).mono ?_; rintro e w2 ⟨R, A1, n1, c1, bs1, rfl, hR2⟩
  go_wp2_with fail
  refine (pick_any w1 w2 R A1 n1 c1 bs1 0 90 hR2 (by omega)).mono ?_; rintro e w4 ⟨i, rfl, hi0, hi1, -, hR4, hf4⟩
  replace hi1 := hi1 (by omega)
  have hxi : IntKind.i64.wrap (1 + i) = 1 + i := IntWalk.i64_in _ (by omega)
  go_wp2_with fail
  refine (l20CarOf_any w1 w4 R A1 n1 c1 bs1 (0 + 1) (1 + i) 0 hR4 (by omega) (by omega) (by omega) (by omega) (by omega)).mono ?_; rintro e w5 ⟨f, t, r, u, rfl, hC, hR5, hf5⟩
  go_wp2_with fail
  refine (pick_any w1 w5 R A1 n1 c1 bs1 (0 + 1 + 10) 8 hR5 (by omega)).mono ?_; rintro e w6 ⟨p, rfl, hp0, hp1, -, hR6, hf6⟩
  replace hp1 := hp1 (by omega)
  go_wp2_with fail
  refine (pick_any w1 w6 R A1 n1 c1 bs1 (0 + 1 + 10 + 1) 8 hR6 (by omega)).mono ?_; rintro e w7 ⟨q, rfl, hq0, hq1, -, hR7, hf7⟩
  replace hq1 := hq1 (by omega)
  go_wp2_with fail
  refine (pick_any w1 w7 R A1 n1 c1 bs1 (0 + 1 + 10 + 1 + 1) 8 hR7 (by omega)).mono ?_; rintro e w3 ⟨s, rfl, hs0, hs1, -, hR3, hf3⟩
  replace hs1 := hs1 (by omega)
  have hQ3 := hQ1.below hR3.bw
  have hP3 := hP1.below hR3.bw
  have hB3 := below_next hB1 hR3.bw
  obtain ⟨Q, HQ⟩ : ∃ Q, Hid (Q = w.heap.size) := ⟨_, rfl⟩
  obtain ⟨P, HP⟩ : ∃ P, Hid (P = w.heap.size + 1) := ⟨_, rfl⟩
  rw [← HQ.out] at hQ3 ⊢
  rw [← HP.out] at hP3
  have hQP : Q + 1 = P := by rw [HQ.out, HP.out]
  rw [hQP]
  have hQw : w.heap.size ≤ Q := Nat.le_of_eq HQ.out.symm
  have hPw : w.heap.size ≤ P := by omega
  have hPQ : P ≠ Q := by omega
  have hQP2 : Q ≠ P := by omega
  clear hQP
  have hc0 := hQ3.cell 0
  have hc1 := hQ3.cell 1
  have hc2 := hQ3.cell 2
  have hc3 := hQ3.cell 3
  have hd0 := hP3.cell 0
  have hd1 := hP3.cell 1
  have hd2 := hP3.cell 2
  simp only [List.getElem?_cons_zero, List.getElem?_cons_succ] at hc0 hc1 hc2 hc3 hd0 hd1 hd2
  have hz0 := hQ3.free 0
  have hz1 := hQ3.free 1
  have hz2 := hQ3.free 2
  have hz3 := hQ3.free 3
  have hy0 := hP3.free 0
  have hy1 := hP3.free 1
  have hy2 := hP3.free 2
  have hxp : IntKind.i64.wrap (1 + p) = 1 + p := IntWalk.i64_in _ (by omega)
  have hxq : IntKind.i64.wrap (1 + q) = 1 + q := IntWalk.i64_in _ (by omega)
  have hxs : IntKind.i64.wrap (1 + s) = 1 + s := IntWalk.i64_in _ (by omega)
  have HB3 := Lib.hid hB3
  have HR3 := Lib.hid hR3
  have HC := Lib.hid hC
  have HI := Lib.hid (show (1 ≤ 1 + p ∧ 1 + p ≤ 8) ∧ (1 ≤ 1 + q ∧ 1 + q ≤ 8) ∧ (1 ≤ 1 + s ∧ 1 + s ≤ 8) by omega)
  clear hQ1 hP1 hB1 hR2 hR3 hR4 hR5 hR6 hR7 hf4 hf5 hf6 hf7 hB3 hf3 hb hC hxi
  go_wp2
  have hW := (((hQ3.set_ 0 (.int .i64 f)).set_ 1 (.int .i64 t)).set_ 2 (.int .i64 r)).set_ 3 (.int .i64 u)
  have hW2 := ((hW.far (p := ⟨P, 0, none⟩) hQP2 (.int .i64 (1 + p))).far (p := ⟨P, 1, none⟩) hQP2 (.int .i64 (1 + q))).far (p := ⟨P, 2, none⟩) hQP2 (.int .i64 (1 + s))
  have hV := (((hP3.far (p := ⟨Q, 0, none⟩) hPQ (.int .i64 f)).far (p := ⟨Q, 1, none⟩) hPQ (.int .i64 t)).far (p := ⟨Q, 2, none⟩) hPQ (.int .i64 r)).far (p := ⟨Q, 3, none⟩) hPQ (.int .i64 u)
  have hV2 := ((hV.set_ 0 (.int .i64 (1 + p))).set_ 1 (.int .i64 (1 + q))).set_ 2 (.int .i64 (1 + s))
  have hG := ((((((HB3.out.setCell (p := ⟨Q, 0, none⟩) hQw (.int .i64 f)).setCell (p := ⟨Q, 1, none⟩) hQw (.int .i64 t)).setCell (p := ⟨Q, 2, none⟩) hQw (.int .i64 r)).setCell (p := ⟨Q, 3, none⟩) hQw (.int .i64 u)).setCell (p := ⟨P, 0, none⟩) hPw (.int .i64 (1 + p))).setCell (p := ⟨P, 1, none⟩) hPw (.int .i64 (1 + q))).setCell (p := ⟨P, 2, none⟩) hPw (.int .i64 (1 + s))
  clear hW hV
  generalize ((((((w3.setCell ⟨Q, 0, none⟩ (.int .i64 f)).setCell ⟨Q, 1, none⟩ (.int .i64 t)).setCell ⟨Q, 2, none⟩ (.int .i64 r)).setCell ⟨Q, 3, none⟩ (.int .i64 u)).setCell ⟨P, 0, none⟩ (.int .i64 (1 + p))).setCell ⟨P, 1, none⟩ (.int .i64 (1 + q))).setCell ⟨P, 2, none⟩ (.int .i64 (1 + s)) = wz at hW2 hV2 hG ⊢
  have e0 : wz.cell? ⟨Q, 0, none⟩ = some (.int .i64 f) := hW2.cell 0
  have e1 : wz.cell? ⟨Q, 1, none⟩ = some (.int .i64 t) := hW2.cell 1
  have e2 : wz.cell? ⟨Q, 2, none⟩ = some (.int .i64 r) := hW2.cell 2
  have e3 : wz.cell? ⟨Q, 3, none⟩ = some (.int .i64 u) := hW2.cell 3
  have f0 : wz.cell? ⟨P, 0, none⟩ = some (.int .i64 (1 + p)) := hV2.cell 0
  have f1 : wz.cell? ⟨P, 1, none⟩ = some (.int .i64 (1 + q)) := hV2.cell 1
  have f2 : wz.cell? ⟨P, 2, none⟩ = some (.int .i64 (1 + s)) := hV2.cell 2
  exact bodyPost_ret (v := .tuple #[.agg #[.int .i64 f, .int .i64 t, .int .i64 r, .int .i64 u], .agg #[.int .i64 (1 + p), .int .i64 (1 + q), .int .i64 (1 + s)]]) (by simp [results, Tryd.results11, go_sem, e0, e1, e2, e3, f0, f1, f2]) rfl ⟨f, t, r, u, 1 + p, 1 + q, 1 + s, rfl, HC.out, HI.out, hG⟩

set_option maxRecDepth 100000 in
set_option maxHeartbeats 4000000 in
theorem lawFits (A : Option Addr) (n c : Nat) (bs : List Int) (w : World) (hn : n ≤ c ∧ c ≤ 9223372036854775807) (hb : BytesAt w A n bs) :
    Calls Tryd.prog 3 #[.slice A n c] w (RV w (.bool true)) := by
  obtain ⟨hn1, hn2⟩ := hn
  by_cases hbig : 1048576 < n
  · have hd : decide (1048576 < n) = true := by simpa using hbig
    go_enter Tryd.func3, Tryd.ntmps3
    go_wp2
    go_ret
    exact ⟨rfl, Below.refl _ _⟩
  have hd : decide (1048576 < n) = false := by simpa using hbig
  have HB := Lib.hid hb
  clear hb
  go_enter Tryd.func3, Tryd.ntmps3
  go_wp2_with fail
  refine (drawFits_any w A n c bs ⟨hn1, hn2⟩ HB.out).mono ?_; rintro e w1 ⟨f, t, r, u, p, q, s, rfl, ⟨-, ht, hr, hu⟩, ⟨hp, hq, hs⟩, hb1⟩
  go_wp2_with fail
  have hX2 := (Whole.new w1 24 [.int .i64 f, .int .i64 t, .int .i64 r, .int .i64 u]).alloc (.cells #[.int .i64 p, .int .i64 q, .int .i64 s] 26)
  have hY2 := Whole.new (w1.alloc (.cells #[.int .i64 f, .int .i64 t, .int .i64 r, .int .i64 u] 24)) 26 [.int .i64 p, .int .i64 q, .int .i64 s]
  have hB2 : Below w.heap.size w ((w1.alloc (.cells #[.int .i64 f, .int .i64 t, .int .i64 r, .int .i64 u] 24)).alloc (.cells #[.int .i64 p, .int .i64 q, .int .i64 s] 26)) := (hb1.alloc (by have := hb1.size; omega) _).alloc (by have := hb1.size; simp; omega) _
  rw [show (w1.alloc (.cells #[.int .i64 f, .int .i64 t, .int .i64 r, .int .i64 u] 24)).heap.size = w1.heap.size + 1 by simp] at hY2
  change Whole ((w1.alloc (.cells #[.int .i64 f, .int .i64 t, .int .i64 r, .int .i64 u] 24)).alloc (.cells #[.int .i64 p, .int .i64 q, .int .i64 s] 26)) w1.heap.size _ _ at hX2
  change Whole ((w1.alloc (.cells #[.int .i64 f, .int .i64 t, .int .i64 r, .int .i64 u] 24)).alloc (.cells #[.int .i64 p, .int .i64 q, .int .i64 s] 26)) (w1.heap.size + 1) _ _ at hY2
  generalize (w1.alloc (.cells #[.int .i64 f, .int .i64 t, .int .i64 r, .int .i64 u] 24)).alloc (.cells #[.int .i64 p, .int .i64 q, .int .i64 s] 26) = w2 at hX2 hY2 hB2 ⊢
  obtain ⟨Y, HY⟩ : ∃ Y, Hid (Y = w1.heap.size + 1) := ⟨_, rfl⟩
  rw [← HY.out] at hY2 ⊢
  obtain ⟨X, HX⟩ : ∃ X, Hid (X = w1.heap.size) := ⟨_, rfl⟩
  rw [← HX.out] at hX2 ⊢
  clear HB hb1
  refine (fits_any f t r u p q s w2).mono ?_; rintro e w3 ⟨rfl, hb3⟩
  have hX3 := hX2.below hb3
  have hY3 := hY2.below hb3
  have hB3 := below_next hB2 hb3
  clear hX2 hY2 hB2 hb3
  have hc0 := hX3.cell 0
  have hc1 := hX3.cell 1
  have hc2 := hX3.cell 2
  have hc3 := hX3.cell 3
  have hd0 := hY3.cell 0
  have hd1 := hY3.cell 1
  have hd2 := hY3.cell 2
  simp only [List.getElem?_cons_zero, List.getElem?_cons_succ] at hc0 hc1 hc2 hc3 hd0 hd1 hd2
  go_wp2_with fail
  refine (specFits_any f t r u p q s w3).mono ?_; rintro e w4 ⟨rfl, hb4⟩
  have hX4 := hX3.below hb4
  have hY4 := hY3.below hb4
  have hB4 := below_next hB3 hb4
  clear hX3 hY3 hB3 hb4 hc0 hc1 hc2 hc3 hd0 hd1 hd2
  have hc0 := hX4.cell 0
  have hc1 := hX4.cell 1
  have hc2 := hX4.cell 2
  have hc3 := hX4.cell 3
  have hd0 := hY4.cell 0
  have hd1 := hY4.cell 1
  have hd2 := hY4.cell 2
  simp only [List.getElem?_cons_zero, List.getElem?_cons_succ] at hc0 hc1 hc2 hc3 hd0 hd1 hd2
  have hsame : (fitsB t r u p q s == fitsB t r u p q s) = true := by simp
  have hself : fitsB t r u t r u = true := by simp [fitsB]
  have hX6 := (hX4.alloc (.cells #[.int .i64 f, .int .i64 (t - 1), .int .i64 r, .int .i64 u] 24)).alloc (.cells #[.int .i64 (p + 1), .int .i64 q, .int .i64 s] 26)
  have hV6 := Whole.new (w4.alloc (.cells #[.int .i64 f, .int .i64 (t - 1), .int .i64 r, .int .i64 u] 24)) 26 [.int .i64 (p + 1), .int .i64 q, .int .i64 s]
  rw [show (w4.alloc (.cells #[.int .i64 f, .int .i64 (t - 1), .int .i64 r, .int .i64 u] 24)).heap.size = w4.heap.size + 1 by simp] at hV6
  change Whole ((w4.alloc (.cells #[.int .i64 f, .int .i64 (t - 1), .int .i64 r, .int .i64 u] 24)).alloc (.cells #[.int .i64 (p + 1), .int .i64 q, .int .i64 s] 26)) (w4.heap.size + 1) _ _ at hV6
  have hB6 : Below w.heap.size w ((w4.alloc (.cells #[.int .i64 f, .int .i64 (t - 1), .int .i64 r, .int .i64 u] 24)).alloc (.cells #[.int .i64 (p + 1), .int .i64 q, .int .i64 s] 26)) := (hB4.alloc hB4.size _).alloc (by have := hB4.size; simp; omega) _
  have hg0 := hX6.cell 0
  have hg1 := hX6.cell 1
  have hg2 := hX6.cell 2
  have hg3 := hX6.cell 3
  have hh0 := (hY4.alloc (.cells #[.int .i64 f, .int .i64 (t - 1), .int .i64 r, .int .i64 u] 24)).cell 0
  have hh1 := (hY4.alloc (.cells #[.int .i64 f, .int .i64 (t - 1), .int .i64 r, .int .i64 u] 24)).cell 1
  have hh2 := (hY4.alloc (.cells #[.int .i64 f, .int .i64 (t - 1), .int .i64 r, .int .i64 u] 24)).cell 2
  have hi0 := ((hY4.alloc (.cells #[.int .i64 f, .int .i64 (t - 1), .int .i64 r, .int .i64 u] 24)).alloc (.cells #[.int .i64 (p + 1), .int .i64 q, .int .i64 s] 26)).cell 0
  have hi1 := ((hY4.alloc (.cells #[.int .i64 f, .int .i64 (t - 1), .int .i64 r, .int .i64 u] 24)).alloc (.cells #[.int .i64 (p + 1), .int .i64 q, .int .i64 s] 26)).cell 1
  have hi2 := ((hY4.alloc (.cells #[.int .i64 f, .int .i64 (t - 1), .int .i64 r, .int .i64 u] 24)).alloc (.cells #[.int .i64 (p + 1), .int .i64 q, .int .i64 s] 26)).cell 2
  have hk1 := (hX4.alloc (.cells #[.int .i64 f, .int .i64 t, .int .i64 r, .int .i64 u] 24)).cell 1
  have hm0 := ((hY4.alloc (.cells #[.int .i64 f, .int .i64 (t - 1), .int .i64 r, .int .i64 u] 24)).alloc (.cells #[.int .i64 p, .int .i64 q, .int .i64 s] 26)).cell 0
  simp only [List.getElem?_cons_zero, List.getElem?_cons_succ] at hg0 hg1 hg2 hg3 hh0 hh1 hh2 hi0 hi1 hi2 hk1 hm0
  by_cases hv : fitsB t r u p q s = true
  · have h1 : fitsB (t - 1) r u p q s = true := by simp [fitsB] at hv ⊢; omega
    have h2 : fitsB t r u (p + 1) q s = true := by simp [fitsB] at hv ⊢; omega
    rw [hv] at hsame ⊢
    clear hv
    go_wp2_with fail
    clear hg0 hg1 hg2 hg3 hh0 hh1 hh2 hi0 hi1 hi2 hk1 hm0 hc0 hc1 hc2 hc3 hd0 hd1 hd2
    generalize (w4.alloc (.cells #[.int .i64 f, .int .i64 (t - 1), .int .i64 r, .int .i64 u] 24)).alloc (.cells #[.int .i64 (p + 1), .int .i64 q, .int .i64 s] 26) = w6 at hX6 hV6 hB6 ⊢
    obtain ⟨V, HV⟩ : ∃ V, Hid (V = w4.heap.size + 1) := ⟨_, rfl⟩
    rw [← HV.out] at hV6 ⊢
    refine (fits_any f (t - 1) r u p q s w6).mono ?_; rintro e w7 ⟨rfl, hb7⟩
    rw [h1]
    have hX7 := hX6.below hb7
    have hV7 := hV6.below hb7
    have hB7 := below_next hB6 hb7
    clear hX6 hV6 hB6 hb7
    have hc0 := hX7.cell 0
    have hc1 := hX7.cell 1
    have hc2 := hX7.cell 2
    have hc3 := hX7.cell 3
    have hd0 := hV7.cell 0
    have hd1 := hV7.cell 1
    have hd2 := hV7.cell 2
    simp only [List.getElem?_cons_zero, List.getElem?_cons_succ] at hc0 hc1 hc2 hc3 hd0 hd1 hd2
    go_wp2_with fail
    refine (fits_any f t r u (p + 1) q s w7).mono ?_; rintro e w8 ⟨rfl, hb8⟩
    rw [h2]
    have hX8 := hX7.below hb8
    have hB8 := below_next hB7 hb8
    clear hX7 hV7 hB7 hb8 hc0 hc1 hc2 hc3 hd0 hd1 hd2
    have hc0 := hX8.cell 0
    have hc1 := hX8.cell 1
    have hc2 := hX8.cell 2
    have hc3 := hX8.cell 3
    simp only [List.getElem?_cons_zero, List.getElem?_cons_succ] at hc0 hc1 hc2 hc3
    go_wp2_with fail
    refine (fits_any f t r u t r u w8).mono ?_; rintro e w9 ⟨rfl, hb9⟩
    rw [hself]
    have hB9 := below_next hB8 hb9
    clear hX8 hB8 hb9 hc0 hc1 hc2 hc3
    go_wp2_with fail
    refine (alive_any w9).mono ?_; rintro e wa ⟨rfl, hba⟩
    have hBa := below_next hB9 hba
    go_wp2
    go_ret
    exact ⟨rfl, hBa⟩
  · replace hv : fitsB t r u p q s = false := by simpa using hv
    rw [hv] at hsame ⊢
    clear hv
    go_wp2_with fail
    clear hg0 hg1 hg2 hg3 hh0 hh1 hh2 hi0 hi1 hi2 hk1 hm0 hc0 hc1 hc2 hc3 hd0 hd1 hd2 hX6 hV6
    generalize (w4.alloc (.cells #[.int .i64 f, .int .i64 (t - 1), .int .i64 r, .int .i64 u] 24)).alloc (.cells #[.int .i64 (p + 1), .int .i64 q, .int .i64 s] 26) = w6 at hB6 ⊢
    refine (fits_any f t r u t r u w6).mono ?_; rintro e w9 ⟨rfl, hb9⟩
    rw [hself]
    have hB9 := below_next hB6 hb9
    clear hB6 hb9
    go_wp2_with fail
    refine (alive_any w9).mono ?_; rintro e wa ⟨rfl, hba⟩
    have hBa := below_next hB9 hba
    go_wp2
    go_ret
    exact ⟨rfl, hBa⟩
end Go.Proofs.YtpipbkefelcmbaaDoor
