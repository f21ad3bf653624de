/-
  The law FnCarValid: with a length of 0 a car is not valid; the smallest car with the id of a valid one is.
-/
import Derived.Test.YtpipbkefelcmbaaDoorDrCar
import Derived.Test.YtpipbkefelcmbaaDoorAlive
import Derived.Test.YtpipbkefelcmbaaDoorCar1
namespace Go.Proofs.YtpipbkefelcmbaaDoor
open Go.ChangeShapes Go.WideShapes Go.ChangeAt Go.RowKit

def DrawCR (w : World) (e : Ending) (w' : World) : Prop :=
  ∃ f t r u : Int, e = .returned (.agg #[.int .i64 f, .int .i64 t, .int .i64 r, .int .i64 u]) ∧ CarIn f t r u ∧ Below w.heap.size w w'
set_option maxHeartbeats 1000000 in
theorem drawCarValid_any (w : World) (A : Option Addr) (n c : Nat) (bs : List Int) (hn : n ≤ c ∧ c ≤ 9223372036854775807) (hb : BytesAt w A n bs) :
    Calls Tryd.prog 15 #[.slice A n c] w (DrawCR w) := by
  have hQ1 : Whole (w.alloc (.cells #[.int .i64 0, .int .i64 0, .int .i64 0, .int .i64 0] 24)) w.heap.size 24 [.int .i64 0, .int .i64 0, .int .i64 0, .int .i64 0] := Whole.new w _ _
  have hB1 : Below w.heap.size w (w.alloc (.cells #[.int .i64 0, .int .i64 0, .int .i64 0, .int .i64 0] 24)) := (Below.refl _ _).alloc (Nat.le_refl _) _
  go_enter Tryd.func15, Tryd.ntmps15
  go_wp2_with fail
  generalize w.alloc (.cells #[.int .i64 0, .int .i64 0, .int .i64 0, .int .i64 0] 24) = w1 at hQ1 hB1 ⊢
  refine (open_any w1 A n c bs hn (hb.below hB1)).mono ?_; rintro e w2 ⟨R, A1, n1, c1, bs1, rfl, hR2⟩
  go_wp2_with fail
  refine (pick_any w1 w2 R A1 n1 c1 bs1 0 90 hR2 (by omega)).mono ?_; rintro e w4 ⟨i, rfl, hi0, hi1, -, hR4, hf4⟩
  replace hi1 := hi1 (by omega)
  have hxi : IntKind.i64.wrap (1 + i) = 1 + i := IntWalk.i64_in _ (by omega)
  go_wp2_with fail
  refine (l20CarOf_any w1 w4 R A1 n1 c1 bs1 (0 + 1) (1 + i) 2 hR4 (by omega) (by omega) (by omega) (by omega) (by omega)).mono ?_; rintro e w3 ⟨f, t, r, u, rfl, hC, hR3, hf3⟩
  have hQ3 := hQ1.below hR3.bw
  have hB3 := below_next hB1 hR3.bw
  obtain ⟨Q, HQ⟩ : ∃ Q, Hid (Q = w.heap.size) := ⟨_, rfl⟩
  rw [← HQ.out] at hQ3 ⊢
  have hQw : w.heap.size ≤ Q := Nat.le_of_eq HQ.out.symm
  have hq0 := hQ3.cell 0
  have hq1 := hQ3.cell 1
  have hq2 := hQ3.cell 2
  have hq3 := hQ3.cell 3
  simp only [List.getElem?_cons_zero, List.getElem?_cons_succ] at hq0 hq1 hq2 hq3
  have hz0 := hQ3.free 0
  have hz1 := hQ3.free 1
  have hz2 := hQ3.free 2
  have hz3 := hQ3.free 3
  have HB3 := Lib.hid hB3
  have HR3 := Lib.hid hR3
  have HC := Lib.hid hC
  clear hQ1 hB1 hR2 hR3 hR4 hf4 hB3 hf3 hb hC hxi
  go_wp2
  have hW := (((hQ3.set_ 0 (.int .i64 f)).set_ 1 (.int .i64 t)).set_ 2 (.int .i64 r)).set_ 3 (.int .i64 u)
  have hG : Below w.heap.size w ((((w3.setCell ⟨Q, 0, none⟩ (.int .i64 f)).setCell ⟨Q, 1, none⟩ (.int .i64 t)).setCell ⟨Q, 2, none⟩ (.int .i64 r)).setCell ⟨Q, 3, none⟩ (.int .i64 u)) := (((HB3.out.setCell hQw _).setCell hQw _).setCell hQw _).setCell hQw _
  generalize ((((w3.setCell ⟨Q, 0, none⟩ (.int .i64 f)).setCell ⟨Q, 1, none⟩ (.int .i64 t)).setCell ⟨Q, 2, none⟩ (.int .i64 r)).setCell ⟨Q, 3, none⟩ (.int .i64 u)) = wz at hW hG ⊢
  have e0 : wz.cell? ⟨Q, 0, none⟩ = some (.int .i64 f) := hW.cell 0
  have e1 : wz.cell? ⟨Q, 1, none⟩ = some (.int .i64 t) := hW.cell 1
  have e2 : wz.cell? ⟨Q, 2, none⟩ = some (.int .i64 r) := hW.cell 2
  have e3 : wz.cell? ⟨Q, 3, none⟩ = some (.int .i64 u) := hW.cell 3
  exact bodyPost_ret (v := .agg #[.int .i64 f, .int .i64 t, .int .i64 r, .int .i64 u]) (by simp [results, Tryd.results15, go_sem, e0, e1, e2, e3]) rfl ⟨f, t, r, u, rfl, HC.out, hG⟩

set_option maxRecDepth 100000 in
set_option maxHeartbeats 4000000 in
theorem lawCarValid (A : Option Addr) (n c : Nat) (bs : List Int) (w : World) (hn : n ≤ c ∧ c ≤ 9223372036854775807) (hb : BytesAt w A n bs) :
    Calls Tryd.prog 4 #[.slice A n c] w (RV w (.bool true)) := by
  obtain ⟨hn1, hn2⟩ := hn
  by_cases hbig : 1048576 < n
  · have hd : decide (1048576 < n) = true := by simpa using hbig
    go_enter Tryd.func4, Tryd.ntmps4
    go_wp2
    go_ret
    exact ⟨rfl, Below.refl _ _⟩
  have hd : decide (1048576 < n) = false := by simpa using hbig
  have HB := Lib.hid hb
  clear hb
  go_enter Tryd.func4, Tryd.ntmps4
  go_wp2_with fail
  refine (drawCarValid_any w A n c bs ⟨hn1, hn2⟩ HB.out).mono ?_; rintro e w1 ⟨f, t, r, u, rfl, -, hb1⟩
  go_wp2_with fail
  have hN2 : Whole (w1.alloc (.cells #[.int .i64 f, .int .i64 t, .int .i64 r, .int .i64 u] 24)) w1.heap.size 24 [.int .i64 f, .int .i64 t, .int .i64 r, .int .i64 u] := Whole.new w1 _ _
  have hB2 : Below w.heap.size w (w1.alloc (.cells #[.int .i64 f, .int .i64 t, .int .i64 r, .int .i64 u] 24)) := hb1.alloc (by have := hb1.size; omega) _
  generalize w1.alloc (.cells #[.int .i64 f, .int .i64 t, .int .i64 r, .int .i64 u] 24) = w2 at hN2 hB2 ⊢
  obtain ⟨N, HN⟩ : ∃ N, Hid (N = w1.heap.size) := ⟨_, rfl⟩
  rw [← HN.out] at hN2 ⊢
  clear HB hb1
  refine (carValid_any f t r u w2).mono ?_; rintro e w3 ⟨rfl, hb3⟩
  have hN3 := hN2.below hb3
  have hB3 := below_next hB2 hb3
  clear hN2 hB2 hb3
  have hc0 := hN3.cell 0
  have hc1 := hN3.cell 1
  have hc2 := hN3.cell 2
  have hc3 := hN3.cell 3
  simp only [List.getElem?_cons_zero, List.getElem?_cons_succ] at hc0 hc1 hc2 hc3
  go_wp2_with fail
  refine (specCarValid_any f t r u w3).mono ?_; rintro e w4 ⟨rfl, hb4⟩
  have hN4 := hN3.below hb4
  have hB4 := below_next hB3 hb4
  clear hN3 hB3 hb4 hc0 hc1 hc2 hc3
  have hc0 := hN4.cell 0
  have hc1 := hN4.cell 1
  have hc2 := hN4.cell 2
  have hc3 := hN4.cell 3
  simp only [List.getElem?_cons_zero, List.getElem?_cons_succ] at hc0 hc1 hc2 hc3
  have hsame : (carB f t r u == carB f t r u) = true := by simp
  have hno : carB f 0 r u = false := by simp [carB]
  by_cases hv : carB f t r u = true
  · have h66 : carB f 1 1 1 = true := by simp [carB] at hv ⊢; omega
    rw [hv] at hsame ⊢
    clear hv
    go_wp2_with fail
    refine (carValid_any f 0 r u w4).mono ?_; rintro e w7 ⟨rfl, hb7⟩
    rw [hno]
    have hN7 := hN4.below hb7
    have hB7 := below_next hB4 hb7
    have hc0 := hN7.cell 0
    simp only [List.getElem?_cons_zero] at hc0
    clear hN4 hB4 hb7
    go_wp2_with fail
    refine (carValid_any f 1 1 1 w7).mono ?_; rintro e w8 ⟨rfl, hb8⟩
    rw [h66]
    have hB8 := below_next hB7 hb8
    clear hB7 hb8
    go_wp2_with fail
    refine (alive_any w8).mono ?_; rintro e w9 ⟨rfl, hb9⟩
    have hB9 := below_next hB8 hb9
    go_wp2
    go_ret
    exact ⟨rfl, hB9⟩
  · replace hv : carB f t r u = false := by simpa using hv
    rw [hv] at hsame ⊢
    clear hv
    go_wp2_with fail
    refine (carValid_any f 0 r u w4).mono ?_; rintro e w8 ⟨rfl, hb8⟩
    rw [hno]
    have hB8 := below_next hB4 hb8
    clear hB4 hb8
    go_wp2_with fail
    refine (alive_any w8).mono ?_; rintro e w9 ⟨rfl, hb9⟩
    have hB9 := below_next hB8 hb9
    go_wp2
    go_ret
    exact ⟨rfl, hB9⟩
end Go.Proofs.YtpipbkefelcmbaaDoor
