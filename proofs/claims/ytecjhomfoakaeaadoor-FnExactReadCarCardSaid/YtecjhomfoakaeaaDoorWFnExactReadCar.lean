/-
  The walk of laws.FnExactReadCar: it returns true, whatever comes in.
-/
import Derived.Test.YtecjhomfoakaeaaDoorRAns
namespace Go.Proofs.YtecjhomfoakaeaaDoor
open Go.ChangeShapes Go.WideShapes Go.ChangeAt Go.RowKit

set_option maxHeartbeats 1000000 in
theorem eqCar_same (a b c d : Int) (w : World) : Calls Tryd.prog 8 #[.agg #[.int .i64 a, .int .i64 b, .int .i64 c, .int .i64 d], .agg #[.int .i64 a, .int .i64 b, .int .i64 c, .int .i64 d]] w (RV w (.bool true)) := by
  go_enter Tryd.func8, Tryd.ntmps8
  go_wp2
  go_ret
  exact ⟨rfl, ((Below.refl _ _).alloc (Nat.le_refl _) _).alloc (by simp) _⟩
set_option maxHeartbeats 2000000 in
theorem lawExactReadCar (x : ByteArray) (w : World) (m : Int) (hm : w.cell? ⟨0, 0, none⟩ = some (.int .i64 m)) (h0 : 0 < w.heap.size) (hx : x.size ≤ maxLen) : Calls Tryd.prog 3 #[.string x] w (RV w (.bool true)) := by
  obtain ⟨s, rfl⟩ : ∃ s : List UInt8, x = ⟨s.toArray⟩ := ⟨x.data.toList, by simp⟩
  have hx' : s.length ≤ maxLen := by simpa [ByteArray.size] using hx
  unfold maxLen at hx'
  clear hx
  by_cases hl : s.length ≤ 1048576
  case neg =>
    go_enter Tryd.func3, Tryd.ntmps3
    go_wp2
    go_ret
    exact ⟨rfl, Below.refl _ _⟩
  go_enter Tryd.func3, Tryd.ntmps3
  go_wp2_with fail
  refine (specReadCar_out s _ hl).mono ?_; rintro e w1 ⟨f, t, r, u, b, HA, rfl, hb1⟩
  have hm1 : w1.cell? ⟨0, 0, none⟩ = some (.int .i64 m) := (hb1.cell (p := ⟨0, 0, none⟩) h0).trans hm
  have hC := Whole.new w1 23 [.int .i64 f, .int .i64 t, .int .i64 r, .int .i64 u]
  have hbC : Below w1.heap.size w1 (w1.alloc (.cells #[.int .i64 f, .int .i64 t, .int .i64 r, .int .i64 u] 23)) := (Below.refl _ _).alloc (Nat.le_refl _) _
  have h01 : 0 < w1.heap.size := Nat.lt_of_lt_of_le h0 hb1.size
  have hm2 := (hbC.cell (p := ⟨0, 0, none⟩) h01).trans hm1
  have h02 : 0 < (w1.alloc (.cells #[.int .i64 f, .int .i64 t, .int .i64 r, .int .i64 u] 23)).heap.size := Nat.lt_of_lt_of_le h01 hbC.size
  have hB2 := below_next hb1 hbC
  clear hm hm1
  go_wp2_with fail
  refine (implReadCar_out s _ hl m hm2 h02).mono ?_; rintro e w2 ⟨f', t', r', u', b', HA', rfl, hb2⟩
  have hC2 := hC.below hb2
  have hB3 := below_next hB2 hb2
  have h1 := HA.out.one HA'.out
  obtain ⟨rfl, rfl, rfl, rfl, rfl⟩ := h1
  have hlt := hC2.lt
  clear hm2 h02 hC hbC HA' HA
  have c0 := hC2.cell 0
  have c1 := hC2.cell 1
  have c2 := hC2.cell 2
  have c3 := hC2.cell 3
  simp only [List.getElem?_cons_zero, List.getElem?_cons_succ] at c0 c1 c2 c3
  go_wp2_with fail
  refine (eqCar_same f t r u _).mono ?_; rintro e w3 ⟨rfl, hb3⟩
  have hB4 := below_next (hB3.alloc (hB3.size) (.cells #[.int .i64 f, .int .i64 t, .int .i64 r, .int .i64 u] 23)) hb3
  go_wp2
  go_ret
  exact ⟨rfl, hB4⟩
end Go.Proofs.YtecjhomfoakaeaaDoor
