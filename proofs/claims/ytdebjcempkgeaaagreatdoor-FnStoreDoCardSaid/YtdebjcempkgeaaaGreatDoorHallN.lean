/-
  HallEmpty of the reference: a hall without cars.
-/
import Derived.Test.YtdebjcempkgeaaaGreatDoorHallD
namespace Go.Proofs.YtdebjcempkgeaaaGreatDoor
open Go.ChangeShapes Go.WideShapes Go.ChangeAt Go.RowKit

theorem ownNew {w : World} {base n : Nat} (xs : List Int) (hl : xs.length = n) (hn : n ≤ 1000) (h : base ≤ w.heap.size) : (w.alloc (.cells (xs.map (Value.int .i64)).toArray 3)).ownsRow base 3 1 (.slice (some ⟨w.heap.size, 0, none⟩) n n) n (xs.map (Value.int .i64)) :=
  ⟨by simp [hl], .inr ⟨w.heap.size, n, (xs.map (Value.int .i64)).toArray, rfl, h, Whole.new w 3 (xs.map (Value.int .i64)), Nat.le_refl _, by unfold maxLen; omega, by simp [hl], List.take_of_length_le (by simp [hl])⟩⟩

set_option maxRecDepth 100000 in
set_option maxHeartbeats 4000000 in
theorem hallEmpty_any (W D n : Nat) (w : World) (S : Shp W D n) :
    Calls Tryz.prog 51 #[.int .i64 W, .int .i64 D] w (HRes w W D n (List.replicate n 0)) := by
  have hn := S.n12
  have w1 := S.w1
  have w2 := S.w2
  have hdp : 2 ≤ D ∧ D ≤ 3 := ⟨S.d1, S.d2⟩
  have hmul : IntKind.i64.wrap ((W : Int) * (D : Int)) = (n : Int) := by rw [show (W : Int) * (D : Int) = (n : Int) by rw [S.n]; push_cast; rfl]; exact IntWalk.i64_in _ (by omega)
  have hmk : ∀ w : World, (Instr.makeSlice 23 (.int .i64 n) (.int .i64 n)).run Tryz.prog w = .ok (.slice (some ⟨w.heap.size, 0, none⟩) n n) (w.alloc (.cells ((List.replicate n (0 : Int)).map (Value.int .i64)).toArray 3)) := by
    have : n = 4 ∨ n = 6 ∨ n = 8 ∨ n = 9 ∨ n = 12 := by obtain ⟨rfl | rfl | rfl, rfl | rfl⟩ := S.cases <;> simp [S.n]
    rcases this with rfl | rfl | rfl | rfl | rfl <;> (intro w; kernel_rfl)
  have d1 : (decide ((2 : Int) ≤ W) && decide ((W : Int) ≤ 4)) = true := by simp; omega
  have d2 : (decide ((2 : Int) ≤ D) && decide ((D : Int) ≤ 3)) = true := by simp; omega
  have hX1 := Whole.new w 25 [.int .i64 W, .int .i64 D, .slice (some ⟨w.heap.size + 1, 0, none⟩) n n]
  have hB1 : Below w.heap.size w (w.alloc (.cells #[.int .i64 W, .int .i64 D, .slice (some ⟨w.heap.size + 1, 0, none⟩) n n] 25)) := (Below.refl _ _).alloc (Nat.le_refl _) _
  obtain ⟨zs, hzs⟩ : ∃ zs, Hid (zs = List.replicate n (0 : Int)) := ⟨_, rfl⟩
  have hzl : zs.length = n := by rw [hzs.out]; simp
  rw [← hzs.out] at hmk ⊢
  have hX2 := hX1.alloc (.cells (zs.map (Value.int .i64)).toArray 3)
  have hB2 := hB1.alloc hB1.size (.cells (zs.map (Value.int .i64)).toArray 3)
  have hO2 := ownNew (w := w.alloc (.cells #[.int .i64 W, .int .i64 D, .slice (some ⟨w.heap.size + 1, 0, none⟩) n n] 25)) zs hzl (by omega) hB1.size
  go_enter Tryz.func51, Tryz.ntmps51
  go_wp2_with (go_at_call 39; (first | (with_reducible refine (l1In_same _ _ _ _ _ d1).mono ?_) | (with_reducible refine (l1In_same _ _ _ _ _ d2).mono ?_)); rintro e w1 ⟨rfl, rfl⟩)
  rw [show (w.alloc (.cells #[.int .i64 W, .int .i64 D, .slice (some ⟨w.heap.size + 1, 0, none⟩) n n] 25)).heap.size = w.heap.size + 1 by simp] at hO2
  generalize (w.alloc (.cells #[.int .i64 W, .int .i64 D, .slice (some ⟨w.heap.size + 1, 0, none⟩) n n] 25)).alloc (.cells (zs.map (Value.int .i64)).toArray 3) = wz at *
  have e0 : wz.cell? ⟨w.heap.size, 0, none⟩ = some (.int .i64 W) := hX2.cell 0
  have e1 : wz.cell? ⟨w.heap.size, 1, none⟩ = some (.int .i64 D) := hX2.cell 1
  have e2 : wz.cell? ⟨w.heap.size, 2, none⟩ = some (.slice (some ⟨w.heap.size + 1, 0, none⟩) n n) := hX2.cell 2
  exact bodyPost_ret (v := .agg #[.int .i64 W, .int .i64 D, .slice (some ⟨w.heap.size + 1, 0, none⟩) n n]) (by simp [results, Tryz.results51, go_sem, e0, e1, e2]) rfl ⟨w.heap.size + 1, n, rfl, hO2, hB2⟩
end Go.Proofs.YtdebjcempkgeaaaGreatDoor
