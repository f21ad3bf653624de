/-
  StoreDo of both texts at a hall that is not valid.
-/
import Derived.Test.YtdebjcempkgeaaaGreatDoorStoD
namespace Go.Proofs.YtdebjcempkgeaaaGreatDoor
open Go.ChangeShapes Go.WideShapes Go.ChangeAt Go.RowKit

set_option maxRecDepth 100000 in
set_option maxHeartbeats 4000000 in
theorem storeDo_bad (wd dp : Int) (A : Option Addr) (n c : Nat) (g : List Int) (S : Value) (w : World) (hn : n ≤ 9223372036854775807) (hg : IntsAt w A n g) (hb : hallB wd dp g = false) :
    Calls Tryz.prog 5 #[.agg #[.int .i64 wd, .int .i64 dp, .slice A n c], S] w (RV w (.tuple #[.agg #[.int .i64 0, .int .i64 0, .slice none 0 0], .int .i64 (-1)])) := by
  have hX1 := Whole.new w 25 [.int .i64 wd, .int .i64 dp, .slice A n c]
  have hR2 : Whole ((w.alloc (.cells #[.int .i64 wd, .int .i64 dp, .slice A n c] 25)).alloc (.cells #[.int .i64 0, .int .i64 0, .slice none 0 0] 25)) (w.heap.size + 1) 25 [.int .i64 0, .int .i64 0, .slice none 0 0] := by
    have := Whole.new (w.alloc (.cells #[.int .i64 wd, .int .i64 dp, .slice A n c] 25)) 25 [.int .i64 0, .int .i64 0, .slice none 0 0]
    simpa using this
  have hB2 : Below w.heap.size w ((w.alloc (.cells #[.int .i64 wd, .int .i64 dp, .slice A n c] 25)).alloc (.cells #[.int .i64 0, .int .i64 0, .slice none 0 0] 25)) := ((Below.refl _ _).alloc (Nat.le_refl _) _).alloc (by simp) _
  have HB := Lib.hid hb
  have HG := Lib.hid hg
  clear hg hX1 hb
  obtain ⟨Q, HQ⟩ : ∃ Q, Hid (Q = w.heap.size) := ⟨_, rfl⟩
  have hwQ : w.heap.size ≤ Q := Nat.le_of_eq HQ.out.symm
  go_enter Tryz.func5, Tryz.ntmps5
  go_wp2_with fail
  generalize (w.alloc (.cells #[.int .i64 wd, .int .i64 dp, .slice A n c] 25)).alloc (.cells #[.int .i64 0, .int .i64 0, .slice none 0 0] 25) = wa at *
  rw [← HQ.out] at hR2 ⊢
  refine (hallValid_any wd dp A n c g _ hn (HG.out.below hB2)).mono ?_; rintro e w3 ⟨rfl, hb3⟩
  rw [HB.out]
  have hR3 := hR2.below hb3
  have hB3 := below_next hB2 hb3
  clear hR2 hB2 hb3
  have r0 := hR3.cell 0
  have r1 := hR3.cell 1
  have r2 := hR3.cell 2
  have f0 := hR3.free 0
  have f1 := hR3.free 1
  have f2 := hR3.free 2
  simp only [List.getElem?_cons_zero, List.getElem?_cons_succ] at r0 r1 r2
  have hRz := ((hR3.set_ 0 (.int .i64 0)).set_ 1 (.int .i64 0)).set_ 2 (.slice none 0 0)
  have hBz := ((hB3.setCell (p := ⟨Q + 1, 0, none⟩) (by show w.heap.size ≤ Q + 1; omega) (.int .i64 0)).setCell (p := ⟨Q + 1, 1, none⟩) (by show w.heap.size ≤ Q + 1; omega) (.int .i64 0)).setCell (p := ⟨Q + 1, 2, none⟩) (by show w.heap.size ≤ Q + 1; omega) (.slice none 0 0)
  go_wp2
  generalize ((w3.setCell ⟨Q + 1, 0, none⟩ (.int .i64 0)).setCell ⟨Q + 1, 1, none⟩ (.int .i64 0)).setCell ⟨Q + 1, 2, none⟩ (.slice none 0 0) = wz at *
  have e0 : wz.cell? ⟨Q + 1, 0, none⟩ = some (.int .i64 0) := hRz.cell 0
  have e1 : wz.cell? ⟨Q + 1, 1, none⟩ = some (.int .i64 0) := hRz.cell 1
  have e2 : wz.cell? ⟨Q + 1, 2, none⟩ = some (.slice none 0 0) := hRz.cell 2
  exact bodyPost_ret (v := .tuple #[.agg #[.int .i64 0, .int .i64 0, .slice none 0 0], .int .i64 (-1)]) (by simp [results, Tryz.results5, go_sem, e0, e1, e2]) rfl ⟨rfl, hBz⟩

set_option maxRecDepth 100000 in
set_option maxHeartbeats 4000000 in
theorem specStoreDo_bad (wd dp : Int) (A : Option Addr) (n c : Nat) (g : List Int) (S : Value) (w : World) (hn : n ≤ 9223372036854775807) (hnc : n ≤ c) (hg : IntsAt w A n g) (hb : hallB wd dp g = false) :
    Calls Tryz.prog 6 #[.agg #[.int .i64 wd, .int .i64 dp, .slice A n c], S] w (RV w (.tuple #[.agg #[.int .i64 0, .int .i64 0, .slice none 0 0], .int .i64 (-1)])) := by
  have hX1 := Whole.new w 25 [.int .i64 wd, .int .i64 dp, .slice A n c]
  have hR2 : Whole ((w.alloc (.cells #[.int .i64 wd, .int .i64 dp, .slice A n c] 25)).alloc (.cells #[.int .i64 0, .int .i64 0, .slice none 0 0] 25)) (w.heap.size + 1) 25 [.int .i64 0, .int .i64 0, .slice none 0 0] := by
    have := Whole.new (w.alloc (.cells #[.int .i64 wd, .int .i64 dp, .slice A n c] 25)) 25 [.int .i64 0, .int .i64 0, .slice none 0 0]
    simpa using this
  have hB2 : Below w.heap.size w ((w.alloc (.cells #[.int .i64 wd, .int .i64 dp, .slice A n c] 25)).alloc (.cells #[.int .i64 0, .int .i64 0, .slice none 0 0] 25)) := ((Below.refl _ _).alloc (Nat.le_refl _) _).alloc (by simp) _
  have HB := Lib.hid hb
  have HG := Lib.hid hg
  clear hg hX1 hb
  obtain ⟨Q, HQ⟩ : ∃ Q, Hid (Q = w.heap.size) := ⟨_, rfl⟩
  have hwQ : w.heap.size ≤ Q := Nat.le_of_eq HQ.out.symm
  go_enter Tryz.func6, Tryz.ntmps6
  go_wp2_with fail
  generalize (w.alloc (.cells #[.int .i64 wd, .int .i64 dp, .slice A n c] 25)).alloc (.cells #[.int .i64 0, .int .i64 0, .slice none 0 0] 25) = wa at *
  rw [← HQ.out] at hR2 ⊢
  refine (specHallValid_any wd dp A n c g _ hn hnc (HG.out.below hB2)).mono ?_; rintro e w3 ⟨rfl, hb3⟩
  rw [HB.out]
  have hR3 := hR2.below hb3
  have hB3 := below_next hB2 hb3
  clear hR2 hB2 hb3
  have r0 := hR3.cell 0
  have r1 := hR3.cell 1
  have r2 := hR3.cell 2
  have f0 := hR3.free 0
  have f1 := hR3.free 1
  have f2 := hR3.free 2
  simp only [List.getElem?_cons_zero, List.getElem?_cons_succ] at r0 r1 r2
  have hRz := ((hR3.set_ 0 (.int .i64 0)).set_ 1 (.int .i64 0)).set_ 2 (.slice none 0 0)
  have hBz := ((hB3.setCell (p := ⟨Q + 1, 0, none⟩) (by show w.heap.size ≤ Q + 1; omega) (.int .i64 0)).setCell (p := ⟨Q + 1, 1, none⟩) (by show w.heap.size ≤ Q + 1; omega) (.int .i64 0)).setCell (p := ⟨Q + 1, 2, none⟩) (by show w.heap.size ≤ Q + 1; omega) (.slice none 0 0)
  go_wp2
  generalize ((w3.setCell ⟨Q + 1, 0, none⟩ (.int .i64 0)).setCell ⟨Q + 1, 1, none⟩ (.int .i64 0)).setCell ⟨Q + 1, 2, none⟩ (.slice none 0 0) = wz at *
  have e0 : wz.cell? ⟨Q + 1, 0, none⟩ = some (.int .i64 0) := hRz.cell 0
  have e1 : wz.cell? ⟨Q + 1, 1, none⟩ = some (.int .i64 0) := hRz.cell 1
  have e2 : wz.cell? ⟨Q + 1, 2, none⟩ = some (.slice none 0 0) := hRz.cell 2
  exact bodyPost_ret (v := .tuple #[.agg #[.int .i64 0, .int .i64 0, .slice none 0 0], .int .i64 (-1)]) (by simp [results, Tryz.results6, go_sem, e0, e1, e2]) rfl ⟨rfl, hBz⟩
end Go.Proofs.YtdebjcempkgeaaaGreatDoor
