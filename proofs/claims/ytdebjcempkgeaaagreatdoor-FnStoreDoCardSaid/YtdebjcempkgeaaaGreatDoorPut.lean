/-
  HallPut of both texts at the gate.
-/
import Derived.Test.YtdebjcempkgeaaaGreatDoorHallE
namespace Go.Proofs.YtdebjcempkgeaaaGreatDoor
open Go.ChangeShapes Go.WideShapes Go.ChangeAt Go.RowKit

/-- May the car be put at the gate? -/
def putB (W D : Nat) (g : List Int) (id : Int) : Bool := decide (1 ≤ id) && hallB W D (g.set 0 id)
def putL (W D : Nat) (g : List Int) (id : Int) : List Int := if putB W D g id then g.set 0 id else g

set_option maxRecDepth 100000 in
set_option maxHeartbeats 4000000 in
theorem hallPut_any (W D n : Nat) (A : Option Addr) (c : Nat) (g : List Int) (id : Int) (w : World) (h : HallAt w W D n A c g) (h0 : g[0]? = some 0) :
    Calls Tryz.prog 19 #[.agg #[.int .i64 W, .int .i64 D, .slice A n c], .int .i64 0, .int .i64 id] w (SDRes w W D n (putL W D g id) (putB W D g id)) := by
  have hn := h.shp.n12
  have hX1 := Whole.new w 25 [.int .i64 W, .int .i64 D, .slice A n c]
  have hX2 := hX1.alloc (.cells #[.int .i64 0, .int .i64 0, .slice none 0 0] 25)
  have hR2 : Whole ((w.alloc (.cells #[.int .i64 W, .int .i64 D, .slice A n c] 25)).alloc (.cells #[.int .i64 0, .int .i64 0, .slice none 0 0] 25)) (w.heap.size + 1) 25 [.int .i64 0, .int .i64 0, .slice none 0 0] := by
    have := Whole.new (w.alloc (.cells #[.int .i64 W, .int .i64 D, .slice A n c] 25)) 25 [.int .i64 0, .int .i64 0, .slice none 0 0]
    simpa using this
  have hB2 : Below w.heap.size w ((w.alloc (.cells #[.int .i64 W, .int .i64 D, .slice A n c] 25)).alloc (.cells #[.int .i64 0, .int .i64 0, .slice none 0 0] 25)) := ((Below.refl _ _).alloc (Nat.le_refl _) _).alloc (by simp) _
  have H := Lib.hid h
  have H0 := Lib.hid h0
  clear h h0 hX1
  obtain ⟨Q, HQ⟩ : ∃ Q, Hid (Q = w.heap.size) := ⟨_, rfl⟩
  have hwQ : w.heap.size ≤ Q := Nat.le_of_eq HQ.out.symm
  go_enter Tryz.func19, Tryz.ntmps19
  go_wp2_with fail
  generalize (w.alloc (.cells #[.int .i64 W, .int .i64 D, .slice A n c] 25)).alloc (.cells #[.int .i64 0, .int .i64 0, .slice none 0 0] 25) = wa at *
  rw [← HQ.out] at hX2 hR2 ⊢
  refine (hallValid_any W D A n c g _ (by omega) (H.out.ints.below hB2)).mono ?_; rintro e w3 ⟨rfl, hb3⟩
  rw [H.out.ok]
  have hX3 := hX2.below hb3
  have hR3 := hR2.below hb3
  have hB3 := below_next hB2 hb3
  clear hX2 hR2 hB2 hb3
  have x0 := hX3.cell 0
  have x1 := hX3.cell 1
  have x2 := hX3.cell 2
  simp only [List.getElem?_cons_zero, List.getElem?_cons_succ] at x0 x1 x2
  go_wp2_with fail
  refine (copyHall_any W D n A c g _ (H.out.below hB3)).mono ?_; rintro e w4 ⟨G, cG, rfl, hO, hb4⟩
  have hX4 := (hX3.below hb4).alloc (.cells #[.int .i64 W, .int .i64 D, .slice (some ⟨G, 0, none⟩) n cG] 25)
  have hR4 := (hR3.below hb4).alloc (.cells #[.int .i64 W, .int .i64 D, .slice (some ⟨G, 0, none⟩) n cG] 25)
  have hB4' := below_next hB3 hb4
  have hB4 := hB4'.alloc hB4'.size (.cells #[.int .i64 W, .int .i64 D, .slice (some ⟨G, 0, none⟩) n cG] 25)
  have hM4 := Whole.new w4 25 [.int .i64 W, .int .i64 D, .slice (some ⟨G, 0, none⟩) n cG]
  have hO4 := own_keep hO ((Below.refl w4.heap.size w4).alloc (Nat.le_refl _) (.cells #[.int .i64 W, .int .i64 D, .slice (some ⟨G, 0, none⟩) n cG] 25))
  obtain ⟨M, HM⟩ : ∃ M, Hid (M = w4.heap.size) := ⟨_, rfl⟩
  have hGM : G < M := by rw [HM.out]; exact (hO.lt G rfl).2
  have hGQ : Q + 1 < G := by have h1 := (hO.lt G rfl).1; have h2 := hR3.lt; omega
  have hMs : M < (w4.alloc (.cells #[.int .i64 W, .int .i64 D, .slice (some ⟨G, 0, none⟩) n cG] 25)).heap.size := by rw [HM.out]; simp
  rw [← HM.out] at hM4
  have hc3 := (ints_own hO).2
  have hOB : w.heap.size ≤ w3.heap.size := hB3.size
  obtain ⟨z0, b, off, HZ, rfl, hbl, hz0⟩ := (H.out.below hB4).ints.get (k := 0) (by omega)
  obtain rfl : z0 = 0 := by have h1 := HZ.out; rw [H0.out] at h1; injection h1 with h1; exact h1.symm
  simp only [Nat.add_zero] at hz0
  clear hX3 hR3 hB3 hb4 hO hB4' x0 x1 x2 HZ
  have x0 := hX4.cell 0
  have x1 := hX4.cell 1
  have x2 := hX4.cell 2
  have r0 := hR4.cell 0
  have r1 := hR4.cell 1
  have r2 := hR4.cell 2
  have m0 := hM4.cell 0
  have m1 := hM4.cell 1
  have m2 := hM4.cell 2
  simp only [List.getElem?_cons_zero, List.getElem?_cons_succ] at x0 x1 x2 r0 r1 r2 m0 m1 m2
  have f0 := hR4.free 0
  have f1 := hR4.free 1
  have f2 := hR4.free 2
  by_cases hid : id < 1
  · have hd : decide (id < 1) = true := by simpa using hid
    have HPB : Hid (putB W D g id = false ∧ putL W D g id = g) := Lib.hid (by
      have e : putB W D g id = false := by unfold putB; simp; omega
      exact ⟨e, by unfold putL; rw [e]; rfl⟩)
    rw [HPB.out.1, HPB.out.2]
    have hRz := ((hR4.set_ 0 (.int .i64 W)).set_ 1 (.int .i64 D)).set_ 2 (.slice (some ⟨G, 0, none⟩) n cG)
    have hOz := own_off (own_off (own_off hO4 (p := ⟨Q + 1, 0, none⟩) (by show G ≠ Q + 1; omega) (.int .i64 W)) (p := ⟨Q + 1, 1, none⟩) (by show G ≠ Q + 1; omega) (.int .i64 D)) (p := ⟨Q + 1, 2, none⟩) (by show G ≠ Q + 1; omega) (.slice (some ⟨G, 0, none⟩) n cG)
    have hBz := ((hB4.setCell (p := ⟨Q + 1, 0, none⟩) (by show w.heap.size ≤ Q + 1; omega) (.int .i64 W)).setCell (p := ⟨Q + 1, 1, none⟩) (by show w.heap.size ≤ Q + 1; omega) (.int .i64 D)).setCell (p := ⟨Q + 1, 2, none⟩) (by show w.heap.size ≤ Q + 1; omega) (.slice (some ⟨G, 0, none⟩) n cG)
    go_wp2
    generalize (((w4.alloc (.cells #[.int .i64 W, .int .i64 D, .slice (some ⟨G, 0, none⟩) n cG] 25)).setCell ⟨Q + 1, 0, none⟩ (.int .i64 W)).setCell ⟨Q + 1, 1, none⟩ (.int .i64 D)).setCell ⟨Q + 1, 2, none⟩ (.slice (some ⟨G, 0, none⟩) n cG) = wz at *
    have e0 : wz.cell? ⟨Q + 1, 0, none⟩ = some (.int .i64 W) := hRz.cell 0
    have e1 : wz.cell? ⟨Q + 1, 1, none⟩ = some (.int .i64 D) := hRz.cell 1
    have e2 : wz.cell? ⟨Q + 1, 2, none⟩ = some (.slice (some ⟨G, 0, none⟩) n cG) := hRz.cell 2
    exact bodyPost_ret (v := .tuple #[.agg #[.int .i64 W, .int .i64 D, .slice (some ⟨G, 0, none⟩) n cG], .bool false]) (by simp [results, Tryz.results19, go_sem, e0, e1, e2]) rfl ⟨G, cG, by rw [HPB.out.1], by rw [HPB.out.2]; exact Joins.ownsRow_le hOz hOB, hBz⟩
  · have hd : decide (id < 1) = false := by simpa using hid
    go_wp2_with fail
    rw [← HM.out]
    generalize (w4.alloc (.cells #[.int .i64 W, .int .i64 D, .slice (some ⟨G, 0, none⟩) n cG] 25)) = w5 at *
    clear x0 x1 x2 r0 r1 r2 m0 m1 m2 f0 f1 f2
    refine (hasCell_any W D (some ⟨b, off, none⟩) n c 0 _ true (by simp; omega)).mono ?_; rintro e w6 ⟨rfl, hb6⟩
    have hX6 := hX4.below hb6
    have hR6 := hR4.below hb6
    have hM6 := hM4.below hb6
    have hO6 := own_keep hO4 hb6
    have hB6 := below_next hB4 hb6
    have hz6 := (hb6.cell (p := ⟨b, off, none⟩) hbl).trans hz0
    clear hX4 hR4 hM4 hO4 hB4 hz0
    have x0 := hX6.cell 0
    have x1 := hX6.cell 1
    have x2 := hX6.cell 2
    have m0 := hM6.cell 0
    have m1 := hM6.cell 1
    have m2 := hM6.cell 2
    simp only [List.getElem?_cons_zero, List.getElem?_cons_succ] at x0 x1 x2 m0 m1 m2
    obtain ⟨⟨u, hu⟩, hfz, -, -⟩ := own_cell hO6 (i := 0) (by omega)
    have hwG : w.heap.size ≤ G := by omega
    have hX7 := hX6.far (p := ⟨G, 0, none⟩) (by show Q ≠ G; omega) (.int .i64 id)
    have hR7 := hR6.far (p := ⟨G, 0, none⟩) (by show Q + 1 ≠ G; omega) (.int .i64 id)
    have hM7 := hM6.far (p := ⟨G, 0, none⟩) (by show M ≠ G; omega) (.int .i64 id)
    have hO7 := own_set hO6 (i := 0) id
    have hB7 := hB6.setCell (p := ⟨G, 0, none⟩) hwG (.int .i64 id)
    go_wp2_with fail
    generalize w6.setCell ⟨G, 0, none⟩ (.int .i64 id) = w7 at *
    clear x0 x1 x2 m0 m1 m2 hu hfz
    refine (hallValid_any W D (some ⟨G, 0, none⟩) n cG (g.set 0 id) _ (by omega) (ints_own hO7).1).mono ?_; rintro e w8 ⟨rfl, hb8⟩
    have hX8 := hX7.below hb8
    have hR8 := hR7.below hb8
    have hM8 := hM7.below hb8
    have hO8 := own_keep hO7 hb8
    have hB8 := below_next hB7 hb8
    clear hX7 hR7 hM7 hO7 hB7 hb8
    cases hv : hallB W D (g.set 0 id)
    · have HPB : Hid (putB W D g id = false ∧ putL W D g id = g) := Lib.hid (by
        have e : putB W D g id = false := by unfold putB; rw [hv]; simp
        exact ⟨e, by unfold putL; rw [e]; rfl⟩)
      rw [HPB.out.1, HPB.out.2]
      clear hv
      have x0 := hX8.cell 0
      have x1 := hX8.cell 1
      have x2 := hX8.cell 2
      simp only [List.getElem?_cons_zero, List.getElem?_cons_succ] at x0 x1 x2
      go_wp2_with fail
      refine (copyHall_any W D n (some ⟨b, off, none⟩) c g _ (H.out.below hB8)).mono ?_; rintro e w9 ⟨G2, cG2, rfl, hO9, hb9⟩
      have hR9 := hR8.below hb9
      have hB9 := below_next hB8 hb9
      have hG2 : Q + 1 < G2 := by have h1 := (hO9.lt G2 rfl).1; have h2 := hR8.lt; omega
      clear x0 x1 x2
      have r0 := hR9.cell 0
      have r1 := hR9.cell 1
      have r2 := hR9.cell 2
      simp only [List.getElem?_cons_zero, List.getElem?_cons_succ] at r0 r1 r2
      have f0 := hR9.free 0
      have f1 := hR9.free 1
      have f2 := hR9.free 2
      have hRz := ((hR9.set_ 0 (.int .i64 W)).set_ 1 (.int .i64 D)).set_ 2 (.slice (some ⟨G2, 0, none⟩) n cG2)
      have hOz := own_off (own_off (own_off hO9 (p := ⟨Q + 1, 0, none⟩) (by show G2 ≠ Q + 1; omega) (.int .i64 W)) (p := ⟨Q + 1, 1, none⟩) (by show G2 ≠ Q + 1; omega) (.int .i64 D)) (p := ⟨Q + 1, 2, none⟩) (by show G2 ≠ Q + 1; omega) (.slice (some ⟨G2, 0, none⟩) n cG2)
      have hBz := ((hB9.setCell (p := ⟨Q + 1, 0, none⟩) (by show w.heap.size ≤ Q + 1; omega) (.int .i64 W)).setCell (p := ⟨Q + 1, 1, none⟩) (by show w.heap.size ≤ Q + 1; omega) (.int .i64 D)).setCell (p := ⟨Q + 1, 2, none⟩) (by show w.heap.size ≤ Q + 1; omega) (.slice (some ⟨G2, 0, none⟩) n cG2)
      go_wp2
      generalize ((w9.setCell ⟨Q + 1, 0, none⟩ (.int .i64 W)).setCell ⟨Q + 1, 1, none⟩ (.int .i64 D)).setCell ⟨Q + 1, 2, none⟩ (.slice (some ⟨G2, 0, none⟩) n cG2) = wz at *
      have e0 : wz.cell? ⟨Q + 1, 0, none⟩ = some (.int .i64 W) := hRz.cell 0
      have e1 : wz.cell? ⟨Q + 1, 1, none⟩ = some (.int .i64 D) := hRz.cell 1
      have e2 : wz.cell? ⟨Q + 1, 2, none⟩ = some (.slice (some ⟨G2, 0, none⟩) n cG2) := hRz.cell 2
      exact bodyPost_ret (v := .tuple #[.agg #[.int .i64 W, .int .i64 D, .slice (some ⟨G2, 0, none⟩) n cG2], .bool false]) (by simp [results, Tryz.results19, go_sem, e0, e1, e2]) rfl ⟨G2, cG2, by rw [HPB.out.1], by rw [HPB.out.2]; exact Joins.ownsRow_le hOz hB8.size, hBz⟩
    · have HPB : Hid (putB W D g id = true ∧ putL W D g id = g.set 0 id) := Lib.hid (by
        have e : putB W D g id = true := by unfold putB; rw [hv]; simp; omega
        exact ⟨e, by unfold putL; rw [e]; rfl⟩)
      rw [HPB.out.1, HPB.out.2]
      clear hv
      have m0 := hM8.cell 0
      have m1 := hM8.cell 1
      have m2 := hM8.cell 2
      have r0 := hR8.cell 0
      have r1 := hR8.cell 1
      have r2 := hR8.cell 2
      simp only [List.getElem?_cons_zero, List.getElem?_cons_succ] at m0 m1 m2 r0 r1 r2
      have f0 := hR8.free 0
      have f1 := hR8.free 1
      have f2 := hR8.free 2
      have hRz := ((hR8.set_ 0 (.int .i64 W)).set_ 1 (.int .i64 D)).set_ 2 (.slice (some ⟨G, 0, none⟩) n cG)
      have hOz := own_off (own_off (own_off hO8 (p := ⟨Q + 1, 0, none⟩) (by show G ≠ Q + 1; omega) (.int .i64 W)) (p := ⟨Q + 1, 1, none⟩) (by show G ≠ Q + 1; omega) (.int .i64 D)) (p := ⟨Q + 1, 2, none⟩) (by show G ≠ Q + 1; omega) (.slice (some ⟨G, 0, none⟩) n cG)
      have hBz := ((hB8.setCell (p := ⟨Q + 1, 0, none⟩) (by show w.heap.size ≤ Q + 1; omega) (.int .i64 W)).setCell (p := ⟨Q + 1, 1, none⟩) (by show w.heap.size ≤ Q + 1; omega) (.int .i64 D)).setCell (p := ⟨Q + 1, 2, none⟩) (by show w.heap.size ≤ Q + 1; omega) (.slice (some ⟨G, 0, none⟩) n cG)
      go_wp2
      generalize ((w8.setCell ⟨Q + 1, 0, none⟩ (.int .i64 W)).setCell ⟨Q + 1, 1, none⟩ (.int .i64 D)).setCell ⟨Q + 1, 2, none⟩ (.slice (some ⟨G, 0, none⟩) n cG) = wz at *
      have e0 : wz.cell? ⟨Q + 1, 0, none⟩ = some (.int .i64 W) := hRz.cell 0
      have e1 : wz.cell? ⟨Q + 1, 1, none⟩ = some (.int .i64 D) := hRz.cell 1
      have e2 : wz.cell? ⟨Q + 1, 2, none⟩ = some (.slice (some ⟨G, 0, none⟩) n cG) := hRz.cell 2
      exact bodyPost_ret (v := .tuple #[.agg #[.int .i64 W, .int .i64 D, .slice (some ⟨G, 0, none⟩) n cG], .bool true]) (by simp [results, Tryz.results19, go_sem, e0, e1, e2]) rfl ⟨G, cG, by rw [HPB.out.1], by rw [HPB.out.2]; exact Joins.ownsRow_le hOz hOB, hBz⟩
set_option maxRecDepth 100000 in
set_option maxHeartbeats 4000000 in
theorem specHallPut_any (W D n : Nat) (A : Option Addr) (c : Nat) (g : List Int) (id : Int) (w : World) (h : HallAt w W D n A c g) (h0 : g[0]? = some 0) :
    Calls Tryz.prog 25 #[.agg #[.int .i64 W, .int .i64 D, .slice A n c], .int .i64 0, .int .i64 id] w (SDRes w W D n (putL W D g id) (putB W D g id)) := by
  have hn := h.shp.n12
  have hX1 := Whole.new w 25 [.int .i64 W, .int .i64 D, .slice A n c]
  have hX2 := hX1.alloc (.cells #[.int .i64 0, .int .i64 0, .slice none 0 0] 25)
  have hR2 : Whole ((w.alloc (.cells #[.int .i64 W, .int .i64 D, .slice A n c] 25)).alloc (.cells #[.int .i64 0, .int .i64 0, .slice none 0 0] 25)) (w.heap.size + 1) 25 [.int .i64 0, .int .i64 0, .slice none 0 0] := by
    have := Whole.new (w.alloc (.cells #[.int .i64 W, .int .i64 D, .slice A n c] 25)) 25 [.int .i64 0, .int .i64 0, .slice none 0 0]
    simpa using this
  have hB2 : Below w.heap.size w ((w.alloc (.cells #[.int .i64 W, .int .i64 D, .slice A n c] 25)).alloc (.cells #[.int .i64 0, .int .i64 0, .slice none 0 0] 25)) := ((Below.refl _ _).alloc (Nat.le_refl _) _).alloc (by simp) _
  have H := Lib.hid h
  have H0 := Lib.hid h0
  clear h h0 hX1
  obtain ⟨Q, HQ⟩ : ∃ Q, Hid (Q = w.heap.size) := ⟨_, rfl⟩
  have hwQ : w.heap.size ≤ Q := Nat.le_of_eq HQ.out.symm
  go_enter Tryz.func25, Tryz.ntmps25
  go_wp2_with fail
  generalize (w.alloc (.cells #[.int .i64 W, .int .i64 D, .slice A n c] 25)).alloc (.cells #[.int .i64 0, .int .i64 0, .slice none 0 0] 25) = wa at *
  rw [← HQ.out] at hX2 hR2 ⊢
  refine (specHallValid_any W D A n c g _ (by omega) H.out.cap.1 (H.out.ints.below hB2)).mono ?_; rintro e w3 ⟨rfl, hb3⟩
  rw [H.out.ok]
  have hX3 := hX2.below hb3
  have hR3 := hR2.below hb3
  have hB3 := below_next hB2 hb3
  clear hX2 hR2 hB2 hb3
  have x0 := hX3.cell 0
  have x1 := hX3.cell 1
  have x2 := hX3.cell 2
  simp only [List.getElem?_cons_zero, List.getElem?_cons_succ] at x0 x1 x2
  go_wp2_with fail
  refine (l1Hall_any W D n A c g _ (H.out.below hB3)).mono ?_; rintro e w4 ⟨G, cG, rfl, hO, hb4⟩
  have hXw := hX3.below hb4
  have hRw := hR3.below hb4
  have hOw := hO
  have hBw := below_next hB3 hb4
  have hX4 := (hX3.below hb4).alloc (.cells #[.int .i64 W, .int .i64 D, .slice (some ⟨G, 0, none⟩) n cG] 25)
  have hR4 := (hR3.below hb4).alloc (.cells #[.int .i64 W, .int .i64 D, .slice (some ⟨G, 0, none⟩) n cG] 25)
  have hB4' := below_next hB3 hb4
  have hB4 := hB4'.alloc hB4'.size (.cells #[.int .i64 W, .int .i64 D, .slice (some ⟨G, 0, none⟩) n cG] 25)
  have hM4 := Whole.new w4 25 [.int .i64 W, .int .i64 D, .slice (some ⟨G, 0, none⟩) n cG]
  have hO4 := own_keep hO ((Below.refl w4.heap.size w4).alloc (Nat.le_refl _) (.cells #[.int .i64 W, .int .i64 D, .slice (some ⟨G, 0, none⟩) n cG] 25))
  obtain ⟨M, HM⟩ : ∃ M, Hid (M = w4.heap.size) := ⟨_, rfl⟩
  have hGM : G < M := by rw [HM.out]; exact (hO.lt G rfl).2
  have hGQ : Q + 1 < G := by have h1 := (hO.lt G rfl).1; have h2 := hR3.lt; omega
  have hMs : M < (w4.alloc (.cells #[.int .i64 W, .int .i64 D, .slice (some ⟨G, 0, none⟩) n cG] 25)).heap.size := by rw [HM.out]; simp
  rw [← HM.out] at hM4
  have hc3 := (ints_own hO).2
  have hOB : w.heap.size ≤ w3.heap.size := hB3.size
  obtain ⟨z0, b, off, HZ, rfl, hbl, hz0⟩ := (H.out.below hB4).ints.get (k := 0) (by omega)
  obtain rfl : z0 = 0 := by have h1 := HZ.out; rw [H0.out] at h1; injection h1 with h1; exact h1.symm
  simp only [Nat.add_zero] at hz0
  clear hX3 hR3 hB3 hb4 hO hB4' x0 x1 x2 HZ
  have x0 := hX4.cell 0
  have x1 := hX4.cell 1
  have x2 := hX4.cell 2
  have r0 := hR4.cell 0
  have r1 := hR4.cell 1
  have r2 := hR4.cell 2
  have m0 := hM4.cell 0
  have m1 := hM4.cell 1
  have m2 := hM4.cell 2
  simp only [List.getElem?_cons_zero, List.getElem?_cons_succ] at x0 x1 x2 r0 r1 r2 m0 m1 m2
  have f0 := hR4.free 0
  have f1 := hR4.free 1
  have f2 := hR4.free 2
  by_cases hid : id < 1
  · have hd : decide (id < 1) = true := by simpa using hid
    have HPB : Hid (putB W D g id = false ∧ putL W D g id = g) := Lib.hid (by
      have e : putB W D g id = false := by unfold putB; simp; omega
      exact ⟨e, by unfold putL; rw [e]; rfl⟩)
    rw [HPB.out.1, HPB.out.2]
    go_wp2_with (go_at_call 39; refine (l1In_same _ _ _ true _ (by simp; omega)).mono ?_; rintro e wy ⟨rfl, rfl⟩)
    have hRz := ((hR4.set_ 0 (.int .i64 W)).set_ 1 (.int .i64 D)).set_ 2 (.slice (some ⟨G, 0, none⟩) n cG)
    have hOz := own_off (own_off (own_off hO4 (p := ⟨Q + 1, 0, none⟩) (by show G ≠ Q + 1; omega) (.int .i64 W)) (p := ⟨Q + 1, 1, none⟩) (by show G ≠ Q + 1; omega) (.int .i64 D)) (p := ⟨Q + 1, 2, none⟩) (by show G ≠ Q + 1; omega) (.slice (some ⟨G, 0, none⟩) n cG)
    have hBz := ((hB4.setCell (p := ⟨Q + 1, 0, none⟩) (by show w.heap.size ≤ Q + 1; omega) (.int .i64 W)).setCell (p := ⟨Q + 1, 1, none⟩) (by show w.heap.size ≤ Q + 1; omega) (.int .i64 D)).setCell (p := ⟨Q + 1, 2, none⟩) (by show w.heap.size ≤ Q + 1; omega) (.slice (some ⟨G, 0, none⟩) n cG)
    generalize (((w4.alloc (.cells #[.int .i64 W, .int .i64 D, .slice (some ⟨G, 0, none⟩) n cG] 25)).setCell ⟨Q + 1, 0, none⟩ (.int .i64 W)).setCell ⟨Q + 1, 1, none⟩ (.int .i64 D)).setCell ⟨Q + 1, 2, none⟩ (.slice (some ⟨G, 0, none⟩) n cG) = wz at *
    have e0 : wz.cell? ⟨Q + 1, 0, none⟩ = some (.int .i64 W) := hRz.cell 0
    have e1 : wz.cell? ⟨Q + 1, 1, none⟩ = some (.int .i64 D) := hRz.cell 1
    have e2 : wz.cell? ⟨Q + 1, 2, none⟩ = some (.slice (some ⟨G, 0, none⟩) n cG) := hRz.cell 2
    exact bodyPost_ret (v := .tuple #[.agg #[.int .i64 W, .int .i64 D, .slice (some ⟨G, 0, none⟩) n cG], .bool false]) (by simp [results, Tryz.results25, go_sem, e0, e1, e2]) rfl ⟨G, cG, by rw [HPB.out.1], by rw [HPB.out.2]; exact Joins.ownsRow_le hOz hOB, hBz⟩
  · have hd : decide (id < 1) = false := by simpa using hid
    have hX6 := hX4
    have hR6 := hR4
    have hM6 := hM4
    have hO6 := hO4
    have hB6 := hB4
    have hz6 := hz0
    clear hX4 hR4 hM4 hO4 hB4 hz0
    clear x0 x1 x2 r0 r1 r2 m0 m1 m2 f0 f1 f2
    have x0 := hX6.cell 0
    have x1 := hX6.cell 1
    have x2 := hX6.cell 2
    have m0 := hM6.cell 0
    have m1 := hM6.cell 1
    have m2 := hM6.cell 2
    simp only [List.getElem?_cons_zero, List.getElem?_cons_succ] at x0 x1 x2 m0 m1 m2
    obtain ⟨⟨u, hu⟩, hfz, -, -⟩ := own_cell hO6 (i := 0) (by omega)
    have hwG : w.heap.size ≤ G := by omega
    have hGM' : G < w4.heap.size := by rw [← HM.out]; exact hGM
    have hQM' : Q < w4.heap.size := hXw.lt
    clear x0 x1 x2 m0 m1 m2 hu hfz hz6
    obtain ⟨⟨u, hu⟩, hfz, -, -⟩ := own_cell hOw (i := 0) (by omega)
    have x2 : w4.cell? ⟨Q, 2, none⟩ = some (.slice (some ⟨b, off, none⟩) n c) := hXw.cell 2
    obtain ⟨z1, b1, off1, HZ1, hbb, hbl1, hz1⟩ := (H.out.below hBw).ints.get (k := 0) (by omega)
    injection hbb with hbb; injection hbb with e1 e2; subst e1 e2
    obtain rfl : z1 = 0 := by have h1 := HZ1.out; rw [H0.out] at h1; injection h1 with h1; exact h1.symm
    simp only [Nat.add_zero] at hz1
    have hs7 : (w4.setCell ⟨G, 0, none⟩ (.int .i64 id)).heap.size = M := by rw [HM.out]; simp [World.setCell]
    have hX7 := (hXw.far (p := ⟨G, 0, none⟩) (by show Q ≠ G; omega) (.int .i64 id)).alloc (.cells #[.int .i64 W, .int .i64 D, .slice (some ⟨G, 0, none⟩) n cG] 25)
    have hR7 := (hRw.far (p := ⟨G, 0, none⟩) (by show Q + 1 ≠ G; omega) (.int .i64 id)).alloc (.cells #[.int .i64 W, .int .i64 D, .slice (some ⟨G, 0, none⟩) n cG] 25)
    have hM7 : Whole ((w4.setCell ⟨G, 0, none⟩ (.int .i64 id)).alloc (.cells #[.int .i64 W, .int .i64 D, .slice (some ⟨G, 0, none⟩) n cG] 25)) M 25 [.int .i64 W, .int .i64 D, .slice (some ⟨G, 0, none⟩) n cG] := by rw [← hs7]; exact Whole.new _ _ _
    have hO7 := own_keep (own_set hOw (i := 0) id) ((Below.refl _ _).alloc (Nat.le_refl _) (.cells #[.int .i64 W, .int .i64 D, .slice (some ⟨G, 0, none⟩) n cG] 25))
    have hB7' := hBw.setCell (p := ⟨G, 0, none⟩) hwG (.int .i64 id)
    have hB7 := hB7'.alloc hB7'.size (.cells #[.int .i64 W, .int .i64 D, .slice (some ⟨G, 0, none⟩) n cG] 25)
    clear hs7 hB7'
    go_wp2_with (go_at_call 39; refine (l1In_same _ _ _ true _ (by simp; omega)).mono ?_; rintro e wy ⟨rfl, rfl⟩)
    rw [← HM.out]
    generalize (w4.setCell ⟨G, 0, none⟩ (.int .i64 id)).alloc (.cells #[.int .i64 W, .int .i64 D, .slice (some ⟨G, 0, none⟩) n cG] 25) = w7 at *
    clear x2 hu hfz
    refine (specHallValid_any W D (some ⟨G, 0, none⟩) n cG (g.set 0 id) _ (by omega) hc3.1 (ints_own hO7).1).mono ?_; rintro e w8 ⟨rfl, hb8⟩
    have hX8 := hX7.below hb8
    have hR8 := hR7.below hb8
    have hM8 := hM7.below hb8
    have hO8 := own_keep hO7 hb8
    have hB8 := below_next hB7 hb8
    clear hX7 hR7 hM7 hO7 hB7 hb8
    cases hv : hallB W D (g.set 0 id)
    · have HPB : Hid (putB W D g id = false ∧ putL W D g id = g) := Lib.hid (by
        have e : putB W D g id = false := by unfold putB; rw [hv]; simp
        exact ⟨e, by unfold putL; rw [e]; rfl⟩)
      rw [HPB.out.1, HPB.out.2]
      clear hv
      have x0 := hX8.cell 0
      have x1 := hX8.cell 1
      have x2 := hX8.cell 2
      simp only [List.getElem?_cons_zero, List.getElem?_cons_succ] at x0 x1 x2
      go_wp2_with fail
      refine (l1Hall_any W D n (some ⟨b, off, none⟩) c g _ (H.out.below hB8)).mono ?_; rintro e w9 ⟨G2, cG2, rfl, hO9, hb9⟩
      have hR9 := hR8.below hb9
      have hB9 := below_next hB8 hb9
      have hG2 : Q + 1 < G2 := by have h1 := (hO9.lt G2 rfl).1; have h2 := hR8.lt; omega
      clear x0 x1 x2
      have r0 := hR9.cell 0
      have r1 := hR9.cell 1
      have r2 := hR9.cell 2
      simp only [List.getElem?_cons_zero, List.getElem?_cons_succ] at r0 r1 r2
      have f0 := hR9.free 0
      have f1 := hR9.free 1
      have f2 := hR9.free 2
      have hRz := ((hR9.set_ 0 (.int .i64 W)).set_ 1 (.int .i64 D)).set_ 2 (.slice (some ⟨G2, 0, none⟩) n cG2)
      have hOz := own_off (own_off (own_off hO9 (p := ⟨Q + 1, 0, none⟩) (by show G2 ≠ Q + 1; omega) (.int .i64 W)) (p := ⟨Q + 1, 1, none⟩) (by show G2 ≠ Q + 1; omega) (.int .i64 D)) (p := ⟨Q + 1, 2, none⟩) (by show G2 ≠ Q + 1; omega) (.slice (some ⟨G2, 0, none⟩) n cG2)
      have hBz := ((hB9.setCell (p := ⟨Q + 1, 0, none⟩) (by show w.heap.size ≤ Q + 1; omega) (.int .i64 W)).setCell (p := ⟨Q + 1, 1, none⟩) (by show w.heap.size ≤ Q + 1; omega) (.int .i64 D)).setCell (p := ⟨Q + 1, 2, none⟩) (by show w.heap.size ≤ Q + 1; omega) (.slice (some ⟨G2, 0, none⟩) n cG2)
      go_wp2
      generalize ((w9.setCell ⟨Q + 1, 0, none⟩ (.int .i64 W)).setCell ⟨Q + 1, 1, none⟩ (.int .i64 D)).setCell ⟨Q + 1, 2, none⟩ (.slice (some ⟨G2, 0, none⟩) n cG2) = wz at *
      have e0 : wz.cell? ⟨Q + 1, 0, none⟩ = some (.int .i64 W) := hRz.cell 0
      have e1 : wz.cell? ⟨Q + 1, 1, none⟩ = some (.int .i64 D) := hRz.cell 1
      have e2 : wz.cell? ⟨Q + 1, 2, none⟩ = some (.slice (some ⟨G2, 0, none⟩) n cG2) := hRz.cell 2
      exact bodyPost_ret (v := .tuple #[.agg #[.int .i64 W, .int .i64 D, .slice (some ⟨G2, 0, none⟩) n cG2], .bool false]) (by simp [results, Tryz.results25, go_sem, e0, e1, e2]) rfl ⟨G2, cG2, by rw [HPB.out.1], by rw [HPB.out.2]; exact Joins.ownsRow_le hOz hB8.size, hBz⟩
    · have HPB : Hid (putB W D g id = true ∧ putL W D g id = g.set 0 id) := Lib.hid (by
        have e : putB W D g id = true := by unfold putB; rw [hv]; simp; omega
        exact ⟨e, by unfold putL; rw [e]; rfl⟩)
      rw [HPB.out.1, HPB.out.2]
      clear hv
      have m0 := hM8.cell 0
      have m1 := hM8.cell 1
      have m2 := hM8.cell 2
      have r0 := hR8.cell 0
      have r1 := hR8.cell 1
      have r2 := hR8.cell 2
      simp only [List.getElem?_cons_zero, List.getElem?_cons_succ] at m0 m1 m2 r0 r1 r2
      have f0 := hR8.free 0
      have f1 := hR8.free 1
      have f2 := hR8.free 2
      have hRz := ((hR8.set_ 0 (.int .i64 W)).set_ 1 (.int .i64 D)).set_ 2 (.slice (some ⟨G, 0, none⟩) n cG)
      have hOz := own_off (own_off (own_off hO8 (p := ⟨Q + 1, 0, none⟩) (by show G ≠ Q + 1; omega) (.int .i64 W)) (p := ⟨Q + 1, 1, none⟩) (by show G ≠ Q + 1; omega) (.int .i64 D)) (p := ⟨Q + 1, 2, none⟩) (by show G ≠ Q + 1; omega) (.slice (some ⟨G, 0, none⟩) n cG)
      have hBz := ((hB8.setCell (p := ⟨Q + 1, 0, none⟩) (by show w.heap.size ≤ Q + 1; omega) (.int .i64 W)).setCell (p := ⟨Q + 1, 1, none⟩) (by show w.heap.size ≤ Q + 1; omega) (.int .i64 D)).setCell (p := ⟨Q + 1, 2, none⟩) (by show w.heap.size ≤ Q + 1; omega) (.slice (some ⟨G, 0, none⟩) n cG)
      go_wp2
      generalize ((w8.setCell ⟨Q + 1, 0, none⟩ (.int .i64 W)).setCell ⟨Q + 1, 1, none⟩ (.int .i64 D)).setCell ⟨Q + 1, 2, none⟩ (.slice (some ⟨G, 0, none⟩) n cG) = wz at *
      have e0 : wz.cell? ⟨Q + 1, 0, none⟩ = some (.int .i64 W) := hRz.cell 0
      have e1 : wz.cell? ⟨Q + 1, 1, none⟩ = some (.int .i64 D) := hRz.cell 1
      have e2 : wz.cell? ⟨Q + 1, 2, none⟩ = some (.slice (some ⟨G, 0, none⟩) n cG) := hRz.cell 2
      exact bodyPost_ret (v := .tuple #[.agg #[.int .i64 W, .int .i64 D, .slice (some ⟨G, 0, none⟩) n cG], .bool true]) (by simp [results, Tryz.results25, go_sem, e0, e1, e2]) rfl ⟨G, cG, by rw [HPB.out.1], by rw [HPB.out.2]; exact Joins.ownsRow_le hOz hOB, hBz⟩
end Go.Proofs.YtdebjcempkgeaaaGreatDoor
