/-
  StoreDo of the reference.
-/
import Derived.Test.YtdebjcempkgeaaaGreatDoorStoS
namespace Go.Proofs.YtdebjcempkgeaaaGreatDoor
open Go.ChangeShapes Go.WideShapes Go.ChangeAt Go.RowKit

set_option maxRecDepth 100000 in
set_option maxHeartbeats 8000000 in
theorem specStoreDo_any (W D n : Nat) (A : Option Addr) (c : Nat) (g : List Int) (id : Int) (w : World) (h : HallAt w W D n A c g) :
    Calls Tryz.prog 6 #[.agg #[.int .i64 W, .int .i64 D, .slice A n c], .int .i64 id] w (SIRes w W D n (stoP W D n g id)) := by
  have hn := h.shp.n12
  have S := h.shp
  have hX1 := Whole.new w 25 [.int .i64 W, .int .i64 D, .slice A n c]
  have hX2 := hX1.alloc (.cells #[.int .i64 0, .int .i64 0, .slice none 0 0] 25)
  have hR2 : Whole ((w.alloc (.cells #[.int .i64 W, .int .i64 D, .slice A n c] 25)).alloc (.cells #[.int .i64 0, .int .i64 0, .slice none 0 0] 25)) (w.heap.size + 1) 25 [.int .i64 0, .int .i64 0, .slice none 0 0] := by
    have := Whole.new (w.alloc (.cells #[.int .i64 W, .int .i64 D, .slice A n c] 25)) 25 [.int .i64 0, .int .i64 0, .slice none 0 0]
    simpa using this
  have hB2 : Below w.heap.size w ((w.alloc (.cells #[.int .i64 W, .int .i64 D, .slice A n c] 25)).alloc (.cells #[.int .i64 0, .int .i64 0, .slice none 0 0] 25)) := ((Below.refl _ _).alloc (Nat.le_refl _) _).alloc (by simp) _
  have H := Lib.hid h
  have HGL := Lib.hid h.ints.len
  clear h hX1
  obtain ⟨Q, HQ⟩ : ∃ Q, Hid (Q = w.heap.size) := ⟨_, rfl⟩
  have hwQ : w.heap.size ≤ Q := Nat.le_of_eq HQ.out.symm
  go_enter Tryz.func6, Tryz.ntmps6
  go_wp2_with fail
  generalize (w.alloc (.cells #[.int .i64 W, .int .i64 D, .slice A n c] 25)).alloc (.cells #[.int .i64 0, .int .i64 0, .slice none 0 0] 25) = wa at *
  rw [← HQ.out] at hX2 hR2 ⊢
  refine (specHallValid_any W D A n c g _ (by omega) H.out.cap.1 (H.out.ints.below hB2)).mono ?_; rintro e w3 ⟨rfl, hb3⟩
  rw [H.out.ok]
  have hX3 := hX2.below hb3
  have hR3 := hR2.below hb3
  have hB3 := below_next hB2 hb3
  clear hX2 hR2 hB2 hb3
  have x0 : _ := hX3.cell 0
  have x1 : _ := hX3.cell 1
  have x2 : _ := hX3.cell 2
  simp only [List.getElem?_cons_zero, List.getElem?_cons_succ] at x0 x1 x2
  go_wp2_with fail
  refine (specClearGate_any W D n A c g _ (H.out.below hB3)).mono ?_; rintro e w4 ⟨SA, sm, sc, rfl, hS, hsl, hb4⟩
  have hX4 := hX3.below hb4
  have hR4 := hR3.below hb4
  have hB4 := below_next hB3 hb4
  clear hX3 hR3 hb4 x0 x1 x2
  obtain ⟨o, ho⟩ : ∃ o, Hid (o = nearL W (freeN g n)) := ⟨_, rfl⟩
  have HC : Hid (clearO W n g = o.map fun f => slW W f (dN W f)) := Lib.hid (by rw [ho.out]; rfl)
  rw [HC.out] at hS hsl ⊢
  have x0 : _ := hX4.cell 0
  have x1 : _ := hX4.cell 1
  have x2 : _ := hX4.cell 2
  simp only [List.getElem?_cons_zero, List.getElem?_cons_succ] at x0 x1 x2
  cases o with
  | none =>
    have HS : Hid (stoP W D n g id = (g, -1)) := Lib.hid (by unfold stoP; rw [← ho.out])
    clear hS hsl
    go_wp2_with fail
    refine (l1Hall_any W D n A c g _ (H.out.below hB4)).mono ?_; rintro e w9 ⟨G, cG, rfl, hO, hb9⟩
    have hR9 := hR4.below hb9
    have hB9 := below_next hB4 hb9
    have hGQ : Q + 1 < G := by have h1 := (hO.lt G rfl).1; have h2 := hR4.lt; omega
    clear x0 x1 x2 hX4
    have r0 := hR9.cell 0
    have r1 := hR9.cell 1
    have r2 := hR9.cell 2
    simp only [List.getElem?_cons_zero, List.getElem?_cons_succ] at r0 r1 r2
    have f0 := hR9.free 0
    have f1 := hR9.free 1
    have f2 := hR9.free 2
    have hRz := ((hR9.set_ 0 (.int .i64 W)).set_ 1 (.int .i64 D)).set_ 2 (.slice (some ⟨G, 0, none⟩) n cG)
    have hOz := own_off (own_off (own_off hO (p := ⟨Q + 1, 0, none⟩) (by show G ≠ Q + 1; omega) (.int .i64 W)) (p := ⟨Q + 1, 1, none⟩) (by show G ≠ Q + 1; omega) (.int .i64 D)) (p := ⟨Q + 1, 2, none⟩) (by show G ≠ Q + 1; omega) (.slice (some ⟨G, 0, none⟩) n cG)
    have hBz := ((hB9.setCell (p := ⟨Q + 1, 0, none⟩) (by show w.heap.size ≤ Q + 1; omega) (.int .i64 W)).setCell (p := ⟨Q + 1, 1, none⟩) (by show w.heap.size ≤ Q + 1; omega) (.int .i64 D)).setCell (p := ⟨Q + 1, 2, none⟩) (by show w.heap.size ≤ Q + 1; omega) (.slice (some ⟨G, 0, none⟩) n cG)
    go_wp2
    generalize ((w9.setCell ⟨Q + 1, 0, none⟩ (.int .i64 W)).setCell ⟨Q + 1, 1, none⟩ (.int .i64 D)).setCell ⟨Q + 1, 2, none⟩ (.slice (some ⟨G, 0, none⟩) n cG) = wz at *
    have e0 : wz.cell? ⟨Q + 1, 0, none⟩ = some (.int .i64 W) := hRz.cell 0
    have e1 : wz.cell? ⟨Q + 1, 1, none⟩ = some (.int .i64 D) := hRz.cell 1
    have e2 : wz.cell? ⟨Q + 1, 2, none⟩ = some (.slice (some ⟨G, 0, none⟩) n cG) := hRz.cell 2
    exact bodyPost_ret (v := .tuple #[.agg #[.int .i64 W, .int .i64 D, .slice (some ⟨G, 0, none⟩) n cG], .int .i64 (-1)]) (by simp [results, Tryz.results6, go_sem, e0, e1, e2]) rfl ⟨G, cG, by rw [HS.out], by rw [HS.out]; exact Joins.ownsRow_le hOz hB4.size, hBz⟩
  | some f =>
    have HNF := Lib.hid (near_free ho.out.symm)
    have hsm : sm = dN W f := by have h1 := hsl; simp [slW_len] at h1; exact h1.symm
    subst hsm
    obtain ⟨hSA, hsc1, hsc2⟩ := own_slAt hS hsl
    have HG0 := Lib.hid (hst_gate S HGL.out HNF.out)
    have HOK := Lib.hid (hst_hall S HGL.out H.out.ok HNF.out (Nat.le_refl _))
    have HSP : Hid (stoP W D n g id = if putB W D (hst W f g (dN W f)) id then ((hst W f g (dN W f)).set 0 id, ((dN W f : Nat) : Int)) else (g, -1)) := Lib.hid (by unfold stoP; rw [← ho.out])
    have HSA := Lib.hid hSA
    have hd5 := dN_le S HNF.out.lt
    clear hS hsl hSA
    go_wp2_with fail
    refine (slideRun_any W D n A c g f SA sc _ (H.out.below hB4) HNF.out HSA.out ⟨hsc1, hsc2⟩).mono ?_; rintro e w5' ⟨G, cG, rfl, hO, hb5⟩
    have hX5 := (hX4.below hb5).alloc (.cells #[.int .i64 W, .int .i64 D, .slice (some ⟨G, 0, none⟩) n cG] 25)
    have hR5 := (hR4.below hb5).alloc (.cells #[.int .i64 W, .int .i64 D, .slice (some ⟨G, 0, none⟩) n cG] 25)
    have hB5' := below_next hB4 hb5
    have hB5 := hB5'.alloc hB5'.size (.cells #[.int .i64 W, .int .i64 D, .slice (some ⟨G, 0, none⟩) n cG] 25)
    have hO5 := own_keep hO ((Below.refl w5'.heap.size w5').alloc (Nat.le_refl _) (.cells #[.int .i64 W, .int .i64 D, .slice (some ⟨G, 0, none⟩) n cG] 25))
    clear x0 x1 x2 hX4 hR4 hb5 hB5'
    have HA5 := Lib.hid (hallAt_own S HOK.out hO5)
    clear hO hO5
    go_wp2_with fail
    generalize w5'.alloc (.cells #[.int .i64 W, .int .i64 D, .slice (some ⟨G, 0, none⟩) n cG] 25) = w5 at *
    refine (specHallPut_any W D n (some ⟨G, 0, none⟩) cG (hst W f g (dN W f)) id _ HA5.out HG0.out).mono ?_; rintro e w6 ⟨G2, cG2, rfl, hO6, hb6⟩
    have hR6' := hR5.below hb6
    have hX6' := hX5.below hb6
    have hB6' := below_next hB5 hb6
    have hG2 := hO6.lt G2 rfl
    have hR6l := hR5.lt
    have hX6 := hX6'.alloc (.cells #[.int .i64 W, .int .i64 D, .slice (some ⟨G2, 0, none⟩) n cG2] 25)
    have hR6 := hR6'.alloc (.cells #[.int .i64 W, .int .i64 D, .slice (some ⟨G2, 0, none⟩) n cG2] 25)
    have hB6 := hB6'.alloc hB6'.size (.cells #[.int .i64 W, .int .i64 D, .slice (some ⟨G2, 0, none⟩) n cG2] 25)
    have hM6 := Whole.new w6 25 [.int .i64 W, .int .i64 D, .slice (some ⟨G2, 0, none⟩) n cG2]
    have hO7 := own_keep hO6 ((Below.refl w6.heap.size w6).alloc (Nat.le_refl _) (.cells #[.int .i64 W, .int .i64 D, .slice (some ⟨G2, 0, none⟩) n cG2] 25))
    have hGQ2 : Q + 1 < G2 := by omega
    have hB5s := hB5.size
    cases hp : putB W D (hst W f g (dN W f)) id
    · have HS : Hid (stoP W D n g id = (g, -1)) := Lib.hid (by rw [HSP.out, hp]; rfl)
      clear hp
      have hXl := hX6'.lt
      have x0 : w6.cell? ⟨Q, 0, none⟩ = some (.int .i64 W) := hX6'.cell 0
      have x1 : w6.cell? ⟨Q, 1, none⟩ = some (.int .i64 D) := hX6'.cell 1
      have x2 : w6.cell? ⟨Q, 2, none⟩ = some (.slice A n c) := hX6'.cell 2
      go_wp2_with fail
      clear x0 x1 x2
      generalize w6.alloc (.cells #[.int .i64 W, .int .i64 D, .slice (some ⟨G2, 0, none⟩) n cG2] 25) = w7 at *
      refine (l1Hall_any W D n A c g _ (H.out.below hB6)).mono ?_; rintro e w9 ⟨G3, cG3, rfl, hO9, hb9⟩
      have hR9 := hR6.below hb9
      have hB9 := below_next hB6 hb9
      have hGQ : Q + 1 < G3 := by have h1 := (hO9.lt G3 rfl).1; have h2 := hR6.lt; omega
      have r0 := hR9.cell 0
      have r1 := hR9.cell 1
      have r2 := hR9.cell 2
      simp only [List.getElem?_cons_zero, List.getElem?_cons_succ] at r0 r1 r2
      have f0 := hR9.free 0
      have f1 := hR9.free 1
      have f2 := hR9.free 2
      have hRz := ((hR9.set_ 0 (.int .i64 W)).set_ 1 (.int .i64 D)).set_ 2 (.slice (some ⟨G3, 0, none⟩) n cG3)
      have hOz := own_off (own_off (own_off hO9 (p := ⟨Q + 1, 0, none⟩) (by show G3 ≠ Q + 1; omega) (.int .i64 W)) (p := ⟨Q + 1, 1, none⟩) (by show G3 ≠ Q + 1; omega) (.int .i64 D)) (p := ⟨Q + 1, 2, none⟩) (by show G3 ≠ Q + 1; omega) (.slice (some ⟨G3, 0, none⟩) n cG3)
      have hBz := ((hB9.setCell (p := ⟨Q + 1, 0, none⟩) (by show w.heap.size ≤ Q + 1; omega) (.int .i64 W)).setCell (p := ⟨Q + 1, 1, none⟩) (by show w.heap.size ≤ Q + 1; omega) (.int .i64 D)).setCell (p := ⟨Q + 1, 2, none⟩) (by show w.heap.size ≤ Q + 1; omega) (.slice (some ⟨G3, 0, none⟩) n cG3)
      go_wp2
      generalize ((w9.setCell ⟨Q + 1, 0, none⟩ (.int .i64 W)).setCell ⟨Q + 1, 1, none⟩ (.int .i64 D)).setCell ⟨Q + 1, 2, none⟩ (.slice (some ⟨G3, 0, none⟩) n cG3) = wz at *
      have e0 : wz.cell? ⟨Q + 1, 0, none⟩ = some (.int .i64 W) := hRz.cell 0
      have e1 : wz.cell? ⟨Q + 1, 1, none⟩ = some (.int .i64 D) := hRz.cell 1
      have e2 : wz.cell? ⟨Q + 1, 2, none⟩ = some (.slice (some ⟨G3, 0, none⟩) n cG3) := hRz.cell 2
      exact bodyPost_ret (v := .tuple #[.agg #[.int .i64 W, .int .i64 D, .slice (some ⟨G3, 0, none⟩) n cG3], .int .i64 (-1)]) (by simp [results, Tryz.results6, go_sem, e0, e1, e2]) rfl ⟨G3, cG3, by rw [HS.out], by rw [HS.out]; exact Joins.ownsRow_le hOz hB6.size, hBz⟩
    · have HS : Hid (stoP W D n g id = ((hst W f g (dN W f)).set 0 id, ((dN W f : Nat) : Int))) := Lib.hid (by rw [HSP.out, hp]; rfl)
      have HPL : Hid (putL W D (hst W f g (dN W f)) id = (hst W f g (dN W f)).set 0 id) := Lib.hid (by unfold putL; rw [hp]; rfl)
      rw [HPL.out] at hO7
      have hRl := hR6'.lt
      clear hp
      have hRw := hR6'
      have hOw := hO6
      rw [HPL.out] at hOw
      have r0 := hRw.cell 0
      have r1 := hRw.cell 1
      have r2 := hRw.cell 2
      simp only [List.getElem?_cons_zero, List.getElem?_cons_succ] at r0 r1 r2
      have f0 := hRw.free 0
      have f1 := hRw.free 1
      have f2 := hRw.free 2
      have hRz := (((hRw.set_ 0 (.int .i64 W)).set_ 1 (.int .i64 D)).set_ 2 (.slice (some ⟨G2, 0, none⟩) n cG2)).alloc (.cells #[.int .i64 W, .int .i64 D, .slice (some ⟨G2, 0, none⟩) n cG2] 25)
      have hOz := own_keep (own_off (own_off (own_off hOw (p := ⟨Q + 1, 0, none⟩) (by show G2 ≠ Q + 1; omega) (.int .i64 W)) (p := ⟨Q + 1, 1, none⟩) (by show G2 ≠ Q + 1; omega) (.int .i64 D)) (p := ⟨Q + 1, 2, none⟩) (by show G2 ≠ Q + 1; omega) (.slice (some ⟨G2, 0, none⟩) n cG2)) ((Below.refl _ _).alloc (Nat.le_refl _) (.cells #[.int .i64 W, .int .i64 D, .slice (some ⟨G2, 0, none⟩) n cG2] 25))
      have hBy := ((hB6'.setCell (p := ⟨Q + 1, 0, none⟩) (by show w.heap.size ≤ Q + 1; omega) (.int .i64 W)).setCell (p := ⟨Q + 1, 1, none⟩) (by show w.heap.size ≤ Q + 1; omega) (.int .i64 D)).setCell (p := ⟨Q + 1, 2, none⟩) (by show w.heap.size ≤ Q + 1; omega) (.slice (some ⟨G2, 0, none⟩) n cG2)
      have hBz := hBy.alloc hBy.size (.cells #[.int .i64 W, .int .i64 D, .slice (some ⟨G2, 0, none⟩) n cG2] 25)
      clear hX6 hR6 hB6 hM6 hO7 hX6' hR6'
      go_wp2
      generalize (((w6.setCell ⟨Q + 1, 0, none⟩ (.int .i64 W)).setCell ⟨Q + 1, 1, none⟩ (.int .i64 D)).setCell ⟨Q + 1, 2, none⟩ (.slice (some ⟨G2, 0, none⟩) n cG2)).alloc (.cells #[.int .i64 W, .int .i64 D, .slice (some ⟨G2, 0, none⟩) n cG2] 25) = wz at *
      have e0 : wz.cell? ⟨Q + 1, 0, none⟩ = some (.int .i64 W) := hRz.cell 0
      have e1 : wz.cell? ⟨Q + 1, 1, none⟩ = some (.int .i64 D) := hRz.cell 1
      have e2 : wz.cell? ⟨Q + 1, 2, none⟩ = some (.slice (some ⟨G2, 0, none⟩) n cG2) := hRz.cell 2
      exact bodyPost_ret (v := .tuple #[.agg #[.int .i64 W, .int .i64 D, .slice (some ⟨G2, 0, none⟩) n cG2], .int .i64 ((dN W f : Nat) : Int)]) (by simp [results, Tryz.results6, go_sem, e0, e1, e2]) rfl ⟨G2, cG2, by rw [HS.out], by rw [HS.out]; exact Joins.ownsRow_le hOz hB5s, hBz⟩
end Go.Proofs.YtdebjcempkgeaaaGreatDoor
