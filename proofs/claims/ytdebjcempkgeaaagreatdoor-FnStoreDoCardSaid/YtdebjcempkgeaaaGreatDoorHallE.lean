/-
  Slides of both texts: may one be done, and the hall behind it.
-/
import Derived.Test.YtdebjcempkgeaaaGreatDoorHoleP
import Derived.Test.YtdebjcempkgeaaaGreatDoorOwnG
import Derived.BigRegion
namespace Go.Proofs.YtdebjcempkgeaaaGreatDoor
open Go.ChangeShapes Go.WideShapes Go.ChangeAt Go.RowKit

/-- May the car of p slide to q? -/
def mayB (W : Nat) (g : List Int) (p q : Nat) : Bool := decide (apN W p q = 1) && decide (0 < g.getD p 0) && decide (g.getD q 0 = 0)
/-- The hall behind a slide, or the hall. -/
def slid (W : Nat) (g : List Int) (p q : Nat) : List Int := if mayB W g p q then mv g q p else g

set_option maxRecDepth 100000 in
set_option maxHeartbeats 4000000 in
theorem specSlideMay_any (W D n : Nat) (A : Option Addr) (c : Nat) (g : List Int) (p q : Nat) (w : World) (h : HallAt w W D n A c g) (hp : p < n) (hq : q < n) (r : Bool) (hr : mayB W g p q = r) :
    Calls Tryz.prog 61 #[.agg #[.int .i64 W, .int .i64 D, .slice A n c], .agg #[.int .i64 p, .int .i64 q]] w (RV w (.bool r)) := by
  have hn := h.shp.n12
  have hX1 := Whole.new w 25 [.int .i64 W, .int .i64 D, .slice A n c]
  have hX2 := hX1.alloc (.cells #[.int .i64 p, .int .i64 q] 62)
  have hY2 : Whole ((w.alloc (.cells #[.int .i64 W, .int .i64 D, .slice A n c] 25)).alloc (.cells #[.int .i64 p, .int .i64 q] 62)) (w.heap.size + 1) 62 [.int .i64 p, .int .i64 q] := by
    have := Whole.new (w.alloc (.cells #[.int .i64 W, .int .i64 D, .slice A n c] 25)) 62 [.int .i64 p, .int .i64 q]
    simpa using this
  have hB2 : Below w.heap.size w ((w.alloc (.cells #[.int .i64 W, .int .i64 D, .slice A n c] 25)).alloc (.cells #[.int .i64 p, .int .i64 q] 62)) := ((Below.refl _ _).alloc (Nat.le_refl _) _).alloc (by simp) _
  have H := Lib.hid h
  obtain ⟨Q, HQ⟩ : ∃ Q, Hid (Q = w.heap.size) := ⟨_, rfl⟩
  have w1 := h.shp.w1
  have w2 := h.shp.w2
  clear h
  go_enter Tryz.func61, Tryz.ntmps61
  go_wp2_with fail
  generalize (w.alloc (.cells #[.int .i64 W, .int .i64 D, .slice A n c] 25)).alloc (.cells #[.int .i64 p, .int .i64 q] 62) = wa at *
  rw [← HQ.out] at hX2 hY2 ⊢
  refine (specCellsApart_any W D n A c g p q _ (H.out.below hB2) hp hq).mono ?_; rintro e w3 ⟨rfl, hb3⟩
  have hX3 := hX2.below hb3
  have hY3 := hY2.below hb3
  have hB3 := below_next hB2 hb3
  clear hX1 hX2 hY2 hb3
  have hap := apN_le (a := p) (b := q) w2 w1 (by omega) (by omega)
  have HR : Hid (mayB W g p q = r) := Lib.hid hr
  clear hr
  by_cases h1 : apN W p q = 1
  case neg =>
    have hd : (((apN W p q : Nat) : Int) == 1) = false := by rw [beq_eq_false_iff_ne]; omega
    have hr2 : r = false := by rw [← HR.out]; unfold mayB; simp [h1]
    subst hr2
    clear HR h1
    generalize apN W p q = ap at *
    go_wp2
    go_ret
    exact ⟨rfl, hB3⟩
  have x2 := hX3.cell 2
  have y0 := hY3.cell 0
  have y1 := hY3.cell 1
  simp only [List.getElem?_cons_zero, List.getElem?_cons_succ] at x2 y0 y1
  obtain ⟨zp, b, off, HP, rfl, hb, hcp⟩ := (H.out.below hB3).ints.get hp
  obtain ⟨zq, b', off', HQ2, hbb, hb', hcq⟩ := (H.out.below hB3).ints.get hq
  injection hbb with hbb; injection hbb with e1 e2; subst e1 e2
  have HM : Hid (r = (decide (0 < zp) && decide (zq = 0))) := Lib.hid (by rw [← HR.out]; unfold mayB; simp [h1, HP.out, HQ2.out])
  rw [h1]
  clear h1 hap HR
  by_cases hz : 0 < zp
  · have d1 : decide (0 < zp) = true := by simpa using hz
    go_wp2
    go_ret
    exact ⟨ret_bool (by rw [HM.out, d1, Bool.eq_iff_iff]; simp), hB3⟩
  · have d1 : decide (0 < zp) = false := by simpa using hz
    go_wp2
    go_ret
    exact ⟨ret_bool (by rw [HM.out, d1]; simp), hB3⟩
/-- The call answers a hall whose cells it has made itself, and a truth. -/
def SDRes (w : World) (W D : Int) (n : Nat) (g : List Int) (b : Bool) (e : Ending) (w' : World) : Prop :=
  ∃ G c : Nat, e = .returned (.tuple #[.agg #[.int .i64 W, .int .i64 D, .slice (some ⟨G, 0, none⟩) n c], .bool b]) ∧ w'.ownsRow w.heap.size 3 1 (.slice (some ⟨G, 0, none⟩) n c) n (g.map (Value.int .i64)) ∧ Below w.heap.size w w'
set_option maxRecDepth 100000 in
set_option maxHeartbeats 4000000 in
theorem specSlideDo_any (W D n : Nat) (A : Option Addr) (c : Nat) (g : List Int) (p q : Nat) (w : World) (h : HallAt w W D n A c g) (hp : p < n) (hq : q < n) (r : Bool) (hr : mayB W g p q = r) :
    Calls Tryz.prog 43 #[.agg #[.int .i64 W, .int .i64 D, .slice A n c], .agg #[.int .i64 p, .int .i64 q]] w (SDRes w W D n (slid W g p q) r) := by
  have hn := h.shp.n12
  have hX1 := Whole.new w 25 [.int .i64 W, .int .i64 D, .slice A n c]
  have hX2 := (hX1.alloc (.cells #[.int .i64 p, .int .i64 q] 62)).alloc (.cells #[.int .i64 0, .int .i64 0, .slice none 0 0] 25)
  have hY1 := Whole.new (w.alloc (.cells #[.int .i64 W, .int .i64 D, .slice A n c] 25)) 62 [.int .i64 p, .int .i64 q]
  have hY2 := hY1.alloc (.cells #[.int .i64 0, .int .i64 0, .slice none 0 0] 25)
  have hR2 := Whole.new ((w.alloc (.cells #[.int .i64 W, .int .i64 D, .slice A n c] 25)).alloc (.cells #[.int .i64 p, .int .i64 q] 62)) 25 [.int .i64 0, .int .i64 0, .slice none 0 0]
  have hB2 : Below w.heap.size w (((w.alloc (.cells #[.int .i64 W, .int .i64 D, .slice A n c] 25)).alloc (.cells #[.int .i64 p, .int .i64 q] 62)).alloc (.cells #[.int .i64 0, .int .i64 0, .slice none 0 0] 25)) := (((Below.refl _ _).alloc (Nat.le_refl _) _).alloc (by simp) _).alloc (by simp; omega) _
  have hs1 : (w.alloc (.cells #[.int .i64 W, .int .i64 D, .slice A n c] 25)).heap.size = w.heap.size + 1 := by simp
  have hs2 : ((w.alloc (.cells #[.int .i64 W, .int .i64 D, .slice A n c] 25)).alloc (.cells #[.int .i64 p, .int .i64 q] 62)).heap.size = w.heap.size + 2 := by simp
  rw [hs1] at hY2
  rw [hs2] at hR2
  have H := Lib.hid h
  obtain ⟨Q, HQ⟩ : ∃ Q, Hid (Q = w.heap.size) := ⟨_, rfl⟩
  clear h hs1 hs2 hX1 hY1
  go_enter Tryz.func43, Tryz.ntmps43
  go_wp2_with fail
  generalize ((w.alloc (.cells #[.int .i64 W, .int .i64 D, .slice A n c] 25)).alloc (.cells #[.int .i64 p, .int .i64 q] 62)).alloc (.cells #[.int .i64 0, .int .i64 0, .slice none 0 0] 25) = wa at *
  rw [← HQ.out] at hX2 hY2 hR2 ⊢
  refine (specHallValid_any W D A n c g _ (by omega) H.out.cap.1 (H.out.ints.below hB2)).mono ?_; rintro e w3 ⟨rfl, hb3⟩
  rw [H.out.ok]
  have hX3 := hX2.below hb3
  have hY3 := hY2.below hb3
  have hR3 := hR2.below hb3
  have hB3 := below_next hB2 hb3
  clear hX2 hY2 hR2 hB2 hb3
  have x0 := hX3.cell 0
  have x1 := hX3.cell 1
  have x2 := hX3.cell 2
  simp only [List.getElem?_cons_zero, List.getElem?_cons_succ] at x0 x1 x2
  go_wp2_with fail
  refine (l1Hall_any W D n A c g _ (H.out.below hB3)).mono ?_; rintro e w4 ⟨G, cG, rfl, hO, hb4⟩
  have hX4 := (hX3.below hb4).alloc (.cells #[.int .i64 W, .int .i64 D, .slice (some ⟨G, 0, none⟩) n cG] 25)
  have hY4 := (hY3.below hb4).alloc (.cells #[.int .i64 W, .int .i64 D, .slice (some ⟨G, 0, none⟩) n cG] 25)
  have hR4 := (hR3.below hb4).alloc (.cells #[.int .i64 W, .int .i64 D, .slice (some ⟨G, 0, none⟩) n cG] 25)
  have hB4' := below_next hB3 hb4
  have hB4 := hB4'.alloc hB4'.size (.cells #[.int .i64 W, .int .i64 D, .slice (some ⟨G, 0, none⟩) n cG] 25)
  have hM4 := Whole.new w4 25 [.int .i64 W, .int .i64 D, .slice (some ⟨G, 0, none⟩) n cG]
  have hO4 := own_keep hO ((Below.refl w4.heap.size w4).alloc (Nat.le_refl _) (.cells #[.int .i64 W, .int .i64 D, .slice (some ⟨G, 0, none⟩) n cG] 25))
  obtain ⟨M, HM⟩ : ∃ M, Hid (M = w4.heap.size) := ⟨_, rfl⟩
  have hGM : G < M := by rw [HM.out]; exact (hO.lt G rfl).2
  have hGQ : Q + 2 < G := by have h1 := (hO.lt G rfl).1; have h2 := hR3.lt; omega
  have hwQ : w.heap.size ≤ Q := Nat.le_of_eq HQ.out.symm
  rw [← HM.out] at hM4
  have hc3 := (ints_own hO).2
  have hOB : w.heap.size ≤ w3.heap.size := hB3.size
  have y0 := (hY3.below hb4).cell 0
  have y1 := (hY3.below hb4).cell 1
  have x0 := (hX3.below hb4).cell 0
  have x1 := (hX3.below hb4).cell 1
  have x2 := (hX3.below hb4).cell 2
  simp only [List.getElem?_cons_zero, List.getElem?_cons_succ] at x0 x1 x2 y0 y1
  have hXl := (hX3.below hb4).lt
  have hYl := (hY3.below hb4).lt
  clear hX3 hY3 hR3 hB3 hb4 hO hB4'
  go_wp2_with fail
  rw [← HM.out]
  clear x0 x1 x2 y0 y1 hXl hYl
  generalize w4.alloc (.cells #[.int .i64 W, .int .i64 D, .slice (some ⟨G, 0, none⟩) n cG] 25) = w5 at *
  refine (specSlideMay_any W D n A c g p q _ (H.out.below hB4) hp hq r hr).mono ?_; rintro e w6 ⟨rfl, hb6⟩
  have hX6 := hX4.below hb6
  have hY6 := hY4.below hb6
  have hR6 := hR4.below hb6
  have hM6 := hM4.below hb6
  have hO6 := own_keep hO4 hb6
  have hB6 := below_next hB4 hb6
  clear hX4 hY4 hR4 hM4 hO4 hB4 hb6
  have r0 := hR6.cell 0
  have r1 := hR6.cell 1
  have r2 := hR6.cell 2
  have m0 := hM6.cell 0
  have m1 := hM6.cell 1
  have m2 := hM6.cell 2
  have x2 := hX6.cell 2
  have y0 := hY6.cell 0
  have y1 := hY6.cell 1
  have k0 := hR6.free 0
  have k1 := hR6.free 1
  have k2 := hR6.free 2
  simp only [List.getElem?_cons_zero, List.getElem?_cons_succ] at r0 r1 r2 m0 m1 m2 x2 y0 y1
  cases r
  · have HE : Hid (slid W g p q = g) := Lib.hid (by unfold slid; rw [hr]; rfl)
    have hRy := hR6
    have hOy := hO6
    have hBy := hB6
    have hRz := ((hRy.set_ 0 (.int .i64 W)).set_ 1 (.int .i64 D)).set_ 2 (.slice (some ⟨G, 0, none⟩) n cG)
    have hOz := own_off (own_off (own_off hOy (p := ⟨Q + 2, 0, none⟩) (by show G ≠ Q + 2; omega) (.int .i64 W)) (p := ⟨Q + 2, 1, none⟩) (by show G ≠ Q + 2; omega) (.int .i64 D)) (p := ⟨Q + 2, 2, none⟩) (by show G ≠ Q + 2; omega) (.slice (some ⟨G, 0, none⟩) n cG)
    have hBz := ((hBy.setCell (p := ⟨Q + 2, 0, none⟩) (by show w.heap.size ≤ Q + 2; omega) (.int .i64 W)).setCell (p := ⟨Q + 2, 1, none⟩) (by show w.heap.size ≤ Q + 2; omega) (.int .i64 D)).setCell (p := ⟨Q + 2, 2, none⟩) (by show w.heap.size ≤ Q + 2; omega) (.slice (some ⟨G, 0, none⟩) n cG)
    go_wp2
    generalize ((w6.setCell ⟨Q + 2, 0, none⟩ (.int .i64 W)).setCell ⟨Q + 2, 1, none⟩ (.int .i64 D)).setCell ⟨Q + 2, 2, none⟩ (.slice (some ⟨G, 0, none⟩) n cG) = wz at *
    have e0 : wz.cell? ⟨Q + 2, 0, none⟩ = some (.int .i64 W) := hRz.cell 0
    have e1 : wz.cell? ⟨Q + 2, 1, none⟩ = some (.int .i64 D) := hRz.cell 1
    have e2 : wz.cell? ⟨Q + 2, 2, none⟩ = some (.slice (some ⟨G, 0, none⟩) n cG) := hRz.cell 2
    exact bodyPost_ret (v := .tuple #[.agg #[.int .i64 W, .int .i64 D, .slice (some ⟨G, 0, none⟩) n cG], .bool false]) (by simp [results, Tryz.results43, go_sem, e0, e1, e2]) rfl ⟨G, cG, rfl, by rw [HE.out]; exact Joins.ownsRow_le hOz hOB, hBz⟩
  · obtain ⟨zp, b, off, HP, rfl, hb, hcp⟩ := (H.out.below hB6).ints.get hp
    have hpq : p ≠ q := by
      rintro rfl
      unfold mayB at hr
      simp only [Bool.and_eq_true, decide_eq_true_eq] at hr
      have := hr.1.1
      unfold apN at this; omega
    have hqp : q ≠ p := fun h => hpq h.symm
    have HE : Hid ((g.set q zp).set p 0 = slid W g p q) := Lib.hid (by
      unfold slid mv; rw [hr, if_pos rfl]
      simp [HP.out])
    obtain ⟨⟨u, hu⟩, hfq, -, -⟩ := own_cell hO6 hq
    obtain ⟨⟨v, hv⟩, hfp, -, -⟩ := own_cell hO6 hp
    have hO7 := own_set (own_set hO6 (i := q) zp) (i := p) 0
    have hRy : Whole ((w6.setCell ⟨G, q, none⟩ (.int .i64 zp)).setCell ⟨G, p, none⟩ (.int .i64 0)) (Q + 1 + 1) 25 [.int .i64 0, .int .i64 0, .slice none 0 0] := (hR6.far (p := ⟨G, q, none⟩) (by show Q + 2 ≠ G; omega) _).far (p := ⟨G, p, none⟩) (by show Q + 2 ≠ G; omega) _
    have hBy := (hB6.setCell (p := ⟨G, q, none⟩) (by show w.heap.size ≤ G; omega) (.int .i64 zp)).setCell (p := ⟨G, p, none⟩) (by show w.heap.size ≤ G; omega) (.int .i64 0)
    have hRz : Whole (((((w6.setCell ⟨G, q, none⟩ (.int .i64 zp)).setCell ⟨G, p, none⟩ (.int .i64 0)).setCell ⟨Q + 1 + 1, 0, none⟩ (.int .i64 W)).setCell ⟨Q + 1 + 1, 1, none⟩ (.int .i64 D)).setCell ⟨Q + 1 + 1, 2, none⟩ (.slice (some ⟨G, 0, none⟩) n cG)).drew (Q + 1 + 1) 25 [.int .i64 W, .int .i64 D, .slice (some ⟨G, 0, none⟩) n cG] := ((hRy.set_ 0 (.int .i64 W)).set_ 1 (.int .i64 D)).set_ 2 (.slice (some ⟨G, 0, none⟩) n cG)
    have hOz := own_keep (own_off (own_off (own_off hO7 (p := ⟨Q + 1 + 1, 0, none⟩) (by show G ≠ Q + 1 + 1; omega) (.int .i64 W)) (p := ⟨Q + 1 + 1, 1, none⟩) (by show G ≠ Q + 1 + 1; omega) (.int .i64 D)) (p := ⟨Q + 1 + 1, 2, none⟩) (by show G ≠ Q + 1 + 1; omega) (.slice (some ⟨G, 0, none⟩) n cG)) ((Below.refl _ _).drew : Below _ _ (((((w6.setCell ⟨G, q, none⟩ (.int .i64 zp)).setCell ⟨G, p, none⟩ (.int .i64 0)).setCell ⟨Q + 1 + 1, 0, none⟩ (.int .i64 W)).setCell ⟨Q + 1 + 1, 1, none⟩ (.int .i64 D)).setCell ⟨Q + 1 + 1, 2, none⟩ (.slice (some ⟨G, 0, none⟩) n cG)).drew)
    have hBz : Below w.heap.size w (((((w6.setCell ⟨G, q, none⟩ (.int .i64 zp)).setCell ⟨G, p, none⟩ (.int .i64 0)).setCell ⟨Q + 1 + 1, 0, none⟩ (.int .i64 W)).setCell ⟨Q + 1 + 1, 1, none⟩ (.int .i64 D)).setCell ⟨Q + 1 + 1, 2, none⟩ (.slice (some ⟨G, 0, none⟩) n cG)).drew := (((hBy.setCell (p := ⟨Q + 1 + 1, 0, none⟩) (by show w.heap.size ≤ Q + 1 + 1; omega) (.int .i64 W)).setCell (p := ⟨Q + 1 + 1, 1, none⟩) (by show w.heap.size ≤ Q + 1 + 1; omega) (.int .i64 D)).setCell (p := ⟨Q + 1 + 1, 2, none⟩) (by show w.heap.size ≤ Q + 1 + 1; omega) (.slice (some ⟨G, 0, none⟩) n cG)).drew
    clear hr
    go_wp2
    go_region
    go_wp2
    generalize (((((w6.setCell ⟨G, q, none⟩ (.int .i64 zp)).setCell ⟨G, p, none⟩ (.int .i64 0)).setCell ⟨Q + 1 + 1, 0, none⟩ (.int .i64 W)).setCell ⟨Q + 1 + 1, 1, none⟩ (.int .i64 D)).setCell ⟨Q + 1 + 1, 2, none⟩ (.slice (some ⟨G, 0, none⟩) n cG)).drew = wz at *
    have e0 : wz.cell? ⟨Q + 1 + 1, 0, none⟩ = some (.int .i64 W) := hRz.cell 0
    have e1 : wz.cell? ⟨Q + 1 + 1, 1, none⟩ = some (.int .i64 D) := hRz.cell 1
    have e2 : wz.cell? ⟨Q + 1 + 1, 2, none⟩ = some (.slice (some ⟨G, 0, none⟩) n cG) := hRz.cell 2
    exact bodyPost_ret (v := .tuple #[.agg #[.int .i64 W, .int .i64 D, .slice (some ⟨G, 0, none⟩) n cG], .bool true]) (by simp [results, Tryz.results43, go_sem, e0, e1, e2]) rfl ⟨G, cG, rfl, by rw [← HE.out]; exact Joins.ownsRow_le hOz hOB, hBz⟩
end Go.Proofs.YtdebjcempkgeaaaGreatDoor
