/-
  Slides of the program: one that may be done.
-/
import Derived.Test.YtdebjcempkgeaaaGreatDoorHallE
namespace Go.Proofs.YtdebjcempkgeaaaGreatDoor
open Go.ChangeShapes Go.WideShapes Go.ChangeAt Go.RowKit

theorem may_parts {W : Nat} {g : List Int} {p q : Nat} (h : mayB W g p q = true) : apN W p q = 1 ∧ 0 < g.getD p 0 ∧ g.getD q 0 = 0 ∧ p ≠ q := by
  unfold mayB at h
  simp only [Bool.and_eq_true, decide_eq_true_eq] at h
  refine ⟨h.1.1, h.1.2, h.2, ?_⟩
  rintro rfl
  have := h.1.1
  unfold apN at this; omega
set_option maxRecDepth 100000 in
set_option maxHeartbeats 4000000 in
theorem slideMay_yes (W D n : Nat) (A : Option Addr) (c : Nat) (g : List Int) (p q : Nat) (w : World) (h : HallAt w W D n A c g) (hp : p < n) (hq : q < n) (hr : mayB W g p q = true) :
    Calls Tryz.prog 58 #[.agg #[.int .i64 W, .int .i64 D, .slice A n c], .agg #[.int .i64 p, .int .i64 q]] w (RV w (.bool true)) := by
  have hn := h.shp.n12
  have hX1 := Whole.new w 25 [.int .i64 W, .int .i64 D, .slice A n c]
  have hX2 := hX1.alloc (.cells #[.int .i64 p, .int .i64 q] 62)
  have hY2 : Whole ((w.alloc (.cells #[.int .i64 W, .int .i64 D, .slice A n c] 25)).alloc (.cells #[.int .i64 p, .int .i64 q] 62)) (w.heap.size + 1) 62 [.int .i64 p, .int .i64 q] := by
    have := Whole.new (w.alloc (.cells #[.int .i64 W, .int .i64 D, .slice A n c] 25)) 62 [.int .i64 p, .int .i64 q]
    simpa using this
  have hB2 : Below w.heap.size w ((w.alloc (.cells #[.int .i64 W, .int .i64 D, .slice A n c] 25)).alloc (.cells #[.int .i64 p, .int .i64 q] 62)) := ((Below.refl _ _).alloc (Nat.le_refl _) _).alloc (by simp) _
  have H := Lib.hid h
  obtain ⟨Q, HQ⟩ : ∃ Q, Hid (Q = w.heap.size) := ⟨_, rfl⟩
  obtain ⟨hap, hzp, hzq, hpq⟩ := may_parts hr
  clear hr
  have w1 := h.shp.w1
  have w2 := h.shp.w2
  clear h
  go_enter Tryz.func58, Tryz.ntmps58
  go_wp2_with fail
  generalize (w.alloc (.cells #[.int .i64 W, .int .i64 D, .slice A n c] 25)).alloc (.cells #[.int .i64 p, .int .i64 q] 62) = wa at *
  rw [← HQ.out] at hX2 hY2 ⊢
  clear hX1
  refine (hallValid_any W D A n c g _ (by omega) (H.out.ints.below hB2)).mono ?_; rintro e w3 ⟨rfl, hb3⟩
  rw [H.out.ok]
  have hX3 := hX2.below hb3
  have hY3 := hY2.below hb3
  have hB3 := below_next hB2 hb3
  clear hX2 hY2 hB2 hb3
  have x0 := hX3.cell 0
  have x1 := hX3.cell 1
  have x2 := hX3.cell 2
  have y0 := hY3.cell 0
  have y1 := hY3.cell 1
  simp only [List.getElem?_cons_zero, List.getElem?_cons_succ] at x0 x1 x2 y0 y1
  go_wp2_with fail
  refine (hasCell_any W D A n c p _ true (by simp; omega)).mono ?_; rintro e w4 ⟨rfl, hb4⟩
  have hX4 := hX3.below hb4
  have hY4 := hY3.below hb4
  have hB4 := below_next hB3 hb4
  clear hX3 hY3 hB3 hb4 x0 x1 x2 y0 y1
  have x0 := hX4.cell 0
  have x1 := hX4.cell 1
  have x2 := hX4.cell 2
  have y0 := hY4.cell 0
  have y1 := hY4.cell 1
  simp only [List.getElem?_cons_zero, List.getElem?_cons_succ] at x0 x1 x2 y0 y1
  go_wp2_with fail
  refine (hasCell_any W D A n c q _ true (by simp; omega)).mono ?_; rintro e w5 ⟨rfl, hb5⟩
  have hX5 := hX4.below hb5
  have hY5 := hY4.below hb5
  have hB5 := below_next hB4 hb5
  clear hX4 hY4 hB4 hb5 x0 x1 x2 y0 y1
  have x0 := hX5.cell 0
  have x1 := hX5.cell 1
  have x2 := hX5.cell 2
  have y0 := hY5.cell 0
  have y1 := hY5.cell 1
  simp only [List.getElem?_cons_zero, List.getElem?_cons_succ] at x0 x1 x2 y0 y1
  obtain ⟨zp, b, off, HP, rfl, hb, hcp⟩ := (H.out.below hB5).ints.get hp
  obtain ⟨zq, b', off', HQ2, hbb, hb', hcq⟩ := (H.out.below hB5).ints.get hq
  injection hbb with hbb; injection hbb with e1 e2; subst e1 e2
  have hz1 : zp ≠ 0 := by
    have := hzp; simp [HP.out] at this; omega
  obtain rfl : zq = 0 := by simpa [HQ2.out] using hzq
  have hd1 : (zp != 0) = true := by simpa using hz1
  have HAP := Lib.hid hap
  clear hz1 hzp hzq hap hpq
  go_wp2_with fail
  refine (apart_any W p q _ ⟨w1, w2⟩ (by omega) (by omega)).mono ?_; rintro e w9 ⟨rfl, hb9⟩
  rw [HAP.out]
  have hB9 := below_next hB5 hb9
  go_wp2
  go_ret
  exact ⟨rfl, hB9⟩
set_option maxRecDepth 100000 in
set_option maxHeartbeats 4000000 in
theorem slideDo_yes (W D n : Nat) (A : Option Addr) (c : Nat) (g : List Int) (p q : Nat) (w : World) (h : HallAt w W D n A c g) (hp : p < n) (hq : q < n) (hr : mayB W g p q = true) :
    Calls Tryz.prog 38 #[.agg #[.int .i64 W, .int .i64 D, .slice A n c], .agg #[.int .i64 p, .int .i64 q]] w (SDRes w W D n (mv g q p) true) := by
  have hn := h.shp.n12
  have hX1 := Whole.new w 25 [.int .i64 W, .int .i64 D, .slice A n c]
  have hX2 := (hX1.alloc (.cells #[.int .i64 p, .int .i64 q] 62)).alloc (.cells #[.int .i64 0, .int .i64 0, .slice none 0 0] 25)
  have hY1 := Whole.new (w.alloc (.cells #[.int .i64 W, .int .i64 D, .slice A n c] 25)) 62 [.int .i64 p, .int .i64 q]
  have hY2 := hY1.alloc (.cells #[.int .i64 0, .int .i64 0, .slice none 0 0] 25)
  have hR2 := Whole.new ((w.alloc (.cells #[.int .i64 W, .int .i64 D, .slice A n c] 25)).alloc (.cells #[.int .i64 p, .int .i64 q] 62)) 25 [.int .i64 0, .int .i64 0, .slice none 0 0]
  have hB2 : Below w.heap.size w (((w.alloc (.cells #[.int .i64 W, .int .i64 D, .slice A n c] 25)).alloc (.cells #[.int .i64 p, .int .i64 q] 62)).alloc (.cells #[.int .i64 0, .int .i64 0, .slice none 0 0] 25)) := (((Below.refl _ _).alloc (Nat.le_refl _) _).alloc (by simp) _).alloc (by simp; omega) _
  have hs1 : (w.alloc (.cells #[.int .i64 W, .int .i64 D, .slice A n c] 25)).heap.size = w.heap.size + 1 := by simp
  have hs2 : ((w.alloc (.cells #[.int .i64 W, .int .i64 D, .slice A n c] 25)).alloc (.cells #[.int .i64 p, .int .i64 q] 62)).heap.size = w.heap.size + 2 := by simp
  rw [hs1] at hY2
  rw [hs2] at hR2
  have H := Lib.hid h
  obtain ⟨Q, HQ⟩ : ∃ Q, Hid (Q = w.heap.size) := ⟨_, rfl⟩
  clear h hs1 hs2 hX1 hY1
  go_enter Tryz.func38, Tryz.ntmps38
  go_wp2_with fail
  generalize ((w.alloc (.cells #[.int .i64 W, .int .i64 D, .slice A n c] 25)).alloc (.cells #[.int .i64 p, .int .i64 q] 62)).alloc (.cells #[.int .i64 0, .int .i64 0, .slice none 0 0] 25) = wa at *
  rw [← HQ.out] at hX2 hY2 hR2 ⊢
  refine (hallValid_any W D A n c g _ (by omega) (H.out.ints.below hB2)).mono ?_; rintro e w3 ⟨rfl, hb3⟩
  rw [H.out.ok]
  have hX3 := hX2.below hb3
  have hY3 := hY2.below hb3
  have hR3 := hR2.below hb3
  have hB3 := below_next hB2 hb3
  clear hX2 hY2 hR2 hB2 hb3
  have x0 := hX3.cell 0
  have x1 := hX3.cell 1
  have x2 := hX3.cell 2
  simp only [List.getElem?_cons_zero, List.getElem?_cons_succ] at x0 x1 x2
  go_wp2_with fail
  refine (copyHall_any W D n A c g _ (H.out.below hB3)).mono ?_; rintro e w4 ⟨G, cG, rfl, hO, hb4⟩
  have hX4 := (hX3.below hb4).alloc (.cells #[.int .i64 W, .int .i64 D, .slice (some ⟨G, 0, none⟩) n cG] 25)
  have hY4 := (hY3.below hb4).alloc (.cells #[.int .i64 W, .int .i64 D, .slice (some ⟨G, 0, none⟩) n cG] 25)
  have hR4 := (hR3.below hb4).alloc (.cells #[.int .i64 W, .int .i64 D, .slice (some ⟨G, 0, none⟩) n cG] 25)
  have hB4' := below_next hB3 hb4
  have hB4 := hB4'.alloc hB4'.size (.cells #[.int .i64 W, .int .i64 D, .slice (some ⟨G, 0, none⟩) n cG] 25)
  have hM4 := Whole.new w4 25 [.int .i64 W, .int .i64 D, .slice (some ⟨G, 0, none⟩) n cG]
  have hO4 := own_keep hO ((Below.refl w4.heap.size w4).alloc (Nat.le_refl _) (.cells #[.int .i64 W, .int .i64 D, .slice (some ⟨G, 0, none⟩) n cG] 25))
  obtain ⟨M, HM⟩ : ∃ M, Hid (M = w4.heap.size) := ⟨_, rfl⟩
  have hGM : G < M := by rw [HM.out]; exact (hO.lt G rfl).2
  have hGQ : Q + 2 < G := by have h1 := (hO.lt G rfl).1; have h2 := hR3.lt; omega
  have hwQ : w.heap.size ≤ Q := Nat.le_of_eq HQ.out.symm
  rw [← HM.out] at hM4
  have hc3 := (ints_own hO).2
  have hOB : w.heap.size ≤ w3.heap.size := hB3.size
  have y0 := (hY3.below hb4).cell 0
  have y1 := (hY3.below hb4).cell 1
  have x0 := (hX3.below hb4).cell 0
  have x1 := (hX3.below hb4).cell 1
  have x2 := (hX3.below hb4).cell 2
  simp only [List.getElem?_cons_zero, List.getElem?_cons_succ] at x0 x1 x2 y0 y1
  have hXl := (hX3.below hb4).lt
  have hYl := (hY3.below hb4).lt
  clear hX3 hY3 hR3 hB3 hb4 hO hB4'
  go_wp2_with fail
  rw [← HM.out]
  clear x0 x1 x2 y0 y1 hXl hYl
  generalize w4.alloc (.cells #[.int .i64 W, .int .i64 D, .slice (some ⟨G, 0, none⟩) n cG] 25) = w5 at *
  refine (slideMay_yes W D n A c g p q _ (H.out.below hB4) hp hq hr).mono ?_; rintro e w6 ⟨rfl, hb6⟩
  have hX6 := hX4.below hb6
  have hY6 := hY4.below hb6
  have hR6 := hR4.below hb6
  have hM6 := hM4.below hb6
  have hO6 := own_keep hO4 hb6
  have hB6 := below_next hB4 hb6
  clear hX4 hY4 hR4 hM4 hO4 hB4 hb6
  have r0 := hR6.cell 0
  have r1 := hR6.cell 1
  have r2 := hR6.cell 2
  have m0 := hM6.cell 0
  have m1 := hM6.cell 1
  have m2 := hM6.cell 2
  have x2 := hX6.cell 2
  have y0 := hY6.cell 0
  have y1 := hY6.cell 1
  have k0 := hR6.free 0
  have k1 := hR6.free 1
  have k2 := hR6.free 2
  simp only [List.getElem?_cons_zero, List.getElem?_cons_succ] at r0 r1 r2 m0 m1 m2 x2 y0 y1
  obtain ⟨zp, b, off, HP, rfl, hb, hcp⟩ := (H.out.below hB6).ints.get hp
  have hpq : p ≠ q := by
    rintro rfl
    unfold mayB at hr
    simp only [Bool.and_eq_true, decide_eq_true_eq] at hr
    have := hr.1.1
    unfold apN at this; omega
  have hqp : q ≠ p := fun h => hpq h.symm
  have HE : Hid ((g.set q zp).set p 0 = mv g q p) := Lib.hid (by
    unfold mv
    simp [HP.out])
  obtain ⟨⟨u, hu⟩, hfq, -, -⟩ := own_cell hO6 hq
  obtain ⟨⟨v, hv⟩, hfp, -, -⟩ := own_cell hO6 hp
  have hO7 := own_set (own_set hO6 (i := q) zp) (i := p) 0
  have hRy : Whole ((w6.setCell ⟨G, q, none⟩ (.int .i64 zp)).setCell ⟨G, p, none⟩ (.int .i64 0)) (Q + 1 + 1) 25 [.int .i64 0, .int .i64 0, .slice none 0 0] := (hR6.far (p := ⟨G, q, none⟩) (by show Q + 2 ≠ G; omega) _).far (p := ⟨G, p, none⟩) (by show Q + 2 ≠ G; omega) _
  have hBy := (hB6.setCell (p := ⟨G, q, none⟩) (by show w.heap.size ≤ G; omega) (.int .i64 zp)).setCell (p := ⟨G, p, none⟩) (by show w.heap.size ≤ G; omega) (.int .i64 0)
  have hRz : Whole (((((w6.setCell ⟨G, q, none⟩ (.int .i64 zp)).setCell ⟨G, p, none⟩ (.int .i64 0)).setCell ⟨Q + 1 + 1, 0, none⟩ (.int .i64 W)).setCell ⟨Q + 1 + 1, 1, none⟩ (.int .i64 D)).setCell ⟨Q + 1 + 1, 2, none⟩ (.slice (some ⟨G, 0, none⟩) n cG)).drew (Q + 1 + 1) 25 [.int .i64 W, .int .i64 D, .slice (some ⟨G, 0, none⟩) n cG] := ((hRy.set_ 0 (.int .i64 W)).set_ 1 (.int .i64 D)).set_ 2 (.slice (some ⟨G, 0, none⟩) n cG)
  have hOz := own_keep (own_off (own_off (own_off hO7 (p := ⟨Q + 1 + 1, 0, none⟩) (by show G ≠ Q + 1 + 1; omega) (.int .i64 W)) (p := ⟨Q + 1 + 1, 1, none⟩) (by show G ≠ Q + 1 + 1; omega) (.int .i64 D)) (p := ⟨Q + 1 + 1, 2, none⟩) (by show G ≠ Q + 1 + 1; omega) (.slice (some ⟨G, 0, none⟩) n cG)) ((Below.refl _ _).drew : Below _ _ (((((w6.setCell ⟨G, q, none⟩ (.int .i64 zp)).setCell ⟨G, p, none⟩ (.int .i64 0)).setCell ⟨Q + 1 + 1, 0, none⟩ (.int .i64 W)).setCell ⟨Q + 1 + 1, 1, none⟩ (.int .i64 D)).setCell ⟨Q + 1 + 1, 2, none⟩ (.slice (some ⟨G, 0, none⟩) n cG)).drew)
  have hBz : Below w.heap.size w (((((w6.setCell ⟨G, q, none⟩ (.int .i64 zp)).setCell ⟨G, p, none⟩ (.int .i64 0)).setCell ⟨Q + 1 + 1, 0, none⟩ (.int .i64 W)).setCell ⟨Q + 1 + 1, 1, none⟩ (.int .i64 D)).setCell ⟨Q + 1 + 1, 2, none⟩ (.slice (some ⟨G, 0, none⟩) n cG)).drew := (((hBy.setCell (p := ⟨Q + 1 + 1, 0, none⟩) (by show w.heap.size ≤ Q + 1 + 1; omega) (.int .i64 W)).setCell (p := ⟨Q + 1 + 1, 1, none⟩) (by show w.heap.size ≤ Q + 1 + 1; omega) (.int .i64 D)).setCell (p := ⟨Q + 1 + 1, 2, none⟩) (by show w.heap.size ≤ Q + 1 + 1; omega) (.slice (some ⟨G, 0, none⟩) n cG)).drew
  clear hr
  go_wp2
  go_region
  go_wp2
  generalize (((((w6.setCell ⟨G, q, none⟩ (.int .i64 zp)).setCell ⟨G, p, none⟩ (.int .i64 0)).setCell ⟨Q + 1 + 1, 0, none⟩ (.int .i64 W)).setCell ⟨Q + 1 + 1, 1, none⟩ (.int .i64 D)).setCell ⟨Q + 1 + 1, 2, none⟩ (.slice (some ⟨G, 0, none⟩) n cG)).drew = wz at *
  have e0 : wz.cell? ⟨Q + 1 + 1, 0, none⟩ = some (.int .i64 W) := hRz.cell 0
  have e1 : wz.cell? ⟨Q + 1 + 1, 1, none⟩ = some (.int .i64 D) := hRz.cell 1
  have e2 : wz.cell? ⟨Q + 1 + 1, 2, none⟩ = some (.slice (some ⟨G, 0, none⟩) n cG) := hRz.cell 2
  exact bodyPost_ret (v := .tuple #[.agg #[.int .i64 W, .int .i64 D, .slice (some ⟨G, 0, none⟩) n cG], .bool true]) (by simp [results, Tryz.results38, go_sem, e0, e1, e2]) rfl ⟨G, cG, rfl, by rw [← HE.out]; exact Joins.ownsRow_le hOz hOB, hBz⟩
end Go.Proofs.YtdebjcempkgeaaaGreatDoor
