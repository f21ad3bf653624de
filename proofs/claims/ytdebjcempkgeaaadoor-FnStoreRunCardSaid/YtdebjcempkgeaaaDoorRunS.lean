/-
  StoreRun of the reference.
-/
import Derived.Test.YtdebjcempkgeaaaDoorRunI
import Derived.Test.YtdebjcempkgeaaaDoorStoD
namespace Go.Proofs.YtdebjcempkgeaaaDoor
open Go.ChangeShapes Go.WideShapes Go.ChangeAt Go.RowKit

set_option maxRecDepth 100000 in
set_option maxHeartbeats 8000000 in
theorem specStoreRun_any (W D n : Nat) (A : Option Addr) (c : Nat) (g : List Int) (IA : Option Addr) (m ic : Nat) (ids : List Int) (w : World) (h : HallAt w W D n A c g) (hI : IntsAt w IA m ids) (hm : m ≤ 1000) (hic : m ≤ ic) :
    Calls Tryd.prog 6 #[.agg #[.int .i64 W, .int .i64 D, .slice A n c], .slice IA m ic] w (SRR w W D n ids g) := by
  have hn := h.shp.n12
  have S := h.shp
  have hX1 := Whole.new w 25 [.int .i64 W, .int .i64 D, .slice A n c]
  have hX2 := hX1.alloc (.cells #[.int .i64 0, .int .i64 0, .slice none 0 0] 25)
  have hR2 : Whole ((w.alloc (.cells #[.int .i64 W, .int .i64 D, .slice A n c] 25)).alloc (.cells #[.int .i64 0, .int .i64 0, .slice none 0 0] 25)) (w.heap.size + 1) 25 [.int .i64 0, .int .i64 0, .slice none 0 0] := by
    have := Whole.new (w.alloc (.cells #[.int .i64 W, .int .i64 D, .slice A n c] 25)) 25 [.int .i64 0, .int .i64 0, .slice none 0 0]
    simpa using this
  have hB2 : Below w.heap.size w ((w.alloc (.cells #[.int .i64 W, .int .i64 D, .slice A n c] 25)).alloc (.cells #[.int .i64 0, .int .i64 0, .slice none 0 0] 25)) := ((Below.refl _ _).alloc (Nat.le_refl _) _).alloc (by simp) _
  have H := Lib.hid h
  have HGL := Lib.hid h.ints.len
  have HI := Lib.hid hI
  have HIL := Lib.hid hI.len
  clear h hX1 hI
  obtain ⟨Q, HQ⟩ : ∃ Q, Hid (Q = w.heap.size) := ⟨_, rfl⟩
  have hwQ : w.heap.size ≤ Q := Nat.le_of_eq HQ.out.symm
  go_enter Tryd.func6, Tryd.ntmps6
  go_wp2_with fail
  generalize (w.alloc (.cells #[.int .i64 W, .int .i64 D, .slice A n c] 25)).alloc (.cells #[.int .i64 0, .int .i64 0, .slice none 0 0] 25) = wa at *
  rw [← HQ.out] at hX2 hR2 ⊢
  refine (specHallValid_any W D A n c g _ (by omega) H.out.cap.1 (H.out.ints.below hB2)).mono ?_; rintro e w3 ⟨rfl, hb3⟩
  rw [H.out.ok]
  have hX3 := hX2.below hb3
  have hR3 := hR2.below hb3
  have hB3 := below_next hB2 hb3
  clear hX2 hR2 hB2 hb3
  have x0 := hX3.cell 0
  have x1 := hX3.cell 1
  have x2 := hX3.cell 2
  simp only [List.getElem?_cons_zero, List.getElem?_cons_succ] at x0 x1 x2
  go_wp2_with fail
  refine (l1Hall_any W D n A c g _ (H.out.below hB3)).mono ?_; rintro e w4 ⟨G, cG, rfl, hO, hb4⟩
  have hR4 := (hR3.below hb4).alloc (.cells #[.int .i64 W, .int .i64 D, .slice (some ⟨G, 0, none⟩) n cG] 25)
  have hB4' := below_next hB3 hb4
  have hB4 := hB4'.alloc hB4'.size (.cells #[.int .i64 W, .int .i64 D, .slice (some ⟨G, 0, none⟩) n cG] 25)
  have hM4 := Whole.new w4 25 [.int .i64 W, .int .i64 D, .slice (some ⟨G, 0, none⟩) n cG]
  have hO4 := Joins.ownsRow_le (own_keep hO ((Below.refl w4.heap.size w4).alloc (Nat.le_refl _) (.cells #[.int .i64 W, .int .i64 D, .slice (some ⟨G, 0, none⟩) n cG] 25))) hB3.size
  obtain ⟨M, HM⟩ : ∃ M, Hid (M = w4.heap.size) := ⟨_, rfl⟩
  have hMQ : Q + 1 < M := by rw [HM.out]; exact (hR3.below hb4).lt
  have hwM : w.heap.size ≤ M := by rw [HM.out]; exact hB4'.size
  have hGM : G < M := by rw [HM.out]; exact (hO.lt G rfl).2
  have hGQ0 : G ≠ Q + 1 := by have h1 := (hO.lt G rfl).1; have h2 := hR3.lt; omega
  go_wp2
  rw [← HM.out] at hM4 ⊢
  clear hX3 hR3 hB3 hb4 hO hB4' x0 x1 x2
  generalize w4.alloc (.cells #[.int .i64 W, .int .i64 D, .slice (some ⟨G, 0, none⟩) n cG] 25) = w5 at *
  go_loopw [7] (fun t wr => ∃ i G cG : Nat, i ≤ m ∧ t = .int .i64 i ∧ G ≠ M ∧ G ≠ Q + 1 ∧ Whole wr M 25 [.int .i64 W, .int .i64 D, .slice (some ⟨G, 0, none⟩) n cG] ∧ Whole wr (Q + 1) 25 [.int .i64 0, .int .i64 0, .slice none 0 0] ∧ Hid (wr.ownsRow w.heap.size 3 1 (.slice (some ⟨G, 0, none⟩) n cG) n ((stk W D n ids g i).map (Value.int .i64))) ∧ Hid (∀ j, j < i → 0 ≤ stz W D n ids g j) ∧ Below w.heap.size w wr) (fun t _ => m - (intOf t).toNat)
  case atStart => exact ⟨0, G, cG, by omega, rfl, by omega, hGQ0, hM4, hR4, Lib.hid hO4, Lib.hid (fun j h => by omega), hB4⟩
  case round =>
    obtain ⟨i, G2, cG2, hi, rfl, hGM2, hGQ2, hM, hR, HO, HY, hB⟩ := hrel
    clear hM4 hR4 hO4 hB4
    have m0 : wr.cell? ⟨M, 0, none⟩ = some (.int .i64 W) := hM.cell 0
    have m1 : wr.cell? ⟨M, 1, none⟩ = some (.int .i64 D) := hM.cell 1
    have m2 : wr.cell? ⟨M, 2, none⟩ = some (.slice (some ⟨G2, 0, none⟩) n cG2) := hM.cell 2
    have hMl := hM.lt
    have hRl := hR.lt
    by_cases hlt : i < m
    · have HOK := Lib.hid (stk_ok (ids := ids) S HGL.out H.out.ok i)
      obtain ⟨id, ib, ioff, HX, hIA, hib, hic1⟩ := (HI.out.below hB).get hlt
      subst hIA
      have HID : Hid (ids.getD i 0 = id) := Lib.hid (by simp [HX.out])
      have HZ : Hid (stz W D n ids g i = (stoP W D n (stk W D n ids g i) id).2) := Lib.hid (by unfold stz; rw [HID.out])
      have HNX : Hid (stk W D n ids g (i + 1) = (stoP W D n (stk W D n ids g i) id).1) := Lib.hid (by rw [← HID.out]; rfl)
      have HF : Hid ((stoP W D n (stk W D n ids g i) id).2 < 0 → (stoP W D n (stk W D n ids g i) id).2 = -1) := Lib.hid (fun h => by have := (stoP_ok S HOK.out.2 HOK.out.1 id).2.2.1; omega)
      have hrange := (stoP_ok S HOK.out.2 HOK.out.1 id).2.2
      have hG2l := (HO.out.lt G2 rfl).2
      go_wp2
      go_region_with (go_at_call 21; refine (specStoreDo_any W D n (some ⟨G2, 0, none⟩) cG2 (stk W D n ids g i) id _ (by first | exact hallAt_own S HOK.out.1 (own_keep HO.out (Below.refl _ _).drew) | exact hallAt_own S HOK.out.1 (own_keep HO.out ((Below.refl _ _).drew.alloc (Nat.le_refl _) _)))).mono ?_; rintro e w7 ⟨G3, cG3, rfl, hO7, hb7⟩; (first | (have hK7 : Whole w7 wr.heap.size 25 [.int .i64 0, .int .i64 0, .slice none 0 0] := (Whole.new wr.drew 25 [.int .i64 0, .int .i64 0, .slice none 0 0]).below hb7; have c0 := hK7.cell 0; have c1 := hK7.cell 1; have c2 := hK7.cell 2; have v0 := hK7.free 0; have v1 := hK7.free 1; have v2 := hK7.free 2; simp only [List.getElem?_cons_zero, List.getElem?_cons_succ] at c0 c1 c2) | skip))
      all_goals
        rw [← HNX.out] at hO7
        rw [← HZ.out] at hrange ⊢
        obtain ⟨z, hz⟩ : ∃ z, Hid (z = stz W D n ids g i) := ⟨_, rfl⟩
        rw [← hz.out] at hrange ⊢
        have hG3l := hO7.lt G3 rfl
        first
        | (have hbA : Below wr.heap.size wr w7 := ((Below.refl _ _).drew.alloc (Nat.le_refl _) _).trans (hb7.mono (by simp))
           have hGK : wr.heap.size < G3 := (by have h1 := hG3l.1; simp at h1; omega)
           have hMA := ((((hM.below hbA).far (p := ⟨wr.heap.size, 0, none⟩) (by show M ≠ wr.heap.size; omega) (.int .i64 W)).far (p := ⟨wr.heap.size, 1, none⟩) (by show M ≠ wr.heap.size; omega) (.int .i64 D)).far (p := ⟨wr.heap.size, 2, none⟩) (by show M ≠ wr.heap.size; omega) (.slice (some ⟨G3, 0, none⟩) n cG3))
           have hRA := ((((hR.below hbA).far (p := ⟨wr.heap.size, 0, none⟩) (by show Q + 1 ≠ wr.heap.size; omega) (.int .i64 W)).far (p := ⟨wr.heap.size, 1, none⟩) (by show Q + 1 ≠ wr.heap.size; omega) (.int .i64 D)).far (p := ⟨wr.heap.size, 2, none⟩) (by show Q + 1 ≠ wr.heap.size; omega) (.slice (some ⟨G3, 0, none⟩) n cG3))
           have hOA := own_off (own_off (own_off (Joins.ownsRow_le hO7 (base' := w.heap.size) (by have := hB.size; simp; omega)) (p := ⟨wr.heap.size, 0, none⟩) (by show G3 ≠ wr.heap.size; omega) (.int .i64 W)) (p := ⟨wr.heap.size, 1, none⟩) (by show G3 ≠ wr.heap.size; omega) (.int .i64 D)) (p := ⟨wr.heap.size, 2, none⟩) (by show G3 ≠ wr.heap.size; omega) (.slice (some ⟨G3, 0, none⟩) n cG3)
           have HPA := Lib.hid (own_off (own_off (own_off (own_keep HO.out hbA) (p := ⟨wr.heap.size, 0, none⟩) (by show G2 ≠ wr.heap.size; omega) (.int .i64 W)) (p := ⟨wr.heap.size, 1, none⟩) (by show G2 ≠ wr.heap.size; omega) (.int .i64 D)) (p := ⟨wr.heap.size, 2, none⟩) (by show G2 ≠ wr.heap.size; omega) (.slice (some ⟨G3, 0, none⟩) n cG3))
           have hKA := ((hK7.set_ 0 (.int .i64 W)).set_ 1 (.int .i64 D)).set_ 2 (.slice (some ⟨G3, 0, none⟩) n cG3)
           have hBA := (((below_next hB hbA).setCell (p := ⟨wr.heap.size, 0, none⟩) hB.size (.int .i64 W)).setCell (p := ⟨wr.heap.size, 1, none⟩) hB.size (.int .i64 D)).setCell (p := ⟨wr.heap.size, 2, none⟩) hB.size (.slice (some ⟨G3, 0, none⟩) n cG3)
           clear c0 c1 c2 v0 v1 v2 hK7
           generalize ((w7.setCell ⟨wr.heap.size, 0, none⟩ (.int .i64 W)).setCell ⟨wr.heap.size, 1, none⟩ (.int .i64 D)).setCell ⟨wr.heap.size, 2, none⟩ (.slice (some ⟨G3, 0, none⟩) n cG3) = wz at *
           obtain ⟨K, hK⟩ : ∃ K, Hid (K = wr.heap.size) := ⟨_, rfl⟩
           rw [← hK.out] at hKA ⊢)
        | (have hbA : Below wr.heap.size wr w7 := (Below.refl _ _).drew.trans hb7
           have hwl := hbA.size
           have hMA := (hM.below hbA).alloc (.cells #[.int .i64 W, .int .i64 D, .slice (some ⟨G3, 0, none⟩) n cG3] 25)
           have hRA := (hR.below hbA).alloc (.cells #[.int .i64 W, .int .i64 D, .slice (some ⟨G3, 0, none⟩) n cG3] 25)
           have hOA := own_keep (Joins.ownsRow_le hO7 (base' := w.heap.size) hB.size) ((Below.refl w7.heap.size w7).alloc (Nat.le_refl _) (.cells #[.int .i64 W, .int .i64 D, .slice (some ⟨G3, 0, none⟩) n cG3] 25))
           have HPA := Lib.hid (own_keep (own_keep HO.out hbA) ((Below.refl w7.heap.size w7).alloc (Nat.le_refl _) (.cells #[.int .i64 W, .int .i64 D, .slice (some ⟨G3, 0, none⟩) n cG3] 25)))
           have hKA := Whole.new w7 25 [.int .i64 W, .int .i64 D, .slice (some ⟨G3, 0, none⟩) n cG3]
           have hBA := (below_next hB hbA).alloc (below_next hB hbA).size (.cells #[.int .i64 W, .int .i64 D, .slice (some ⟨G3, 0, none⟩) n cG3] 25)
           generalize w7.alloc (.cells #[.int .i64 W, .int .i64 D, .slice (some ⟨G3, 0, none⟩) n cG3] 25) = wz at *
           obtain ⟨K, hK⟩ : ∃ K, Hid (K = w7.heap.size) := ⟨_, rfl⟩
           rw [← hK.out] at hKA ⊢)
        clear m0 m1 m2 hO7 hb7 hbA
        have k0 := hKA.cell 0
        have k1 := hKA.cell 1
        have k2 := hKA.cell 2
        have m0 := hMA.cell 0
        have m1 := hMA.cell 1
        have m2 := hMA.cell 2
        simp only [List.getElem?_cons_zero, List.getElem?_cons_succ] at k0 k1 k2 m0 m1 m2
        have hMlA := hMA.lt
        have hRlA := hRA.lt
        have hG3z : G3 < w7.heap.size := hG3l.2
        have hGM3 : G3 ≠ M := by have h1 := hG3l.1; simp at h1; omega
        have hGQ3 : G3 ≠ Q + 1 := by have h1 := hG3l.1; simp at h1; omega
        by_cases hz0 : z < 0
        · have HRA : Hid (RunAt W D n ids g i) := Lib.hid ⟨by rw [HIL.out]; omega, HY.out, fun _ => by rw [← hz.out]; exact hz0⟩
          have hzd : decide (z < 0) = true := by simpa using hz0
          have r0 := hRA.cell 0
          have r1 := hRA.cell 1
          have r2 := hRA.cell 2
          have f0 := hRA.free 0
          have f1 := hRA.free 1
          have f2 := hRA.free 2
          simp only [List.getElem?_cons_zero, List.getElem?_cons_succ] at r0 r1 r2
          have hRz := ((hRA.set_ 0 (.int .i64 W)).set_ 1 (.int .i64 D)).set_ 2 (.slice (some ⟨G2, 0, none⟩) n cG2)
          have hOz := own_off (own_off (own_off HPA.out (p := ⟨Q + 1, 0, none⟩) hGQ2 (.int .i64 W)) (p := ⟨Q + 1, 1, none⟩) hGQ2 (.int .i64 D)) (p := ⟨Q + 1, 2, none⟩) hGQ2 (.slice (some ⟨G2, 0, none⟩) n cG2)
          have hBz := ((hBA.setCell (p := ⟨Q + 1, 0, none⟩) (by show w.heap.size ≤ Q + 1; omega) (.int .i64 W)).setCell (p := ⟨Q + 1, 1, none⟩) (by show w.heap.size ≤ Q + 1; omega) (.int .i64 D)).setCell (p := ⟨Q + 1, 2, none⟩) (by show w.heap.size ≤ Q + 1; omega) (.slice (some ⟨G2, 0, none⟩) n cG2)
          go_wp2
          generalize ((wz.setCell ⟨Q + 1, 0, none⟩ (.int .i64 W)).setCell ⟨Q + 1, 1, none⟩ (.int .i64 D)).setCell ⟨Q + 1, 2, none⟩ (.slice (some ⟨G2, 0, none⟩) n cG2) = wy at *
          have e0 : wy.cell? ⟨Q + 1, 0, none⟩ = some (.int .i64 W) := hRz.cell 0
          have e1 : wy.cell? ⟨Q + 1, 1, none⟩ = some (.int .i64 D) := hRz.cell 1
          have e2 : wy.cell? ⟨Q + 1, 2, none⟩ = some (.slice (some ⟨G2, 0, none⟩) n cG2) := hRz.cell 2
          exact bodyPost_ret (v := .tuple #[.agg #[.int .i64 W, .int .i64 D, (.slice (some ⟨G2, 0, none⟩) n cG2)], .int .i64 (i : Int)]) (by simp [results, Tryd.results6, go_sem, e0, e1, e2]) rfl ⟨i, G2, cG2, HRA, rfl, hOz, hBz⟩
        · have hzd : decide (z < 0) = false := by simpa using hz0
          have HY2 : Hid (∀ j, j < i + 1 → 0 ≤ stz W D n ids g j) := Lib.hid (fun j hj => by
            by_cases he : j = i
            · subst he; rw [← hz.out]; omega
            · exact HY.out j (by omega))
          have f0 := hMA.free 0
          have f1 := hMA.free 1
          have f2 := hMA.free 2
          have hM8 := ((hMA.set_ 0 (.int .i64 W)).set_ 1 (.int .i64 D)).set_ 2 (.slice (some ⟨G3, 0, none⟩) n cG3)
          have hR8 := ((hRA.far (p := ⟨M, 0, none⟩) (by show Q + 1 ≠ M; omega) (.int .i64 W)).far (p := ⟨M, 1, none⟩) (by show Q + 1 ≠ M; omega) (.int .i64 D)).far (p := ⟨M, 2, none⟩) (by show Q + 1 ≠ M; omega) (.slice (some ⟨G3, 0, none⟩) n cG3)
          have hO8 := Lib.hid (own_off (own_off (own_off hOA (p := ⟨M, 0, none⟩) hGM3 (.int .i64 W)) (p := ⟨M, 1, none⟩) hGM3 (.int .i64 D)) (p := ⟨M, 2, none⟩) hGM3 (.slice (some ⟨G3, 0, none⟩) n cG3))
          have hB8 := ((hBA.setCell (p := ⟨M, 0, none⟩) hwM (.int .i64 W)).setCell (p := ⟨M, 1, none⟩) hwM (.int .i64 D)).setCell (p := ⟨M, 2, none⟩) hwM (.slice (some ⟨G3, 0, none⟩) n cG3)
          go_wp2
          go_roundw
          case rel => exact ⟨i + 1, G3, cG3, by omega, by go_num, hGM3, hGQ3, hM8, hR8, hO8, HY2, hB8⟩
          case measure => simp [intOf]; omega
    · obtain rfl : i = m := by omega
      have HRA : Hid (RunAt W D n ids g i) := Lib.hid ⟨by rw [HIL.out]; exact Nat.le_refl _, HY.out, fun h => by rw [HIL.out] at h; omega⟩
      have r0 := hR.cell 0
      have r1 := hR.cell 1
      have r2 := hR.cell 2
      have f0 := hR.free 0
      have f1 := hR.free 1
      have f2 := hR.free 2
      simp only [List.getElem?_cons_zero, List.getElem?_cons_succ] at r0 r1 r2
      have hRz := ((hR.set_ 0 (.int .i64 W)).set_ 1 (.int .i64 D)).set_ 2 (.slice (some ⟨G2, 0, none⟩) n cG2)
      have hOz := own_off (own_off (own_off HO.out (p := ⟨Q + 1, 0, none⟩) hGQ2 (.int .i64 W)) (p := ⟨Q + 1, 1, none⟩) hGQ2 (.int .i64 D)) (p := ⟨Q + 1, 2, none⟩) hGQ2 (.slice (some ⟨G2, 0, none⟩) n cG2)
      have hBz := ((hB.setCell (p := ⟨Q + 1, 0, none⟩) (by show w.heap.size ≤ Q + 1; omega) (.int .i64 W)).setCell (p := ⟨Q + 1, 1, none⟩) (by show w.heap.size ≤ Q + 1; omega) (.int .i64 D)).setCell (p := ⟨Q + 1, 2, none⟩) (by show w.heap.size ≤ Q + 1; omega) (.slice (some ⟨G2, 0, none⟩) n cG2)
      go_wp2
      generalize ((wr.setCell ⟨Q + 1, 0, none⟩ (.int .i64 W)).setCell ⟨Q + 1, 1, none⟩ (.int .i64 D)).setCell ⟨Q + 1, 2, none⟩ (.slice (some ⟨G2, 0, none⟩) n cG2) = wz at *
      have e0 : wz.cell? ⟨Q + 1, 0, none⟩ = some (.int .i64 W) := hRz.cell 0
      have e1 : wz.cell? ⟨Q + 1, 1, none⟩ = some (.int .i64 D) := hRz.cell 1
      have e2 : wz.cell? ⟨Q + 1, 2, none⟩ = some (.slice (some ⟨G2, 0, none⟩) n cG2) := hRz.cell 2
      exact bodyPost_ret (v := .tuple #[.agg #[.int .i64 W, .int .i64 D, (.slice (some ⟨G2, 0, none⟩) n cG2)], .int .i64 (i : Int)]) (by simp [results, Tryd.results6, go_sem, e0, e1, e2]) rfl ⟨i, G2, cG2, HRA, rfl, hOz, hBz⟩
end Go.Proofs.YtdebjcempkgeaaaDoor
