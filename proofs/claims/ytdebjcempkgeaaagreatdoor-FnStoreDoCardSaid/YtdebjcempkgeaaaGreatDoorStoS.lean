/-
  SlideRun of the reference along the slides that make the gate free; StoreDo of the reference.
-/
import Derived.Test.YtdebjcempkgeaaaGreatDoorStoI
import Derived.Test.YtdebjcempkgeaaaGreatDoorClearS
namespace Go.Proofs.YtdebjcempkgeaaaGreatDoor
open Go.ChangeShapes Go.WideShapes Go.ChangeAt Go.RowKit

set_option maxRecDepth 100000 in
set_option maxHeartbeats 8000000 in
theorem slideRun_any (W D n : Nat) (A : Option Addr) (c : Nat) (g : List Int) (f : Nat) (SA : Option Addr) (sc : Nat) (w : World) (h : HallAt w W D n A c g) (N : Near W n g f) (hS : SlidesAt w SA (dN W f) (slW W f (dN W f))) (hsc : dN W f ≤ sc ∧ sc ≤ maxLen) :
    Calls Tryz.prog 24 #[.agg #[.int .i64 W, .int .i64 D, .slice A n c], .slice SA (dN W f) sc] w (SIRes w W D n (hst W f g (dN W f), ((dN W f : Nat) : Int))) := by
  have hn := h.shp.n12
  have S := h.shp
  unfold maxLen at hsc
  have hX1 := Whole.new w 25 [.int .i64 W, .int .i64 D, .slice A n c]
  have hX2 := hX1.alloc (.cells #[.int .i64 0, .int .i64 0, .slice none 0 0] 25)
  have hR2 : Whole ((w.alloc (.cells #[.int .i64 W, .int .i64 D, .slice A n c] 25)).alloc (.cells #[.int .i64 0, .int .i64 0, .slice none 0 0] 25)) (w.heap.size + 1) 25 [.int .i64 0, .int .i64 0, .slice none 0 0] := by
    have := Whole.new (w.alloc (.cells #[.int .i64 W, .int .i64 D, .slice A n c] 25)) 25 [.int .i64 0, .int .i64 0, .slice none 0 0]
    simpa using this
  have hB2 : Below w.heap.size w ((w.alloc (.cells #[.int .i64 W, .int .i64 D, .slice A n c] 25)).alloc (.cells #[.int .i64 0, .int .i64 0, .slice none 0 0] 25)) := ((Below.refl _ _).alloc (Nat.le_refl _) _).alloc (by simp) _
  have H := Lib.hid h
  have HN := Lib.hid N
  have HSA := Lib.hid hS
  have HGL := Lib.hid h.ints.len
  obtain ⟨d, hd⟩ : ∃ d, Hid (d = dN W f) := ⟨_, rfl⟩
  have hd5 : d ≤ 5 := by rw [hd.out]; exact dN_le S N.lt
  rw [← hd.out] at hsc HSA ⊢
  clear h N hS hX1
  obtain ⟨Q, HQ⟩ : ∃ Q, Hid (Q = w.heap.size) := ⟨_, rfl⟩
  go_enter Tryz.func24, Tryz.ntmps24
  go_wp2_with fail
  generalize (w.alloc (.cells #[.int .i64 W, .int .i64 D, .slice A n c] 25)).alloc (.cells #[.int .i64 0, .int .i64 0, .slice none 0 0] 25) = wa at *
  rw [← HQ.out] at hX2 hR2 ⊢
  refine (specHallValid_any W D A n c g _ (by omega) H.out.cap.1 (H.out.ints.below hB2)).mono ?_; rintro e w3 ⟨rfl, hb3⟩
  rw [H.out.ok]
  have hX3 := hX2.below hb3
  have hR3 := hR2.below hb3
  have hB3 := below_next hB2 hb3
  have hd60 : decide ((60 : Int) < (d : Int)) = false := by simp; omega
  clear hX2 hR2 hB2 hb3
  have x0 := hX3.cell 0
  have x1 := hX3.cell 1
  have x2 := hX3.cell 2
  simp only [List.getElem?_cons_zero, List.getElem?_cons_succ] at x0 x1 x2
  go_wp2_with fail
  refine (l1Hall_any W D n A c g _ (H.out.below hB3)).mono ?_; rintro e w4 ⟨G, cG, rfl, hO, hb4⟩
  have hR4 := (hR3.below hb4).alloc (.cells #[.int .i64 W, .int .i64 D, .slice (some ⟨G, 0, none⟩) n cG] 25)
  have hB4' := below_next hB3 hb4
  have hB4 := hB4'.alloc hB4'.size (.cells #[.int .i64 W, .int .i64 D, .slice (some ⟨G, 0, none⟩) n cG] 25)
  have hM4 := Whole.new w4 25 [.int .i64 W, .int .i64 D, .slice (some ⟨G, 0, none⟩) n cG]
  have hO4 := Joins.ownsRow_le (own_keep hO ((Below.refl w4.heap.size w4).alloc (Nat.le_refl _) (.cells #[.int .i64 W, .int .i64 D, .slice (some ⟨G, 0, none⟩) n cG] 25))) hB3.size
  obtain ⟨M, HM⟩ : ∃ M, Hid (M = w4.heap.size) := ⟨_, rfl⟩
  have hMQ : Q + 1 < M := by rw [HM.out]; exact (hR3.below hb4).lt
  have hwM : w.heap.size ≤ M := by rw [HM.out]; exact hB4'.size
  have hGM : G < M := by rw [HM.out]; exact (hO.lt G rfl).2
  have hwQ : w.heap.size ≤ Q := Nat.le_of_eq HQ.out.symm
  have hGQ0 : G ≠ Q + 1 := by have h1 := (hO.lt G rfl).1; have h2 := hR3.lt; omega
  go_wp2
  rw [← HM.out] at hM4 ⊢
  clear hX3 hR3 hB3 hb4 hO hB4' x0 x1 x2
  generalize w4.alloc (.cells #[.int .i64 W, .int .i64 D, .slice (some ⟨G, 0, none⟩) n cG] 25) = w5 at *
  go_loopw [7] (fun t wr => ∃ i G cG : Nat, i ≤ d ∧ t = .int .i64 i ∧ G ≠ M ∧ G ≠ Q + 1 ∧ Whole wr M 25 [.int .i64 W, .int .i64 D, .slice (some ⟨G, 0, none⟩) n cG] ∧ Whole wr (Q + 1) 25 [.int .i64 0, .int .i64 0, .slice none 0 0] ∧ Hid (wr.ownsRow w.heap.size 3 1 (.slice (some ⟨G, 0, none⟩) n cG) n ((hst W f g i).map (Value.int .i64))) ∧ Below w.heap.size w wr) (fun t _ => d - (intOf t).toNat)
  case atStart => exact ⟨0, G, cG, by omega, rfl, by omega, hGQ0, hM4, hR4, Lib.hid hO4, hB4⟩
  case round =>
    obtain ⟨i, G2, cG2, hi, rfl, hGM2, hGQ2, hM, hR, HO, hB⟩ := hrel
    clear hM4 hR4 hO4 hB4
    have m0 : wr.cell? ⟨M, 0, none⟩ = some (.int .i64 W) := hM.cell 0
    have m1 : wr.cell? ⟨M, 1, none⟩ = some (.int .i64 D) := hM.cell 1
    have m2 : wr.cell? ⟨M, 2, none⟩ = some (.slice (some ⟨G2, 0, none⟩) n cG2) := hM.cell 2
    by_cases hlt : i < d
    · have hid : i < dN W f := by rw [← hd.out]; exact hlt
      have HMAY := Lib.hid (hst_may S HGL.out H.out.ok HN.out hid)
      have HOK := Lib.hid (hst_hall S HGL.out H.out.ok HN.out (Nat.le_of_lt hid))
      have hyn := (pcN_ok S HN.out.lt i (by omega)).1
      have hxn := (pcN_ok S HN.out.lt (i + 1) (by omega)).1
      obtain ⟨p, sb, soff, HP, hSA, hsb, hs0, hs1⟩ := (HSA.out.below hB).get hlt
      subst hSA
      have hp : p = (pcN W f (i + 1), pcN W f i) := by have h1 := HP.out; rw [slW_get (by rw [hd.out] at hlt ⊢; exact hlt)] at h1; injection h1 with h1; exact h1.symm
      subst hp
      have HNX : Hid (hst W f g (i + 1) = mv (hst W f g i) (pcN W f i) (pcN W f (i + 1))) := Lib.hid rfl
      obtain ⟨y, hy⟩ : ∃ y, Hid (y = pcN W f i) := ⟨_, rfl⟩
      obtain ⟨x, hx⟩ : ∃ x, Hid (x = pcN W f (i + 1)) := ⟨_, rfl⟩
      dsimp only at hs0 hs1
      rw [← hy.out] at hs1 hyn HMAY HNX
      rw [← hx.out] at hs0 hxn HMAY HNX
      clear hid HP
      have hMl := hM.lt
      have hRl := hR.lt
      have HSD : Hid (slid W (hst W f g i) x y = hst W f g (i + 1)) := Lib.hid (by unfold slid; rw [HMAY.out, if_pos rfl, HNX.out])
      go_wp2
      go_region_with (go_at_call 43; refine (specSlideDo_any W D n (some ⟨G2, 0, none⟩) cG2 (hst W f g i) x y _ (by first | exact hallAt_own S HOK.out (own_keep HO.out (Below.refl _ _).drew) | exact hallAt_own S HOK.out (own_keep HO.out ((Below.refl _ _).drew.alloc (Nat.le_refl _) _))) hxn hyn true HMAY.out).mono ?_; rintro e w7 ⟨G3, cG3, rfl, hO7, hb7⟩; (first | (have hK7 : Whole w7 wr.heap.size 25 [.int .i64 0, .int .i64 0, .slice none 0 0] := (Whole.new wr.drew 25 [.int .i64 0, .int .i64 0, .slice none 0 0]).below hb7; have c0 := hK7.cell 0; have c1 := hK7.cell 1; have c2 := hK7.cell 2; have v0 := hK7.free 0; have v1 := hK7.free 1; have v2 := hK7.free 2; simp only [List.getElem?_cons_zero, List.getElem?_cons_succ] at c0 c1 c2) | skip))
      all_goals
        rw [HSD.out] at hO7
        have hG3l := hO7.lt G3 rfl
        first
        | (have hbA : Below wr.heap.size wr w7 := ((Below.refl _ _).drew.alloc (Nat.le_refl _) _).trans (hb7.mono (by simp))
           have hGK : wr.heap.size < G3 := (by have h1 := hG3l.1; simp at h1; omega)
           have hMA := ((((hM.below hbA).far (p := ⟨wr.heap.size, 0, none⟩) (by show M ≠ wr.heap.size; omega) (.int .i64 W)).far (p := ⟨wr.heap.size, 1, none⟩) (by show M ≠ wr.heap.size; omega) (.int .i64 D)).far (p := ⟨wr.heap.size, 2, none⟩) (by show M ≠ wr.heap.size; omega) (.slice (some ⟨G3, 0, none⟩) n cG3))
           have hRA := ((((hR.below hbA).far (p := ⟨wr.heap.size, 0, none⟩) (by show Q + 1 ≠ wr.heap.size; omega) (.int .i64 W)).far (p := ⟨wr.heap.size, 1, none⟩) (by show Q + 1 ≠ wr.heap.size; omega) (.int .i64 D)).far (p := ⟨wr.heap.size, 2, none⟩) (by show Q + 1 ≠ wr.heap.size; omega) (.slice (some ⟨G3, 0, none⟩) n cG3))
           have hOA := own_off (own_off (own_off (Joins.ownsRow_le hO7 (base' := w.heap.size) (by have := hB.size; simp; omega)) (p := ⟨wr.heap.size, 0, none⟩) (by show G3 ≠ wr.heap.size; omega) (.int .i64 W)) (p := ⟨wr.heap.size, 1, none⟩) (by show G3 ≠ wr.heap.size; omega) (.int .i64 D)) (p := ⟨wr.heap.size, 2, none⟩) (by show G3 ≠ wr.heap.size; omega) (.slice (some ⟨G3, 0, none⟩) n cG3)
           have hKA := ((hK7.set_ 0 (.int .i64 W)).set_ 1 (.int .i64 D)).set_ 2 (.slice (some ⟨G3, 0, none⟩) n cG3)
           have hBA := (((below_next hB hbA).setCell (p := ⟨wr.heap.size, 0, none⟩) hB.size (.int .i64 W)).setCell (p := ⟨wr.heap.size, 1, none⟩) hB.size (.int .i64 D)).setCell (p := ⟨wr.heap.size, 2, none⟩) hB.size (.slice (some ⟨G3, 0, none⟩) n cG3)
           clear c0 c1 c2 v0 v1 v2 hK7
           generalize ((w7.setCell ⟨wr.heap.size, 0, none⟩ (.int .i64 W)).setCell ⟨wr.heap.size, 1, none⟩ (.int .i64 D)).setCell ⟨wr.heap.size, 2, none⟩ (.slice (some ⟨G3, 0, none⟩) n cG3) = wz at *
           obtain ⟨K, hK⟩ : ∃ K, Hid (K = wr.heap.size) := ⟨_, rfl⟩
           rw [← hK.out] at hKA ⊢)
        | (have hbA : Below wr.heap.size wr w7 := (Below.refl _ _).drew.trans hb7
           have hwl := hbA.size
           have hMA := (hM.below hbA).alloc (.cells #[.int .i64 W, .int .i64 D, .slice (some ⟨G3, 0, none⟩) n cG3] 25)
           have hRA := (hR.below hbA).alloc (.cells #[.int .i64 W, .int .i64 D, .slice (some ⟨G3, 0, none⟩) n cG3] 25)
           have hOA := own_keep (Joins.ownsRow_le hO7 (base' := w.heap.size) hB.size) ((Below.refl w7.heap.size w7).alloc (Nat.le_refl _) (.cells #[.int .i64 W, .int .i64 D, .slice (some ⟨G3, 0, none⟩) n cG3] 25))
           have hKA := Whole.new w7 25 [.int .i64 W, .int .i64 D, .slice (some ⟨G3, 0, none⟩) n cG3]
           have hBA := (below_next hB hbA).alloc (below_next hB hbA).size (.cells #[.int .i64 W, .int .i64 D, .slice (some ⟨G3, 0, none⟩) n cG3] 25)
           generalize w7.alloc (.cells #[.int .i64 W, .int .i64 D, .slice (some ⟨G3, 0, none⟩) n cG3] 25) = wz at *
           obtain ⟨K, hK⟩ : ∃ K, Hid (K = w7.heap.size) := ⟨_, rfl⟩
           rw [← hK.out] at hKA ⊢)
        clear m0 m1 m2 hs0 hs1 hO7 hb7 hbA
        have k0 := hKA.cell 0
        have k1 := hKA.cell 1
        have k2 := hKA.cell 2
        have m0 := hMA.cell 0
        have m1 := hMA.cell 1
        have m2 := hMA.cell 2
        have g0 := hMA.free 0
        have g1 := hMA.free 1
        have g2 := hMA.free 2
        simp only [List.getElem?_cons_zero, List.getElem?_cons_succ] at k0 k1 k2 m0 m1 m2
        have hG3z : G3 < w7.heap.size := hG3l.2
        have hGM3 : G3 ≠ M := by have h1 := hG3l.1; simp at h1; omega
        have hGQ3 : G3 ≠ Q + 1 := by have h1 := hG3l.1; simp at h1; omega
        have hM8 := ((hMA.set_ 0 (.int .i64 W)).set_ 1 (.int .i64 D)).set_ 2 (.slice (some ⟨G3, 0, none⟩) n cG3)
        have hR8 := ((hRA.far (p := ⟨M, 0, none⟩) (by show Q + 1 ≠ M; omega) (.int .i64 W)).far (p := ⟨M, 1, none⟩) (by show Q + 1 ≠ M; omega) (.int .i64 D)).far (p := ⟨M, 2, none⟩) (by show Q + 1 ≠ M; omega) (.slice (some ⟨G3, 0, none⟩) n cG3)
        have hO8 := Lib.hid (own_off (own_off (own_off hOA (p := ⟨M, 0, none⟩) hGM3 (.int .i64 W)) (p := ⟨M, 1, none⟩) hGM3 (.int .i64 D)) (p := ⟨M, 2, none⟩) hGM3 (.slice (some ⟨G3, 0, none⟩) n cG3))
        have hB8 := ((hBA.setCell (p := ⟨M, 0, none⟩) hwM (.int .i64 W)).setCell (p := ⟨M, 1, none⟩) hwM (.int .i64 D)).setCell (p := ⟨M, 2, none⟩) hwM (.slice (some ⟨G3, 0, none⟩) n cG3)
        go_wp2
        go_roundw
        case rel => exact ⟨i + 1, G3, cG3, by omega, by go_num, hGM3, hGQ3, hM8, hR8, hO8, hB8⟩
        case measure => simp [intOf]; omega
    · obtain rfl : i = d := by omega
      have r0 := hR.cell 0
      have r1 := hR.cell 1
      have r2 := hR.cell 2
      have f0 := hR.free 0
      have f1 := hR.free 1
      have f2 := hR.free 2
      simp only [List.getElem?_cons_zero, List.getElem?_cons_succ] at r0 r1 r2
      have hRz := ((hR.set_ 0 (.int .i64 W)).set_ 1 (.int .i64 D)).set_ 2 (.slice (some ⟨G2, 0, none⟩) n cG2)
      have hOz := own_off (own_off (own_off HO.out (p := ⟨Q + 1, 0, none⟩) hGQ2 (.int .i64 W)) (p := ⟨Q + 1, 1, none⟩) hGQ2 (.int .i64 D)) (p := ⟨Q + 1, 2, none⟩) hGQ2 (.slice (some ⟨G2, 0, none⟩) n cG2)
      have hBz := ((hB.setCell (p := ⟨Q + 1, 0, none⟩) (by show w.heap.size ≤ Q + 1; omega) (.int .i64 W)).setCell (p := ⟨Q + 1, 1, none⟩) (by show w.heap.size ≤ Q + 1; omega) (.int .i64 D)).setCell (p := ⟨Q + 1, 2, none⟩) (by show w.heap.size ≤ Q + 1; omega) (.slice (some ⟨G2, 0, none⟩) n cG2)
      go_wp2
      generalize ((wr.setCell ⟨Q + 1, 0, none⟩ (.int .i64 W)).setCell ⟨Q + 1, 1, none⟩ (.int .i64 D)).setCell ⟨Q + 1, 2, none⟩ (.slice (some ⟨G2, 0, none⟩) n cG2) = wz at *
      have e0 : wz.cell? ⟨Q + 1, 0, none⟩ = some (.int .i64 W) := hRz.cell 0
      have e1 : wz.cell? ⟨Q + 1, 1, none⟩ = some (.int .i64 D) := hRz.cell 1
      have e2 : wz.cell? ⟨Q + 1, 2, none⟩ = some (.slice (some ⟨G2, 0, none⟩) n cG2) := hRz.cell 2
      exact bodyPost_ret (v := .tuple #[.agg #[.int .i64 W, .int .i64 D, .slice (some ⟨G2, 0, none⟩) n cG2], .int .i64 (i : Int)]) (by simp [results, Tryz.results24, go_sem, e0, e1, e2]) rfl ⟨G2, cG2, rfl, hOz, hBz⟩
end Go.Proofs.YtdebjcempkgeaaaGreatDoor
