/-
  StoreRun of the program.
-/
import Derived.Test.YtdebjcempkgeaaaDoorStoD
namespace Go.Proofs.YtdebjcempkgeaaaDoor
open Go.ChangeShapes Go.WideShapes Go.ChangeAt Go.RowKit

theorem stoP_ok {W D n : Nat} {g : List Int} (S : Shp W D n) (hg : g.length = n) (ok : hallB W D g = true) (id : Int) : hallB W D (stoP W D n g id).1 = true ∧ (stoP W D n g id).1.length = n ∧ -1 ≤ (stoP W D n g id).2 ∧ (stoP W D n g id).2 ≤ 5 := by
  unfold stoP
  cases h : nearL W (freeN g n) with
  | none => exact ⟨ok, hg, by simp, by simp⟩
  | some f =>
    have N := near_free h
    have hd := dN_le S N.lt
    dsimp only
    by_cases hp : putB W D (hst W f g (dN W f)) id = true
    · rw [if_pos hp]
      refine ⟨?_, by simp [hst_len, hg], by dsimp only; omega, by dsimp only; omega⟩
      unfold putB at hp
      rw [Bool.and_eq_true] at hp
      exact hp.2
    · rw [if_neg hp]; exact ⟨ok, hg, by simp, by simp⟩
/-- The hall after the first k cars. -/
def stk (W D n : Nat) (ids : List Int) (g : List Int) : Nat → List Int
  | 0 => g
  | k + 1 => (stoP W D n (stk W D n ids g k) (ids.getD k 0)).1
def stz (W D n : Nat) (ids : List Int) (g : List Int) (k : Nat) : Int := (stoP W D n (stk W D n ids g k) (ids.getD k 0)).2
theorem stk_ok {W D n : Nat} {g ids : List Int} (S : Shp W D n) (hg : g.length = n) (ok : hallB W D g = true) : ∀ k, hallB W D (stk W D n ids g k) = true ∧ (stk W D n ids g k).length = n
  | 0 => ⟨ok, hg⟩
  | k + 1 => by
    obtain ⟨h1, h2⟩ := stk_ok (ids := ids) S hg ok k
    obtain ⟨a, b, -⟩ := stoP_ok S h2 h1 (ids.getD k 0)
    exact ⟨a, b⟩
/-- k cars were stored, and the next one cannot be. -/
structure RunAt (W D n : Nat) (ids g : List Int) (k : Nat) : Prop where
  le : k ≤ ids.length
  yes : ∀ j, j < k → 0 ≤ stz W D n ids g j
  no : k < ids.length → stz W D n ids g k < 0
theorem RunAt.one {W D n : Nat} {ids g : List Int} {k k' : Nat} (h : RunAt W D n ids g k) (h' : RunAt W D n ids g k') : k = k' := by
  rcases Nat.lt_trichotomy k k' with hl | hl | hl
  · have h1 := h.no (Nat.lt_of_lt_of_le hl h'.le)
    have h2 := h'.yes k hl
    omega
  · exact hl
  · have h1 := h'.no (Nat.lt_of_lt_of_le hl h.le)
    have h2 := h.yes k' hl
    omega
def SRR (w : World) (W D n : Nat) (ids g : List Int) (e : Ending) (w' : World) : Prop :=
  ∃ k G c : Nat, Hid (RunAt W D n ids g k) ∧ e = .returned (.tuple #[.agg #[.int .i64 W, .int .i64 D, .slice (some ⟨G, 0, none⟩) n c], .int .i64 k]) ∧ w'.ownsRow w.heap.size 3 1 (.slice (some ⟨G, 0, none⟩) n c) n ((stk W D n ids g k).map (Value.int .i64)) ∧ Below w.heap.size w w'

set_option maxRecDepth 100000 in
set_option maxHeartbeats 8000000 in
theorem storeRun_any (W D n : Nat) (A : Option Addr) (c : Nat) (g : List Int) (IA : Option Addr) (m ic : Nat) (ids : List Int) (w : World) (h : HallAt w W D n A c g) (hI : IntsAt w IA m ids) (hm : m ≤ 1000) (hic : m ≤ ic) :
    Calls Tryd.prog 5 #[.agg #[.int .i64 W, .int .i64 D, .slice A n c], .slice IA m ic] w (SRR w W D n ids g) := by
  have hn := h.shp.n12
  have S := h.shp
  have hX1 := Whole.new w 25 [.int .i64 W, .int .i64 D, .slice A n c]
  have hX2 := hX1.alloc (.cells #[.int .i64 0, .int .i64 0, .slice none 0 0] 25)
  have hR2 : Whole ((w.alloc (.cells #[.int .i64 W, .int .i64 D, .slice A n c] 25)).alloc (.cells #[.int .i64 0, .int .i64 0, .slice none 0 0] 25)) (w.heap.size + 1) 25 [.int .i64 0, .int .i64 0, .slice none 0 0] := by
    have := Whole.new (w.alloc (.cells #[.int .i64 W, .int .i64 D, .slice A n c] 25)) 25 [.int .i64 0, .int .i64 0, .slice none 0 0]
    simpa using this
  have hB2 : Below w.heap.size w ((w.alloc (.cells #[.int .i64 W, .int .i64 D, .slice A n c] 25)).alloc (.cells #[.int .i64 0, .int .i64 0, .slice none 0 0] 25)) := ((Below.refl _ _).alloc (Nat.le_refl _) _).alloc (by simp) _
  have H := Lib.hid h
  have HGL := Lib.hid h.ints.len
  have HI := Lib.hid hI
  have HIL := Lib.hid hI.len
  clear h hX1 hI
  obtain ⟨Q, HQ⟩ : ∃ Q, Hid (Q = w.heap.size) := ⟨_, rfl⟩
  have hwQ : w.heap.size ≤ Q := Nat.le_of_eq HQ.out.symm
  go_enter Tryd.func5, Tryd.ntmps5
  go_wp2_with fail
  generalize (w.alloc (.cells #[.int .i64 W, .int .i64 D, .slice A n c] 25)).alloc (.cells #[.int .i64 0, .int .i64 0, .slice none 0 0] 25) = wa at *
  rw [← HQ.out] at hX2 hR2 ⊢
  refine (hallValid_any W D A n c g _ (by omega) (H.out.ints.below hB2)).mono ?_; rintro e w3 ⟨rfl, hb3⟩
  rw [H.out.ok]
  have hX3 := hX2.below hb3
  have hR3 := hR2.below hb3
  have hB3 := below_next hB2 hb3
  clear hX2 hR2 hB2 hb3
  have x0 := hX3.cell 0
  have x1 := hX3.cell 1
  have x2 := hX3.cell 2
  simp only [List.getElem?_cons_zero, List.getElem?_cons_succ] at x0 x1 x2
  go_wp2_with fail
  refine (copyHall_any W D n A c g _ (H.out.below hB3)).mono ?_; rintro e w4 ⟨G, cG, rfl, hO, hb4⟩
  have hR4 := (hR3.below hb4).alloc (.cells #[.int .i64 W, .int .i64 D, .slice (some ⟨G, 0, none⟩) n cG] 25)
  have hB4' := below_next hB3 hb4
  have hB4 := hB4'.alloc hB4'.size (.cells #[.int .i64 W, .int .i64 D, .slice (some ⟨G, 0, none⟩) n cG] 25)
  have hM4 := Whole.new w4 25 [.int .i64 W, .int .i64 D, .slice (some ⟨G, 0, none⟩) n cG]
  have hO4 := Joins.ownsRow_le (own_keep hO ((Below.refl w4.heap.size w4).alloc (Nat.le_refl _) (.cells #[.int .i64 W, .int .i64 D, .slice (some ⟨G, 0, none⟩) n cG] 25))) hB3.size
  obtain ⟨M, HM⟩ : ∃ M, Hid (M = w4.heap.size) := ⟨_, rfl⟩
  have hMQ : Q + 1 < M := by rw [HM.out]; exact (hR3.below hb4).lt
  have hwM : w.heap.size ≤ M := by rw [HM.out]; exact hB4'.size
  have hGM : G < M := by rw [HM.out]; exact (hO.lt G rfl).2
  have hGQ0 : G ≠ Q + 1 := by have h1 := (hO.lt G rfl).1; have h2 := hR3.lt; omega
  go_wp2
  rw [← HM.out] at hM4 ⊢
  clear hX3 hR3 hB3 hb4 hO hB4' x0 x1 x2
  generalize w4.alloc (.cells #[.int .i64 W, .int .i64 D, .slice (some ⟨G, 0, none⟩) n cG] 25) = w5 at *
  go_loopw [19] (fun t wr => ∃ i G cG : Nat, i ≤ m ∧ t = .int .i64 i ∧ G ≠ M ∧ G ≠ Q + 1 ∧ Whole wr M 25 [.int .i64 W, .int .i64 D, .slice (some ⟨G, 0, none⟩) n cG] ∧ Whole wr (Q + 1) 25 [.int .i64 0, .int .i64 0, .slice none 0 0] ∧ Hid (wr.ownsRow w.heap.size 3 1 (.slice (some ⟨G, 0, none⟩) n cG) n ((stk W D n ids g i).map (Value.int .i64))) ∧ Hid (∀ j, j < i → 0 ≤ stz W D n ids g j) ∧ Below w.heap.size w wr) (fun t _ => m - (intOf t).toNat)
  case atStart => exact ⟨0, G, cG, by omega, rfl, by omega, hGQ0, hM4, hR4, Lib.hid hO4, Lib.hid (fun j h => by omega), hB4⟩
  case round =>
    obtain ⟨i, G2, cG2, hi, rfl, hGM2, hGQ2, hM, hR, HO, HY, hB⟩ := hrel
    clear hM4 hR4 hO4 hB4
    have m0 : wr.cell? ⟨M, 0, none⟩ = some (.int .i64 W) := hM.cell 0
    have m1 : wr.cell? ⟨M, 1, none⟩ = some (.int .i64 D) := hM.cell 1
    have m2 : wr.cell? ⟨M, 2, none⟩ = some (.slice (some ⟨G2, 0, none⟩) n cG2) := hM.cell 2
    have hMl := hM.lt
    have hRl := hR.lt
    by_cases hlt : i < m
    · have HOK := Lib.hid (stk_ok (ids := ids) S HGL.out H.out.ok i)
      obtain ⟨id, ib, ioff, HX, hIA, hib, hic1⟩ := (HI.out.below hB).get hlt
      subst hIA
      have HID : Hid (ids.getD i 0 = id) := Lib.hid (by simp [HX.out])
      have HZ : Hid (stz W D n ids g i = (stoP W D n (stk W D n ids g i) id).2) := Lib.hid (by unfold stz; rw [HID.out])
      have HNX : Hid (stk W D n ids g (i + 1) = (stoP W D n (stk W D n ids g i) id).1) := Lib.hid (by rw [← HID.out]; rfl)
      have HF : Hid ((stoP W D n (stk W D n ids g i) id).2 < 0 → (stoP W D n (stk W D n ids g i) id).2 = -1) := Lib.hid (fun h => by have := (stoP_ok S HOK.out.2 HOK.out.1 id).2.2.1; omega)
      have hrange := (stoP_ok S HOK.out.2 HOK.out.1 id).2.2
      go_wp2_with fail
      refine (storeDo_any W D n (some ⟨G2, 0, none⟩) cG2 (stk W D n ids g i) id _ (hallAt_own S HOK.out.1 HO.out)).mono ?_; rintro e w7 ⟨G3, cG3, rfl, hO7, hb7⟩
      have hM7 := hM.below hb7
      have hR7 := hR.below hb7
      have hB7 := below_next hB hb7
      have HO7 := Lib.hid (own_keep HO.out hb7)
      have hG3 := hO7.lt G3 rfl
      rw [← HNX.out] at hO7
      rw [← HZ.out] at hrange ⊢
      obtain ⟨z, hz⟩ : ∃ z, Hid (z = stz W D n ids g i) := ⟨_, rfl⟩
      rw [← hz.out] at hrange ⊢
      clear m0 m1 m2 hb7 hic1
      have m0 := hM7.cell 0
      have m1 := hM7.cell 1
      have m2 := hM7.cell 2
      have hMl7 := hM7.lt
      have hRl7 := hR7.lt
      by_cases hz0 : z < 0
      · have HRA : Hid (RunAt W D n ids g i) := Lib.hid ⟨by rw [HIL.out]; omega, HY.out, fun _ => by rw [← hz.out]; exact hz0⟩
        have hzd : decide (z < 0) = true := by simpa using hz0
        have r0 := hR7.cell 0
        have r1 := hR7.cell 1
        have r2 := hR7.cell 2
        have f0 := hR7.free 0
        have f1 := hR7.free 1
        have f2 := hR7.free 2
        simp only [List.getElem?_cons_zero, List.getElem?_cons_succ] at r0 r1 r2 m0 m1 m2
        have hRz := (((hR7.set_ 0 (.int .i64 W)).set_ 1 (.int .i64 D)).set_ 2 (.slice (some ⟨G2, 0, none⟩) n cG2)).alloc (.cells #[.int .i64 W, .int .i64 D, .slice (some ⟨G3, 0, none⟩) n cG3] 25)
        have hOz := own_keep (own_off (own_off (own_off HO7.out (p := ⟨Q + 1, 0, none⟩) hGQ2 (.int .i64 W)) (p := ⟨Q + 1, 1, none⟩) hGQ2 (.int .i64 D)) (p := ⟨Q + 1, 2, none⟩) hGQ2 (.slice (some ⟨G2, 0, none⟩) n cG2)) ((Below.refl _ _).alloc (Nat.le_refl _) (.cells #[.int .i64 W, .int .i64 D, .slice (some ⟨G3, 0, none⟩) n cG3] 25))
        have hBy := ((hB7.setCell (p := ⟨Q + 1, 0, none⟩) (by show w.heap.size ≤ Q + 1; omega) (.int .i64 W)).setCell (p := ⟨Q + 1, 1, none⟩) (by show w.heap.size ≤ Q + 1; omega) (.int .i64 D)).setCell (p := ⟨Q + 1, 2, none⟩) (by show w.heap.size ≤ Q + 1; omega) (.slice (some ⟨G2, 0, none⟩) n cG2)
        have hBz := hBy.alloc hBy.size (.cells #[.int .i64 W, .int .i64 D, .slice (some ⟨G3, 0, none⟩) n cG3] 25)
        go_wp2
        generalize (((w7.setCell ⟨Q + 1, 0, none⟩ (.int .i64 W)).setCell ⟨Q + 1, 1, none⟩ (.int .i64 D)).setCell ⟨Q + 1, 2, none⟩ (.slice (some ⟨G2, 0, none⟩) n cG2)).alloc (.cells #[.int .i64 W, .int .i64 D, .slice (some ⟨G3, 0, none⟩) n cG3] 25) = wz at *
        have e0 : wz.cell? ⟨Q + 1, 0, none⟩ = some (.int .i64 W) := hRz.cell 0
        have e1 : wz.cell? ⟨Q + 1, 1, none⟩ = some (.int .i64 D) := hRz.cell 1
        have e2 : wz.cell? ⟨Q + 1, 2, none⟩ = some (.slice (some ⟨G2, 0, none⟩) n cG2) := hRz.cell 2
        exact bodyPost_ret (v := .tuple #[.agg #[.int .i64 W, .int .i64 D, (.slice (some ⟨G2, 0, none⟩) n cG2)], .int .i64 (i : Int)]) (by simp [results, Tryd.results5, go_sem, e0, e1, e2]) rfl ⟨i, G2, cG2, HRA, rfl, hOz, hBz⟩
      · have hzd : decide (z < 0) = false := by simpa using hz0
        have HY2 : Hid (∀ j, j < i + 1 → 0 ≤ stz W D n ids g j) := Lib.hid (fun j hj => by
          by_cases he : j = i
          · subst he; rw [← hz.out]; omega
          · exact HY.out j (by omega))
        have f0 := hM7.free 0
        have f1 := hM7.free 1
        have f2 := hM7.free 2
        simp only [List.getElem?_cons_zero, List.getElem?_cons_succ] at m0 m1 m2
        have hGM3 : G3 ≠ M := by omega
        have hGQ3 : G3 ≠ Q + 1 := by omega
        have hM8 := (((hM7.set_ 0 (.int .i64 W)).set_ 1 (.int .i64 D)).set_ 2 (.slice (some ⟨G3, 0, none⟩) n cG3)).alloc (.cells #[.int .i64 W, .int .i64 D, .slice (some ⟨G3, 0, none⟩) n cG3] 25)
        have hR8 := (((hR7.far (p := ⟨M, 0, none⟩) (by show Q + 1 ≠ M; omega) (.int .i64 W)).far (p := ⟨M, 1, none⟩) (by show Q + 1 ≠ M; omega) (.int .i64 D)).far (p := ⟨M, 2, none⟩) (by show Q + 1 ≠ M; omega) (.slice (some ⟨G3, 0, none⟩) n cG3)).alloc (.cells #[.int .i64 W, .int .i64 D, .slice (some ⟨G3, 0, none⟩) n cG3] 25)
        have hO8 := Lib.hid (own_keep (own_off (own_off (own_off (Joins.ownsRow_le hO7 hB.size) (p := ⟨M, 0, none⟩) hGM3 (.int .i64 W)) (p := ⟨M, 1, none⟩) hGM3 (.int .i64 D)) (p := ⟨M, 2, none⟩) hGM3 (.slice (some ⟨G3, 0, none⟩) n cG3)) ((Below.refl _ _).alloc (Nat.le_refl _) (.cells #[.int .i64 W, .int .i64 D, .slice (some ⟨G3, 0, none⟩) n cG3] 25)))
        have hBy := ((hB7.setCell (p := ⟨M, 0, none⟩) hwM (.int .i64 W)).setCell (p := ⟨M, 1, none⟩) hwM (.int .i64 D)).setCell (p := ⟨M, 2, none⟩) hwM (.slice (some ⟨G3, 0, none⟩) n cG3)
        have hB8 := hBy.alloc hBy.size (.cells #[.int .i64 W, .int .i64 D, .slice (some ⟨G3, 0, none⟩) n cG3] 25)
        go_wp2
        go_roundw
        case rel => exact ⟨i + 1, G3, cG3, by omega, by go_num, hGM3, hGQ3, hM8, hR8, hO8, HY2, hB8⟩
        case measure => simp [intOf]; omega
    · obtain rfl : i = m := by omega
      have HRA : Hid (RunAt W D n ids g i) := Lib.hid ⟨by rw [HIL.out]; exact Nat.le_refl _, HY.out, fun h => by rw [HIL.out] at h; omega⟩
      have r0 := hR.cell 0
      have r1 := hR.cell 1
      have r2 := hR.cell 2
      have f0 := hR.free 0
      have f1 := hR.free 1
      have f2 := hR.free 2
      simp only [List.getElem?_cons_zero, List.getElem?_cons_succ] at r0 r1 r2
      have hRz := ((hR.set_ 0 (.int .i64 W)).set_ 1 (.int .i64 D)).set_ 2 (.slice (some ⟨G2, 0, none⟩) n cG2)
      have hOz := own_off (own_off (own_off HO.out (p := ⟨Q + 1, 0, none⟩) hGQ2 (.int .i64 W)) (p := ⟨Q + 1, 1, none⟩) hGQ2 (.int .i64 D)) (p := ⟨Q + 1, 2, none⟩) hGQ2 (.slice (some ⟨G2, 0, none⟩) n cG2)
      have hBz := ((hB.setCell (p := ⟨Q + 1, 0, none⟩) (by show w.heap.size ≤ Q + 1; omega) (.int .i64 W)).setCell (p := ⟨Q + 1, 1, none⟩) (by show w.heap.size ≤ Q + 1; omega) (.int .i64 D)).setCell (p := ⟨Q + 1, 2, none⟩) (by show w.heap.size ≤ Q + 1; omega) (.slice (some ⟨G2, 0, none⟩) n cG2)
      go_wp2
      generalize ((wr.setCell ⟨Q + 1, 0, none⟩ (.int .i64 W)).setCell ⟨Q + 1, 1, none⟩ (.int .i64 D)).setCell ⟨Q + 1, 2, none⟩ (.slice (some ⟨G2, 0, none⟩) n cG2) = wz at *
      have e0 : wz.cell? ⟨Q + 1, 0, none⟩ = some (.int .i64 W) := hRz.cell 0
      have e1 : wz.cell? ⟨Q + 1, 1, none⟩ = some (.int .i64 D) := hRz.cell 1
      have e2 : wz.cell? ⟨Q + 1, 2, none⟩ = some (.slice (some ⟨G2, 0, none⟩) n cG2) := hRz.cell 2
      exact bodyPost_ret (v := .tuple #[.agg #[.int .i64 W, .int .i64 D, (.slice (some ⟨G2, 0, none⟩) n cG2)], .int .i64 (i : Int)]) (by simp [results, Tryd.results5, go_sem, e0, e1, e2]) rfl ⟨i, G2, cG2, HRA, rfl, hOz, hBz⟩
end Go.Proofs.YtdebjcempkgeaaaDoor
