/-
  doAll of the program along the slides that make the gate free.
-/
import Derived.Test.YtdebjcempkgeaaaGreatDoorClearI
namespace Go.Proofs.YtdebjcempkgeaaaGreatDoor
open Go.ChangeShapes Go.WideShapes Go.ChangeAt Go.RowKit

theorem hst_hall {W D n f i : Nat} {g : List Int} (S : Shp W D n) (hg : g.length = n) (ok : hallB W D g = true) (N : Near W n g f) (hi : i ≤ dN W f) : hallB W D (hst W f g i) = true :=
  hallB_perm (hst_ok S hg N i hi).2.2.symm ok
theorem hst_may {W D n f i : Nat} {g : List Int} (S : Shp W D n) (hg : g.length = n) (ok : hallB W D g = true) (N : Near W n g f) (hi : i < dN W f) : mayB W (hst W f g i) (pcN W f (i + 1)) (pcN W f i) = true := by
  obtain ⟨z, h1, h2, h3⟩ := hst_car S hg N hi
  have h4 := (hst_ok S hg N i (by omega)).1
  have h5 := (pcN_step S N.lt hi).2
  have h6 := (hallB_iff.1 ok).2.1 z (List.mem_of_getElem? h3)
  unfold mayB
  simp only [List.getD_eq_getElem?_getD, h1, h4, Option.getD_some, Bool.and_eq_true, decide_eq_true_eq]
  exact ⟨⟨h5, by omega⟩, trivial⟩
theorem hallAt_own {w : World} {W D n G c base : Nat} {g : List Int} (S : Shp W D n) (ok : hallB W D g = true) (h : w.ownsRow base 3 1 (.slice (some ⟨G, 0, none⟩) n c) n (g.map (Value.int .i64))) : HallAt w W D n (some ⟨G, 0, none⟩) c g :=
  ⟨S, (ints_own h).1, by have := (ints_own h).2; unfold maxLen at this; omega, ok⟩

set_option maxRecDepth 100000 in
set_option maxHeartbeats 8000000 in
theorem doAll_any (W D n : Nat) (A : Option Addr) (c : Nat) (g : List Int) (f : Nat) (SA : Option Addr) (sc : Nat) (w : World) (h : HallAt w W D n A c g) (N : Near W n g f) (hS : SlidesAt w SA (dN W f) (slW W f (dN W f))) (hsc : dN W f ≤ sc ∧ sc ≤ maxLen) :
    Calls Tryz.prog 20 #[.agg #[.int .i64 W, .int .i64 D, .slice A n c], .slice SA (dN W f) sc] w (HRes w W D n (hst W f g (dN W f))) := by
  have hn := h.shp.n12
  have S := h.shp
  unfold maxLen at hsc
  have hX1 := Whole.new w 25 [.int .i64 W, .int .i64 D, .slice A n c]
  have hX2 := hX1.alloc (.cells #[.int .i64 0, .int .i64 0, .slice none 0 0] 25)
  have hR2 : Whole ((w.alloc (.cells #[.int .i64 W, .int .i64 D, .slice A n c] 25)).alloc (.cells #[.int .i64 0, .int .i64 0, .slice none 0 0] 25)) (w.heap.size + 1) 25 [.int .i64 0, .int .i64 0, .slice none 0 0] := by
    have := Whole.new (w.alloc (.cells #[.int .i64 W, .int .i64 D, .slice A n c] 25)) 25 [.int .i64 0, .int .i64 0, .slice none 0 0]
    simpa using this
  have hB2 : Below w.heap.size w ((w.alloc (.cells #[.int .i64 W, .int .i64 D, .slice A n c] 25)).alloc (.cells #[.int .i64 0, .int .i64 0, .slice none 0 0] 25)) := ((Below.refl _ _).alloc (Nat.le_refl _) _).alloc (by simp) _
  have H := Lib.hid h
  have HN := Lib.hid N
  have HSA := Lib.hid hS
  have HGL := Lib.hid h.ints.len
  obtain ⟨d, hd⟩ : ∃ d, Hid (d = dN W f) := ⟨_, rfl⟩
  have hd5 : d ≤ 5 := by rw [hd.out]; exact dN_le S N.lt
  rw [← hd.out] at hsc HSA ⊢
  clear h N hS hX1
  obtain ⟨Q, HQ⟩ : ∃ Q, Hid (Q = w.heap.size) := ⟨_, rfl⟩
  go_enter Tryz.func20, Tryz.ntmps20
  go_wp2_with fail
  generalize (w.alloc (.cells #[.int .i64 W, .int .i64 D, .slice A n c] 25)).alloc (.cells #[.int .i64 0, .int .i64 0, .slice none 0 0] 25) = wa at *
  rw [← HQ.out] at hX2 hR2 ⊢
  refine (copyHall_any W D n A c g _ (H.out.below hB2)).mono ?_; rintro e w4 ⟨G, cG, rfl, hO, hb4⟩
  have hR4 := (hR2.below hb4).alloc (.cells #[.int .i64 W, .int .i64 D, .slice (some ⟨G, 0, none⟩) n cG] 25)
  have hB4' := below_next hB2 hb4
  have hB4 := hB4'.alloc hB4'.size (.cells #[.int .i64 W, .int .i64 D, .slice (some ⟨G, 0, none⟩) n cG] 25)
  have hM4 := Whole.new w4 25 [.int .i64 W, .int .i64 D, .slice (some ⟨G, 0, none⟩) n cG]
  have hO4 := Joins.ownsRow_le (own_keep hO ((Below.refl w4.heap.size w4).alloc (Nat.le_refl _) (.cells #[.int .i64 W, .int .i64 D, .slice (some ⟨G, 0, none⟩) n cG] 25))) hB2.size
  obtain ⟨M, HM⟩ : ∃ M, Hid (M = w4.heap.size) := ⟨_, rfl⟩
  have hMQ : Q + 1 < M := by rw [HM.out]; exact (hR2.below hb4).lt
  have hwM : w.heap.size ≤ M := by rw [HM.out]; exact hB4'.size
  have hGM : G < M := by rw [HM.out]; exact (hO.lt G rfl).2
  have hwQ : w.heap.size ≤ Q := Nat.le_of_eq HQ.out.symm
  have hGQ0 : G ≠ Q + 1 := by have h1 := (hO.lt G rfl).1; have h2 := hR2.lt; omega
  go_wp2
  rw [← HM.out] at hM4 ⊢
  clear hX2 hR2 hB2 hb4 hO hB4'
  generalize w4.alloc (.cells #[.int .i64 W, .int .i64 D, .slice (some ⟨G, 0, none⟩) n cG] 25) = w5 at *
  go_loopw [12] (fun t wr => ∃ i G cG : Nat, i ≤ d ∧ t = .int .i64 i ∧ G ≠ M ∧ G ≠ Q + 1 ∧ Whole wr M 25 [.int .i64 W, .int .i64 D, .slice (some ⟨G, 0, none⟩) n cG] ∧ Whole wr (Q + 1) 25 [.int .i64 0, .int .i64 0, .slice none 0 0] ∧ Hid (wr.ownsRow w.heap.size 3 1 (.slice (some ⟨G, 0, none⟩) n cG) n ((hst W f g i).map (Value.int .i64))) ∧ Below w.heap.size w wr) (fun t _ => d - (intOf t).toNat)
  case atStart => exact ⟨0, G, cG, by omega, rfl, by omega, hGQ0, hM4, hR4, Lib.hid hO4, hB4⟩
  case round =>
    obtain ⟨i, G2, cG2, hi, rfl, hGM2, hGQ2, hM, hR, HO, hB⟩ := hrel
    clear hM4 hR4 hO4 hB4
    have m0 : wr.cell? ⟨M, 0, none⟩ = some (.int .i64 W) := hM.cell 0
    have m1 : wr.cell? ⟨M, 1, none⟩ = some (.int .i64 D) := hM.cell 1
    have m2 : wr.cell? ⟨M, 2, none⟩ = some (.slice (some ⟨G2, 0, none⟩) n cG2) := hM.cell 2
    by_cases hlt : i < d
    · have hid : i < dN W f := by rw [← hd.out]; exact hlt
      have HMAY := Lib.hid (hst_may S HGL.out H.out.ok HN.out hid)
      have HOK := Lib.hid (hst_hall S HGL.out H.out.ok HN.out (Nat.le_of_lt hid))
      have hyn := (pcN_ok S HN.out.lt i (by omega)).1
      have hxn := (pcN_ok S HN.out.lt (i + 1) (by omega)).1
      obtain ⟨p, sb, soff, HP, hSA, hsb, hs0, hs1⟩ := (HSA.out.below hB).get hlt
      subst hSA
      have hp : p = (pcN W f (i + 1), pcN W f i) := by have h1 := HP.out; rw [slW_get (by rw [hd.out] at hlt ⊢; exact hlt)] at h1; injection h1 with h1; exact h1.symm
      subst hp
      have HNX : Hid (hst W f g (i + 1) = mv (hst W f g i) (pcN W f i) (pcN W f (i + 1))) := Lib.hid rfl
      obtain ⟨y, hy⟩ : ∃ y, Hid (y = pcN W f i) := ⟨_, rfl⟩
      obtain ⟨x, hx⟩ : ∃ x, Hid (x = pcN W f (i + 1)) := ⟨_, rfl⟩
      dsimp only at hs0 hs1
      rw [← hy.out] at hs1 hyn HMAY HNX
      rw [← hx.out] at hs0 hxn HMAY HNX
      clear hid HP
      have hMl := hM.lt
      have hRl := hR.lt
      have hMs := hM.alloc (.cells #[.int .i64 (x : Int), .int .i64 (y : Int)] 62)
      have hRs := hR.alloc (.cells #[.int .i64 (x : Int), .int .i64 (y : Int)] 62)
      have hBs := hB.alloc hB.size (.cells #[.int .i64 (x : Int), .int .i64 (y : Int)] 62)
      have HOs := Lib.hid (own_keep HO.out ((Below.refl wr.heap.size wr).alloc (Nat.le_refl _) (.cells #[.int .i64 (x : Int), .int .i64 (y : Int)] 62)))
      go_wp2_with fail
      generalize wr.alloc (.cells #[.int .i64 (x : Int), .int .i64 (y : Int)] 62) = wb at *
      refine (slideDo_yes W D n (some ⟨G2, 0, none⟩) cG2 (hst W f g i) x y _ (hallAt_own S HOK.out HOs.out) hxn hyn HMAY.out).mono ?_; rintro e w7 ⟨G3, cG3, rfl, hO7, hb7⟩
      have hM7 := hMs.below hb7
      have hR7 := hRs.below hb7
      have hB7 := below_next hBs hb7
      have hG3 := hO7.lt G3 rfl
      have hMlt := hMs.lt
      have hRlt := hRs.lt
      have k0 := hM7.cell 0
      have k1 := hM7.cell 1
      have k2 := hM7.cell 2
      have f0 := hM7.free 0
      have f1 := hM7.free 1
      have f2 := hM7.free 2
      simp only [List.getElem?_cons_zero, List.getElem?_cons_succ] at k0 k1 k2
      have hM8 := ((hM7.set_ 0 (.int .i64 W)).set_ 1 (.int .i64 D)).set_ 2 (.slice (some ⟨G3, 0, none⟩) n cG3)
      have hR8 := ((hR7.far (p := ⟨M, 0, none⟩) (by show Q + 1 ≠ M; omega) (.int .i64 W)).far (p := ⟨M, 1, none⟩) (by show Q + 1 ≠ M; omega) (.int .i64 D)).far (p := ⟨M, 2, none⟩) (by show Q + 1 ≠ M; omega) (.slice (some ⟨G3, 0, none⟩) n cG3)
      have hGM3 : G3 ≠ M := by omega
      have hO8 := own_off (own_off (own_off hO7 (p := ⟨M, 0, none⟩) hGM3 (.int .i64 W)) (p := ⟨M, 1, none⟩) hGM3 (.int .i64 D)) (p := ⟨M, 2, none⟩) hGM3 (.slice (some ⟨G3, 0, none⟩) n cG3)
      have hB8 := ((hB7.setCell (p := ⟨M, 0, none⟩) hwM (.int .i64 W)).setCell (p := ⟨M, 1, none⟩) hwM (.int .i64 D)).setCell (p := ⟨M, 2, none⟩) hwM (.slice (some ⟨G3, 0, none⟩) n cG3)
      have HO9 : Hid ((((w7.setCell ⟨M, 0, none⟩ (.int .i64 W)).setCell ⟨M, 1, none⟩ (.int .i64 D)).setCell ⟨M, 2, none⟩ (.slice (some ⟨G3, 0, none⟩) n cG3)).ownsRow w.heap.size 3 1 (.slice (some ⟨G3, 0, none⟩) n cG3) n ((hst W f g (i + 1)).map (Value.int .i64))) := Lib.hid (by rw [HNX.out]; exact Joins.ownsRow_le hO8 hBs.size)
      clear hO7 hO8 hb7 m0 m1 m2 hs0 hs1
      go_wp2
      go_roundw
      case rel => exact ⟨i + 1, G3, cG3, by omega, by go_num, hGM3, by omega, hM8, hR8, HO9, hB8⟩
      case measure => simp [intOf]; omega
    · obtain rfl : i = d := by omega
      have r0 := hR.cell 0
      have r1 := hR.cell 1
      have r2 := hR.cell 2
      have f0 := hR.free 0
      have f1 := hR.free 1
      have f2 := hR.free 2
      simp only [List.getElem?_cons_zero, List.getElem?_cons_succ] at r0 r1 r2
      have hRz := ((hR.set_ 0 (.int .i64 W)).set_ 1 (.int .i64 D)).set_ 2 (.slice (some ⟨G2, 0, none⟩) n cG2)
      have hOz := own_off (own_off (own_off HO.out (p := ⟨Q + 1, 0, none⟩) hGQ2 (.int .i64 W)) (p := ⟨Q + 1, 1, none⟩) hGQ2 (.int .i64 D)) (p := ⟨Q + 1, 2, none⟩) hGQ2 (.slice (some ⟨G2, 0, none⟩) n cG2)
      have hBz := ((hB.setCell (p := ⟨Q + 1, 0, none⟩) (by show w.heap.size ≤ Q + 1; omega) (.int .i64 W)).setCell (p := ⟨Q + 1, 1, none⟩) (by show w.heap.size ≤ Q + 1; omega) (.int .i64 D)).setCell (p := ⟨Q + 1, 2, none⟩) (by show w.heap.size ≤ Q + 1; omega) (.slice (some ⟨G2, 0, none⟩) n cG2)
      go_wp2
      generalize ((wr.setCell ⟨Q + 1, 0, none⟩ (.int .i64 W)).setCell ⟨Q + 1, 1, none⟩ (.int .i64 D)).setCell ⟨Q + 1, 2, none⟩ (.slice (some ⟨G2, 0, none⟩) n cG2) = wz at *
      have e0 : wz.cell? ⟨Q + 1, 0, none⟩ = some (.int .i64 W) := hRz.cell 0
      have e1 : wz.cell? ⟨Q + 1, 1, none⟩ = some (.int .i64 D) := hRz.cell 1
      have e2 : wz.cell? ⟨Q + 1, 2, none⟩ = some (.slice (some ⟨G2, 0, none⟩) n cG2) := hRz.cell 2
      exact bodyPost_ret (v := .agg #[.int .i64 W, .int .i64 D, .slice (some ⟨G2, 0, none⟩) n cG2]) (by simp [results, Tryz.results20, go_sem, e0, e1, e2]) rfl ⟨G2, cG2, rfl, hOz, hBz⟩
end Go.Proofs.YtdebjcempkgeaaaGreatDoor
