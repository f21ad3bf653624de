/-
  l2Way and HoleSlides of the reference along the way of a nearest free cell.
-/
import Derived.Test.YtdebjcempkgeaaaGreatDoorDoAll
import Derived.BigRegion
namespace Go.Proofs.YtdebjcempkgeaaaGreatDoor
open Go.ChangeShapes Go.WideShapes Go.ChangeAt Go.RowKit

set_option maxRecDepth 100000 in
set_option maxHeartbeats 8000000 in
theorem l2Way_any (W D n : Nat) (A : Option Addr) (c : Nat) (g : List Int) (f : Nat) (P : Option Addr) (cP : Nat) (w : World) (h : HallAt w W D n A c g) (N : Near W n g f) (hP : IntsAt w P (dN W f + 1) (wayI W f (dN W f + 1))) (hcP : dN W f + 1 ≤ cP ∧ cP ≤ 9223372036854775807) :
    Calls Tryz.prog 60 #[.agg #[.int .i64 W, .int .i64 D, .slice A n c], .slice P (dN W f + 1) cP] w (RV w (.bool true)) := by
  have hn := h.shp.n12
  have S := h.shp
  have hX1 := Whole.new w 25 [.int .i64 W, .int .i64 D, .slice A n c]
  have hB1 : Below w.heap.size w (w.alloc (.cells #[.int .i64 W, .int .i64 D, .slice A n c] 25)) := (Below.refl _ _).alloc (Nat.le_refl _) _
  have H := Lib.hid h
  have HPP := Lib.hid hP
  have HN := Lib.hid N
  have hfn := N.lt
  obtain ⟨d, hd⟩ : ∃ d, Hid (d = dN W f) := ⟨_, rfl⟩
  have hd5 : d ≤ 5 := by rw [hd.out]; exact dN_le S hfn
  rw [← hd.out] at HPP hcP ⊢
  have hl := h.ints.len
  clear h hP N
  have HGL := Lib.hid hl
  clear hl
  obtain ⟨Q, HQ⟩ : ∃ Q, Hid (Q = w.heap.size) := ⟨_, rfl⟩
  obtain ⟨y0, b, off, HY, rfl, hbl, hpc0⟩ := (HPP.out.below hB1).get (k := 0) (by omega)
  obtain rfl : y0 = (f : Int) := by have h1 := HY.out; rw [wayI_get (by omega)] at h1; injection h1 with h1; exact h1.symm
  obtain ⟨z0, b2, off2, HZ, rfl, hbl2, hgc0⟩ := (H.out.below hB1).ints.get hfn
  obtain rfl : z0 = 0 := by have h1 := HZ.out; rw [HN.out.free] at h1; injection h1 with h1; exact h1.symm
  simp only [Nat.add_zero] at hpc0
  go_enter Tryz.func60, Tryz.ntmps60
  go_wp2
  rw [← HQ.out] at hX1 ⊢
  generalize w.alloc (.cells #[.int .i64 W, .int .i64 D, .slice (some ⟨b2, off2, none⟩) n c] 25) = w1 at *
  clear hpc0 hgc0 HY HZ hbl hbl2
  go_loopw [5] (fun t wr => ∃ j : Nat, j ≤ d ∧ t = .int .i64 ((j : Int) + 1) ∧ Whole wr Q 25 [.int .i64 W, .int .i64 D, .slice (some ⟨b2, off2, none⟩) n c] ∧ Below w.heap.size w wr) (fun t _ => d + 1 - (intOf t).toNat)
  case atStart => exact ⟨0, by omega, rfl, hX1, hB1⟩
  case round =>
    obtain ⟨j, hj, rfl, hX, hB⟩ := hrel
    clear hX1 hB1
    by_cases hlt : j < d
    · have hjd : j < dN W f := by rw [← hd.out]; exact hlt
      obtain ⟨hst1, hst2⟩ := pcN_step S hfn hjd
      have hyn := (pcN_ok S hfn j (by omega)).1
      have hxn := (pcN_ok S hfn (j + 1) (by omega)).1
      obtain ⟨py, hbl⟩ := (HPP.out.below hB).at_ (wayI_get (W := W) (c := f) (show j < d + 1 by omega))
      obtain ⟨px, -⟩ := (HPP.out.below hB).at_ (wayI_get (W := W) (c := f) (show j + 1 < d + 1 by omega))
      obtain ⟨y, hy⟩ : ∃ y, Hid (y = pcN W f j) := ⟨_, rfl⟩
      obtain ⟨x, hx⟩ : ∃ x, Hid (x = pcN W f (j + 1)) := ⟨_, rfl⟩
      rw [← hy.out, ← hx.out] at hst1
      rw [← hy.out] at py hyn
      rw [← hx.out] at px hxn
      have HST := Lib.hid hst1
      have x0 : wr.cell? ⟨Q, 0, none⟩ = some (.int .i64 W) := hX.cell 0
      have x1 : wr.cell? ⟨Q, 1, none⟩ = some (.int .i64 D) := hX.cell 1
      have x2 : wr.cell? ⟨Q, 2, none⟩ = some (.slice (some ⟨b2, off2, none⟩) n c) := hX.cell 2
      have hs1 : IntKind.i64.wrap (j : Int) = (j : Int) := IntWalk.i64_in _ (by omega)
      have hs2 : ((j : Int) + 1 - 1) = (j : Int) := by omega
      have hs4 : (j : Int) < (d : Int) + 1 := by omega
      have hs5 : (j : Int) < (d : Int) := by omega
      have hs6 : (j : Int) + 1 < (d : Int) + 1 := by omega
      have hs7 : (0 : Int) ≤ (j : Int) + 1 := by omega
      have hs3 : ((j : Int) + 1).toNat = j + 1 := by omega
      clear hst1 hst2 hjd
      go_wp2
      refine wp_region_held_drew (S := (fun w' => w'.cell? ⟨Q, 0, none⟩ = some (.int .i64 W) ∧ w'.cell? ⟨Q, 1, none⟩ = some (.int .i64 D) ∧ w'.cell? ⟨Q, 2, none⟩ = some (.slice (some ⟨b2, off2, none⟩) n c) ∧ w'.cell? ⟨b, off + j, none⟩ = some (.int .i64 (y : Int)) ∧ w'.cell? ⟨b, off + (j + 1), none⟩ = some (.int .i64 (x : Int)))) (by kernel_rfl) ?_ (fun hHeld => ?_)
      · (try dsimp only); (first | exact ⟨x0, x1, x2, py, px⟩ | exact ⟨hX7.cell 0, hX7.cell 1, hX7.cell 2, (hb7.cell (p := ⟨b, off + j, none⟩) hbl).trans py, (hb7.cell (p := ⟨b, off + (j + 1), none⟩) hbl).trans px⟩)
      refine wpAnyH_take (i := 0) (v := ?vq1_0_1) (by simp only [List.getElem?_toArray, List.getElem?_cons_zero]; rfl) (by kernel_rfl) (by kernel_rfl) (by kernel_rfl) (by exact fun _ _ _ h => h) (Or.inl ⟨by rfl, ?hq1_0_1⟩) hHeld ?rq1_0_1
      case hq1_0_1 => (intro w hSw; (try dsimp only at hSw); go_simp; (try with_reducible rfl))
      try simp only [put_laws]
      refine wpAnyH_take (i := 1) (v := ?vq1_1_2) (by simp only [List.getElem?_toArray, List.getElem?_cons_succ, List.getElem?_cons_zero]; rfl) (by kernel_rfl) (by kernel_rfl) (by kernel_rfl) (by exact fun _ _ _ h => h) (Or.inl ⟨by rfl, ?hq1_1_2⟩) hHeld ?rq1_1_2
      case hq1_1_2 => (intro w hSw; (try dsimp only at hSw); go_simp; (try with_reducible rfl))
      try simp only [put_laws]
      refine wpAnyH_take (i := 2) (v := ?vq1_2_3) (by simp only [List.getElem?_toArray, List.getElem?_cons_succ, List.getElem?_cons_zero]; rfl) (by kernel_rfl) (by kernel_rfl) (by kernel_rfl) (by exact fun _ _ _ h => h) (Or.inl ⟨by rfl, ?hq1_2_3⟩) hHeld ?rq1_2_3
      case hq1_2_3 => (intro w hSw; (try dsimp only at hSw); go_simp; (try with_reducible rfl))
      try simp only [put_laws]
      refine wpAnyH_take (i := 3) (v := ?vq1_3_4) (by simp only [List.getElem?_toArray, List.getElem?_cons_succ, List.getElem?_cons_zero]; rfl) (by kernel_rfl) (by kernel_rfl) (by kernel_rfl) (by exact fun _ _ _ h => h) (Or.inl ⟨by rfl, ?hq1_3_4⟩) hHeld ?rq1_3_4
      case hq1_3_4 => (intro w hSw; (try dsimp only at hSw); go_simp; (try with_reducible rfl))
      try simp only [put_laws]
      refine wpAnyH_take (i := 4) (v := ?vq1_4_5) (by simp only [List.getElem?_toArray, List.getElem?_cons_succ, List.getElem?_cons_zero]; rfl) (by kernel_rfl) (by kernel_rfl) (by kernel_rfl) (by exact fun _ _ _ h => h) (Or.inl ⟨by rfl, ?hq1_4_5⟩) hHeld ?rq1_4_5
      case hq1_4_5 => (intro w hSw; (try dsimp only at hSw); go_simp; (try with_reducible rfl))
      try simp only [put_laws]
      refine wpAnyH_take (i := 5) (v := ?vq1_5_6) (by simp only [List.getElem?_toArray, List.getElem?_cons_succ, List.getElem?_cons_zero]; rfl) (by kernel_rfl) (by kernel_rfl) (by kernel_rfl) (by exact fun _ _ _ h => h) (Or.inl ⟨by rfl, ?hq1_5_6⟩) hHeld ?rq1_5_6
      case hq1_5_6 => (intro w hSw; (try dsimp only at hSw); go_simp; (try with_reducible rfl))
      try simp only [put_laws]
      refine wpAnyH_take (i := 6) (v := ?vq1_6_7) (by simp only [List.getElem?_toArray, List.getElem?_cons_succ, List.getElem?_cons_zero]; rfl) (by kernel_rfl) (by kernel_rfl) (by kernel_rfl) (by exact fun _ _ _ h => h) (Or.inl ⟨by rfl, ?hq1_6_7⟩) hHeld ?rq1_6_7
      case hq1_6_7 => (intro w hSw; (try dsimp only at hSw); go_simp; (try with_reducible rfl))
      try simp only [put_laws]
      refine wpAnyH_take (i := 7) (v := ?vq1_7_8) (by simp only [List.getElem?_toArray, List.getElem?_cons_succ, List.getElem?_cons_zero]; rfl) (by kernel_rfl) (by kernel_rfl) (by kernel_rfl) (by exact fun _ _ _ h => h) (Or.inl ⟨by rfl, ?hq1_7_8⟩) hHeld ?rq1_7_8
      case hq1_7_8 => (intro w hSw; (try dsimp only at hSw); go_simp; (try with_reducible rfl))
      try simp only [put_laws]
      refine wpAnyH_take (i := 8) (v := ?vq1_8_9) (by simp only [List.getElem?_toArray, List.getElem?_cons_succ, List.getElem?_cons_zero]; rfl) (by kernel_rfl) (by kernel_rfl) (by kernel_rfl) (by exact fun _ _ _ h => h) (Or.inl ⟨by rfl, ?hq1_8_9⟩) hHeld ?rq1_8_9
      case hq1_8_9 => (intro w hSw; (try dsimp only at hSw); go_simp; (try with_reducible rfl))
      try simp only [put_laws]
      refine wpAnyH_take (i := 9) (v := ?vq1_9_10) (by simp only [List.getElem?_toArray, List.getElem?_cons_succ, List.getElem?_cons_zero]; rfl) (by kernel_rfl) (by kernel_rfl) (by kernel_rfl) (by exact fun _ _ _ h => h) (Or.inl ⟨by rfl, ?hq1_9_10⟩) hHeld ?rq1_9_10
      case hq1_9_10 => (intro w hSw; (try dsimp only at hSw); go_simp; (try with_reducible rfl))
      try simp only [put_laws]
      refine wpAnyH_ready (rs := [10]) (by kernel_rfl) (by simp) ?_
      refine AllReadyH.cons (by simp only [List.getElem?_toArray, List.getElem?_cons_succ, List.getElem?_cons_zero]; rfl) (fun K hK => ?_) AllReadyH.nil
      go_simp
      (refine (specCellsApart_any W D n (some ⟨b2, off2, none⟩) c g y x _ (H.out.below hB.drew) hyn hxn).mono ?_; rintro e w7 ⟨rfl, hb7⟩; rw [HST.out]; have hX7 := (Whole.drew hX).below hb7; have hB7 := below_next hB.drew hb7)
      refine hK.out _ _ ?_ (fun hHeld => ?_)
      · (try dsimp only); (first | exact ⟨x0, x1, x2, py, px⟩ | exact ⟨hX7.cell 0, hX7.cell 1, hX7.cell 2, (hb7.cell (p := ⟨b, off + j, none⟩) hbl).trans py, (hb7.cell (p := ⟨b, off + (j + 1), none⟩) hbl).trans px⟩)
      clear hK K
      try simp only [put_laws]
      refine wpAnyH_take (i := 11) (v := ?vq1_11_12) (by simp only [List.getElem?_toArray, List.getElem?_cons_succ, List.getElem?_cons_zero]; rfl) (by kernel_rfl) (by kernel_rfl) (by kernel_rfl) (by exact fun _ _ _ h => h) (Or.inl ⟨by rfl, ?hq1_11_12⟩) hHeld ?rq1_11_12
      case hq1_11_12 => (intro w hSw; (try dsimp only at hSw); go_simp; (try with_reducible rfl))
      try simp only [put_laws]
      refine wpAnyH_done (by kernel_rfl) ?_ _
      clear hHeld x0 x1 x2 py px hs1 hs2 hs3
      go_wp2
      go_roundw
      case rel => exact ⟨j + 1, by omega, by go_num, hX7, hB7⟩
      case measure => simp [intOf]; omega
    · obtain rfl : j = d := by omega
      have x0 : wr.cell? ⟨Q, 0, none⟩ = some (.int .i64 W) := hX.cell 0
      have x1 : wr.cell? ⟨Q, 1, none⟩ = some (.int .i64 D) := hX.cell 1
      have x2 : wr.cell? ⟨Q, 2, none⟩ = some (.slice (some ⟨b2, off2, none⟩) n c) := hX.cell 2
      obtain ⟨py, hbl⟩ := (HPP.out.below hB).at_ (wayI_get (W := W) (c := f) (show 0 < j + 1 by omega))
      have py' : wr.cell? ⟨b, off, none⟩ = some (.int .i64 (f : Int)) := py
      clear py
      have hd0 : decide ((0 : Int) < (j : Int) + 1) = true := decide_eq_true (by omega)
      have hsn : IntKind.i64.wrap ((n : Int) - 1) = (n : Int) - 1 := IntWalk.i64_in _ (by omega)
      have hin : (decide ((0 : Int) ≤ (f : Int)) && decide ((f : Int) ≤ (n : Int) - 1)) = true := by simp; omega
      go_wp2
      refine wp_region_held_drew (S := (fun w' => w'.cell? ⟨Q, 0, none⟩ = some (.int .i64 W) ∧ w'.cell? ⟨Q, 1, none⟩ = some (.int .i64 D) ∧ w'.cell? ⟨Q, 2, none⟩ = some (.slice (some ⟨b2, off2, none⟩) n c) ∧ w'.cell? ⟨b, off, none⟩ = some (.int .i64 (f : Int)))) (by kernel_rfl) ?_ (fun hHeld => ?_)
      · (try dsimp only); (first | exact ⟨x0, x1, x2, py'⟩ | exact ⟨hX7.cell 0, hX7.cell 1, hX7.cell 2, (hb7.cell (p := ⟨b, off, none⟩) hbl).trans py'⟩)
      refine wpAnyH_take (i := 0) (v := ?vq2_0_1) (by simp only [List.getElem?_toArray, List.getElem?_cons_zero]; rfl) (by kernel_rfl) (by kernel_rfl) (by kernel_rfl) (by exact fun _ _ _ h => h) (Or.inl ⟨by rfl, ?hq2_0_1⟩) hHeld ?rq2_0_1
      case hq2_0_1 => (intro w hSw; (try dsimp only at hSw); go_simp; (try with_reducible rfl))
      try simp only [put_laws]
      refine wpAnyH_ready (rs := [1]) (by kernel_rfl) (by simp) ?_
      refine AllReadyH.cons (by simp only [List.getElem?_toArray, List.getElem?_cons_succ, List.getElem?_cons_zero]; rfl) (fun K hK => ?_) AllReadyH.nil
      go_simp
      (refine (specHallValid_any W D (some ⟨b2, off2, none⟩) n c g _ (by omega) H.out.cap.1 (H.out.ints.below hB.drew)).mono ?_; rintro e w7 ⟨rfl, hb7⟩; rw [H.out.ok]; have hX7 := (Whole.drew hX).below hb7; have hB7 := below_next hB.drew hb7)
      refine hK.out _ _ ?_ (fun hHeld => ?_)
      · (try dsimp only); (first | exact ⟨x0, x1, x2, py'⟩ | exact ⟨hX7.cell 0, hX7.cell 1, hX7.cell 2, (hb7.cell (p := ⟨b, off, none⟩) hbl).trans py'⟩)
      clear hK K
      try simp only [put_laws]
      refine wpAnyH_take (i := 2) (v := ?vq2_2_3) (by simp only [List.getElem?_toArray, List.getElem?_cons_succ, List.getElem?_cons_zero]; rfl) (by kernel_rfl) (by kernel_rfl) (by kernel_rfl) (by exact fun _ _ _ h => h) (Or.inl ⟨by rfl, ?hq2_2_3⟩) hHeld ?rq2_2_3
      case hq2_2_3 => (intro w hSw; (try dsimp only at hSw); go_simp; (try with_reducible rfl))
      try simp only [put_laws]
      refine wpAnyH_take (i := 3) (v := ?vq2_3_4) (by simp only [List.getElem?_toArray, List.getElem?_cons_succ, List.getElem?_cons_zero]; rfl) (by kernel_rfl) (by kernel_rfl) (by kernel_rfl) (by exact fun _ _ _ h => h) (Or.inl ⟨by rfl, ?hq2_3_4⟩) hHeld ?rq2_3_4
      case hq2_3_4 => (intro w hSw; (try dsimp only at hSw); go_simp; (try with_reducible rfl))
      try simp only [put_laws]
      refine wpAnyH_take (i := 4) (v := ?vq2_4_5) (by simp only [List.getElem?_toArray, List.getElem?_cons_succ, List.getElem?_cons_zero]; rfl) (by kernel_rfl) (by kernel_rfl) (by kernel_rfl) (by exact fun _ _ _ h => h) (Or.inl ⟨by rfl, ?hq2_4_5⟩) hHeld ?rq2_4_5
      case hq2_4_5 => (intro w hSw; (try dsimp only at hSw); go_simp; (try with_reducible rfl))
      try simp only [put_laws]
      refine wpAnyH_take (i := 5) (v := ?vq2_5_6) (by simp only [List.getElem?_toArray, List.getElem?_cons_succ, List.getElem?_cons_zero]; rfl) (by kernel_rfl) (by kernel_rfl) (by kernel_rfl) (by exact fun _ _ _ h => h) (Or.inl ⟨by rfl, ?hq2_5_6⟩) hHeld ?rq2_5_6
      case hq2_5_6 => (intro w hSw; (try dsimp only at hSw); go_simp; (try with_reducible rfl))
      try simp only [put_laws]
      refine wpAnyH_take (i := 6) (v := ?vq2_6_7) (by simp only [List.getElem?_toArray, List.getElem?_cons_succ, List.getElem?_cons_zero]; rfl) (by kernel_rfl) (by kernel_rfl) (by kernel_rfl) (by exact fun _ _ _ h => h) (Or.inl ⟨by rfl, ?hq2_6_7⟩) hHeld ?rq2_6_7
      case hq2_6_7 => (intro w hSw; (try dsimp only at hSw); go_simp; (try with_reducible rfl))
      try simp only [put_laws]
      refine wpAnyH_take (i := 7) (v := ?vq2_7_8) (by simp only [List.getElem?_toArray, List.getElem?_cons_succ, List.getElem?_cons_zero]; rfl) (by kernel_rfl) (by kernel_rfl) (by kernel_rfl) (by exact fun _ _ _ h => h) (Or.inl ⟨by rfl, ?hq2_7_8⟩) hHeld ?rq2_7_8
      case hq2_7_8 => (intro w hSw; (try dsimp only at hSw); go_simp; (try with_reducible rfl))
      try simp only [put_laws]
      refine wpAnyH_take (i := 8) (v := ?vq2_8_9) (by simp only [List.getElem?_toArray, List.getElem?_cons_succ, List.getElem?_cons_zero]; rfl) (by kernel_rfl) (by kernel_rfl) (by kernel_rfl) (by exact fun _ _ _ h => h) (Or.inl ⟨by rfl, ?hq2_8_9⟩) hHeld ?rq2_8_9
      case hq2_8_9 => (intro w hSw; (try dsimp only at hSw); go_simp; (try with_reducible rfl))
      try simp only [put_laws]
      refine wpAnyH_take (i := 9) (v := ?vq2_9_10) (by simp only [List.getElem?_toArray, List.getElem?_cons_succ, List.getElem?_cons_zero]; rfl) (by kernel_rfl) (by kernel_rfl) (by kernel_rfl) (by exact fun _ _ _ h => h) (Or.inl ⟨by rfl, ?hq2_9_10⟩) hHeld ?rq2_9_10
      case hq2_9_10 => (intro w hSw; (try dsimp only at hSw); go_simp; (try with_reducible rfl))
      try simp only [put_laws]
      refine wpAnyH_take (i := 10) (v := ?vq2_10_11) (by simp only [List.getElem?_toArray, List.getElem?_cons_succ, List.getElem?_cons_zero]; rfl) (by kernel_rfl) (by kernel_rfl) (by kernel_rfl) (by exact fun _ _ _ h => h) (Or.inl ⟨by rfl, ?hq2_10_11⟩) hHeld ?rq2_10_11
      case hq2_10_11 => (intro w hSw; (try dsimp only at hSw); go_simp; (try with_reducible rfl))
      try simp only [put_laws]
      refine wpAnyH_take (i := 11) (v := ?vq2_11_12) (by simp only [List.getElem?_toArray, List.getElem?_cons_succ, List.getElem?_cons_zero]; rfl) (by kernel_rfl) (by kernel_rfl) (by kernel_rfl) (by exact fun _ _ _ h => h) (Or.inl ⟨by rfl, ?hq2_11_12⟩) hHeld ?rq2_11_12
      case hq2_11_12 => (intro w hSw; (try dsimp only at hSw); go_simp; (try with_reducible rfl))
      try simp only [put_laws]
      refine wpAnyH_take (i := 12) (v := ?vq2_12_13) (by simp only [List.getElem?_toArray, List.getElem?_cons_succ, List.getElem?_cons_zero]; rfl) (by kernel_rfl) (by kernel_rfl) (by kernel_rfl) (by exact fun _ _ _ h => h) (Or.inl ⟨by rfl, ?hq2_12_13⟩) hHeld ?rq2_12_13
      case hq2_12_13 => (intro w hSw; (try dsimp only at hSw); go_simp; (try with_reducible rfl))
      try simp only [put_laws]
      refine wpAnyH_take (i := 13) (v := ?vq2_13_14) (by simp only [List.getElem?_toArray, List.getElem?_cons_succ, List.getElem?_cons_zero]; rfl) (by kernel_rfl) (by kernel_rfl) (by kernel_rfl) (by exact fun _ _ _ h => h) (Or.inl ⟨by rfl, ?hq2_13_14⟩) hHeld ?rq2_13_14
      case hq2_13_14 => (intro w hSw; (try dsimp only at hSw); go_simp; (try with_reducible rfl))
      try simp only [put_laws]
      refine wpAnyH_take (i := 14) (v := ?vq2_14_15) (by simp only [List.getElem?_toArray, List.getElem?_cons_succ, List.getElem?_cons_zero]; rfl) (by kernel_rfl) (by kernel_rfl) (by kernel_rfl) (by exact fun _ _ _ h => h) (Or.inl ⟨by rfl, ?hq2_14_15⟩) hHeld ?rq2_14_15
      case hq2_14_15 => (intro w hSw; (try dsimp only at hSw); go_simp; (try with_reducible rfl))
      try simp only [put_laws]
      refine wpAnyH_ready (rs := [15]) (by kernel_rfl) (by simp) ?_
      refine AllReadyH.cons (by simp only [List.getElem?_toArray, List.getElem?_cons_succ, List.getElem?_cons_zero]; rfl) (fun K hK => ?_) AllReadyH.nil
      go_simp
      (refine (l1In_same _ _ _ true _ hin).mono ?_; rintro e w8 ⟨rfl, rfl⟩)
      refine hK.out _ _ ?_ (fun hHeld => ?_)
      · (try dsimp only); (first | exact ⟨x0, x1, x2, py'⟩ | exact ⟨hX7.cell 0, hX7.cell 1, hX7.cell 2, (hb7.cell (p := ⟨b, off, none⟩) hbl).trans py'⟩)
      clear hK K
      try simp only [put_laws]
      refine wpAnyH_take (i := 16) (v := ?vq2_16_17) (by simp only [List.getElem?_toArray, List.getElem?_cons_succ, List.getElem?_cons_zero]; rfl) (by kernel_rfl) (by kernel_rfl) (by kernel_rfl) (by exact fun _ _ _ h => h) (Or.inl ⟨by rfl, ?hq2_16_17⟩) hHeld ?rq2_16_17
      case hq2_16_17 => (intro w hSw; (try dsimp only at hSw); go_simp; (try with_reducible rfl))
      try simp only [put_laws]
      refine wpAnyH_take (i := 17) (v := ?vq2_17_18) (by simp only [List.getElem?_toArray, List.getElem?_cons_succ, List.getElem?_cons_zero]; rfl) (by kernel_rfl) (by kernel_rfl) (by kernel_rfl) (by exact fun _ _ _ h => h) (Or.inl ⟨by rfl, ?hq2_17_18⟩) hHeld ?rq2_17_18
      case hq2_17_18 => (intro w hSw; (try dsimp only at hSw); go_simp; (try with_reducible rfl))
      try simp only [put_laws]
      refine wpAnyH_done (by kernel_rfl) ?_ _
      go_wp2
      go_ret
      exact ⟨rfl, hB7⟩

/-- How the hall and the slides lie while the reference moves a hole. -/
structure MHs (w0 w : World) (B M U cU G cG n : Nat) (W D : Int) (i : Nat) (gs : List Int) (l : List (Nat × Nat)) : Prop where
  gg : w.ownsRow 0 3 1 (.slice (some ⟨G, 0, none⟩) n cG) n (gs.map (Value.int .i64))
  mm : Whole w M 25 [.int .i64 W, .int .i64 D, .slice (some ⟨G, 0, none⟩) n cG]
  ss : w.ownsRow B 62 2 (.slice (some ⟨U, 0, none⟩) i cU) i (slc l).flatten
  uM : U ≠ M
  uG : U ≠ G
  gM : G ≠ M
  wB : w0.heap.size ≤ B
  wM : w0.heap.size ≤ M
  bel : Below w0.heap.size w0 w
theorem MHs.below {w0 w w' : World} {B M U cU G cG n i : Nat} {W D : Int} {gs : List Int} {l : List (Nat × Nat)} (h : MHs w0 w B M U cU G cG n W D i gs l) (hb : Below w.heap.size w w') : MHs w0 w' B M U cU G cG n W D i gs l :=
  ⟨own_keep h.gg hb, h.mm.below hb, own_keep h.ss hb, h.uM, h.uG, h.gM, h.wB, h.wM, below_next h.bel hb⟩
/-- Another hall in the variable. -/
theorem MHs.now {w0 w : World} {B M U cU G cG n i : Nat} {W D : Int} {gs : List Int} {l : List (Nat × Nat)} (h : MHs w0 w B M U cU G cG n W D i gs l) {G2 cG2 : Nat} {gs2 : List Int}
    (ho : w.ownsRow 0 3 1 (.slice (some ⟨G2, 0, none⟩) n cG2) n (gs2.map (Value.int .i64))) (h1 : U ≠ G2) (h2 : G2 ≠ M) :
    MHs w0 (((w.setCell ⟨M, 0, none⟩ (.int .i64 W)).setCell ⟨M, 1, none⟩ (.int .i64 D)).setCell ⟨M, 2, none⟩ (.slice (some ⟨G2, 0, none⟩) n cG2)) B M U cU G2 cG2 n W D i gs2 l :=
  ⟨own_off (own_off (own_off ho (p := ⟨M, 0, none⟩) h2 _) (p := ⟨M, 1, none⟩) h2 _) (p := ⟨M, 2, none⟩) h2 _, ((h.mm.set_ 0 _).set_ 1 _).set_ 2 _, own_off (own_off (own_off h.ss (p := ⟨M, 0, none⟩) h.uM _) (p := ⟨M, 1, none⟩) h.uM _) (p := ⟨M, 2, none⟩) h.uM _, h.uM, h1, h2, h.wB, h.wM, ((h.bel.setCell (p := ⟨M, 0, none⟩) h.wM _).setCell (p := ⟨M, 1, none⟩) h.wM _).setCell (p := ⟨M, 2, none⟩) h.wM _⟩
theorem MHs.push {w0 w w' : World} {B M U cU G cG n i i' U' cU' : Nat} {W D : Int} {gs : List Int} {l l' : List (Nat × Nat)} (h : MHs w0 w B M U cU G cG n W D i gs l) {o : Obj} (hg : (w.alloc o).grownBy w' (some U)) (hq : U = U' ∨ U' = w.heap.size + 1)
    (ho : w'.ownsRow B 62 2 (.slice (some ⟨U', 0, none⟩) i' cU') i' (slc l').flatten) : MHs w0 w' B M U' cU' G cG n W D i' gs l' := by
  have hG := (h.gg.lt G rfl).2
  have hM := h.mm.lt
  have hU := h.ss.lt U rfl
  have hB1 := h.bel.alloc h.bel.size o
  refine ⟨ownG_blk h.gg (blk_grow hg hG (by intro e; injection e with e; exact h.uG e.symm)), (blk_grow hg hM (by intro e; injection e with e; exact h.uM e.symm)).trans h.mm, ho, ?_, ?_, h.gM, h.wB, h.wM, hB1.grown hg hB1.size (fun k hk => ?_)⟩
  · rcases hq with rfl | rfl
    · exact h.uM
    · omega
  · rcases hq with rfl | rfl
    · exact h.uG
    · omega
  · injection hk with hk; subst hk; have := h.wB; omega
set_option maxRecDepth 100000 in
set_option maxHeartbeats 8000000 in
theorem specHoleSlides_any (W D n : Nat) (A : Option Addr) (c : Nat) (g : List Int) (f : Nat) (P : Option Addr) (cP : Nat) (w : World) (h : HallAt w W D n A c g) (N : Near W n g f) (hP : IntsAt w P (dN W f + 1) (wayI W f (dN W f + 1))) (hcP : dN W f + 1 ≤ cP ∧ cP ≤ 9223372036854775807) :
    Calls Tryz.prog 42 #[.agg #[.int .i64 W, .int .i64 D, .slice A n c], .slice P (dN W f + 1) cP] w (SLI w (slW W f (dN W f))) := by
  have HPP0 := Lib.hid hP
  have HcP0 := Lib.hid hcP
  have hn := h.shp.n12
  have S := h.shp
  have hX1 := Whole.new w 25 [.int .i64 W, .int .i64 D, .slice A n c]
  have hB1 : Below w.heap.size w (w.alloc (.cells #[.int .i64 W, .int .i64 D, .slice A n c] 25)) := (Below.refl _ _).alloc (Nat.le_refl _) _
  have H := Lib.hid h
  have HPP := Lib.hid hP
  have HN := Lib.hid N
  have hfn := N.lt
  obtain ⟨d, hd⟩ : ∃ d, Hid (d = dN W f) := ⟨_, rfl⟩
  have hd5 : d ≤ 5 := by rw [hd.out]; exact dN_le S hfn
  rw [← hd.out] at HPP hcP ⊢
  have hl := h.ints.len
  clear h hP N
  have HGL := Lib.hid hl
  clear hl
  obtain ⟨Q, HQ⟩ : ∃ Q, Hid (Q = w.heap.size) := ⟨_, rfl⟩
  obtain ⟨y0, b, off, HY, rfl, hbl, hpc0⟩ := (HPP.out.below hB1).get (k := 0) (by omega)
  obtain rfl : y0 = (f : Int) := by have h1 := HY.out; rw [wayI_get (by omega)] at h1; injection h1 with h1; exact h1.symm
  obtain ⟨z0, b2, off2, HZ, rfl, hbl2, hgc0⟩ := (H.out.below hB1).ints.get hfn
  obtain rfl : z0 = 0 := by have h1 := HZ.out; rw [HN.out.free] at h1; injection h1 with h1; exact h1.symm
  simp only [Nat.add_zero] at hpc0
  rw [← hd.out] at HPP0 HcP0
  have hbs : ∀ w : World, (Instr.buildSlice 40 0 #[]).run Tryz.prog w = .ok (.slice (some ⟨w.heap.size, 0, none⟩) 0 0) (w.alloc (.cells #[] 62)) := fun _ => by kernel_rfl
  go_enter Tryz.func42, Tryz.ntmps42
  go_wp2
  clear hbs
  have hsz : (w.alloc (.cells #[.int .i64 W, .int .i64 D, .slice (some ⟨b2, off2, none⟩) n c] 25)).heap.size = Q + 1 := by rw [HQ.out]; simp
  have hU0 := ownS0 (base := Q + 1) (w1 := w.alloc (.cells #[.int .i64 W, .int .i64 D, .slice (some ⟨b2, off2, none⟩) n c] 25)) (by omega)
  have hX2 := hX1.alloc (.cells #[] 62)
  have hB2 := hB1.alloc hB1.size (.cells #[] 62)
  have hbA : Below (w.alloc (.cells #[.int .i64 W, .int .i64 D, .slice (some ⟨b2, off2, none⟩) n c] 25)).heap.size (w.alloc (.cells #[.int .i64 W, .int .i64 D, .slice (some ⟨b2, off2, none⟩) n c] 25)) ((w.alloc (.cells #[.int .i64 W, .int .i64 D, .slice (some ⟨b2, off2, none⟩) n c] 25)).alloc (.cells #[] 62)) := (Below.refl _ _).alloc (Nat.le_refl _) _
  have hpc1 := (hbA.cell (p := ⟨b, off, none⟩) hbl).trans hpc0
  have hgc1 := (hbA.cell (p := ⟨b2, off2 + f, none⟩) hbl2).trans hgc0
  have hbl1 := Nat.lt_of_lt_of_le hbl hbA.size
  have hbl3 := Nat.lt_of_lt_of_le hbl2 hbA.size
  rw [hsz] at hU0
  rw [← HQ.out] at hX2 ⊢
  clear hX1 hB1 hsz hbA hpc0 hgc0 hbl hbl2
  generalize (w.alloc (.cells #[.int .i64 W, .int .i64 D, .slice (some ⟨b2, off2, none⟩) n c] 25)).alloc (.cells #[] 62) = w1 at *
  have hway : Hid (∀ w', HallAt w' W D n (some ⟨b2, off2, none⟩) c g → IntsAt w' (some ⟨b, off, none⟩) (d + 1) (wayI W f (d + 1)) → Calls Tryz.prog 60 #[.agg #[.int .i64 W, .int .i64 D, .slice (some ⟨b2, off2, none⟩) n c], .slice (some ⟨b, off, none⟩) (d + 1) cP] w' (RV w' (.bool true))) := Lib.hid fun w' h1 h2 => by
    have h3 := HcP0.out
    rw [hd.out] at h2 h3 ⊢
    exact l2Way_any W D n _ c g f _ cP w' h1 HN.out h2 h3
  have x0 : w1.cell? ⟨Q, 0, none⟩ = some (.int .i64 W) := hX2.cell 0
  have x1 : w1.cell? ⟨Q, 1, none⟩ = some (.int .i64 D) := hX2.cell 1
  have x2 : w1.cell? ⟨Q, 2, none⟩ = some (.slice (some ⟨b2, off2, none⟩) n c) := hX2.cell 2
  refine wp_region_held_drew (S := (fun w' => w'.cell? ⟨Q, 0, none⟩ = some (.int .i64 W) ∧ w'.cell? ⟨Q, 1, none⟩ = some (.int .i64 D) ∧ w'.cell? ⟨Q, 2, none⟩ = some (.slice (some ⟨b2, off2, none⟩) n c) ∧ w'.cell? ⟨b, off, none⟩ = some (.int .i64 (f : Int)) ∧ w'.cell? ⟨b2, off2 + f, none⟩ = some (.int .i64 0))) (by kernel_rfl) ?_ (fun hHeld => ?_)
  · (try dsimp only); (first | exact ⟨x0, x1, x2, hpc1, hgc1⟩ | exact ⟨hX3.cell 0, hX3.cell 1, hX3.cell 2, p3, g3⟩)
  refine wpAnyH_take (i := 0) (v := ?vq3_0_1) (by simp only [List.getElem?_toArray, List.getElem?_cons_zero]; rfl) (by kernel_rfl) (by kernel_rfl) (by kernel_rfl) (by exact fun _ _ _ h => h) (Or.inl ⟨by rfl, ?hq3_0_1⟩) hHeld ?rq3_0_1
  case hq3_0_1 => (intro w hSw; (try dsimp only at hSw); go_simp; (try with_reducible rfl))
  try simp only [put_laws]
  refine wpAnyH_take (i := 1) (v := ?vq3_1_2) (by simp only [List.getElem?_toArray, List.getElem?_cons_succ, List.getElem?_cons_zero]; rfl) (by kernel_rfl) (by kernel_rfl) (by kernel_rfl) (by exact fun _ _ _ h => h) (Or.inl ⟨by rfl, ?hq3_1_2⟩) hHeld ?rq3_1_2
  case hq3_1_2 => (intro w hSw; (try dsimp only at hSw); go_simp; (try with_reducible rfl))
  try simp only [put_laws]
  refine wpAnyH_ready (rs := [2]) (by kernel_rfl) (by simp) ?_
  refine AllReadyH.cons (by simp only [List.getElem?_toArray, List.getElem?_cons_succ, List.getElem?_cons_zero]; rfl) (fun K hK => ?_) AllReadyH.nil
  go_simp
  (refine (hway.out _ (H.out.below hB2.drew) (HPP.out.below hB2.drew)).mono ?_; rintro e w3 ⟨rfl, hb3⟩; have hX3 := (Whole.drew hX2).below hb3; have hB3 := below_next hB2.drew hb3; have p3 := (hb3.cell (p := ⟨b, off, none⟩) hbl1).trans hpc1; have g3 := (hb3.cell (p := ⟨b2, off2 + f, none⟩) hbl3).trans hgc1; have hU3 := own_keep hU0 ((Below.refl w1.heap.size w1).drew.trans hb3))
  refine hK.out _ _ ?_ (fun hHeld => ?_)
  · (try dsimp only); (first | exact ⟨x0, x1, x2, hpc1, hgc1⟩ | exact ⟨hX3.cell 0, hX3.cell 1, hX3.cell 2, p3, g3⟩)
  clear hK K
  try simp only [put_laws]
  refine wpAnyH_take (i := 3) (v := ?vq3_3_4) (by simp only [List.getElem?_toArray, List.getElem?_cons_succ, List.getElem?_cons_zero]; rfl) (by kernel_rfl) (by kernel_rfl) (by kernel_rfl) (by exact fun _ _ _ h => h) (Or.inl ⟨by rfl, ?hq3_3_4⟩) hHeld ?rq3_3_4
  case hq3_3_4 => (intro w hSw; (try dsimp only at hSw); go_simp; (try with_reducible rfl))
  try simp only [put_laws]
  refine wpAnyH_take (i := 4) (v := ?vq3_4_5) (by simp only [List.getElem?_toArray, List.getElem?_cons_succ, List.getElem?_cons_zero]; rfl) (by kernel_rfl) (by kernel_rfl) (by kernel_rfl) (by exact fun _ _ _ h => h) (Or.inl ⟨by rfl, ?hq3_4_5⟩) hHeld ?rq3_4_5
  case hq3_4_5 => (intro w hSw; (try dsimp only at hSw); go_simp; (try with_reducible rfl))
  try simp only [put_laws]
  refine wpAnyH_take (i := 5) (v := ?vq3_5_6) (by simp only [List.getElem?_toArray, List.getElem?_cons_succ, List.getElem?_cons_zero]; rfl) (by kernel_rfl) (by kernel_rfl) (by kernel_rfl) (by exact fun _ _ _ h => h) (Or.inl ⟨by rfl, ?hq3_5_6⟩) hHeld ?rq3_5_6
  case hq3_5_6 => (intro w hSw; (try dsimp only at hSw); go_simp; (try with_reducible rfl))
  try simp only [put_laws]
  refine wpAnyH_take (i := 6) (v := ?vq3_6_7) (by simp only [List.getElem?_toArray, List.getElem?_cons_succ, List.getElem?_cons_zero]; rfl) (by kernel_rfl) (by kernel_rfl) (by kernel_rfl) (by exact fun _ _ _ h => h) (Or.inl ⟨by rfl, ?hq3_6_7⟩) hHeld ?rq3_6_7
  case hq3_6_7 => (intro w hSw; (try dsimp only at hSw); go_simp; (try with_reducible rfl))
  try simp only [put_laws]
  refine wpAnyH_take (i := 7) (v := ?vq3_7_8) (by simp only [List.getElem?_toArray, List.getElem?_cons_succ, List.getElem?_cons_zero]; rfl) (by kernel_rfl) (by kernel_rfl) (by kernel_rfl) (by exact fun _ _ _ h => h) (Or.inl ⟨by rfl, ?hq3_7_8⟩) hHeld ?rq3_7_8
  case hq3_7_8 => (intro w hSw; (try dsimp only at hSw); go_simp; (try with_reducible rfl))
  try simp only [put_laws]
  refine wpAnyH_take (i := 8) (v := ?vq3_8_9) (by simp only [List.getElem?_toArray, List.getElem?_cons_succ, List.getElem?_cons_zero]; rfl) (by kernel_rfl) (by kernel_rfl) (by kernel_rfl) (by exact fun _ _ _ h => h) (Or.inl ⟨by rfl, ?hq3_8_9⟩) hHeld ?rq3_8_9
  case hq3_8_9 => (intro w hSw; (try dsimp only at hSw); go_simp; (try with_reducible rfl))
  try simp only [put_laws]
  refine wpAnyH_take (i := 9) (v := ?vq3_9_10) (by simp only [List.getElem?_toArray, List.getElem?_cons_succ, List.getElem?_cons_zero]; rfl) (by kernel_rfl) (by kernel_rfl) (by kernel_rfl) (by exact fun _ _ _ h => h) (Or.inl ⟨by rfl, ?hq3_9_10⟩) hHeld ?rq3_9_10
  case hq3_9_10 => (intro w hSw; (try dsimp only at hSw); go_simp; (try with_reducible rfl))
  try simp only [put_laws]
  refine wpAnyH_take (i := 10) (v := ?vq3_10_11) (by simp only [List.getElem?_toArray, List.getElem?_cons_succ, List.getElem?_cons_zero]; rfl) (by kernel_rfl) (by kernel_rfl) (by kernel_rfl) (by exact fun _ _ _ h => h) (Or.inl ⟨by rfl, ?hq3_10_11⟩) hHeld ?rq3_10_11
  case hq3_10_11 => (intro w hSw; (try dsimp only at hSw); go_simp; (try with_reducible rfl))
  try simp only [put_laws]
  refine wpAnyH_take (i := 11) (v := ?vq3_11_12) (by simp only [List.getElem?_toArray, List.getElem?_cons_succ, List.getElem?_cons_zero]; rfl) (by kernel_rfl) (by kernel_rfl) (by kernel_rfl) (by exact fun _ _ _ h => h) (Or.inl ⟨by rfl, ?hq3_11_12⟩) hHeld ?rq3_11_12
  case hq3_11_12 => (intro w hSw; (try dsimp only at hSw); go_simp; (try with_reducible rfl))
  try simp only [put_laws]
  refine wpAnyH_take (i := 12) (v := ?vq3_12_13) (by simp only [List.getElem?_toArray, List.getElem?_cons_succ, List.getElem?_cons_zero]; rfl) (by kernel_rfl) (by kernel_rfl) (by kernel_rfl) (by exact fun _ _ _ h => h) (Or.inl ⟨by rfl, ?hq3_12_13⟩) hHeld ?rq3_12_13
  case hq3_12_13 => (intro w hSw; (try dsimp only at hSw); go_simp; (try with_reducible rfl))
  try simp only [put_laws]
  refine wpAnyH_take (i := 13) (v := ?vq3_13_14) (by simp only [List.getElem?_toArray, List.getElem?_cons_succ, List.getElem?_cons_zero]; rfl) (by kernel_rfl) (by kernel_rfl) (by kernel_rfl) (by exact fun _ _ _ h => h) (Or.inl ⟨by rfl, ?hq3_13_14⟩) hHeld ?rq3_13_14
  case hq3_13_14 => (intro w hSw; (try dsimp only at hSw); go_simp; (try with_reducible rfl))
  try simp only [put_laws]
  refine wpAnyH_done (by kernel_rfl) ?_ _
  clear hHeld x0 x1 x2 hpc1 hgc1 p3 g3 hX2 hB2 hb3 hU0 HY HZ hbl1 hbl3 hway HcP0
  have x0 : w3.cell? ⟨Q, 0, none⟩ = some (.int .i64 W) := hX3.cell 0
  have x1 : w3.cell? ⟨Q, 1, none⟩ = some (.int .i64 D) := hX3.cell 1
  have x2 : w3.cell? ⟨Q, 2, none⟩ = some (.slice (some ⟨b2, off2, none⟩) n c) := hX3.cell 2
  go_wp2_with fail
  refine (l1Hall_any W D n (some ⟨b2, off2, none⟩) c g _ (H.out.below hB3)).mono ?_; rintro e w5 ⟨G, cG, rfl, hO, hb5⟩
  have hM0 := Whole.new w5 25 [.int .i64 W, .int .i64 D, .slice (some ⟨G, 0, none⟩) n cG]
  obtain ⟨M, hM⟩ : ∃ M, Hid (M = w5.heap.size) := ⟨_, rfl⟩
  have hGl := hO.lt G rfl
  have hB5 := below_next hB3 hb5
  have hUl := hU3.lt (Q + 1) rfl
  have hU5 := own_keep hU3 hb5
  have hUl5 : Q + 1 < w3.heap.size := (hU3.lt (Q + 1) rfl).2
  have hH0 : MHs w (w5.alloc (.cells #[.int .i64 W, .int .i64 D, .slice (some ⟨G, 0, none⟩) n cG] 25)) (Q + 1) M (Q + 1) 0 G cG n W D 0 (hst W f g 0) (slW W f 0) :=
    ⟨own_keep (Joins.ownsRow_le hO (Nat.zero_le _)) ((Below.refl _ _).alloc (Nat.le_refl _) _), by rw [hM.out]; exact hM0, own_keep hU5 ((Below.refl _ _).alloc (Nat.le_refl _) _), by rw [hM.out]; omega, by omega, by rw [hM.out]; omega, by rw [HQ.out]; omega, by rw [hM.out]; exact hB5.size, hB5.alloc hB5.size _⟩
  clear hM0 hO hb5 hB5 hGl hB3 hX3 x0 x1 x2 hU3 hU5 hUl hUl5
  go_wp2
  rw [← hM.out]
  generalize w5.alloc (.cells #[.int .i64 W, .int .i64 D, .slice (some ⟨G, 0, none⟩) n cG] 25) = w6 at *
  go_loopw [5, 7] (fun v t wr => ∃ i U cU G cG : Nat, i ≤ d ∧ t = .int .i64 ((i : Int) + 1) ∧ v = .slice (some ⟨U, 0, none⟩) i cU ∧ Hid (MHs w wr (Q + 1) M U cU G cG n W D i (hst W f g i) (slW W f i))) (fun _ t _ => d + 1 - (intOf t).toNat)
  case atStart => exact ⟨0, Q + 1, 0, G, cG, by omega, rfl, rfl, Lib.hid hH0⟩
  case round =>
    obtain ⟨i, U, cU, G2, cG2, hi, rfl, rfl, HM⟩ := hrel
    clear hH0
    by_cases hlt2 : i < d
    · have hid : i < dN W f := by rw [← hd.out]; exact hlt2
      have HMAY := Lib.hid (hst_may S HGL.out H.out.ok HN.out hid)
      have HOK := Lib.hid (hst_hall S HGL.out H.out.ok HN.out (Nat.le_of_lt hid))
      have hyn := (pcN_ok S hfn i (by omega)).1
      have hxn := (pcN_ok S hfn (i + 1) (by omega)).1
      obtain ⟨py, hbl⟩ := (HPP.out.below HM.out.bel).at_ (wayI_get (W := W) (c := f) (show i < d + 1 by omega))
      obtain ⟨px, -⟩ := (HPP.out.below HM.out.bel).at_ (wayI_get (W := W) (c := f) (show i + 1 < d + 1 by omega))
      have HNX : Hid (hst W f g (i + 1) = mv (hst W f g i) (pcN W f i) (pcN W f (i + 1))) := Lib.hid rfl
      have HSL : Hid (slW W f (i + 1) = slW W f i ++ [(pcN W f (i + 1), pcN W f i)]) := Lib.hid (slW_next W f i)
      obtain ⟨y, hy⟩ : ∃ y, Hid (y = pcN W f i) := ⟨_, rfl⟩
      obtain ⟨x, hx⟩ : ∃ x, Hid (x = pcN W f (i + 1)) := ⟨_, rfl⟩
      rw [← hy.out] at py hyn HNX HSL HMAY
      rw [← hx.out] at px hxn HNX HSL HMAY
      have hs1 : IntKind.i64.wrap (i : Int) = (i : Int) := IntWalk.i64_in _ (by omega)
      have hs2 : ((i : Int) + 1 - 1) = (i : Int) := by omega
      have hs4 : (i : Int) < (d : Int) + 1 := by omega
      have hs5 : (i : Int) < (d : Int) := by omega
      have hs6 : (i : Int) + 1 < (d : Int) + 1 := by omega
      have hs7 : (0 : Int) ≤ (i : Int) + 1 := by omega
      have hs3 : ((i : Int) + 1).toNat = i + 1 := by omega
      clear hid
      go_wp2
      go_region
      have hS1 : Whole (wr.alloc (.cells #[.int .i64 (x : Int), .int .i64 (y : Int)] 62)).drew wr.heap.size 62 [.int .i64 (x : Int), .int .i64 (y : Int)] := Whole.new wr _ _
      have hbs1 : Below wr.heap.size wr (wr.alloc (.cells #[.int .i64 (x : Int), .int .i64 (y : Int)] 62)).drew := ((Below.refl _ _).alloc (Nat.le_refl _) _).drew
      have HM1 := Lib.hid (HM.out.below hbs1)
      obtain ⟨K, hK⟩ : ∃ K, Hid (K = wr.heap.size) := ⟨_, rfl⟩
      have hKU : U < K := by rw [hK.out]; exact (HM.out.ss.lt U rfl).2
      have hKM : M < K := by rw [hK.out]; exact HM.out.mm.lt
      rw [← hK.out] at hS1 ⊢
      clear HM hbs1 py px hs1 hs2 hs3 hs4 hs5 hs6 hs7 hbl
      generalize (wr.alloc (.cells #[.int .i64 (x : Int), .int .i64 (y : Int)] 62)).drew = wb at *
      have s0 : wb.cell? ⟨K, 0, none⟩ = some (.int .i64 (x : Int)) := hS1.cell 0
      have s1 : wb.cell? ⟨K, 1, none⟩ = some (.int .i64 (y : Int)) := hS1.cell 1
      have m0 : wb.cell? ⟨M, 0, none⟩ = some (.int .i64 W) := HM1.out.mm.cell 0
      have m1 : wb.cell? ⟨M, 1, none⟩ = some (.int .i64 D) := HM1.out.mm.cell 1
      have m2 : wb.cell? ⟨M, 2, none⟩ = some (.slice (some ⟨G2, 0, none⟩) n cG2) := HM1.out.mm.cell 2
      have HSD : Hid (slid W (hst W f g i) x y = hst W f g (i + 1)) := Lib.hid (by unfold slid; rw [HMAY.out, if_pos rfl, HNX.out])
      go_wp2_with fail
      refine (specSlideDo_any W D n (some ⟨G2, 0, none⟩) cG2 (hst W f g i) x y _ (hallAt_own S HOK.out HM1.out.gg) hxn hyn true HMAY.out).mono ?_; rintro e w7 ⟨G3, cG3, rfl, hO7, hb7⟩
      rw [HSD.out] at hO7
      have HM7 := Lib.hid (HM1.out.below hb7)
      have hS7 := hS1.below hb7
      have hG3 := hO7.lt G3 rfl
      have hKl := hS1.lt
      have hK7 := hS7.lt
      have hU3 : U ≠ G3 := by omega
      have hGM3 : G3 ≠ M := by omega
      have HM8 := Lib.hid ((HM7.out.now (Joins.ownsRow_le hO7 (Nat.zero_le _)) hU3 hGM3).below ((Below.refl _ _).alloc (Nat.le_refl _) (.cells #[.int .i64 W, .int .i64 D, .slice (some ⟨G3, 0, none⟩) n cG3] 25)))
      have HSZ : Hid (((((w7.setCell ⟨M, 0, none⟩ (.int .i64 W)).setCell ⟨M, 1, none⟩ (.int .i64 D)).setCell ⟨M, 2, none⟩ (.slice (some ⟨G3, 0, none⟩) n cG3)).alloc (.cells #[.int .i64 W, .int .i64 D, .slice (some ⟨G3, 0, none⟩) n cG3] 25)).heap.size = w7.heap.size + 1) := Lib.hid (by simp [World.setCell])
      have k0 := hS7.cell 0
      have k1 := hS7.cell 1
      have n0 := HM7.out.mm.cell 0
      have n1 := HM7.out.mm.cell 1
      have n2 := HM7.out.mm.cell 2
      have f0 := HM7.out.mm.free 0
      have f1 := HM7.out.mm.free 1
      have f2 := HM7.out.mm.free 2
      simp only [List.getElem?_cons_zero, List.getElem?_cons_succ] at k0 k1 n0 n1 n2
      have hMl7 := HM7.out.mm.lt
      have hKM2 : K ≠ M := by omega
      have hB8 : Q + 1 ≤ w7.heap.size := by have := (HM7.out.ss.lt U rfl).1; have := (HM7.out.ss.lt U rfl).2; omega
      clear s0 s1 m0 m1 m2 hO7 hb7
      go_wp2_with (at_builtin; (refine wpList_moreSl (base := Q + 1) (z := (x, y)) rfl (.tmp 53) (.tmp 55) rfl ?_ HM8.out.ss rfl ?_ ?_ ?_; (rw [HSZ.out]; omega); (show Value.slice (some ⟨w7.heap.size + 1, 0, none⟩) 1 1 = _; rw [HSZ.out]); omega; intro g' c' w9 hO9 hg9 hq9))
      have hq : U = g' ∨ g' = ((((w7.setCell ⟨M, 0, none⟩ (.int .i64 W)).setCell ⟨M, 1, none⟩ (.int .i64 D)).setCell ⟨M, 2, none⟩ (.slice (some ⟨G3, 0, none⟩) n cG3)).alloc (.cells #[.int .i64 W, .int .i64 D, .slice (some ⟨G3, 0, none⟩) n cG3] 25)).heap.size + 1 := by
        rcases hq9 with h | h
        · injection h with h; exact .inl h
        · exact .inr h
      have HM9 : Hid (MHs w w9 (Q + 1) M g' c' G3 cG3 n W D (i + 1) (hst W f g (i + 1)) (slW W f (i + 1))) := Lib.hid (HM8.out.push hg9 hq (by rw [HSL.out]; exact hO9))
      go_roundw
      case rel => exact ⟨i + 1, g', c', G3, cG3, by omega, by go_num, rfl, HM9⟩
      case measure => simp [intOf]; omega
    · obtain rfl : i = d := by omega
      have hE := HM.out.ss
      go_wp2
      go_ret
      exact ⟨_, _, cU, rfl, Joins.ownsRow_le hE HM.out.wB, slW_len W f i, HM.out.bel⟩
end Go.Proofs.YtdebjcempkgeaaaGreatDoor
