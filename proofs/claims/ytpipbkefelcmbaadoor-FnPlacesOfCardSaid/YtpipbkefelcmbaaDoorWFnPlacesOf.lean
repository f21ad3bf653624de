/-
  The law FnPlacesOf: the places for some cars are those for the first one and those for the others.
-/
import Derived.Test.YtpipbkefelcmbaaDoorDrGive
import Derived.Test.YtpipbkefelcmbaaDoorAlive
import Derived.Test.YtpipbkefelcmbaaDoorOf
import Derived.Test.YtpipbkefelcmbaaDoorOfX
import Derived.Deep.CutRange
namespace Go.Proofs.YtpipbkefelcmbaaDoor
open Go.ChangeShapes Go.WideShapes Go.ChangeAt Go.RowKit

set_option maxRecDepth 100000 in
set_option maxHeartbeats 1000000 in
theorem drawPlacesOf_any (w : World) (A : Option Addr) (n c : Nat) (bs : List Int) (hn : n ≤ c ∧ c ≤ 9223372036854775807) (hb : BytesAt w A n bs) :
    Calls Tryd.prog 36 #[.slice A n c] w (DrawG3 w) := by
  have hbs : ∀ w : World, (Instr.buildSlice 42 0 #[]).run Tryd.prog w = .ok (.slice (some ⟨w.heap.size, 0, none⟩) 0 0) (w.alloc (.cells #[] 3)) := fun _ => by kernel_rfl
  go_enter Tryd.func36, Tryd.ntmps36
  go_wp2_with fail
  refine (open_any w A n c bs hn hb).mono ?_; rintro e w0 ⟨R, A1, n1, c1, bs1, rfl, hR0⟩
  have hRl := hR0.lt
  go_wp2_with fail
  refine (l20Cars_any w w0 R A1 n1 c1 bs1 0 9 hR0 (by omega) (by omega) (by omega)).mono ?_; rintro e w1 ⟨g, m, d, cs, rfl, hO1, hm, hR1, hf1⟩
  go_wp2_with fail
  refine (l20Places_any w w1 R A1 n1 c1 bs1 (0 + 100) 9 hR1 (by omega) (by omega) (by omega)).mono ?_; rintro e w2 ⟨g2, m2, d2, ps, rfl, hP2, hm2, hR2, hf2⟩
  have hO2 := hO1.fr1 hf2 hRl
  have hw0 := hR0.bw.size
  have hw1 := hR1.bw.size
  have hR1l : R < w1.heap.size := hR1.lt
  have hR2l : R < w2.heap.size := hR2.lt
  have hB2 := hR2.bw.size
  clear hO1 hR1 hf1 hf2 hR0
  go_wp2
  clear hbs
  have hO3 := own0 (base := w2.heap.size) (w1 := w2) (Nat.le_refl _)
  have hb3 : Below w2.heap.size w2 (w2.alloc (.cells #[] 3)) := (Below.refl _ _).alloc (Nat.le_refl _) _
  have hR3 := hR2.below hb3
  have hF3 : Fr1 R w2 (w2.alloc (.cells #[] 3)) := (Fr1.refl R w2).below hb3
  generalize w2.alloc (.cells #[] 3) = w3 at hO3 hR3 hF3 ⊢
  clear hR2 hb3
  go_loopw [8, 9] (fun vg vk wr => ∃ (k j g3 cap : Nat) (gs : List Int), k ≤ m ∧ j ≤ k ∧ vk = .int .i64 k ∧ vg = .slice (some ⟨g3, 0, none⟩) j cap ∧ wr.ownsRow w2.heap.size 3 1 (.slice (some ⟨g3, 0, none⟩) j cap) j (gs.map (Value.int .i64)) ∧ Rd w wr R A1 n1 c1 bs1 (200 + k) ∧ Fr1 R w2 wr) (fun _ k _ => m - (intOf k).toNat)
  case atStart => exact ⟨0, 0, _, _, [], by omega, by omega, rfl, rfl, hO3, hR3, hF3⟩
  case round =>
    obtain ⟨k, j, g3, cap, gs, hkm, hjk, rfl, rfl, hG4, hR4, hF4⟩ := hrel
    clear hO3 hR3 hF3
    by_cases hlt : k < m
    · go_wp2_with fail
      refine (pick_any w _ R A1 n1 c1 bs1 (200 + k) 2 hR4 (by omega)).mono ?_; rintro e w5 ⟨y, rfl, hy0, hy1, -, hR5, hf5⟩
      replace hy1 := hy1 (by omega)
      have hG5 := ownsRow_fr1 hG4 hf5 hR2l
      have hF5 := hF4.trans hf5
      clear hG4 hR4 hF4 hf5
      have hy : y = 0 ∨ y = 1 := by omega
      rcases hy with rfl | rfl
      · go_wp2_with (at_builtin; refine wpList_more (base := w2.heap.size) rfl (.tmp 26) (.tmp 28) rfl hF5.size hG5 (k : Int) rfl rfl (by omega) ?_; intro ga capa wa hGa hba)
        go_roundw
        case rel => exact ⟨k + 1, j + 1, ga, capa, _, by omega, by omega, by go_num, rfl, hGa, (hR5.belowB hba hR2l).more (by omega), hF5.belowB hba (Nat.le_refl _)⟩
        case measure => simp [intOf]; omega
      · go_wp2
        go_roundw
        case rel => exact ⟨k + 1, j, g3, cap, gs, by omega, by omega, by go_num, rfl, hG5, hR5.more (by omega), hF5⟩
        case measure => simp [intOf]; omega
    · obtain rfl : k = m := by omega
      clear hlt
      go_wp2_with fail
      refine (odd_any w _ R A1 n1 c1 bs1 (200 + k) 12 hR4 (by omega) (by omega) (by omega)).mono ?_; rintro e w5 ⟨o, rfl, -, hR5, hf5⟩
      have hG5 := ownsRow_fr1 hG4 hf5 hR2l
      have hF5 := hF4.trans hf5
      clear hG4 hR4 hF4 hf5
      cases o
      · go_wp2
        exact bodyPost_ret (v := .tuple #[.slice (some ⟨g, 0, none⟩) k d, .slice (some ⟨g2, 0, none⟩) m2 d2, .slice (some ⟨g3, 0, none⟩) j cap]) (by simp [results, Tryd.results36, go_sem]) rfl ⟨_, _, _, _, _, _, _, _, _, _, _, _, rfl, (hO2.fr1 hF5 hRl).base hw0, hm, (hP2.fr1 hF5 hR1l).base hw1, hm2, own_lower hG5 hB2, by omega, hR5.bw⟩
      · go_wp2_with (at_builtin; refine wpList_more (base := w2.heap.size) rfl (.tmp 32) (.tmp 35) rfl hF5.size hG5 (k : Int) rfl rfl (by omega) ?_; intro ga capa wa hGa hba)
        have hFa := hF5.belowB hba (Nat.le_refl _)
        have hRa := hR5.belowB hba hR2l
        exact bodyPost_ret (v := .tuple #[.slice (some ⟨g, 0, none⟩) k d, .slice (some ⟨g2, 0, none⟩) m2 d2, .slice (some ⟨ga, 0, none⟩) (j + 1) capa]) (by simp [results, Tryd.results36, go_sem]) rfl ⟨_, _, _, _, _, _, _, _, _, _, _, _, rfl, (hO2.fr1 hFa hRl).base hw0, hm, (hP2.fr1 hFa hR1l).base hw1, hm2, own_lower hGa hB2, by omega, hRa.bw⟩

theorem cut_ints {w : World} {g l : Nat} {xs : List Int} (h : IntsAt w (some ⟨g, 0, none⟩) l xs) : IntsAt w (some ⟨g, 1, none⟩) (l - 1) (xs.drop 1) := by simpa using h.dropN (k := 1)

set_option maxRecDepth 100000 in
set_option maxHeartbeats 2000000 in
theorem lawPlacesOf (A : Option Addr) (n c : Nat) (bs : List Int) (w : World) (hn : n ≤ c ∧ c ≤ 9223372036854775807) (hb : BytesAt w A n bs) :
    Calls Tryd.prog 10 #[.slice A n c] w (RV w (.bool true)) := by
  obtain ⟨hn1, hn2⟩ := hn
  by_cases hbig : 1048576 < n
  · have hd : decide (1048576 < n) = true := by simpa using hbig
    go_enter Tryd.func10, Tryd.ntmps10
    go_wp2
    go_ret
    exact ⟨rfl, Below.refl _ _⟩
  have hd : decide (1048576 < n) = false := by simpa using hbig
  have HB := Lib.hid hb
  clear hb
  go_enter Tryd.func10, Tryd.ntmps10
  go_wp2_with fail
  refine (drawPlacesOf_any w A n c bs ⟨hn1, hn2⟩ HB.out).mono ?_; rintro e w1 ⟨g, m, d, cs, g2, m2, d2, ps, g3, l, d3, gs, rfl, hC1, hm, hP1, hm2, hG1, hl, hb1⟩
  clear HB hn1 hn2 hbig hd
  have hmd : m ≤ d ∧ d ≤ 9223372036854775807 := hC1.cap
  have hld : l ≤ d3 ∧ d3 ≤ 9223372036854775807 := by have := (OwnAt.farInts hG1).cap; unfold maxLen at this; exact this
  go_wp2_with fail
  refine (placesOf_any _ m d cs _ m2 d2 ps _ l d3 gs w1 hmd hC1.slAt (by omega) hP1.slAt (by omega) (OwnAt.farInts hG1).ints).mono ?_; rintro e w2 ⟨X, q, xc, rfl, hq, hX2, hb2⟩
  have hq6 : q ≤ 6 := by rw [hq]; exact ofL_short _ _ _
  have hXi : IntsAt w2 X q (ofL cs ps gs) := (OwnAt.farInts (base := w1.heap.size) (by rw [← ic_flat]; exact hX2.own)).ints
  have hC2 := hC1.below hb2
  have hP2 := hP1.below hb2
  have hG2 := own_keep hG1 hb2
  have hB2 := below_next hb1 hb2
  have HQ := Lib.hid hq
  clear hC1 hP1 hG1 hb1 hb2 hX2 hq
  go_wp2_with fail
  refine (specPlacesOf_any _ m d cs _ m2 d2 ps _ l d3 gs w2 hmd hC2.slAt (by omega) hP2.slAt (by omega) (OwnAt.farInts hG2).ints).mono ?_; rintro e w3 ⟨Y, y, yc, rfl, hy, hY3, hb3⟩
  have hy6 : y ≤ 6 := by rw [hy]; exact ofL_short _ _ _
  have hYi : IntsAt w3 Y y (ofL cs ps gs) := (OwnAt.farInts (base := w2.heap.size) (by rw [← ic_flat]; exact hY3.own)).ints
  have hX3 := hXi.below hb3
  have hC3 := hC2.below hb3
  have hP3 := hP2.below hb3
  have hG3 := own_keep hG2 hb3
  have hB3 := below_next hB2 hb3
  clear hC2 hP2 hG2 hB2 hb3 hXi hY3 hy
  go_wp2_with fail
  refine (sameInts_self X Y q xc y yc (ofL cs ps gs) w3 (by omega) hX3 hYi).mono ?_; rintro e w4 ⟨rfl, hb4⟩
  have hX4 := hX3.below hb4
  have hC4 := hC3.below hb4
  have hP4 := hP3.below hb4
  have hG4 := own_keep hG3 hb4
  have hB4 := below_next hB3 hb4
  clear hC3 hP3 hG3 hB3 hb4 hX3 hYi
  by_cases hq0 : q = 0
  · subst hq0
    go_wp2_with fail
    refine (alive_any w4).mono ?_; rintro e w5 ⟨rfl, hb5⟩
    have hB5 := below_next hB4 hb5
    go_wp2
    go_ret
    exact ⟨rfl, hB5⟩
  have hqb : ((q : Int) == 0) = false := by simp; omega
  by_cases hl0 : l = 0
  · subst hl0
    go_wp2_with fail
    refine (alive_any w4).mono ?_; rintro e w5 ⟨rfl, hb5⟩
    have hB5 := below_next hB4 hb5
    go_wp2
    go_ret
    exact ⟨rfl, hB5⟩
  have hlb : ((l : Int) == 0) = false := by simp; omega
  have hofB : ofB cs ps gs = true := ofL_some (by rw [← HQ.out]; omega)
  have hlen : cs.length = m := CarsAt.len hC4.slAt
  have hplen : ps.length = m2 := PlacesAt.len hP4.slAt
  have hI4 : IntsAt w4 (some ⟨g3, 0, none⟩) l gs := (OwnAt.farInts hG4).ints
  obtain ⟨z, bz, oz, HZ, hez, -, hcz⟩ := hI4.get (show 0 < l by omega)
  injection hez with hez; injection hez with e1 e2; subst e1; subst e2
  obtain ⟨i, rfl, him⟩ := ofB_get hofB hlen HZ
  obtain ⟨x, bx, ox, HX, hex, -, p0, p1, p2, p3⟩ := CarsAt.get hC4.slAt him
  injection hex with hex; injection hex with e1 e2; subst e1; subst e2
  have hok : x.ok = true := carsB_get (ofB_parts hofB).1 HX
  have hsplit : ∀ k, k < m2 → hasB (ofL cs ps gs) (k : Int) = (hasB (ofL cs ps (gs.drop 1)) (k : Int) || hasB (forL x ps) (k : Int)) := fun k hk => ofL_split hofB HZ.out HX.out hok (by omega)
  have HS := Lib.hid hsplit
  clear hsplit hofB hok HZ HX hlen hplen
  simp only [Nat.zero_add] at p0 p1 p2 p3 hcz
  have hl0' : (0 : Int) < (l : Int) := by omega
  go_upto_region 9 with fail
  go_cut [7] from 39 to 43 (fun v7 wc => ∃ (X2 : Option Addr) (q2 xc2 : Nat), v7 = .slice X2 q2 xc2 ∧ q2 ≤ 6 ∧ IntsAt wc X2 q2 (ofL cs ps (gs.drop 1)) ∧ Below w4.heap.size w4 wc)
  case first =>
    by_cases hd1 : d3 = 1
    · obtain rfl : l = 1 := by omega
      subst hd1
      go_wp2_with fail
      have hnil : gs.drop 1 = [] := List.drop_eq_nil_of_le (by have := hI4.len; omega)
      refine (placesOf_any _ m d cs _ m2 d2 ps _ 0 0 (gs.drop 1) w4 hmd hC4.slAt (by omega) hP4.slAt (by omega) (by rw [hnil]; exact SlAt.nil _ _ _)).mono ?_; rintro e w5 ⟨X2, q2, xc2, rfl, hq2, hX5, hb5⟩
      have hq26 : q2 ≤ 6 := by rw [hq2]; exact ofL_short _ _ _
      clear hq2
      go_wp2_with fail
      go_meet
      case rel => exact ⟨_, _, _, rfl, hq26, (OwnAt.farInts (base := w4.heap.size) (by rw [← ic_flat]; exact hX5.own)).ints, hb5⟩
    · go_wp2_with fail
      refine (placesOf_any _ m d cs _ m2 d2 ps (some ⟨g3, 1, none⟩) (l - 1) _ (gs.drop 1) w4 hmd hC4.slAt (by omega) hP4.slAt (by omega) (cut_ints hI4)).mono ?_; rintro e w5 ⟨X2, q2, xc2, rfl, hq2, hX5, hb5⟩
      have hq26 : q2 ≤ 6 := by rw [hq2]; exact ofL_short _ _ _
      clear hq2
      go_wp2_with fail
      go_meet
      case rel => exact ⟨_, _, _, rfl, hq26, (OwnAt.farInts (base := w4.heap.size) (by rw [← ic_flat]; exact hX5.own)).ints, hb5⟩
  case rest =>
  obtain ⟨X2, q2, xc2, rfl, hq26, hL5, hb5⟩ := hcut
  generalize wc = w5 at hL5 hb5 ⊢
  have hg4 := (OwnAt.farInts hG4)
  have hcz5 : w5.cell? ⟨g3, 0, none⟩ = some (.int .i64 (i : Int)) := (hb5.cell (p := ⟨g3, 0, none⟩) (ownV_far hG4).2).trans hcz
  have hgl : g < w4.heap.size := (ownV_far hC4.own).2
  have r0 := (hb5.cell (p := ⟨g, i * 4, none⟩) hgl).trans p0
  have r1 := (hb5.cell (p := ⟨g, i * 4 + 1, none⟩) hgl).trans p1
  have r2 := (hb5.cell (p := ⟨g, i * 4 + 2, none⟩) hgl).trans p2
  have r3 := (hb5.cell (p := ⟨g, i * 4 + 3, none⟩) hgl).trans p3
  have hX5 := hX4.below hb5
  have hC5 := hC4.below hb5
  have hP5 := hP4.below hb5
  have hB5 := below_next hB4 hb5
  clear hC4 hP4 hG4 hB4 hb5 hX4 hI4 hcz p0 p1 p2 p3 hg4 hgl
  have him' : (i : Int) < (m : Int) := by omega
  go_wp2_with fail
  refine (placesFor_any x _ m2 d2 ps w5 (by omega) hP5.slAt).mono ?_; rintro e w6 ⟨Z, z, zc, rfl, hz, hZ6, hb6⟩
  have hz6 : z ≤ 6 := by rw [hz]; exact forL_short _ _
  have hF6 : IntsAt w6 Z z (forL x ps) := (OwnAt.farInts (base := w5.heap.size) (by rw [← ic_flat]; exact hZ6.own)).ints
  have hX6 := hX5.below hb6
  have hL6 := hL5.below hb6
  have hB6 := below_next hB5 hb6
  clear hX5 hL5 hC5 hP5 hB5 hb6 hZ6 hz hcz5 r0 r1 r2 r3
  go_wp2
  go_loopw [9] (fun vk wr => ∃ k : Nat, k ≤ m2 ∧ vk = .int .i64 k ∧ Below w6.heap.size w6 wr) (fun k _ => m2 - (intOf k).toNat)
  case atStart => exact ⟨0, by omega, rfl, Below.refl _ _⟩
  case round =>
    obtain ⟨k, hkm, rfl, hbw⟩ := hrel
    by_cases hlt : k < m2
    · have hs := HS.out k hlt
      cases h1 : hasB (ofL cs ps (gs.drop 1)) (k : Int) <;> cases h2 : hasB (forL x ps) (k : Int) <;> rw [h1, h2] at hs
      · go_wp2_with fail
        refine (hasInt_no X q xc _ (k : Int) _ (by omega) (hX6.below hbw) hs).mono ?_; rintro e w7 ⟨rfl, rfl⟩
        go_wp2_with fail
        refine (hasInt_no X2 q2 xc2 _ (k : Int) _ (by omega) (hL6.below hbw) h1).mono ?_; rintro e w7 ⟨rfl, rfl⟩
        go_wp2_with fail
        refine (hasInt_no Z z zc _ (k : Int) _ (by omega) (hF6.below hbw) h2).mono ?_; rintro e w7 ⟨rfl, rfl⟩
        clear hs h1 h2
        go_wp2
        go_roundw
        case rel => exact ⟨k + 1, by omega, by go_num, hbw⟩
        case measure => simp [intOf]; omega
      · go_wp2_with fail
        refine (hasInt_yes X q xc _ (k : Int) _ (by omega) (hX6.below hbw) hs).mono ?_; rintro e w7 ⟨rfl, rfl⟩
        go_wp2_with fail
        refine (hasInt_no X2 q2 xc2 _ (k : Int) _ (by omega) (hL6.below hbw) h1).mono ?_; rintro e w7 ⟨rfl, rfl⟩
        go_wp2_with fail
        refine (hasInt_yes Z z zc _ (k : Int) _ (by omega) (hF6.below hbw) h2).mono ?_; rintro e w7 ⟨rfl, rfl⟩
        clear hs h1 h2
        go_wp2
        go_roundw
        case rel => exact ⟨k + 1, by omega, by go_num, hbw⟩
        case measure => simp [intOf]; omega
      · go_wp2_with fail
        refine (hasInt_yes X q xc _ (k : Int) _ (by omega) (hX6.below hbw) hs).mono ?_; rintro e w7 ⟨rfl, rfl⟩
        go_wp2_with fail
        refine (hasInt_yes X2 q2 xc2 _ (k : Int) _ (by omega) (hL6.below hbw) h1).mono ?_; rintro e w7 ⟨rfl, rfl⟩
        clear hs h1 h2
        go_wp2
        go_roundw
        case rel => exact ⟨k + 1, by omega, by go_num, hbw⟩
        case measure => simp [intOf]; omega
      · go_wp2_with fail
        refine (hasInt_yes X q xc _ (k : Int) _ (by omega) (hX6.below hbw) hs).mono ?_; rintro e w7 ⟨rfl, rfl⟩
        go_wp2_with fail
        refine (hasInt_yes X2 q2 xc2 _ (k : Int) _ (by omega) (hL6.below hbw) h1).mono ?_; rintro e w7 ⟨rfl, rfl⟩
        clear hs h1 h2
        go_wp2
        go_roundw
        case rel => exact ⟨k + 1, by omega, by go_num, hbw⟩
        case measure => simp [intOf]; omega
    · go_wp2_with fail
      refine (ascend_any X q xc _ _ (by omega) (hX6.below hbw) (asc_ofL _ _ _)).mono ?_; rintro e w7 ⟨rfl, hb7⟩
      have hB7 := below_next (below_next hB6 hbw) hb7
      go_wp2
      go_ret
      exact ⟨rfl, hB7⟩
end Go.Proofs.YtpipbkefelcmbaaDoor
