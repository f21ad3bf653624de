/-
  The law FnGiveWaste: a list by which as many cars have a place as at most wastes at least as much as the best one; and with any one car given none, a list wastes as much or less.
-/
import Derived.Test.YtmmaeninlhbaaaaDoorDrGive
import Derived.Test.YtmmaeninlhbaaaaDoorAlive
import Derived.Test.YtmmaeninlhbaaaaDoorMost3
import Derived.Test.YtmmaeninlhbaaaaDoorBestX
namespace Go.Proofs.YtmmaeninlhbaaaaDoor
open Go.ChangeShapes Go.WideShapes Go.ChangeAt Go.RowKit

set_option maxHeartbeats 1000000 in
theorem drawGiveWaste_any (w : World) (A : Option Addr) (n c : Nat) (bs : List Int) (hn : n ≤ c ∧ c ≤ 9223372036854775807) (hb : BytesAt w A n bs) :
    Calls Tryd.prog 26 #[.slice A n c] w (DrawG3 w) := by
  go_enter Tryd.func26, Tryd.ntmps26
  go_wp2_with fail
  refine (open_any w A n c bs hn hb).mono ?_; rintro e w2 ⟨R, A1, n1, c1, bs1, rfl, hR2⟩
  go_wp2_with fail
  refine (l20Give_any w w2 R A1 n1 c1 bs1 0 hR2 (by omega)).mono ?_; rintro e w3 ⟨g, m, d, cs, g2, m2, d2, ps, g3, m3, d3, gs, rfl, hO, hm, hP, hm2, hG, hm3, hR3, -⟩
  go_wp2
  exact bodyPost_ret (v := .tuple #[.slice (some ⟨g, 0, none⟩) m d, .slice (some ⟨g2, 0, none⟩) m2 d2, .slice (some ⟨g3, 0, none⟩) m3 d3]) (by simp [results, Tryd.results26, go_sem]) rfl ⟨_, _, _, _, _, _, _, _, _, _, _, _, rfl, hO.base hR2.bw.size, hm, hP.base hR2.bw.size, hm2, own_lower hG hR2.bw.size, hm3, hR3.bw⟩

set_option maxRecDepth 100000 in
set_option maxHeartbeats 2000000 in
theorem lawGiveWaste (A : Option Addr) (n c : Nat) (bs : List Int) (w : World) (hn : n ≤ c ∧ c ≤ 9223372036854775807) (hb : BytesAt w A n bs) :
    Calls Tryd.prog 6 #[.slice A n c] w (RV w (.bool true)) := by
  obtain ⟨hn1, hn2⟩ := hn
  by_cases hbig : 1048576 < n
  · have hd : decide (1048576 < n) = true := by simpa using hbig
    go_enter Tryd.func6, Tryd.ntmps6
    go_wp2
    go_ret
    exact ⟨rfl, Below.refl _ _⟩
  have hd : decide (1048576 < n) = false := by simpa using hbig
  have HB := Lib.hid hb
  clear hb
  have hbs : ∀ w : World, (Instr.buildSlice 27 0 #[]).run Tryd.prog w = .ok (.slice (some ⟨w.heap.size, 0, none⟩) 0 0) (w.alloc (.cells #[] 3)) := fun _ => by kernel_rfl
  go_enter Tryd.func6, Tryd.ntmps6
  go_wp2_with fail
  refine (drawGiveWaste_any w A n c bs ⟨hn1, hn2⟩ HB.out).mono ?_; rintro e w1 ⟨g, m, d, cs, g2, m2, d2, ps, g3, l, d3, gs, rfl, hC1, hm, hP1, hm2, hG1, hl, hb1⟩
  clear HB hn1 hn2 hbig hd
  have hmd : m ≤ d ∧ d ≤ 9223372036854775807 := hC1.cap
  have hld : l ≤ d3 ∧ d3 ≤ 9223372036854775807 := by have := (OwnAt.farInts hG1).cap; unfold maxLen at this; exact this
  go_wp2_with fail
  refine (giveWaste_any _ m d cs _ m2 d2 ps _ l d3 gs w1 hmd hC1.slAt (by omega) hP1.slAt hld (OwnAt.farInts hG1).ints).mono ?_; rintro e w2 ⟨rfl, hb2⟩
  have hC2 := hC1.below hb2
  have hP2 := hP1.below hb2
  have hG2 := own_keep hG1 hb2
  have hB2 := below_next hb1 hb2
  clear hC1 hP1 hG1 hb1 hb2
  go_wp2_with fail
  refine (specGiveWaste_any _ m d cs _ m2 d2 ps _ l d3 gs w2 hmd hC2.slAt (by omega) hP2.slAt hld (OwnAt.farInts hG2).ints).mono ?_; rintro e w3 ⟨rfl, hb3⟩
  have hC3 := hC2.below hb3
  have hP3 := hP2.below hb3
  have hG3 := own_keep hG2 hb3
  have hB3 := below_next hB2 hb3
  clear hC2 hP2 hG2 hB2 hb3
  have HLG := Lib.hid (show gs.length = l by have := hG3.1; simpa using this)
  by_cases hv : giveB cs ps gs = true
  · have HV := Lib.hid hv
    have hx0 : 0 ≤ wasteL cs ps gs := by rw [wasteL_yes hv]; exact (wasteK_range hv gs.length (Nat.le_refl _)).1
    have hset : ∀ k, wasteL cs ps (gs.set k (-1)) ≤ wasteL cs ps gs := fun k => wasteL_setNone hv k
    have hbw0 : manyN (bestAll cs ps) ≤ manyN gs → wasteL cs ps (bestAll cs ps) ≤ wasteL cs ps gs := fun h => bestAll_waste hv (by unfold manyL; unfold manyN at h; omega)
    clear hv
    generalize wasteL cs ps gs = X at hx0 hset hbw0 ⊢
    have hsame : (X != X) = false := by simp
    have hneg : decide (X < 0) = false := by simp; omega
    have HSET := Lib.hid hset
    have HBW := Lib.hid hbw0
    clear hset hbw0
    go_wp2
    go_loopw [7, 8] (fun vk _ wr => ∃ k : Nat, k ≤ l ∧ vk = .int .i64 k ∧ Below w3.heap.size w3 wr) (fun k _ _ => l - (intOf k).toNat)
    case atStart => exact ⟨0, by omega, rfl, Below.refl _ _⟩
    case round =>
      obtain ⟨k, hkl, rfl, hbw⟩ := hrel
      by_cases hlt : k < l
      · have hI4 : IntsAt wr (some ⟨g3, 0, none⟩) l gs := (OwnAt.farInts (own_keep hG3 hbw)).ints
        have hC4 := hC3.below hbw
        have hP4 := hP3.below hbw
        go_wp2_with (at_builtin; refine wpList_copyF rfl (.tmp 48) (.tmp 49) rfl hI4 rfl rfl (by omega) ?_; intro v5 w5 hO5 hb5; obtain ⟨A5, c5, rfl, hc51, hc52⟩ := (own_ints hO5).form; obtain ⟨g5, rfl⟩ := own_block hO5 (by omega); obtain ⟨⟨u5, hu5⟩, hz5, hg5, hg6⟩ := own_cell hO5 hlt)
        have hO6 := own_set (i := k) hO5 (-1)
        have hb6 := hb5.setCell (p := ⟨g5, k, none⟩) hg5 (.int .i64 (-1))
        unfold maxLen at hc52
        refine (giveWaste_any _ m d cs _ m2 d2 ps _ l c5 (gs.set k (-1)) _ hmd (hC4.below hb6).slAt (by omega) (hP4.below hb6).slAt ⟨hc51, hc52⟩ (OwnAt.farInts hO6).ints).mono ?_; rintro e w7 ⟨rfl, hb7⟩
        have hB7 := below_next (hbw.trans (hb6.mono hbw.size)) hb7
        have hgt : decide (X < wasteL cs ps (gs.set k (-1))) = false := by have := HSET.out k; simp; omega
        clear hI4 hC4 hP4 hO5 hb5 hu5 hz5 hO6 hb6 hb7
        go_wp2
        go_roundw
        case rel => exact ⟨k + 1, by omega, by go_num, hB7⟩
        case measure => simp [intOf]; omega
      · obtain rfl : k = l := by omega
        have hI4 : IntsAt wr (some ⟨g3, 0, none⟩) k gs := (OwnAt.farInts (own_keep hG3 hbw)).ints
        obtain ⟨hv1, hv2, -, -⟩ := giveB_parts HV.out
        have hM : mostI3 cs ps = ((manyN (bestAll cs ps) : Nat) : Int) := mostI3_yes hv1 hv2
        have hlen6 := bestAll_short cs ps
        go_wp2_with fail
        refine (giveMany_any _ k d3 gs wr (by omega) hI4).mono ?_; rintro e w4 ⟨rfl, rfl⟩
        go_wp2_with fail
        refine (giveMost_any _ m d cs _ m2 d2 ps wr hmd (hC3.below hbw).slAt (by omega) (hP3.below hbw).slAt).mono ?_; rintro e w5 ⟨rfl, hb5⟩
        rw [hM]
        have hC5 := (hC3.below hbw).below hb5
        have hP5 := (hP3.below hbw).below hb5
        have hB5 := below_next (below_next hB3 hbw) hb5
        clear hI4 hM hv1 hv2 hb5
        by_cases hmn : manyN gs < manyN (bestAll cs ps)
        · have hlt1 : decide (manyN gs < manyN (bestAll cs ps)) = true := by simpa using hmn
          clear hmn
          go_wp2
          go_ret
          exact ⟨rfl, hB5⟩
        · have hlt1 : decide (manyN gs < manyN (bestAll cs ps)) = false := by simpa using hmn
          have hbest := HBW.out (by omega)
          clear hmn
          go_wp2_with fail
          refine (giveBest_any _ m d cs _ m2 d2 ps w5 hmd hC5.slAt (by omega) hP5.slAt).mono ?_; rintro e w6 ⟨Y, q, yc, rfl, hq, hY6, hb6⟩
          have hq6 : q ≤ 6 := by omega
          clear hq
          have hyc := hY6.cap
          have hY7 : IntsAt w6 Y q (bestAll cs ps) := (OwnAt.farInts (base := w5.heap.size) (by rw [← ic_flat]; exact hY6.own)).ints
          go_wp2_with fail
          refine (giveWaste_any _ m d cs _ m2 d2 ps Y q yc (bestAll cs ps) w6 hmd (hC5.below hb6).slAt (by omega) (hP5.below hb6).slAt hyc hY7).mono ?_; rintro e w7 ⟨rfl, hb7⟩
          have hB7 := below_next (below_next hB5 hb6) hb7
          have hle : decide (wasteL cs ps (bestAll cs ps) ≤ X) = true := by simpa using hbest
          clear hbest hY6 hY7 hb6 hb7
          go_wp2
          go_ret
          exact ⟨rfl, hB7⟩
  · replace hv : giveB cs ps gs = false := by simpa using hv
    have hX : wasteL cs ps gs = -1 := wasteL_no hv
    rw [hX]
    have hsame : ((-1 : Int) != -1) = false := by decide
    clear hX
    go_wp2_with fail
    refine (giveValid_any _ m d cs _ m2 d2 ps _ l d3 gs w3 hmd hC3.slAt (by omega) hP3.slAt hld (OwnAt.farInts hG3).ints).mono ?_; rintro e w4 ⟨rfl, hb4⟩
    rw [hv]
    have hB4 := below_next hB3 hb4
    clear hv hb4
    go_wp2_with fail
    refine (alive_any w4).mono ?_; rintro e w5 ⟨rfl, hb5⟩
    have hB5 := below_next hB4 hb5
    go_wp2
    go_ret
    exact ⟨rfl, hB5⟩
end Go.Proofs.YtmmaeninlhbaaaaDoor
