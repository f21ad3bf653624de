/-
  The law FnGiveDown: the list is valid; and if the cars are nested, as many have a place as at most.
-/
import Derived.Test.YtmmaeninlhbaaaaDoorDrBest
import Derived.Test.YtmmaeninlhbaaaaDoorAlive
import Derived.Test.YtmmaeninlhbaaaaDoorMost3
import Derived.Test.YtmmaeninlhbaaaaDoorNest
import Derived.Test.YtmmaeninlhbaaaaDoorGiveV
import Derived.Test.YtmmaeninlhbaaaaDoorSGWalk
import Derived.Test.YtmmaeninlhbaaaaDoorSameI
import Derived.Deep.CutRange
namespace Go.Proofs.YtmmaeninlhbaaaaDoor
open Go.ChangeShapes Go.WideShapes Go.ChangeAt Go.RowKit

theorem down_most {cs : List C4} {ps : List P3} (h1 : carsB cs = true) (h2 : placesB ps = true) (h : PairsTo cs cs.length) : manyN (giveDL cs ps) = manyN (bestAll cs ps) := by
  have hm := giveDL_most h1 h2 fun a b x y hab hx hy => by
    have hal := (List.getElem?_eq_some_iff.1 hx).1
    have hbl := (List.getElem?_eq_some_iff.1 hy).1
    have hp : pairOk x y = true := by
      by_cases hlt : b < a
      · exact h a hal b hlt x y hx hy
      · rw [pairOk_comm]; exact h b hbl a (by omega) y x hy hx
    unfold pairOk under at hp
    simp only [Bool.or_eq_true, Bool.and_eq_true, decide_eq_true_eq] at hp
    omega
  unfold manyL at hm
  unfold manyN
  omega

set_option maxRecDepth 100000 in
set_option maxHeartbeats 3000000 in
theorem lawGiveDown (A : Option Addr) (n c : Nat) (bs : List Int) (w : World) (hn : n ≤ c ∧ c ≤ 9223372036854775807) (hb : BytesAt w A n bs) :
    Calls Tryd.prog 3 #[.slice A n c] w (RV w (.bool true)) := by
  obtain ⟨hn1, hn2⟩ := hn
  by_cases hbig : 1048576 < n
  · have hd : decide (1048576 < n) = true := by simpa using hbig
    go_enter Tryd.func3, Tryd.ntmps3
    go_wp2
    go_ret
    exact ⟨rfl, Below.refl _ _⟩
  have hd : decide (1048576 < n) = false := by simpa using hbig
  have HB := Lib.hid hb
  clear hb
  have hbs : ∀ w : World, (Instr.buildSlice 27 0 #[]).run Tryd.prog w = .ok (.slice (some ⟨w.heap.size, 0, none⟩) 0 0) (w.alloc (.cells #[] 3)) := fun _ => by kernel_rfl
  go_enter Tryd.func3, Tryd.ntmps3
  go_wp2_with fail
  refine (drawGiveDown_any w A n c bs ⟨hn1, hn2⟩ HB.out).mono ?_; rintro e w1 ⟨g, m, d, cs, g2, m2, d2, ps, rfl, hC1, hm, hP1, hm2, hb1⟩
  clear HB hn1 hn2 hbig hd
  have hmd : m ≤ d ∧ d ≤ 9223372036854775807 := hC1.cap
  go_wp2_with fail
  refine (giveDown_any _ m d cs _ m2 d2 ps w1 hmd hC1.slAt (by omega) hP1.slAt).mono ?_; rintro e w2 ⟨X, q, xc, rfl, hq, hX2, hb2⟩
  have hq6 : q ≤ 6 := by rw [hq]; exact giveDL_short _ _
  have hxc := hX2.cap
  have HQ := Lib.hid hq
  have hG2 : w2.ownsRow w1.heap.size 3 1 (.slice X q xc) q ((giveDL cs ps).map (Value.int .i64)) := by rw [← ic_flat]; exact hX2.own
  have hC2 := hC1.below hb2
  have hP2 := hP1.below hb2
  have hB2 := below_next hb1 hb2
  clear hC1 hP1 hb1 hb2 hq hX2
  go_wp2_with fail
  refine (specGiveDown_any _ m d cs _ m2 d2 ps w2 hmd hC2.slAt (by omega) hP2.slAt).mono ?_; rintro e w3 ⟨Y, y, yc, rfl, hy, hY3, hb3⟩
  have hy6 : y ≤ 6 := by rw [hy]; exact giveDL_short _ _
  have hYi : IntsAt w3 Y y (giveDL cs ps) := (OwnAt.farInts (base := w2.heap.size) (by rw [← ic_flat]; exact hY3.own)).ints
  have hG3 := own_keep hG2 hb3
  have hC3 := hC2.below hb3
  have hP3 := hP2.below hb3
  have hB3 := below_next hB2 hb3
  clear hC2 hP2 hB2 hb3 hY3 hy hG2
  go_wp2_with fail
  refine (sameInts_self X Y q xc y yc _ w3 (by omega) (OwnAt.farInts hG3).ints hYi).mono ?_; rintro e w4 ⟨rfl, hb4⟩
  have hG4 := own_keep hG3 hb4
  have hC4 := hC3.below hb4
  have hP4 := hP3.below hb4
  have hB4 := below_next hB3 hb4
  clear hC3 hP3 hB3 hb4 hG3 hYi
  go_wp2_with fail
  refine (specCarsValid_any _ m d cs w4 hmd hC4.slAt).mono ?_; rintro e w5 ⟨rfl, hb5⟩
  have hG5 := own_keep hG4 hb5
  have hC5 := hC4.below hb5
  have hP5 := hP4.below hb5
  have hB5 := below_next hB4 hb5
  clear hC4 hP4 hB4 hb5 hG4
  cases hv1 : carsB cs
  · have hq0 : q = 0 := by rw [HQ.out]; simp [giveDL, hv1]
    subst hq0
    clear hv1
    go_wp2_with fail
    refine (alive_any w5).mono ?_; rintro e w6 ⟨rfl, hb6⟩
    have hB6 := below_next hB5 hb6
    go_wp2
    go_ret
    exact ⟨rfl, hB6⟩
  have HV1 := Lib.hid hv1
  clear hv1
  go_wp2_with fail
  refine (specPlacesValid_any _ m2 d2 ps w5 (by omega) hP5.slAt).mono ?_; rintro e w6 ⟨rfl, hb6⟩
  have hG6 := own_keep hG5 hb6
  have hC6 := hC5.below hb6
  have hP6 := hP5.below hb6
  have hB6 := below_next hB5 hb6
  clear hC5 hP5 hB5 hb6 hG5
  cases hv2 : placesB ps
  · have hq0 : q = 0 := by rw [HQ.out]; simp [giveDL, hv2]
    subst hq0
    clear hv2
    go_wp2_with fail
    refine (alive_any w6).mono ?_; rintro e w7 ⟨rfl, hb7⟩
    have hB7 := below_next hB6 hb7
    go_wp2
    go_ret
    exact ⟨rfl, hB7⟩
  have HV2 := Lib.hid hv2
  clear hv2
  go_wp2_with fail
  refine (giveValid_any _ m d cs _ m2 d2 ps X q xc (giveDL cs ps) w6 hmd hC6.slAt (by omega) hP6.slAt hxc (OwnAt.farInts hG6).ints).mono ?_; rintro e w7 ⟨rfl, hb7⟩
  rw [giveDL_valid HV1.out HV2.out]
  have hG7 := own_keep hG6 hb7
  have hC7 := hC6.below hb7
  have hP7 := hP6.below hb7
  have hB7 := below_next hB6 hb7
  clear hC6 hP6 hB6 hb7 hG6
  go_wp2_with fail
  refine (nested_any _ m d cs w7 hmd hC7.slAt).mono ?_; rintro e w8 ⟨v, rfl, hv, hb8⟩
  have hG8 := own_keep hG7 hb8
  have hC8 := hC7.below hb8
  have hP8 := hP7.below hb8
  have hB8 := below_next hB7 hb8
  clear hC7 hP7 hB7 hb8 hG7
  cases v
  · clear hv
    go_wp2
    go_ret
    exact ⟨rfl, hB8⟩
  have hmany := down_most HV1.out HV2.out (hv.1 rfl).2
  have hM : mostI3 cs ps = ((manyN (bestAll cs ps) : Nat) : Int) := mostI3_yes HV1.out HV2.out
  rw [← hmany] at hM
  clear hv hmany
  go_wp2_with fail
  refine (giveMany_any X q xc (giveDL cs ps) w8 (by omega) (OwnAt.farInts hG8).ints).mono ?_; rintro e w9 ⟨rfl, rfl⟩
  go_wp2_with fail
  refine (giveMost_any _ m d cs _ m2 d2 ps w8 hmd hC8.slAt (by omega) hP8.slAt).mono ?_; rintro e w9 ⟨rfl, hb9⟩
  rw [hM]
  have hB9 := below_next hB8 hb9
  have heq : (((manyN (giveDL cs ps) : Nat) : Int) == ((manyN (giveDL cs ps) : Nat) : Int)) = true := by simp
  go_wp2
  go_ret
  exact ⟨rfl, hB9⟩
end Go.Proofs.YtmmaeninlhbaaaaDoor
