/-
  How many cars have a place at most: GiveMost of the program and of the reference.
-/
import Derived.Test.YtmmaeninlhbaaaaDoorBestI
namespace Go.Proofs.YtmmaeninlhbaaaaDoor
open Go.ChangeShapes Go.WideShapes Go.ChangeAt Go.RowKit

def mostI3 (cs : List C4) (ps : List P3) : Int := if carsB cs && placesB ps then manyL (bestAll cs ps) else -1
theorem mostI3_cars {cs : List C4} {ps : List P3} (h : carsB cs = false) : mostI3 cs ps = -1 := by simp [mostI3, h]
theorem mostI3_places {cs : List C4} {ps : List P3} (h : placesB ps = false) : mostI3 cs ps = -1 := by simp [mostI3, h]
theorem mostI3_yes {cs : List C4} {ps : List P3} (h1 : carsB cs = true) (h2 : placesB ps = true) : mostI3 cs ps = ((manyN (bestAll cs ps) : Nat) : Int) := by simp only [mostI3, h1, h2]; rfl

set_option maxHeartbeats 2000000 in
theorem giveMost_any (A : Option Addr) (n c : Nat) (cs : List C4) (P : Option Addr) (m pc : Nat) (ps : List P3) (w : World)
    (hn : n ≤ c ∧ c ≤ 9223372036854775807) (hx : CarsAt w A n cs) (hm : m ≤ 9223372036854775807) (hp : PlacesAt w P m ps) :
    Calls Tryd.prog 19 #[.slice A n c, .slice P m pc] w (RV w (.int .i64 (mostI3 cs ps))) := by
  have HN := Lib.hid hn
  cases hC : carsB cs
  · have HC := Lib.hid hC
    go_enter Tryd.func19, Tryd.ntmps19
    go_wp2_with fail
    refine (carsValid_any A n c cs _ HN.out hx).mono ?_; rintro e w1 ⟨rfl, hb1⟩
    go_wp2
    go_ret
    exact ⟨ret_int (mostI3_cars HC.out).symm, hb1⟩
  have HC := Lib.hid hC
  cases hP : placesB ps
  · have HP := Lib.hid hP
    go_enter Tryd.func19, Tryd.ntmps19
    go_wp2_with fail
    refine (carsValid_any A n c cs _ HN.out hx).mono ?_; rintro e w1 ⟨rfl, hb1⟩
    go_wp2_with fail
    refine (placesValid_any P m pc ps _ hm (hp.below hb1)).mono ?_; rintro e w2 ⟨rfl, hb2⟩
    go_wp2
    go_ret
    exact ⟨ret_int (mostI3_places HP.out).symm, below_next hb1 hb2⟩
  have HP := Lib.hid hP
  go_enter Tryd.func19, Tryd.ntmps19
  go_wp2_with fail
  refine (carsValid_any A n c cs _ HN.out hx).mono ?_; rintro e w1 ⟨rfl, hb1⟩
  go_wp2_with fail
  refine (placesValid_any P m pc ps _ hm (hp.below hb1)).mono ?_; rintro e w2 ⟨rfl, hb2⟩
  have hb0 := below_next hb1 hb2
  go_wp2_with fail
  refine (giveBest_any A n c cs P m pc ps _ HN.out (hx.below hb0) hm (hp.below hb0)).mono ?_; rintro e w3 ⟨X, q, xc, rfl, hq, hX, hb3⟩
  have hq6 : q ≤ 6 := by have := bestAll_short cs ps; omega
  clear hq
  go_wp2_with fail
  refine (giveMany_any X q xc (bestAll cs ps) _ (by omega) hX.slAt).mono ?_; rintro e w4 ⟨rfl, rfl⟩
  go_wp2
  go_ret
  exact ⟨ret_int (mostI3_yes HC.out HP.out).symm, below_next hb0 hb3⟩

set_option maxHeartbeats 2000000 in
theorem specGiveMost_any (A : Option Addr) (n c : Nat) (cs : List C4) (P : Option Addr) (m pc : Nat) (ps : List P3) (w : World)
    (hn : n ≤ c ∧ c ≤ 9223372036854775807) (hx : CarsAt w A n cs) (hm : m ≤ 9223372036854775807) (hp : PlacesAt w P m ps) :
    Calls Tryd.prog 31 #[.slice A n c, .slice P m pc] w (RV w (.int .i64 (mostI3 cs ps))) := by
  have HN := Lib.hid hn
  cases hC : carsB cs
  · have HC := Lib.hid hC
    go_enter Tryd.func31, Tryd.ntmps31
    go_wp2_with fail
    refine (specCarsValid_any A n c cs _ HN.out hx).mono ?_; rintro e w1 ⟨rfl, hb1⟩
    go_wp2
    go_ret
    exact ⟨ret_int (mostI3_cars HC.out).symm, hb1⟩
  have HC := Lib.hid hC
  cases hP : placesB ps
  · have HP := Lib.hid hP
    go_enter Tryd.func31, Tryd.ntmps31
    go_wp2_with fail
    refine (specCarsValid_any A n c cs _ HN.out hx).mono ?_; rintro e w1 ⟨rfl, hb1⟩
    go_wp2_with fail
    refine (specPlacesValid_any P m pc ps _ hm (hp.below hb1)).mono ?_; rintro e w2 ⟨rfl, hb2⟩
    go_wp2
    go_ret
    exact ⟨ret_int (mostI3_places HP.out).symm, below_next hb1 hb2⟩
  have HP := Lib.hid hP
  go_enter Tryd.func31, Tryd.ntmps31
  go_wp2_with fail
  refine (specCarsValid_any A n c cs _ HN.out hx).mono ?_; rintro e w1 ⟨rfl, hb1⟩
  go_wp2_with fail
  refine (specPlacesValid_any P m pc ps _ hm (hp.below hb1)).mono ?_; rintro e w2 ⟨rfl, hb2⟩
  have hb0 := below_next hb1 hb2
  go_wp2_with fail
  refine (specGiveBest_any A n c cs P m pc ps _ HN.out (hx.below hb0) hm (hp.below hb0)).mono ?_; rintro e w3 ⟨X, q, xc, rfl, hq, hX, hb3⟩
  have hq6 : q ≤ 6 := by have := bestAll_short cs ps; omega
  clear hq
  go_wp2_with fail
  refine (specGiveMany_any X q xc (bestAll cs ps) _ (by omega) hX.slAt).mono ?_; rintro e w4 ⟨rfl, rfl⟩
  go_wp2
  go_ret
  exact ⟨ret_int (mostI3_yes HC.out HP.out).symm, below_next hb0 hb3⟩

end Go.Proofs.YtmmaeninlhbaaaaDoor
