/-
  The law FnGiveMost: for every set of cars, at most all but as many have a place as they are more than the places for them; and for one set it is exactly so many.
-/
import Derived.Test.YtmmaeninlhbaaaaDoorDrBest
import Derived.Test.YtmmaeninlhbaaaaDoorAlive
import Derived.Test.YtmmaeninlhbaaaaDoorMost3
import Derived.Test.YtmmaeninlhbaaaaDoorOf
import Derived.Test.YtmmaeninlhbaaaaDoorHallP
namespace Go.Proofs.YtmmaeninlhbaaaaDoor
open Go.ChangeShapes Go.WideShapes Go.ChangeAt Go.RowKit

set_option maxRecDepth 100000 in
set_option maxHeartbeats 2000000 in
theorem lawGiveMost (A : Option Addr) (n c : Nat) (bs : List Int) (w : World) (hn : n ≤ c ∧ c ≤ 9223372036854775807) (hb : BytesAt w A n bs) :
    Calls Tryd.prog 7 #[.slice A n c] w (RV w (.bool true)) := by
  obtain ⟨hn1, hn2⟩ := hn
  by_cases hbig : 1048576 < n
  · have hd : decide (1048576 < n) = true := by simpa using hbig
    go_enter Tryd.func7, Tryd.ntmps7
    go_wp2
    go_ret
    exact ⟨rfl, Below.refl _ _⟩
  have hd : decide (1048576 < n) = false := by simpa using hbig
  have HB := Lib.hid hb
  clear hb
  have hbs : ∀ w : World, (Instr.buildSlice 27 0 #[]).run Tryd.prog w = .ok (.slice (some ⟨w.heap.size, 0, none⟩) 0 0) (w.alloc (.cells #[] 3)) := fun _ => by kernel_rfl
  go_enter Tryd.func7, Tryd.ntmps7
  go_wp2_with fail
  refine (drawGiveMost_any w A n c bs ⟨hn1, hn2⟩ HB.out).mono ?_; rintro e w1 ⟨g, m, d, cs, g2, m2, d2, ps, rfl, hC1, hm, hP1, hm2, hb1⟩
  clear HB hn1 hn2 hbig hd
  have hmd : m ≤ d ∧ d ≤ 9223372036854775807 := hC1.cap
  go_wp2_with fail
  refine (giveMost_any _ m d cs _ m2 d2 ps w1 hmd hC1.slAt (by omega) hP1.slAt).mono ?_; rintro e w2 ⟨rfl, hb2⟩
  have hC2 := hC1.below hb2
  have hP2 := hP1.below hb2
  have hB2 := below_next hb1 hb2
  clear hC1 hP1 hb1 hb2
  go_wp2_with fail
  refine (specGiveMost_any _ m d cs _ m2 d2 ps w2 hmd hC2.slAt (by omega) hP2.slAt).mono ?_; rintro e w3 ⟨rfl, hb3⟩
  have hC3 := hC2.below hb3
  have hP3 := hP2.below hb3
  have hB3 := below_next hB2 hb3
  clear hC2 hP2 hB2 hb3
  by_cases hv : carsB cs = true ∧ placesB ps = true
  · obtain ⟨hv1, hv2⟩ := hv
    have hM : mostI3 cs ps = ((manyN (bestAll cs ps) : Nat) : Int) := mostI3_yes hv1 hv2
    have hN : ((manyN (bestAll cs ps) : Nat) : Int) = manyL (bestAll cs ps) := rfl
    have hle : ∀ s, ((manyN (bestAll cs ps) : Nat) : Int) ≤ mostF cs ps (bitF s) := fun s => by rw [hN]; exact many_le (bestAll_giveB hv1 hv2) _
    have hpl : manyN (bestAll cs ps) ≤ m2 := by
      have := many_places (bestAll_giveB hv1 hv2)
      have hl := PlacesAt.len hP3.slAt
      omega
    have hlen : cs.length = m := CarsAt.len hC3.slAt
    have hex : ∃ s : Nat, s < 2 ^ m ∧ ((manyN (bestAll cs ps) : Nat) : Int) = mostF cs ps (bitF s) := by
      obtain ⟨s, h1, h2⟩ := best_set hv1 hv2
      exact ⟨s, by rw [← hlen]; exact h1, by rw [hN]; exact h2⟩
    have hm6 : m ≤ 6 := by rw [← hlen]; exact carsB_len hv1
    rw [hM]
    generalize manyN (bestAll cs ps) = N at hle hpl hex ⊢
    clear hM hN
    have HLE := Lib.hid hle
    have HEX := Lib.hid hex
    have HLEN := Lib.hid hlen
    obtain ⟨T, hT, hT64⟩ : ∃ T : Nat, Hid (T = 2 ^ m) ∧ T ≤ 64 := ⟨2 ^ m, rfl, by have := Nat.pow_le_pow_right (n := 2) (by omega) hm6; simpa using this⟩
    have hs0 : (2 : Int) ^ m = (T : Int) := by rw [hT.out, Int.natCast_pow]; rfl
    have hs1 : wrap64 ((2 : Int) ^ m) = (T : Int) := by rw [hs0]; exact IntWalk.wrap64_in _ (by omega)
    clear hle hex hlen hv1 hv2 hs0
    have hsame : ((N : Int) != (N : Int)) = false := by simp
    have hneg : decide ((N : Int) < 0) = false := by simp
    go_wp2
    go_loopw [6, 7, 8, 9, 10] (fun vb vs _ _ _ wr => ∃ (b : Bool) (s : Nat), s ≤ T ∧ vs = .int .i64 s ∧ vb = .bool b ∧ (∀ s', s' < s → (N : Int) = mostF cs ps (bitF s') → b = true) ∧ Below w3.heap.size w3 wr) (fun _ s _ _ _ _ => T - (intOf s).toNat)
    case atStart => exact ⟨false, 0, by omega, rfl, rfl, fun s' h => by omega, Below.refl _ _⟩
    case round =>
      obtain ⟨b, s, hsT, rfl, rfl, hb, hbw⟩ := hrel
      have HBB := Lib.hid hb
      clear hb
      by_cases hlt : s < T
      · go_wp2
        have hO0 := own0 (base := w3.heap.size) (w1 := wr) hbw.size
        have hb0 := hbw.alloc hbw.size (.cells #[] 3)
        generalize wr.alloc (.cells #[] 3) = wv at hO0 hb0 ⊢
        clear hs1 hbs
        go_loopw [8, 9] (fun vl vk wr2 => ∃ (k j : Nat) (g9 cap : Nat), k ≤ m ∧ vk = .int .i64 k ∧ vl = .slice (some ⟨g9, 0, none⟩) j cap ∧ j = (selK (bitF s) k).length ∧ wr2.ownsRow w3.heap.size 3 1 (.slice (some ⟨g9, 0, none⟩) j cap) j ((selK (bitF s) k).map (Value.int .i64)) ∧ Below w3.heap.size w3 wr2) (fun _ i _ => m - (intOf i).toNat)
        case atStart => exact ⟨0, 0, _, _, by omega, rfl, rfl, rfl, hO0, hb0⟩
        case round =>
          obtain ⟨k, j, g9, cap, hkm, rfl, rfl, hj, hO9, hb9⟩ := hrel
          have hjk : j ≤ k := by rw [hj]; exact selK_len _ _
          have HJ := Lib.hid hj
          clear hj hO0 hb0
          by_cases hlt2 : k < m
          · obtain ⟨q, hq⟩ : ∃ q : Nat, s / 2 ^ k = q := ⟨_, rfl⟩
            have hq1 : (s : Int) / 2 ^ k = (q : Int) := by rw [← hq, Int.natCast_ediv, Int.natCast_pow]; rfl
            have HQ := Lib.hid hq
            clear hq
            by_cases hbit : q % 2 = 1
            · have hr1 : ((q : Int)).tmod 2 = 1 := by rw [show ((q : Int)).tmod 2 = ((q % 2 : Nat) : Int) from rfl, hbit]; rfl
              have hr2 : ((q : Int)) % 2 = 1 := by omega
              have hbt : bitF s k = true := by unfold bitF; rw [HQ.out]; simpa using hbit
              have HBT := Lib.hid hbt
              clear hbt hbit
              go_wp2_with (at_builtin; refine wpList_more (base := w3.heap.size) rfl (.tmp 53) (.tmp 55) rfl hb9.size hO9 (k : Int) rfl rfl (by omega) ?_; intro ga capa wa hOa hba)
              go_roundw
              case rel => exact ⟨k + 1, j + 1, ga, capa, by omega, by go_num, rfl, by rw [selK_yes HBT.out, List.length_append, ← HJ.out]; rfl, by rw [selK_yes HBT.out]; exact hOa, hb9.trans hba⟩
              case measure => simp [intOf]; omega
            · have hr1 : ((q : Int)).tmod 2 = 0 := by rw [show ((q : Int)).tmod 2 = ((q % 2 : Nat) : Int) from rfl, show q % 2 = 0 by omega]; rfl
              have hr2 : ((q : Int)) % 2 = 0 := by omega
              have hbt : bitF s k = false := by unfold bitF; rw [HQ.out]; simpa using hbit
              have HBT := Lib.hid hbt
              clear hbt hbit
              go_wp2
              go_roundw
              case rel => exact ⟨k + 1, j, g9, cap, by omega, by go_num, rfl, by rw [selK_no HBT.out]; exact HJ.out, by rw [selK_no HBT.out]; exact hO9, hb9⟩
              case measure => simp [intOf]; omega
          · obtain rfl : k = m := by omega
            clear hlt2 hkm
            have hw1 : IntKind.i64.wrap ((k : Int) - (j : Int)) = (k : Int) - (j : Int) := IntWalk.i64_in _ (by omega)
            go_wp2_with fail
            refine (placesOf_any _ k d cs _ m2 d2 ps (some ⟨g9, 0, none⟩) j cap (selK (bitF s) k) _ hmd (hC3.below hb9).slAt (by omega) (hP3.below hb9).slAt (by omega) (OwnAt.farInts hO9).ints).mono ?_; rintro e w5 ⟨X, q, xc, rfl, hq, -, hb5⟩
            have hB5 := below_next hb9 hb5
            have hq6 : q ≤ 6 := by rw [hq]; exact ofL_short _ _ _
            have hmo : mostF cs ps (bitF s) = (k : Int) - (j : Int) + (q : Int) := by
              unfold mostF; rw [HLEN.out, ← HJ.out, ← hq]
            have hw2 : IntKind.i64.wrap ((k : Int) - (j : Int) + (q : Int)) = (k : Int) - (j : Int) + (q : Int) := IntWalk.i64_in _ (by omega)
            have hnm := HLE.out s
            rw [hmo] at hnm
            have hnt : decide ((k : Int) - (j : Int) + (q : Int) < (N : Int)) = false := by simp; omega
            have HMO := Lib.hid hmo
            clear hmo hq hO9 hb9 hb5 hnm
            cases b
            · by_cases heq : (N : Int) = (k : Int) - (j : Int) + (q : Int)
              · have hqb : ((N : Int) == (k : Int) - (j : Int) + (q : Int)) = true := by simpa using heq
                clear heq
                go_wp2
                go_roundw
                case rel => exact ⟨true, s + 1, by omega, by go_num, rfl, fun _ _ _ => rfl, hB5⟩
                case measure => simp [intOf]; omega
              · have hqb : ((N : Int) == (k : Int) - (j : Int) + (q : Int)) = false := by simpa using heq
                have HNE := Lib.hid heq
                clear heq
                go_wp2
                go_roundw
                case rel =>
                  refine ⟨false, s + 1, by omega, by go_num, rfl, fun s' h1 h2 => ?_, hB5⟩
                  by_cases hs : s' = s
                  · subst hs; rw [HMO.out] at h2; exact absurd h2 HNE.out
                  · exact HBB.out s' (by omega) h2
                case measure => simp [intOf]; omega
            · go_wp2
              go_roundw
              case rel => exact ⟨true, s + 1, by omega, by go_num, rfl, fun _ _ _ => rfl, hB5⟩
              case measure => simp [intOf]; omega
      · have hbt : b = true := by
          obtain ⟨s0, h1, h2⟩ := HEX.out
          exact HBB.out s0 (by have := hT.out; omega) h2
        subst hbt
        have hle2 : decide ((N : Int) ≤ (m2 : Int)) = true := by simp; omega
        go_wp2
        go_ret
        exact ⟨rfl, below_next hB3 hbw⟩
  · have hM : mostI3 cs ps = -1 := by
      unfold mostI3
      rw [if_neg]
      simpa using hv
    rw [hM]
    clear hv hM
    have hsame : ((-1 : Int) != -1) = false := by decide
    go_wp2_with fail
    refine (alive_any w3).mono ?_; rintro e w4 ⟨rfl, hb4⟩
    have hB4 := below_next hB3 hb4
    go_wp2
    go_ret
    exact ⟨rfl, hB4⟩
end Go.Proofs.YtmmaeninlhbaaaaDoor
