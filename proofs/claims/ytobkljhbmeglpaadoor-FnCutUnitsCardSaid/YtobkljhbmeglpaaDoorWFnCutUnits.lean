/-
  The law FnCutUnits: a cut is at least the most units; of all hours it is all that the feed has, of none at most all that is wanted.
-/
import Derived.Test.YtobkljhbmeglpaaDoorDrNeeds
import Derived.Test.YtobkljhbmeglpaaDoorDrFeed
import Derived.Test.YtobkljhbmeglpaaDoorAlive
import Derived.Test.YtobkljhbmeglpaaDoorChargeP
import Derived.Test.YtobkljhbmeglpaaDoorSumOf
namespace Go.Proofs.YtobkljhbmeglpaaDoor
open Go.ChangeShapes Go.WideShapes Go.ChangeAt Go.RowKit

def DrawCutR (w : World) (e : Ending) (w' : World) : Prop :=
  ∃ (g m d : Nat) (ns : List N4) (g2 off m2 d2 : Nat) (xs : List Int) (z : Int), e = .returned (.tuple #[.slice (some ⟨g, 0, none⟩) m d, .slice (some ⟨g2, off, none⟩) m2 d2, .int .i64 z]) ∧
    NeedsAt w' (some ⟨g, 0, none⟩) m ns ∧ m ≤ 7 ∧ IntsAt w' (some ⟨g2, off, none⟩) m2 xs ∧ m2 ≤ 7 ∧ Below w.heap.size w w'
set_option maxHeartbeats 1000000 in
theorem drawCutUnits_any (w : World) (A : Option Addr) (n c : Nat) (bs : List Int) (hn : n ≤ c ∧ c ≤ 9223372036854775807) (hb : BytesAt w A n bs) :
    Calls Tryd.prog 33 #[.slice A n c] w (DrawCutR w) := by
  go_enter Tryd.func33, Tryd.ntmps33
  go_wp2_with fail
  refine (open_any w A n c bs hn hb).mono ?_; rintro e w2 ⟨R, A1, n1, c1, bs1, rfl, hR2⟩
  go_wp2_with fail
  refine (l20Needs_any w w2 R A1 n1 c1 bs1 0 9 hR2 (by omega) (by omega) (by omega)).mono ?_; rintro e w3 ⟨g, m, d, ns, rfl, hO, hm, hR3, hf3⟩
  have hRl := hR2.lt
  have hRl3 := hR3.lt
  go_wp2_with fail
  refine (l20Feed_any w w3 R A1 n1 c1 bs1 100 9 hR3 (by omega) (by omega) (by omega)).mono ?_; rintro e w4 ⟨g2, off, m2, d2, xs, rfl, hI, hm2, hX, hR4, hf4⟩
  go_wp2_with fail
  refine (pick_any w _ R A1 n1 c1 bs1 110 64 hR4 (by omega)).mono ?_; rintro e w5 ⟨p1, rfl, hp0, hp1, -, hR5, hf5⟩
  replace hp1 := hp1 (by omega)
  go_wp2_with fail
  refine (pick_any w _ R A1 n1 c1 bs1 111 20 hR5 (by omega)).mono ?_; rintro e w6 ⟨p2, rfl, hq0, hq1, -, hR6, hf6⟩
  replace hq1 := hq1 (by omega)
  go_wp2_with fail
  refine (pick_any w _ R A1 n1 c1 bs1 112 20 hR6 (by omega)).mono ?_; rintro e w7 ⟨p3, rfl, hr0, hr1, -, hR7, hf7⟩
  replace hr1 := hr1 (by omega)
  have hf := ((hf4.trans hf5).trans hf6).trans hf7
  have hO7 : OwnAt w7 w2.heap.size 24 4 (.slice (some ⟨g, 0, none⟩) m d) m (nc ns) := ⟨ownsRow_fr1 hO.own hf hRl, hO.len, hO.one⟩
  have hI7 := ((hI.fr1 hf5 hRl3).fr1 hf6 hRl3).fr1 hf7 hRl3
  go_wp2
  exact bodyPost_ret (v := .tuple #[.slice (some ⟨g, 0, none⟩) m d, .slice (some ⟨g2, off, none⟩) m2 d2, .int .i64 _]) (by simp [results, Tryd.results33, go_sem]; rfl) rfl ⟨g, m, d, ns, g2, off, m2, d2, xs, _, rfl, hO7.slAt, hm, hI7.ints, hm2, hR7.bw⟩

set_option maxRecDepth 100000 in
set_option maxHeartbeats 2000000 in
theorem lawCutUnits (A : Option Addr) (n c : Nat) (bs : List Int) (w : World) (hn : n ≤ c ∧ c ≤ 9223372036854775807) (hb : BytesAt w A n bs) :
    Calls Tryd.prog 9 #[.slice A n c] w (RV w (.bool true)) := by
  obtain ⟨hn1, hn2⟩ := hn
  by_cases hbig : 1048576 < n
  · have hd : decide (1048576 < n) = true := by simpa using hbig
    go_enter Tryd.func9, Tryd.ntmps9
    go_wp2
    go_ret
    exact ⟨rfl, Below.refl _ _⟩
  have hd : decide (1048576 < n) = false := by simpa using hbig
  have HB := Lib.hid hb
  clear hb
  go_enter Tryd.func9, Tryd.ntmps9
  go_wp2_with fail
  refine (drawCutUnits_any w A n c bs ⟨hn1, hn2⟩ HB.out).mono ?_; rintro e w1 ⟨g, m, d, ns, g2, off, m2, d2, xs, z, rfl, hN, hm, hI, hm2, hb1⟩
  clear HB hn1 hn2 hbig hd
  obtain ⟨x, HX⟩ : ∃ x, Hid (cutR ns xs z = x) := ⟨_, rfl⟩
  go_wp2_with fail
  refine (cutUnits_any _ m d ns _ m2 d2 xs z w1 (by omega) hN (by omega) hI).mono ?_; rintro e w2 ⟨rfl, hb2⟩
  rw [HX.out]
  have hB2 := below_next hb1 hb2
  have hN2 := hN.below hb2
  have hI2 := hI.below hb2
  clear hN hI hb1 hb2
  go_wp2_with fail
  refine (specCutUnits_any _ m d ns _ m2 d2 xs z w2 (by omega) hN2 (by omega) hI2).mono ?_; rintro e w3 ⟨rfl, hb3⟩
  rw [HX.out]
  have hB3 := below_next hB2 hb3
  have hN3 := hN2.below hb3
  have hI3 := hI2.below hb3
  clear hN2 hI2 hB2 hb3
  have hxx : (x != x) = false := by simp
  by_cases hx0 : x < 0
  · obtain rfl : x = -1 := by have h := cutR_neg (ns := ns) (feed := xs) (z := z) (by rw [HX.out]; exact hx0); rw [HX.out] at h; exact h
    go_wp2_with fail
    refine (alive_any _).mono ?_; rintro e w4 ⟨rfl, hb4⟩
    go_wp2
    go_ret
    exact ⟨rfl, below_next hB3 hb4⟩
  · obtain ⟨hV, hF, hz0, hz1, hle⟩ := most_le_cut (ns := ns) (feed := xs) (z := z) (by rw [HX.out]; exact hx0)
    rw [HX.out] at hle
    have HV := Lib.hid hV
    have HF := Lib.hid hF
    have HL := Lib.hid (NeedsAt.len hN3)
    have h63 := cut_of_all hV hF
    have h00 := cut_of_none hV hF
    obtain ⟨mo, HMO⟩ : ∃ y, Hid (mostR ns xs = y) := ⟨_, rfl⟩
    rw [HMO.out] at hle
    obtain ⟨al, HAL⟩ : ∃ y, Hid (cutR ns xs 63 = y) := ⟨_, rfl⟩
    rw [HAL.out] at h63
    obtain ⟨no, HNO⟩ : ∃ y, Hid (cutR ns xs 0 = y) := ⟨_, rfl⟩
    rw [HNO.out, HL.out] at h00
    have H63 := Lib.hid h63
    clear h63 hV hF hz0 hz1
    go_wp2
    go_loop [7, 8] (fun t i => ∃ k : Nat, k ≤ m ∧ i = .int .i64 k ∧ t = .int .i64 (wantAll ns k)) (fun _ i => m - (intOf i).toNat)
    case atStart => exact ⟨0, Nat.zero_le _, rfl, rfl⟩
    case round =>
      obtain ⟨k, hk, rfl, rfl⟩ := hrel
      have hwb := wantAll_bd HV.out k
      by_cases hlt : k < m
      · obtain ⟨y, b, off, HY, he, hbl, hc0, hc1, hc2, hc3⟩ := hN3.get hlt
        injection he with he; injection he with e1 e2; subst e1; subst e2
        simp only [Nat.zero_add] at hc0 hc1 hc2 hc3
        have hxu := nvB_spec ((needsB_ok HV.out).2 y (List.mem_of_getElem? HY.out))
        clear h00
        go_wp2
        go_round
        case rel => exact ⟨k + 1, by omega, by go_num, by rw [wantAll_next HY]⟩
        case measure => simp [intOf]; omega
      · obtain rfl : k = m := by omega
        obtain ⟨s, HS⟩ : ∃ s, Hid (s = wantAll ns k) := ⟨_, rfl⟩
        rw [← HS.out] at hwb h00 ⊢
        go_wp2_with fail
        refine (mostUnits_any _ k d ns _ m2 d2 xs w3 (by omega) hN3 (by omega) hI3).mono ?_; rintro e w4 ⟨rfl, hb4⟩
        rw [HMO.out]
        have hB4 := below_next hB3 hb4
        have hN4 := hN3.below hb4
        have hI4 := hI3.below hb4
        clear hN3 hI3 hB3 hb4
        have hge : decide (mo ≤ x) = true := by simpa using hle
        go_wp2_with fail
        refine (cutUnits_any _ k d ns _ m2 d2 xs 63 w4 (by omega) hN4 (by omega) hI4).mono ?_; rintro e w5 ⟨rfl, hb5⟩
        rw [HAL.out]
        have hB5 := below_next hB4 hb5
        have hN5 := hN4.below hb5
        have hI5 := hI4.below hb5
        clear hN4 hI4 hB4 hb5
        go_wp2_with fail
        refine (sumOf_any _ m2 d2 xs w5 (by omega) hI5).mono ?_; rintro e w6 ⟨rfl, rfl⟩
        rw [← H63.out]
        have haa : (al == al) = true := by simp
        go_wp2_with fail
        refine (cutUnits_any _ k d ns _ m2 d2 xs 0 w5 (by omega) hN5 (by omega) hI5).mono ?_; rintro e w6 ⟨rfl, hb6⟩
        rw [HNO.out]
        have hB6 := below_next hB5 hb6
        go_wp2
        go_ret
        exact ⟨rfl, hB6⟩
end Go.Proofs.YtobkljhbmeglpaaDoor
