/-
  HallValid of the reference.
-/
import Derived.Test.YtdebjcempkgeaaaGreatDoorHallA
import Derived.Test.YtdebjcempkgeaaaGreatDoorHas
import Derived.Test.YtdebjcempkgeaaaGreatDoorL1
namespace Go.Proofs.YtdebjcempkgeaaaGreatDoor
open Go.ChangeShapes Go.WideShapes Go.ChangeAt Go.RowKit

theorem l1In_same (x l g : Int) (b : Bool) (w : World) (hb : (decide (l ≤ x) && decide (x ≤ g)) = b) :
    Calls Tryz.prog 39 #[.int .i64 x, .int .i64 l, .int .i64 g] w fun e w' => e = .returned (.bool b) ∧ w' = w :=
  (l1In_any x l g w).mono fun _ _ ⟨h1, h2⟩ => ⟨by rw [h1, hb], h2.symm⟩

set_option maxRecDepth 100000 in
set_option maxHeartbeats 4000000 in
theorem specHallValid_any (wd dp : Int) (A : Option Addr) (n c : Nat) (g : List Int) (w : World) (hn : n ≤ 9223372036854775807) (hnc : n ≤ c) (hg : IntsAt w A n g) :
    Calls Tryz.prog 21 #[.agg #[.int .i64 wd, .int .i64 dp, .slice A n c]] w (RV w (.bool (hallB wd dp g))) := by
  have HL := Lib.hid hg.len
  have hW := Whole.new w 25 [.int .i64 wd, .int .i64 dp, .slice A n c]
  have hbox : Below w.heap.size w (w.alloc (.cells #[.int .i64 wd, .int .i64 dp, .slice A n c] 25)) := (Below.refl _ _).alloc (Nat.le_refl _) _
  by_cases hw : 2 ≤ wd ∧ wd ≤ 4
  case neg =>
    have d1 : (decide (2 ≤ wd) && decide (wd ≤ 4)) = false := by simp; omega
    have hR : Hid (hallB wd dp g = false) := Lib.hid (hallB_size (by omega))
    rw [hR.out]
    go_enter Tryz.func21, Tryz.ntmps21
    go_wp2_with (go_at_call 39; refine (l1In_same _ _ _ _ _ d1).mono ?_; rintro e w1 ⟨rfl, rfl⟩)
    go_ret
    exact ⟨rfl, hbox⟩
  have d1 : (decide (2 ≤ wd) && decide (wd ≤ 4)) = true := by simp; omega
  by_cases hd : 2 ≤ dp ∧ dp ≤ 3
  case neg =>
    have d2 : (decide (2 ≤ dp) && decide (dp ≤ 3)) = false := by simp; omega
    have hR : Hid (hallB wd dp g = false) := Lib.hid (hallB_size (by omega))
    rw [hR.out]
    go_enter Tryz.func21, Tryz.ntmps21
    go_wp2_with (go_at_call 39; (first | (with_reducible refine (l1In_same _ _ _ _ _ d1).mono ?_) | (with_reducible refine (l1In_same _ _ _ _ _ d2).mono ?_)); rintro e w1 ⟨rfl, rfl⟩)
    go_ret
    exact ⟨rfl, hbox⟩
  have d2 : (decide (2 ≤ dp) && decide (dp ≤ 3)) = true := by simp; omega
  obtain ⟨q, hq⟩ : ∃ q : Int, Hid (q = wd * dp) := ⟨_, rfl⟩
  have hq1 : 4 ≤ wd * dp ∧ wd * dp ≤ 12 := by
    have a1 : wd = 2 ∨ wd = 3 ∨ wd = 4 := by omega
    have a2 : dp = 2 ∨ dp = 3 := by omega
    rcases a1 with rfl | rfl | rfl <;> rcases a2 with rfl | rfl <;> omega
  have hqw : IntKind.i64.wrap (wd * dp) = q := by rw [hq.out]; exact IntWalk.i64_in _ (by omega)
  have hq2 : 4 ≤ q ∧ q ≤ 12 := by rw [hq.out]; exact hq1
  clear hq1
  have HR := Lib.hid hw
  have HD := Lib.hid hd
  clear hw hd
  by_cases hnq : (n : Int) = q
  case neg =>
    have hne : ((n : Int) != q) = true := bne_iff_ne.2 hnq
    have HNQ := Lib.hid hnq
    have hR : Hid (hallB wd dp g = false) := Lib.hid (hallB_size (by have a := HNQ.out; have b := HL.out; have d := hq.out; omega))
    clear hnq
    rw [hR.out]
    go_enter Tryz.func21, Tryz.ntmps21
    go_wp2_with (go_at_call 39; (first | (with_reducible refine (l1In_same _ _ _ _ _ d1).mono ?_) | (with_reducible refine (l1In_same _ _ _ _ _ d2).mono ?_)); rintro e w1 ⟨rfl, rfl⟩)
    go_ret
    exact ⟨rfl, hbox⟩
  have hne : ((n : Int) != q) = false := by simp [hnq]
  have HNQ := Lib.hid hnq
  have hn12 : n ≤ 12 := by omega
  clear hnq
  go_enter Tryz.func21, Tryz.ntmps21
  go_wp2_with (go_at_call 39; (first | (with_reducible refine (l1In_same _ _ _ _ _ d1).mono ?_) | (with_reducible refine (l1In_same _ _ _ _ _ d2).mono ?_)); rintro e w1 ⟨rfl, rfl⟩)
  clear d1 d2 hqw hne
  obtain ⟨Q, HQ⟩ : ∃ Q, Hid (Q = w.heap.size) := ⟨_, rfl⟩
  generalize w.alloc (.cells #[.int .i64 wd, .int .i64 dp, .slice A n c] 25) = w1 at hW hbox ⊢
  rw [← HQ.out] at hW ⊢
  go_loopw [3] (fun i wr => ∃ k : Nat, k ≤ n ∧ i = .int .i64 k ∧ Hid (∀ i, i < k → cellAt g i = true) ∧ Whole wr Q 25 [.int .i64 wd, .int .i64 dp, .slice A n c] ∧ Below w.heap.size w wr) (fun i _ => n - (intOf i).toNat)
  case atStart => exact ⟨0, Nat.zero_le _, rfl, Lib.hid fun i h => by omega, hW, hbox⟩
  case round =>
    obtain ⟨k, hk, rfl, HOK, hWr, hbw⟩ := hrel
    clear hW hbox
    have q2 : wr.cell? ⟨Q, 2, none⟩ = some (.slice A n c) := hWr.cell 2
    by_cases hlt : k < n
    · obtain ⟨z, b, off, HZ, rfl, hb, hc⟩ := (hg.below hbw).get hlt
      have HE := Lib.hid (cellAt_get HZ)
      by_cases hz : 0 ≤ z ∧ z ≤ 99
      case neg =>
        have d3 : (decide (0 ≤ z) && decide (z ≤ 99)) = false := by simp; omega
        have hR : Hid (hallB wd dp g = false) := Lib.hid (hallB_bad (k := k) (by have := HL.out; omega) (by rw [HE.out]; unfold cellZ; simp; omega))
        rw [hR.out]
        clear hz
        have HD3 := Lib.hid d3
        clear d3
        go_wp2
        go_quiet ((go_at_call 39; exact Calls.quiet_of_same (l1In_same _ _ _ _ _ HD3.out)))
        go_wp2
        go_ret
        exact ⟨rfl, below_drewN hbw _⟩
      have d3 : (decide (0 ≤ z) && decide (z ≤ 99)) = true := by simp; omega
      have HZ2 := Lib.hid hz
      have HD3 := Lib.hid d3
      clear d3 hz
      by_cases hz0 : 0 < z
      · have d4 : decide (0 < z) = true := by simpa using hz0
        have hxs : IntsAt wr (some ⟨b, off, none⟩) k (g.take k) := (hg.below hbw).take hk
        cases hh : hasB (g.take k) z
        · have HC : Hid (cellAt g k = true) := Lib.hid (by
            have h2 := HZ2.out
            rw [HE.out]; unfold cellZ
            unfold hasB at hh
            rw [hh]; simp; omega)
          have hc24 := fun w' (h : IntsAt w' (some ⟨b, off, none⟩) k (g.take k)) => l1Has_no (some ⟨b, off, none⟩) k c (g.take k) z w' (by omega) h hh
          have HC24 := Lib.hid hc24
          clear hc24 hh hz0
          have HXS := Lib.hid hxs
          clear hxs
          go_wp2
          go_quiet ((first | (go_at_call 39; exact Calls.quiet_of_same (l1In_same _ _ _ _ _ HD3.out)) | (go_at_call 40; exact Calls.quiet_of_same ((HC24.out _ (IntsAt.drew HXS.out _)).mono fun _ _ h => ⟨h.1, h.2.symm⟩))))
          go_wp2
          go_roundw
          case rel => exact ⟨k + 1, by omega, by go_num, Lib.hid (cellAt_next HOK.out HC.out), hWr, below_drewN hbw _⟩
          case measure => simp [intOf]; omega
        · have hR : Hid (hallB wd dp g = false) := Lib.hid (hallB_bad (k := k) (by have := HL.out; omega) (by
            rw [HE.out]; unfold cellZ
            unfold hasB at hh
            rw [hh]; simp; omega))
          rw [hR.out]
          have hc24 := fun w' (h : IntsAt w' (some ⟨b, off, none⟩) k (g.take k)) => l1Has_yes (some ⟨b, off, none⟩) k c (g.take k) z w' (by omega) h hh
          have HC24 := Lib.hid hc24
          clear hc24 hh hz0
          have HXS := Lib.hid hxs
          clear hxs
          go_wp2
          go_quiet ((first | (go_at_call 39; exact Calls.quiet_of_same (l1In_same _ _ _ _ _ HD3.out)) | (go_at_call 40; exact Calls.quiet_of_same ((HC24.out _ (IntsAt.drew HXS.out _)).mono fun _ _ h => ⟨h.1, h.2.symm⟩))))
          go_wp2
          go_ret
          exact ⟨rfl, below_drewN hbw _⟩
      · have d4 : decide (0 < z) = false := by simpa using hz0
        have HC : Hid (cellAt g k = true) := Lib.hid (by
          have h2 := HZ2.out
          rw [HE.out]; unfold cellZ
          rw [d4]; simp; omega)
        clear hz0
        go_wp2
        go_quiet ((go_at_call 39; exact Calls.quiet_of_same (l1In_same _ _ _ _ _ HD3.out)))
        go_wp2
        go_roundw
        case rel => exact ⟨k + 1, by omega, by go_num, Lib.hid (cellAt_next HOK.out HC.out), hWr, below_drewN hbw _⟩
        case measure => simp [intOf]; omega
    · have hR : Hid (hallB wd dp g = true) := Lib.hid (hallB_all ⟨HR.out.1, HR.out.2, HD.out.1, HD.out.2, by have a := HNQ.out; have d := hq.out; have b := HL.out; omega⟩ (fun i hi => HOK.out i (by have := HL.out; omega)))
      go_wp2
      go_ret
      exact ⟨ret_bool hR.out.symm, hbw⟩
end Go.Proofs.YtdebjcempkgeaaaGreatDoor
