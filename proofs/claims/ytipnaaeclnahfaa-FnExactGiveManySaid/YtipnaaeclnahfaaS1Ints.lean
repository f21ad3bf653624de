/-
  The walks of PlanUnits, GiveMany and FeedValid: the law returns true, whatever comes in.
-/
import Derived.Test.YtipnaaeclnahfaaSum
import Derived.Test.YtipnaaeclnahfaaInts
import Derived.Test.YtipnaaeclnahfaaS1Laws
namespace Go.Proofs.Ytipnaaeclnahfaa
open Go.ChangeShapes Go.WideShapes Go.ChangeAt Go.RowKit

set_option maxHeartbeats 1000000 in
theorem specFeedValid_any (A : Option Addr) (n c : Nat) (xs : List Int) (w : World) (hn : n ≤ 9223372036854775807) (hx : IntsAt w A n xs) :
    Calls Try.prog 27 #[.slice A n c] w (RS w (.bool (feedB xs))) := by
  have HL := Lib.hid hx.len
  go_enter Try.func27, Try.ntmps27
  go_wp2
  go_loop [3] (fun i => ∃ k : Nat, k ≤ n ∧ i = .int .i64 k ∧ feedE (xs.take k) = true) (fun i => n - (intOf i).toNat)
  case atStart => exact ⟨0, Nat.zero_le _, rfl, rfl⟩
  case round =>
    obtain ⟨k, hk, rfl, he⟩ := hrel
    have HE := Lib.hid he
    clear he
    by_cases hlt : k < n
    · obtain ⟨x, b, off, HX, rfl, hb, hc⟩ := hx.get hlt
      by_cases h0 : 0 ≤ x ∧ x ≤ 30
      · go_wp2_with (go_at_call 29; refine (l1In_any _ _ _ _).mono ?_; rintro e w1 ⟨rfl, rfl⟩)
        go_round
        case rel => exact ⟨k + 1, by omega, by go_num, by rw [feedE_next HX, HE.out]; simp; omega⟩
        case measure => simp [intOf]; omega
      · have h0' : (decide (0 ≤ x) && decide (x ≤ 30)) = false := by rw [Bool.and_eq_false_iff]; simp; omega
        go_wp2_with (go_at_call 29; refine (l1In_any _ _ _ _).mono ?_; rintro e w1 ⟨rfl, rfl⟩)
        go_ret
        exact ⟨ret_bool (feedE_bad HX (by omega)).symm, rfl⟩
    · by_cases h6 : n = 6
      · subst h6
        go_wp2
        go_ret
        exact ⟨ret_bool (feedB_all HL.out (by omega) HE.out rfl).symm, rfl⟩
      · have h6' : ((n : Int) == 6) = false := by simp; omega
        go_wp2
        go_ret
        exact ⟨ret_bool (by simp [feedB, HL.out, h6]), rfl⟩

set_option maxHeartbeats 1000000 in
theorem law_planUnits (A : Option Addr) (n c : Nat) (xs : List Int) (w : World) (hm : n ≤ maxLen) (hx : IntsAt w A n xs) :
    Calls Try.prog 6 #[.slice A n c] w (RV w (.bool true)) := by
  unfold maxLen at hm
  by_cases hbig : 1048576 < n
  · go_enter Try.func6, Try.ntmps6
    go_wp2
    go_ret
    exact ⟨rfl, Below.refl _ _⟩
  · go_enter Try.func6, Try.ntmps6
    go_wp2_with fail
    refine (toIntS_any A n c xs _ (by omega) hx).mono ?_; rintro e w1 ⟨A1, c1, rfl, ho1, hb1⟩
    go_wp2_with fail
    refine (specPlanUnits_any A1 n c1 xs w1 (by omega) ho1.slAt).mono ?_; rintro e w2 ⟨rfl, rfl⟩
    go_wp2_with fail
    refine (toIntS_any A n c xs _ (by omega) (hx.below hb1)).mono ?_; rintro e w2 ⟨A2, c2, rfl, ho2, hb2⟩
    have hB2 := below_next hb1 hb2
    go_wp2_with fail
    refine (planUnits_any A2 n c2 xs w2 (by omega) ho2.slAt).mono ?_; rintro e w3 ⟨rfl, rfl⟩
    go_wp2_with fail
    refine (toIntS_any A n c xs _ (by omega) (hx.below hB2)).mono ?_; rintro e w3 ⟨A3, c3, rfl, ho3, hb3⟩
    go_wp2_with fail
    refine (eqIntS_any A2 A3 n c2 n c3 xs xs w3 (by omega) (ho2.below hb3).slAt ho3.slAt).mono ?_; rintro e w4 ⟨rfl, hb4⟩
    go_wp2
    go_ret
    exact ⟨rfl, below_next (below_next hB2 hb3) hb4⟩

set_option maxHeartbeats 1000000 in
theorem law_giveMany (A : Option Addr) (n c : Nat) (xs : List Int) (w : World) (hm : n ≤ maxLen) (hx : IntsAt w A n xs) :
    Calls Try.prog 7 #[.slice A n c] w (RV w (.bool true)) := by
  unfold maxLen at hm
  by_cases hbig : 1048576 < n
  · go_enter Try.func7, Try.ntmps7
    go_wp2
    go_ret
    exact ⟨rfl, Below.refl _ _⟩
  · go_enter Try.func7, Try.ntmps7
    go_wp2_with fail
    refine (toIntS_any A n c xs _ (by omega) hx).mono ?_; rintro e w1 ⟨A1, c1, rfl, ho1, hb1⟩
    go_wp2_with fail
    refine (specGiveMany_any A1 n c1 xs w1 (by omega) ho1.slAt).mono ?_; rintro e w2 ⟨rfl, rfl⟩
    go_wp2_with fail
    refine (toIntS_any A n c xs _ (by omega) (hx.below hb1)).mono ?_; rintro e w2 ⟨A2, c2, rfl, ho2, hb2⟩
    have hB2 := below_next hb1 hb2
    go_wp2_with fail
    refine (giveMany_any A2 n c2 xs w2 (by omega) ho2.slAt).mono ?_; rintro e w3 ⟨rfl, rfl⟩
    go_wp2_with fail
    refine (toIntS_any A n c xs _ (by omega) (hx.below hB2)).mono ?_; rintro e w3 ⟨A3, c3, rfl, ho3, hb3⟩
    go_wp2_with fail
    refine (eqIntS_any A2 A3 n c2 n c3 xs xs w3 (by omega) (ho2.below hb3).slAt ho3.slAt).mono ?_; rintro e w4 ⟨rfl, hb4⟩
    go_wp2
    go_ret
    exact ⟨rfl, below_next (below_next hB2 hb3) hb4⟩

set_option maxHeartbeats 1000000 in
theorem law_feedValid (A : Option Addr) (n c : Nat) (xs : List Int) (w : World) (hm : n ≤ maxLen) (hx : IntsAt w A n xs) :
    Calls Try.prog 9 #[.slice A n c] w (RV w (.bool true)) := by
  unfold maxLen at hm
  by_cases hbig : 1048576 < n
  · go_enter Try.func9, Try.ntmps9
    go_wp2
    go_ret
    exact ⟨rfl, Below.refl _ _⟩
  · go_enter Try.func9, Try.ntmps9
    go_wp2_with fail
    refine (toIntS_any A n c xs _ (by omega) hx).mono ?_; rintro e w1 ⟨A1, c1, rfl, ho1, hb1⟩
    go_wp2_with fail
    refine (specFeedValid_any A1 n c1 xs w1 (by omega) ho1.slAt).mono ?_; rintro e w2 ⟨rfl, rfl⟩
    go_wp2_with fail
    refine (toIntS_any A n c xs _ (by omega) (hx.below hb1)).mono ?_; rintro e w2 ⟨A2, c2, rfl, ho2, hb2⟩
    have hB2 := below_next hb1 hb2
    go_wp2_with fail
    refine (feedValid_any A2 n c2 xs w2 (by omega) ho2.slAt).mono ?_; rintro e w3 ⟨rfl, rfl⟩
    go_wp2_with fail
    refine (toIntS_any A n c xs _ (by omega) (hx.below hB2)).mono ?_; rintro e w3 ⟨A3, c3, rfl, ho3, hb3⟩
    go_wp2_with fail
    refine (eqIntS_any A2 A3 n c2 n c3 xs xs w3 (by omega) (ho2.below hb3).slAt ho3.slAt).mono ?_; rintro e w4 ⟨rfl, hb4⟩
    go_wp2
    go_ret
    exact ⟨rfl, below_next (below_next hB2 hb3) hb4⟩
end Go.Proofs.Ytipnaaeclnahfaa
