/-
  MostUnits of the reference; Enough, TightHours, LeastFeed of both.
-/
import Derived.Test.YtecjhomfoakaeaaMost
namespace Go.Proofs.Ytecjhomfoakaeaa
open Go.ChangeShapes Go.WideShapes Go.ChangeAt Go.RowKit

set_option maxHeartbeats 2000000 in
theorem specMostUnits_any (A : Option Addr) (n c : Nat) (ns : List N4) (F : Option Addr) (m fc : Nat) (feed : List Int) (w : World)
    (hn : n ≤ 9223372036854775807) (hx : NeedsAt w A n ns) (hm : m ≤ 9223372036854775807) (hf : IntsAt w F m feed) :
    Calls Try.prog 16 #[.slice A n c, .slice F m fc] w (RV w (.int .i64 (mostR ns feed))) := by
  by_cases hok : needsB ns = true ∧ feedB feed = true
  · have HOK := Lib.hid hok
    clear hok
    go_enter Try.func16, Try.ntmps16
    go_wp2
    go_loopw [5, 6] (fun t i wr => ∃ k : Nat, k ≤ 64 ∧ i = .int .i64 k ∧ t = .int .i64 (if k = 0 then -1 else leastI (cutI ns feed) (k - 1)) ∧ Below w.heap.size w wr) (fun _ i _ => 64 - (intOf i).toNat)
    case atStart => exact ⟨0, Nat.zero_le _, rfl, rfl, Below.refl _ _⟩
    case round =>
      obtain ⟨k, hk, rfl, rfl, hbw⟩ := hrel
      by_cases hlt : k < 64
      · have HC := Lib.hid (cutR_yes HOK.out.1 HOK.out.2 (z := (k : Int)) (by omega) (by omega))
        rw [Int.toNat_natCast] at HC
        have hgb := cutI_bd HOK.out.1 HOK.out.2 k
        by_cases hk0 : k = 0
        · subst hk0
          obtain ⟨g, HG⟩ : ∃ g, Hid (g = cutI ns feed 0) := ⟨_, rfl⟩
          rw [← HG.out] at hgb
          go_wp2_with fail
          refine (specCutUnits_any A n c ns F m fc feed _ _ hn (hx.below hbw) hm (hf.below hbw)).mono ?_; rintro e w1 ⟨rfl, hb1⟩
          have HC' : Hid (cutR ns feed 0 = cutI ns feed 0) := HC.out
          rw [HC'.out, ← HG.out]
          go_wp2
          go_roundw
          case rel => exact ⟨1, by omega, rfl, by rw [HG.out]; rfl, below_next hbw hb1⟩
          case measure => simp [intOf]
        · have hlb := leastI_bd (cutI_bd HOK.out.1 HOK.out.2) (k - 1)
          have HS : Hid (leastI (cutI ns feed) k = min (leastI (cutI ns feed) (k - 1)) (cutI ns feed k)) := by
            obtain ⟨j, rfl⟩ : ∃ j, k = j + 1 := ⟨k - 1, by omega⟩
            rfl
          rw [if_neg hk0]
          go_wp2_with fail
          refine (specCutUnits_any A n c ns F m fc feed _ _ hn (hx.below hbw) hm (hf.below hbw)).mono ?_; rintro e w1 ⟨rfl, hb1⟩
          rw [HC.out]
          obtain ⟨l, HLl⟩ : ∃ l, Hid (l = leastI (cutI ns feed) (k - 1)) := ⟨_, rfl⟩
          obtain ⟨g, HG⟩ : ∃ g, Hid (g = cutI ns feed k) := ⟨_, rfl⟩
          rw [← HG.out] at hgb HS ⊢
          rw [← HLl.out] at hlb HS ⊢
          by_cases hgl : g < l
          all_goals
            go_wp2
            go_roundw
            case rel => exact ⟨k + 1, by omega, by go_num, by rw [if_neg (by omega), Nat.add_sub_cancel, HS.out]; go_num, below_next hbw hb1⟩
            case measure => simp [intOf]; omega
      · obtain rfl : k = 64 := by omega
        go_wp2
        go_ret
        exact ⟨ret_int (by rw [mostR_yes HOK.out.1 HOK.out.2]; rfl), hbw⟩
  · have HNO : Hid (∀ z, cutR ns feed z = -1) := by
      intro z
      refine cutR_no ?_
      cases h1 : needsB ns
      · exact .inl rfl
      · cases h2 : feedB feed
        · exact .inr (.inl rfl)
        · exact absurd ⟨h1, h2⟩ hok
    have HM : Hid (mostR ns feed = -1) := by
      refine mostR_no ?_
      cases h1 : needsB ns
      · exact .inl rfl
      · cases h2 : feedB feed
        · exact .inr rfl
        · exact absurd ⟨h1, h2⟩ hok
    clear hok
    go_enter Try.func16, Try.ntmps16
    go_wp2
    go_loopw [5, 6] (fun t i wr => ∃ k : Nat, k ≤ 64 ∧ i = .int .i64 k ∧ t = .int .i64 (-1) ∧ Below w.heap.size w wr) (fun _ i _ => 64 - (intOf i).toNat)
    case atStart => exact ⟨0, Nat.zero_le _, rfl, rfl, Below.refl _ _⟩
    case round =>
      obtain ⟨k, hk, rfl, rfl, hbw⟩ := hrel
      by_cases hlt : k < 64
      · go_wp2_with fail
        refine (specCutUnits_any A n c ns F m fc feed _ _ hn (hx.below hbw) hm (hf.below hbw)).mono ?_; rintro e w1 ⟨rfl, hb1⟩
        rw [HNO.out]
        go_wp2
        go_roundw
        case rel => exact ⟨k + 1, by omega, by go_num, rfl, below_next hbw hb1⟩
        case measure => simp [intOf]; omega
      · go_wp2
        go_ret
        exact ⟨ret_int HM.out.symm, hbw⟩

theorem enoughR_no {ns : List N4} {feed : List Int} (h : needsB ns = false ∨ feedB feed = false) : enoughR ns feed = false := by
  unfold enoughR
  rcases h with h | h <;> rw [h] <;> simp
theorem enoughR_yes {ns : List N4} {feed : List Int} {n : Nat} (hN : needsB ns = true) (hF : feedB feed = true) (hl : ns.length = n) : enoughR ns feed = decide (mostI ns feed = wantAll ns n) := by
  unfold enoughR; rw [hN, hF, hl]; simp


end Go.Proofs.Ytecjhomfoakaeaa
