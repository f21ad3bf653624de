/-
  PlanUnits of the program and of the reference: the sum of a list, wrapped to 64 bits; GiveMany; FeedValid.
-/
import Derived.Test.YtecjhomfoakaeaaLib
import Derived.Test.YtecjhomfoakaeaaL1
namespace Go.Proofs.Ytecjhomfoakaeaa
open Go.ChangeShapes Go.WideShapes Go.ChangeAt Go.RowKit

/-- Six numbers, each in 0..30. -/
def feedB (xs : List Int) : Bool := decide (xs.length = 6) && xs.all fun x => decide (0 ≤ x) && decide (x ≤ 30)
def feedE (xs : List Int) : Bool := xs.all fun x => decide (0 ≤ x) && decide (x ≤ 30)
theorem feedE_next {xs : List Int} {k : Nat} {x : Int} (h : Hid (xs[k]? = some x)) : feedE (xs.take (k + 1)) = (feedE (xs.take k) && (decide (0 ≤ x) && decide (x ≤ 30))) := by
  rw [take_next h]; simp [feedE]
theorem feedE_bad {xs : List Int} {k : Nat} {x : Int} (h : Hid (xs[k]? = some x)) (hx : x < 0 ∨ 30 < x) : feedB xs = false := by
  have hm : x ∈ xs := List.mem_of_getElem? h.out
  simp only [feedB, Bool.and_eq_false_iff, List.all_eq_false, decide_eq_false_iff_not]
  exact .inr ⟨x, hm, by simp; omega⟩
theorem feedB_all {xs : List Int} {k n : Nat} (hl : xs.length = n) (hk : n ≤ k) (h : feedE (xs.take k) = true) (h6 : n = 6) : feedB xs = true := by
  rw [take_all hl hk] at h
  simp only [feedB, Bool.and_eq_true, decide_eq_true_eq]
  exact ⟨by omega, h⟩

set_option maxHeartbeats 1000000 in
theorem feedValid_any (A : Option Addr) (n c : Nat) (xs : List Int) (w : World) (hn : n ≤ 9223372036854775807) (hx : IntsAt w A n xs) :
    Calls Try.prog 28 #[.slice A n c] w (RS w (.bool (feedB xs))) := by
  have HL := Lib.hid hx.len
  by_cases h6 : n = 6
  · subst h6
    go_enter Try.func28, Try.ntmps28
    go_wp2
    go_loop [10] (fun i => ∃ k : Nat, k ≤ 6 ∧ i = .int .i64 k ∧ feedE (xs.take k) = true) (fun i => 6 - (intOf i).toNat)
    case atStart => exact ⟨0, Nat.zero_le _, rfl, rfl⟩
    case round =>
      obtain ⟨k, hk, rfl, he⟩ := hrel
      have HE := Lib.hid he
      clear he
      by_cases hlt : k < 6
      · obtain ⟨x, b, off, HX, rfl, hb, hc⟩ := hx.get hlt
        by_cases h0 : x < 0
        · go_wp2
          go_ret
          exact ⟨ret_bool (feedE_bad HX (.inl h0)).symm, rfl⟩
        by_cases h3 : 30 < x
        · go_wp2
          go_ret
          exact ⟨ret_bool (feedE_bad HX (.inr h3)).symm, rfl⟩
        · go_wp2
          go_round
          case rel => exact ⟨k + 1, by omega, by go_num, by rw [feedE_next HX, HE.out]; simp; omega⟩
          case measure => simp [intOf]; omega
      · go_wp2
        go_ret
        exact ⟨ret_bool (feedB_all HL.out (by omega) HE.out rfl).symm, rfl⟩
  · have h6' : ¬ (n : Int) = 6 := by omega
    go_enter Try.func28, Try.ntmps28
    go_wp2
    go_ret
    exact ⟨ret_bool (by simp [feedB, HL.out, h6]), rfl⟩

set_option maxHeartbeats 1000000 in
theorem specFeedValid_any (A : Option Addr) (n c : Nat) (xs : List Int) (w : World) (hn : n ≤ 9223372036854775807) (hx : IntsAt w A n xs) :
    Calls Try.prog 32 #[.slice A n c] w (RS w (.bool (feedB xs))) := by
  have HL := Lib.hid hx.len
  go_enter Try.func32, Try.ntmps32
  go_wp2
  go_loop [3] (fun i => ∃ k : Nat, k ≤ n ∧ i = .int .i64 k ∧ feedE (xs.take k) = true) (fun i => n - (intOf i).toNat)
  case atStart => exact ⟨0, Nat.zero_le _, rfl, rfl⟩
  case round =>
    obtain ⟨k, hk, rfl, he⟩ := hrel
    have HE := Lib.hid he
    clear he
    by_cases hlt : k < n
    · obtain ⟨x, b, off, HX, rfl, hb, hc⟩ := hx.get hlt
      by_cases h0 : 0 ≤ x ∧ x ≤ 30
      · go_wp2_with (go_at_call 33; refine (l1In_any _ _ _ _).mono ?_; rintro e w1 ⟨rfl, rfl⟩)
        go_round
        case rel => exact ⟨k + 1, by omega, by go_num, by rw [feedE_next HX, HE.out]; simp; omega⟩
        case measure => simp [intOf]; omega
      · have h0' : (decide (0 ≤ x) && decide (x ≤ 30)) = false := by rw [Bool.and_eq_false_iff]; simp; omega
        go_wp2_with (go_at_call 33; refine (l1In_any _ _ _ _).mono ?_; rintro e w1 ⟨rfl, rfl⟩)
        go_ret
        exact ⟨ret_bool (feedE_bad HX (by omega)).symm, rfl⟩
    · by_cases h6 : n = 6
      · subst h6
        go_wp2
        go_ret
        exact ⟨ret_bool (feedB_all HL.out (by omega) HE.out rfl).symm, rfl⟩
      · have h6' : ((n : Int) == 6) = false := by simp; omega
        go_wp2
        go_ret
        exact ⟨ret_bool (by simp [feedB, HL.out, h6]), rfl⟩
end Go.Proofs.Ytecjhomfoakaeaa
