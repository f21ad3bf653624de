/-
  PlanUnits of the program and of the reference: the sum of a list, wrapped to 64 bits; GiveMany; FeedValid.
-/
import Derived.Test.YtpipbkefelcmbaaDoorLib
import Derived.Test.YtpipbkefelcmbaaDoorL1
namespace Go.Proofs.YtpipbkefelcmbaaDoor
open Go.ChangeShapes Go.WideShapes Go.ChangeAt Go.RowKit

/-- How many are not below 0. -/
def manyN (xs : List Int) : Nat := (xs.filter fun x => decide (0 ≤ x)).length
theorem manyN_le (xs : List Int) : manyN xs ≤ xs.length := List.length_filter_le _ _
theorem manyN_next {xs : List Int} {k : Nat} {x : Int} (h : Hid (xs[k]? = some x)) : manyN (xs.take (k + 1)) = manyN (xs.take k) + if 0 ≤ x then 1 else 0 := by
  rw [take_next h]; simp only [manyN, List.filter_append, List.length_append]
  by_cases hx : 0 ≤ x <;> simp [hx]

set_option maxHeartbeats 1000000 in
theorem giveMany_any (A : Option Addr) (n c : Nat) (xs : List Int) (w : World) (hn : n ≤ 9223372036854775807) (hx : IntsAt w A n xs) :
    Calls Tryd.prog 34 #[.slice A n c] w (RS w (.int .i64 (manyN xs))) := by
  have HL := Lib.hid hx.len
  go_enter Tryd.func34, Tryd.ntmps34
  go_wp2
  go_loop [3, 8] (fun s i => ∃ k : Nat, k ≤ n ∧ i = .int .i64 k ∧ s = .int .i64 (manyN (xs.take k))) (fun _ i => n - (intOf i).toNat)
  case atStart => exact ⟨0, Nat.zero_le _, rfl, rfl⟩
  case round =>
    obtain ⟨k, hk, rfl, rfl⟩ := hrel
    by_cases hlt : k < n
    · obtain ⟨x, b, off, HX, rfl, hb, hc⟩ := hx.get hlt
      have hm := Nat.le_trans (manyN_le (xs.take k)) (List.length_take_le _ _)
      have HM := Lib.hid (manyN_next HX)
      generalize manyN (xs.take k) = m at *
      by_cases h0 : 0 ≤ x
      all_goals
        go_wp2
        go_round
        case rel => exact ⟨k + 1, by omega, by go_num, by rw [HM.out]; simp [h0]⟩
        case measure => simp [intOf]; omega
    · go_wp2
      go_ret
      exact ⟨ret_int (by rw [take_all HL.out (by omega)]), rfl⟩

set_option maxHeartbeats 1000000 in
theorem specGiveMany_any (A : Option Addr) (n c : Nat) (xs : List Int) (w : World) (hn : n ≤ 9223372036854775807) (hx : IntsAt w A n xs) :
    Calls Tryd.prog 35 #[.slice A n c] w (RS w (.int .i64 (manyN xs))) := by
  have HL := Lib.hid hx.len
  go_enter Tryd.func35, Tryd.ntmps35
  go_wp2
  go_loop [3, 4] (fun s i => ∃ k : Nat, k ≤ n ∧ i = .int .i64 k ∧ s = .int .i64 (manyN (xs.take k))) (fun _ i => n - (intOf i).toNat)
  case atStart => exact ⟨0, Nat.zero_le _, rfl, rfl⟩
  case round =>
    obtain ⟨k, hk, rfl, rfl⟩ := hrel
    by_cases hlt : k < n
    · obtain ⟨x, b, off, HX, rfl, hb, hc⟩ := hx.get hlt
      have hm := Nat.le_trans (manyN_le (xs.take k)) (List.length_take_le _ _)
      have HM := Lib.hid (manyN_next HX)
      generalize manyN (xs.take k) = m at *
      by_cases h0 : 0 ≤ x
      all_goals
        go_wp2
        go_round
        case rel => exact ⟨k + 1, by omega, by go_num, by rw [HM.out]; simp [h0]⟩
        case measure => simp [intOf]; omega
    · go_wp2
      go_ret
      exact ⟨ret_int (by rw [take_all HL.out (by omega)]), rfl⟩
end Go.Proofs.YtpipbkefelcmbaaDoor
