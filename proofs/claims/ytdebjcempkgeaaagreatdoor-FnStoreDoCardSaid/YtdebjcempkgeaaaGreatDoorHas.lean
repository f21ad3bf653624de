/-
  l1Has of the reference: does a list have a number?
-/
import Derived.Test.YtdebjcempkgeaaaGreatDoorInts
namespace Go.Proofs.YtdebjcempkgeaaaGreatDoor
open Go.ChangeShapes Go.WideShapes Go.ChangeAt Go.RowKit

theorem SlAt.take {w : World} {sz n k : Nat} {A : Option Addr} {rs : List (List Value)} (h : SlAt w sz A n rs) (hk : k ≤ n) : SlAt w sz A k (rs.take k) := by
  refine ⟨by rw [List.length_take, h.len]; omega, fun j r hr => ?_⟩
  rw [List.getElem?_take] at hr
  split at hr
  · exact h.row j r hr
  · cases hr
theorem IntsAt.take {w : World} {n k : Nat} {A : Option Addr} {xs : List Int} (h : IntsAt w A n xs) (hk : k ≤ n) : IntsAt w A k (xs.take k) := by
  have := SlAt.take h hk
  unfold IntsAt
  rw [List.map_take]; exact this

/-- Does a list have a number? -/
def hasB (xs : List Int) (z : Int) : Bool := xs.contains z
theorem hasB_iff {xs : List Int} {z : Int} : hasB xs z = true ↔ z ∈ xs := by simp [hasB]
theorem hasB_not {xs : List Int} {z : Int} : hasB xs z = false ↔ z ∉ xs := by rw [← hasB_iff]; simp
set_option maxHeartbeats 1000000 in
theorem l1Has_any (A : Option Addr) (n c : Nat) (xs : List Int) (z : Int) (w : World) (hn : n ≤ 9223372036854775807) (hx : IntsAt w A n xs) :
    Calls Tryz.prog 40 #[.slice A n c, .int .i64 z] w (RS w (.bool (hasB xs z))) := by
  have HL := Lib.hid hx.len
  go_enter Tryz.func40, Tryz.ntmps40
  go_wp2
  go_loop [5] (fun i => ∃ k : Nat, k ≤ n ∧ i = .int .i64 k ∧ hasB (xs.take k) z = false) (fun i => n - (intOf i).toNat)
  case atStart => exact ⟨0, Nat.zero_le _, rfl, rfl⟩
  case round =>
    obtain ⟨k, hk, rfl, he⟩ := hrel
    have HE := Lib.hid he
    clear he
    by_cases hlt : k < n
    · obtain ⟨x, b, off, HX, rfl, hb, hc⟩ := hx.get hlt
      by_cases hxz : x = z
      · go_wp2
        go_ret
        refine ⟨ret_bool ?_, rfl⟩
        symm
        rw [hasB_iff]
        exact hxz ▸ List.mem_of_getElem? HX.out
      · go_wp2
        go_round
        case rel =>
          refine ⟨k + 1, by omega, by go_num, ?_⟩
          rw [take_next HX]
          have h := HE.out
          rw [hasB_not] at h ⊢
          rw [List.mem_append, List.mem_singleton]
          intro hh
          rcases hh with hh | hh
          · exact h hh
          · exact hxz hh.symm
        case measure => simp [intOf]; omega
    · go_wp2
      go_ret
      refine ⟨ret_bool ?_, rfl⟩
      have h := HE.out
      rw [take_all HL.out (by omega)] at h
      exact h.symm

theorem l1Has_yes (A : Option Addr) (n c : Nat) (xs : List Int) (z : Int) (w : World) (hn : n ≤ 9223372036854775807) (hx : IntsAt w A n xs) (h : hasB xs z = true) :
    Calls Tryz.prog 40 #[.slice A n c, .int .i64 z] w (RS w (.bool true)) := by rw [← h]; exact l1Has_any A n c xs z w hn hx
theorem l1Has_no (A : Option Addr) (n c : Nat) (xs : List Int) (z : Int) (w : World) (hn : n ≤ 9223372036854775807) (hx : IntsAt w A n xs) (h : hasB xs z = false) :
    Calls Tryz.prog 40 #[.slice A n c, .int .i64 z] w (RS w (.bool false)) := by rw [← h]; exact l1Has_any A n c xs z w hn hx
end Go.Proofs.YtdebjcempkgeaaaGreatDoor
