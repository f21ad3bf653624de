/-
  The statements' own helpers on lists of numbers: sameInts, hasInt, ascend.
-/
import Derived.Test.YtdebjcempkgeaaaGreatDoorHas
namespace Go.Proofs.YtdebjcempkgeaaaGreatDoor
open Go.ChangeShapes Go.WideShapes Go.ChangeAt Go.RowKit

set_option maxHeartbeats 1000000 in
theorem sameInts_any (A C : Option Addr) (n c m d : Nat) (xs ys : List Int) (w : World) (hn : n ≤ 9223372036854775807) (hx : IntsAt w A n xs) (hy : IntsAt w C m ys) :
    Calls Tryz.prog 12 #[.slice A n c, .slice C m d] w (RV w (.bool (decide (xs = ys)))) := by
  have HL := Lib.hid hx.len
  have HM := Lib.hid hy.len
  by_cases hnm : n = m
  · subst hnm
    go_enter Tryz.func12, Tryz.ntmps12
    go_wp2
    go_loopw [5] (fun i wr => ∃ k : Nat, k ≤ n ∧ i = .int .i64 k ∧ xs.take k = ys.take k ∧ ∃ q, wr = w.drewN q) (fun i _ => n - (intOf i).toNat)
    case atStart => exact ⟨0, Nat.zero_le _, rfl, rfl, 0, rfl⟩
    case round =>
      obtain ⟨k, hk, rfl, he, q, rfl⟩ := hrel
      have HE := Lib.hid he
      clear he
      by_cases hlt : k < n
      · obtain ⟨x, b, off, HX, rfl, hb, hc⟩ := hx.get hlt
        obtain ⟨y, b', off', HY, rfl, hb', hc'⟩ := hy.get hlt
        by_cases hxy : x = y
        · subst hxy
          go_wp2
          go_quiet (fail)
          go_wp2
          go_roundw
          case rel => exact ⟨k + 1, by omega, by go_num, by rw [take_next HX, take_next HY, HE.out], _, rfl⟩
          case measure => simp [intOf]; omega
        · have hne : (x != y) = true := by simpa using hxy
          go_wp2
          go_quiet (fail)
          go_wp2
          go_ret
          refine ⟨ret_bool ?_, below_drewN (below_drewN (Below.refl _ _) _) _⟩
          have h1 := HX.out
          have h2 := HY.out
          have : xs ≠ ys := by rintro rfl; rw [h1] at h2; exact hxy (by injection h2)
          simp [this]
      · go_wp2
        go_ret
        refine ⟨ret_bool ?_, below_drewN (Below.refl _ _) _⟩
        have h1 := HE.out
        rw [take_all HL.out (by omega), take_all HM.out (by omega)] at h1
        simp [h1]
  · go_enter Tryz.func12, Tryz.ntmps12
    have hne : ((n : Int) != (m : Int)) = true := by simp; omega
    go_wp2
    go_ret
    refine ⟨ret_bool ?_, Below.refl _ _⟩
    have : xs ≠ ys := by rintro rfl; exact hnm (by rw [← HL.out, ← HM.out])
    simp [this]
theorem sameInts_self (A C : Option Addr) (n c m d : Nat) (xs : List Int) (w : World) (hn : n ≤ 9223372036854775807) (hx : IntsAt w A n xs) (hy : IntsAt w C m xs) :
    Calls Tryz.prog 12 #[.slice A n c, .slice C m d] w (RV w (.bool true)) := by
  have := sameInts_any A C n c m d xs xs w hn hx hy
  simpa using this
def Asc (xs : List Int) : Prop := ∀ (i : Nat) (a b : Int), xs[i]? = some a → xs[i + 1]? = some b → a < b
end Go.Proofs.YtdebjcempkgeaaaGreatDoor
