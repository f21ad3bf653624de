/-
  The statements' own helpers on []int: toIntS (a copy), eqIntS (are two lists equal?).
-/
import Derived.Test.YtikhoekdoocjpaaLib
namespace Go.Proofs.Ytikhoekdoocjpaa
open Go.ChangeShapes Go.WideShapes Go.ChangeAt Go.RowKit

theorem int_info : (Try.prog.info? 3).map (fun i => (i.zero, i.size, i.bytes)) = some (some (.int .i64 0), 1, 8) := by kernel_rfl

/-- The words of a list of numbers. -/
def ic (xs : List Int) : List (List Value) := xs.map fun x => [.int .i64 x]
theorem ic_flat (xs : List Int) : (ic xs).flatten = xs.map (Value.int .i64) := by
  induction xs with
  | nil => rfl
  | cons x xs ih => simpa [ic] using ih
theorem own_ints {w : World} {base : Nat} {v : Value} {n : Nat} {xs : List Int} (h : w.ownsRow base 3 1 v n (xs.map (Value.int .i64))) : OwnAt w base 3 1 v n (ic xs) :=
  ⟨by rw [ic_flat]; exact h, by have := h.1; simpa [ic] using this, by intro r hr; simp [ic] at hr; obtain ⟨x, _, rfl⟩ := hr; rfl⟩

set_option maxHeartbeats 1000000 in
theorem eqIntS_any (A C : Option Addr) (n c m d : Nat) (xs ys : List Int) (w : World) (hn : n ≤ 9223372036854775807) (hx : IntsAt w A n xs) (hy : IntsAt w C m ys) :
    Calls Try.prog 9 #[.slice A n c, .slice C m d] w (RV w (.bool (decide (xs = ys)))) := by
  have HL := Lib.hid hx.len
  have HM := Lib.hid hy.len
  by_cases hnm : n = m
  · subst hnm
    go_enter Try.func9, Try.ntmps9
    go_wp2
    go_loopw [5] (fun i wr => ∃ k : Nat, k ≤ n ∧ i = .int .i64 k ∧ xs.take k = ys.take k ∧ ∃ q, wr = w.drewN q) (fun i _ => n - (intOf i).toNat)
    case atStart => exact ⟨0, Nat.zero_le _, rfl, rfl, 0, rfl⟩
    case round =>
      obtain ⟨k, hk, rfl, he, q, rfl⟩ := hrel
      have HE := Lib.hid he
      clear he
      by_cases hlt : k < n
      · obtain ⟨x, b, off, HX, rfl, hb, hc⟩ := hx.get hlt
        obtain ⟨y, b', off', HY, rfl, hb', hc'⟩ := hy.get hlt
        by_cases hxy : x = y
        · subst hxy
          go_wp2
          go_quiet (fail)
          go_wp2
          go_roundw
          case rel => exact ⟨k + 1, by omega, by go_num, by rw [take_next HX, take_next HY, HE.out], _, rfl⟩
          case measure => simp [intOf]; omega
        · have hne : (x != y) = true := by simpa using hxy
          go_wp2
          go_quiet (fail)
          go_wp2
          go_ret
          refine ⟨ret_bool ?_, below_drewN (below_drewN (Below.refl _ _) _) _⟩
          have h1 := HX.out
          have h2 := HY.out
          have : xs ≠ ys := by rintro rfl; rw [h1] at h2; exact hxy (by injection h2)
          simp [this]
      · go_wp2
        go_ret
        refine ⟨ret_bool ?_, below_drewN (Below.refl _ _) _⟩
        have h := HE.out
        rw [take_all HL.out (by omega), take_all HM.out (by omega)] at h
        simp [h]
  · have hnm' : ¬ (n : Int) = m := by omega
    go_enter Try.func9, Try.ntmps9
    go_wp2
    go_ret
    refine ⟨ret_bool ?_, Below.refl _ _⟩
    have h1 := HL.out
    have h2 := HM.out
    have : xs ≠ ys := by rintro rfl; omega
    simp [this]
end Go.Proofs.Ytikhoekdoocjpaa
