/-
  The statements' own helpers on []int: toIntS (a copy), eqIntS (are two lists equal?).
-/
import Derived.Test.YtecjhomfoakaeaaLib
namespace Go.Proofs.Ytecjhomfoakaeaa
open Go.ChangeShapes Go.WideShapes Go.ChangeAt Go.RowKit

theorem int_info : (Try.prog.info? 3).map (fun i => (i.zero, i.size, i.bytes)) = some (some (.int .i64 0), 1, 8) := by kernel_rfl

/-- The words of a list of numbers. -/
def ic (xs : List Int) : List (List Value) := xs.map fun x => [.int .i64 x]
theorem ic_flat (xs : List Int) : (ic xs).flatten = xs.map (Value.int .i64) := by
  induction xs with
  | nil => rfl
  | cons x xs ih => simpa [ic] using ih
theorem own_ints {w : World} {base : Nat} {v : Value} {n : Nat} {xs : List Int} (h : w.ownsRow base 3 1 v n (xs.map (Value.int .i64))) : OwnAt w base 3 1 v n (ic xs) :=
  ⟨by rw [ic_flat]; exact h, by have := h.1; simpa [ic] using this, by intro r hr; simp [ic] at hr; obtain ⟨x, _, rfl⟩ := hr; rfl⟩

set_option maxHeartbeats 1000000 in
theorem toIntS_whole (A : Option Addr) (n c : Nat) (xs : List Int) (w : World) (hn : n * 8 ≤ 140737488351232) (hx : IntsAt w A n xs) :
    Calls Try.prog 7 #[.slice A n c] w fun e w' => e = .returned (.slice (some ⟨w.heap.size, 0, none⟩) n n) ∧ Whole w' w.heap.size 3 (xs.map (Value.int .i64)) ∧ Below w.heap.size w w' := by
  have HL := Lib.hid hx.len
  obtain ⟨i0, hi, hz0, hz1, hz2⟩ := info_parts int_info
  go_enter Try.func7, Try.ntmps7
  go_wp2_with (at_make; refine wpList_make_full _ rfl _ _ 23 rfl w.heap.size 3 i0 _ 1 Try.underlying23 hi hz0 hz1 .i64 .i64 _ _ n rfl rfl rfl rfl (by rw [hz2]; omega) (by unfold maxLen; omega) (Nat.le_refl _) ?_; intro w1 hown hg)
  have hB := Joins.below_le (B' := w.heap.size) (Below.grown (Below.refl _ w) hg (Nat.le_refl _) (by simp)) (Nat.le_refl _)
  go_loopw [4] (fun i wr => ∃ k : Nat, k ≤ n ∧ i = .int .i64 k ∧ Fill wr w.heap.size 3 1 n k (ic (xs.take k)) ∧ Below w.heap.size w wr) (fun i _ => n - (intOf i).toNat)
  case atStart => exact ⟨0, Nat.zero_le _, rfl, Fill.start hown, hB⟩
  case round =>
    obtain ⟨k, hk, rfl, hf, hbw⟩ := hrel
    clear hown hg hB
    by_cases hlt : k < n
    · obtain ⟨x, b, off, HX, rfl, hb, hc⟩ := (hx.below hbw).get hlt
      obtain ⟨u, hu⟩ := hf.cell (j := k) (by omega)
      have hz := hf.free k
      go_wp2
      go_roundw
      case rel => exact ⟨k + 1, by omega, by go_num, by rw [take_next HX]; simpa [ic] using hf.next1 hlt (.int .i64 x), hbw.setCell (Nat.le_refl _) _⟩
      case measure => simp [intOf]; omega
    · go_wp2
      go_ret
      have hkn : k = n := by omega
      exact ⟨rfl, by rw [take_all HL.out (by omega)] at hf; rw [← ic_flat]; exact hf.whole hkn, hbw⟩

theorem toIntS_any (A : Option Addr) (n c : Nat) (xs : List Int) (w : World) (hn : n * 8 ≤ 140737488351232) (hx : IntsAt w A n xs) :
    Calls Try.prog 7 #[.slice A n c] w fun e w' => ∃ A' c', e = .returned (.slice A' n c') ∧ OwnAt w' w.heap.size 3 1 (.slice A' n c') n (ic xs) ∧ Below w.heap.size w w' :=
  (toIntS_whole A n c xs w hn hx).mono fun e w' ⟨he, hw, hb⟩ => ⟨_, _, he, Whole.own (by rw [ic_flat]; exact hw) (by simp [ic, hx.len]) (by intro r hr; simp [ic] at hr; obtain ⟨x, _, rfl⟩ := hr; rfl) (Nat.le_refl _) (by unfold maxLen; omega), hb⟩

set_option maxHeartbeats 1000000 in
theorem eqIntS_any (A C : Option Addr) (n c m d : Nat) (xs ys : List Int) (w : World) (hn : n ≤ 9223372036854775807) (hx : IntsAt w A n xs) (hy : IntsAt w C m ys) :
    Calls Try.prog 11 #[.slice A n c, .slice C m d] w (RV w (.bool (decide (xs = ys)))) := by
  have HL := Lib.hid hx.len
  have HM := Lib.hid hy.len
  by_cases hnm : n = m
  · subst hnm
    go_enter Try.func11, Try.ntmps11
    go_wp2
    go_loopw [5] (fun i wr => ∃ k : Nat, k ≤ n ∧ i = .int .i64 k ∧ xs.take k = ys.take k ∧ ∃ q, wr = w.drewN q) (fun i _ => n - (intOf i).toNat)
    case atStart => exact ⟨0, Nat.zero_le _, rfl, rfl, 0, rfl⟩
    case round =>
      obtain ⟨k, hk, rfl, he, q, rfl⟩ := hrel
      have HE := Lib.hid he
      clear he
      by_cases hlt : k < n
      · obtain ⟨x, b, off, HX, rfl, hb, hc⟩ := hx.get hlt
        obtain ⟨y, b', off', HY, rfl, hb', hc'⟩ := hy.get hlt
        by_cases hxy : x = y
        · subst hxy
          go_wp2
          go_quiet (fail)
          go_wp2
          go_roundw
          case rel => exact ⟨k + 1, by omega, by go_num, by rw [take_next HX, take_next HY, HE.out], _, rfl⟩
          case measure => simp [intOf]; omega
        · have hne : (x != y) = true := by simpa using hxy
          go_wp2
          go_quiet (fail)
          go_wp2
          go_ret
          refine ⟨ret_bool ?_, below_drewN (below_drewN (Below.refl _ _) _) _⟩
          have h1 := HX.out
          have h2 := HY.out
          have : xs ≠ ys := by rintro rfl; rw [h1] at h2; exact hxy (by injection h2)
          simp [this]
      · go_wp2
        go_ret
        refine ⟨ret_bool ?_, below_drewN (Below.refl _ _) _⟩
        have h := HE.out
        rw [take_all HL.out (by omega), take_all HM.out (by omega)] at h
        simp [h]
  · have hnm' : ¬ (n : Int) = m := by omega
    go_enter Try.func11, Try.ntmps11
    go_wp2
    go_ret
    refine ⟨ret_bool ?_, Below.refl _ _⟩
    have h1 := HL.out
    have h2 := HM.out
    have : xs ≠ ys := by rintro rfl; omega
    simp [this]
end Go.Proofs.Ytecjhomfoakaeaa
