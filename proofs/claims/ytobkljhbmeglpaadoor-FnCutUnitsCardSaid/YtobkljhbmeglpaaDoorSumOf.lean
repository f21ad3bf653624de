/-
  The statements' own sum of a list of numbers; sums of parts of a list of small numbers.
-/
import Derived.Test.YtobkljhbmeglpaaDoorDrFeed
import Derived.Test.YtobkljhbmeglpaaDoorSum
namespace Go.Proofs.YtobkljhbmeglpaaDoor
open Go.ChangeShapes Go.WideShapes Go.ChangeAt Go.RowKit

set_option maxHeartbeats 1000000 in
theorem sumOf_any (A : Option Addr) (n c : Nat) (xs : List Int) (w : World) (hn : n ≤ 9223372036854775807) (hx : IntsAt w A n xs) :
    Calls Tryd.prog 29 #[.slice A n c] w (RS w (.int .i64 (sumW xs))) := by
  have HL := Lib.hid hx.len
  go_enter Tryd.func29, Tryd.ntmps29
  go_wp2
  go_loop [3, 4] (fun s i => ∃ k : Nat, k ≤ n ∧ i = .int .i64 k ∧ s = .int .i64 (sumW (xs.take k))) (fun _ i => n - (intOf i).toNat)
  case atStart => exact ⟨0, Nat.zero_le _, rfl, rfl⟩
  case round =>
    obtain ⟨k, hk, rfl, rfl⟩ := hrel
    by_cases hlt : k < n
    · obtain ⟨x, b, off, HX, rfl, hb, hc⟩ := hx.get hlt
      go_wp2
      go_round
      case rel => exact ⟨k + 1, by omega, by go_num, by rw [sumW_next HX]⟩
      case measure => simp [intOf]; omega
    · go_wp2
      go_ret
      exact ⟨ret_int (by rw [take_all HL.out (by omega)]), rfl⟩

theorem sumW_acc (xs : List Int) : ∀ (s : Int), feedR xs → -1000000 + 31 * (xs.length : Int) ≤ s → s ≤ 1000000 - 31 * (xs.length : Int) →
    xs.foldl (fun s x => wrap64 (s + x)) s = s + xs.sum ∧ -(xs.length : Int) ≤ xs.sum ∧ xs.sum ≤ 31 * (xs.length : Int) := by
  induction xs with
  | nil => intro s _ _ _; simp
  | cons x xs ih =>
    intro s h h1 h2
    have hx := h x (by simp)
    simp only [List.length_cons, Int.natCast_add] at h1 h2
    have e : wrap64 (s + x) = s + x := IntWalk.wrap64_in _ (by omega)
    obtain ⟨i1, i2, i3⟩ := ih (s + x) (fun y hy => h y (by simp [hy])) (by omega) (by omega)
    simp only [List.foldl_cons, List.sum_cons, List.length_cons, Int.natCast_add]
    rw [e, i1]
    refine ⟨by omega, by omega, by omega⟩
theorem sumW_small {xs : List Int} (h : feedR xs) (hl : xs.length ≤ 10) : sumW xs = xs.sum ∧ -10 ≤ xs.sum ∧ xs.sum ≤ 310 := by
  obtain ⟨h1, h2, h3⟩ := sumW_acc xs 0 h (by omega) (by omega)
  exact ⟨by unfold sumW; rw [h1]; omega, by omega, by omega⟩
theorem sum_parts {xs : List Int} (h : feedR xs) (hl : xs.length ≤ 7) (k : Nat) :
    sumW xs = sumW (xs.take k) + sumW (xs.drop k) ∧ -10 ≤ sumW (xs.take k) ∧ sumW (xs.take k) ≤ 310 ∧ -10 ≤ sumW (xs.drop k) ∧ sumW (xs.drop k) ≤ 310 := by
  have a := sumW_small h (by omega)
  have b := sumW_small (xs := xs.take k) (fun y hy => h y (List.mem_of_mem_take hy)) (by rw [List.length_take]; omega)
  have c := sumW_small (xs := xs.drop k) (fun y hy => h y (List.mem_of_mem_drop hy)) (by rw [List.length_drop]; omega)
  have d : xs.sum = (xs.take k).sum + (xs.drop k).sum := by rw [← List.sum_append, List.take_append_drop]
  refine ⟨by omega, by omega, by omega, by omega, by omega⟩
theorem IntsAt.takeN {w : World} {n k : Nat} {A : Option Addr} {xs : List Int} (h : IntsAt w A n xs) (hk : k ≤ n) : IntsAt w A k (xs.take k) := by
  have hl := h.len
  refine ⟨by rw [List.length_map, List.length_take]; omega, fun j r hr => ?_⟩
  rw [List.map_take, List.getElem?_take] at hr
  split at hr
  · exact SlAt.row h j r hr
  · cases hr
/-- xs[k:] (where k is the capacity, the address stays). -/
theorem IntsAt.cutN {w : World} {g off m d k : Nat} {xs : List Int} (h : IntsAt w (some ⟨g, off, none⟩) m xs) (hk : k ≤ m) (hd : m ≤ d) :
    IntsAt w (if d = k then some ⟨g, off, none⟩ else some ⟨g, off + k, none⟩) (m - k) (xs.drop k) := by
  by_cases hdk : d = k
  · rw [if_pos hdk]
    have h0 : m - k = 0 := by omega
    have h1 : xs.drop k = [] := List.drop_eq_nil_of_le (by have := h.len; omega)
    rw [h0, h1]
    exact SlAt.nil _ _ _
  · rw [if_neg hdk]
    exact h.dropN
end Go.Proofs.YtobkljhbmeglpaaDoor
