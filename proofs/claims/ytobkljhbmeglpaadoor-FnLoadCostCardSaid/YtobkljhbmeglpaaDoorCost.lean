/-
  LoadCost of the program and of the reference.
-/
import Derived.Test.YtobkljhbmeglpaaDoorC4
import Derived.Test.YtobkljhbmeglpaaDoorInts
namespace Go.Proofs.YtobkljhbmeglpaaDoor
open Go.ChangeShapes Go.WideShapes Go.ChangeAt Go.RowKit

def dotI (xs ys : List Int) : Nat → Int
  | 0 => 0
  | k + 1 => dotI xs ys k + xs.getD k 0 * ys.getD k 0
theorem dotI_next {xs ys : List Int} {k : Nat} {x y : Int} (h : Hid (xs[k]? = some x)) (h2 : Hid (ys[k]? = some y)) : dotI xs ys (k + 1) = dotI xs ys k + x * y := by
  have h' := h.out
  have h2' := h2.out
  simp [dotI, List.getD_eq_getElem?_getD, h', h2']
theorem mul_bd {x y : Int} (hx : 0 ≤ x ∧ x ≤ 30) (hy : 0 ≤ y ∧ y ≤ 30) : 0 ≤ x * y ∧ x * y ≤ 900 := by
  refine ⟨Int.mul_nonneg hx.1 hy.1, ?_⟩
  have h1 : x * y ≤ 30 * y := Int.mul_le_mul_of_nonneg_right hx.2 hy.1
  omega
theorem dotI_bd {xs ys : List Int} (hx : small xs) (hy : small ys) : ∀ k : Nat, 0 ≤ dotI xs ys k ∧ dotI xs ys k ≤ 900 * k
  | 0 => by simp [dotI]
  | k + 1 => by
    have ih := dotI_bd hx hy k
    have := mul_bd (small_get hx k) (small_get hy k)
    simp only [dotI]; omega
def costR (xs ys : List Int) : Int := if feedB xs && feedB ys then dotI xs ys 6 else -1
theorem costR_no {xs ys : List Int} (h : feedB xs = false ∨ feedB ys = false) : costR xs ys = -1 := by
  unfold costR; rw [if_neg]
  rcases h with h | h <;> rw [h] <;> simp
theorem costR_yes {xs ys : List Int} (h : feedB xs = true) (h2 : feedB ys = true) : costR xs ys = dotI xs ys 6 := by
  unfold costR; rw [h, h2]; rfl

set_option maxHeartbeats 2000000 in
theorem loadCost_any (A : Option Addr) (n c : Nat) (xs : List Int) (F : Option Addr) (m fc : Nat) (ys : List Int) (w : World)
    (hn : n ≤ 9223372036854775807) (hx : IntsAt w A n xs) (hm : m ≤ 9223372036854775807) (hf : IntsAt w F m ys) :
    Calls Tryd.prog 31 #[.slice A n c, .slice F m fc] w (RS w (.int .i64 (costR xs ys))) := by
  cases hN : feedB xs
  · have HN := Lib.hid hN
    go_enter Tryd.func31, Tryd.ntmps31
    go_wp2_with fail
    refine (feedValid_any A n c xs _ hn hx).mono ?_; rintro e w1 ⟨rfl, rfl⟩
    go_wp2
    go_ret
    exact ⟨ret_int (costR_no (.inl HN.out)).symm, rfl⟩
  have HN := Lib.hid hN
  cases hF : feedB ys
  · have HF := Lib.hid hF
    go_enter Tryd.func31, Tryd.ntmps31
    go_wp2_with fail
    refine (feedValid_any A n c xs _ hn hx).mono ?_; rintro e w1 ⟨rfl, rfl⟩
    go_wp2_with fail
    refine (feedValid_any F m fc ys _ hm hf).mono ?_; rintro e w1 ⟨rfl, rfl⟩
    go_wp2
    go_ret
    exact ⟨ret_int (costR_no (.inr HF.out)).symm, rfl⟩
  · have HF := Lib.hid hF
    have hx6 := feedB_small HN.out
    have hy6 := feedB_small HF.out
    have hn6 : n = 6 := by have := hx.len; omega
    have hm6 : m = 6 := by have := hf.len; omega
    have hxs := hx6.2
    have hys := hy6.2
    clear hx6 hy6
    subst hn6
    subst hm6
    go_enter Tryd.func31, Tryd.ntmps31
    go_wp2_with fail
    refine (feedValid_any A _ c xs _ hn hx).mono ?_; rintro e w1 ⟨rfl, rfl⟩
    go_wp2_with fail
    refine (feedValid_any F _ fc ys _ hm hf).mono ?_; rintro e w1 ⟨rfl, rfl⟩
    go_wp2
    clear hN hF
    go_loop [5, 18] (fun t i => ∃ k : Nat, k ≤ 6 ∧ i = .int .i64 k ∧ t = .int .i64 (dotI xs ys k)) (fun _ i => 6 - (intOf i).toNat)
    case atStart => exact ⟨0, Nat.zero_le _, rfl, rfl⟩
    case round =>
      obtain ⟨k, hk, rfl, rfl⟩ := hrel
      have hd := dotI_bd hxs hys k
      by_cases hlt : k < 6
      · obtain ⟨x, b, off, HX, rfl, hb, hc⟩ := hx.get hlt
        obtain ⟨y, b', off', HY, rfl, hb', hc'⟩ := hf.get hlt
        have hxy := mul_bd (small_at hxs HX) (small_at hys HY)
        go_wp2
        go_round
        case rel => exact ⟨k + 1, by omega, by go_num, by rw [dotI_next HX HY]⟩
        case measure => simp [intOf]; omega
      · obtain rfl : k = 6 := by omega
        go_wp2
        go_ret
        exact ⟨ret_int (costR_yes HN.out HF.out).symm, rfl⟩

set_option maxHeartbeats 2000000 in
theorem specLoadCost_any (A : Option Addr) (n c : Nat) (xs : List Int) (F : Option Addr) (m fc : Nat) (ys : List Int) (w : World)
    (hn : n ≤ 9223372036854775807) (hx : IntsAt w A n xs) (hm : m ≤ 9223372036854775807) (hf : IntsAt w F m ys) :
    Calls Tryd.prog 32 #[.slice A n c, .slice F m fc] w (RV w (.int .i64 (costR xs ys))) := by
  cases hN : feedB xs
  · have HN := Lib.hid hN
    go_enter Tryd.func32, Tryd.ntmps32
    go_wp2_with fail
    refine (specFeedValid_any A n c xs _ hn hx).mono ?_; rintro e w1 ⟨rfl, rfl⟩
    go_wp2
    go_ret
    exact ⟨ret_int (costR_no (.inl HN.out)).symm, Below.refl _ _⟩
  have HN := Lib.hid hN
  cases hF : feedB ys
  · have HF := Lib.hid hF
    go_enter Tryd.func32, Tryd.ntmps32
    go_wp2_with fail
    refine (specFeedValid_any A n c xs _ hn hx).mono ?_; rintro e w1 ⟨rfl, rfl⟩
    go_wp2_with fail
    refine (specFeedValid_any F m fc ys _ hm hf).mono ?_; rintro e w1 ⟨rfl, rfl⟩
    go_wp2
    go_ret
    exact ⟨ret_int (costR_no (.inr HF.out)).symm, Below.refl _ _⟩
  · have HF := Lib.hid hF
    have hx6 := feedB_small HN.out
    have hy6 := feedB_small HF.out
    have hn6 : n = 6 := by have := hx.len; omega
    have hm6 : m = 6 := by have := hf.len; omega
    have hxs := hx6.2
    have hys := hy6.2
    clear hx6 hy6
    subst hn6
    subst hm6
    go_enter Tryd.func32, Tryd.ntmps32
    go_wp2_with fail
    refine (specFeedValid_any A _ c xs _ hn hx).mono ?_; rintro e w1 ⟨rfl, rfl⟩
    go_wp2_with fail
    refine (specFeedValid_any F _ fc ys _ hm hf).mono ?_; rintro e w1 ⟨rfl, rfl⟩
    go_wp2
    clear hN hF
    go_loopw [5, 6] (fun t i wr => ∃ k : Nat, k ≤ 6 ∧ i = .int .i64 k ∧ t = .int .i64 (dotI xs ys k) ∧ ∃ q, wr = w.drewN q) (fun _ i _ => 6 - (intOf i).toNat)
    case atStart => exact ⟨0, Nat.zero_le _, rfl, rfl, 0, rfl⟩
    case round =>
      obtain ⟨k, hk, rfl, rfl, q, rfl⟩ := hrel
      have hd := dotI_bd hxs hys k
      by_cases hlt : k < 6
      · obtain ⟨x, b, off, HX, rfl, hb, hc⟩ := hx.get hlt
        obtain ⟨y, b', off', HY, rfl, hb', hc'⟩ := hf.get hlt
        have hxy := mul_bd (small_at hxs HX) (small_at hys HY)
        have hi0 : (0 : Int) ≤ (k : Int) := by omega
        have hi1 : (k : Int) < 6 := by omega
        go_wp2
        have hw1 : IntKind.i64.wrap (x * y) = x * y := IntWalk.i64_in _ (by omega)
        have hw2 : IntKind.i64.wrap (dotI xs ys k + x * y) = dotI xs ys k + x * y := IntWalk.i64_in _ (by omega)
        go_quiet (fail)
        clear hw1 hw2
        go_wp2
        go_roundw
        case rel => exact ⟨k + 1, by omega, by go_num, by rw [dotI_next HX HY], _, rfl⟩
        case measure => simp [intOf]; omega
      · obtain rfl : k = 6 := by omega
        go_wp2
        go_ret
        exact ⟨ret_int (costR_yes HN.out HF.out).symm, below_drewN (Below.refl _ _) _⟩
end Go.Proofs.YtobkljhbmeglpaaDoor
