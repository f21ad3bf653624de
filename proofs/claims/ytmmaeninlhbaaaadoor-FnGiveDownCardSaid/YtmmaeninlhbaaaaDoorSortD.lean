/-
  CarsDown of the program: the order that the stable sort leaves.
-/
import Derived.Test.YtmmaeninlhbaaaaDoorSortI
import Derived.Test.YtmmaeninlhbaaaaDoorMade
import Derived.Test.YtmmaeninlhbaaaaDoorOf
namespace Go.Proofs.YtmmaeninlhbaaaaDoor
open Go.ChangeShapes Go.WideShapes Go.ChangeAt Go.RowKit

theorem rowO_one (cs : List C4) (n : Nat) : rowO cs n 1 = List.range n := by
  unfold rowO
  split
  · rename_i h; subst h; rfl
  · rename_i h
    obtain ⟨k, rfl⟩ : ∃ k, n = k + 1 := ⟨n - 1, by omega⟩
    show [0] ++ List.range' 1 (k + 1 - 1) = _
    rw [List.range_eq_range', show k + 1 - 1 = k by omega, List.range'_succ]
    rfl
def fillL (n k : Nat) : List Int := toI (List.range k) ++ List.replicate (n - k) 0
theorem fillL_step {n k : Nat} (h : k < n) : (fillL n k).set k (k : Int) = fillL n (k + 1) := by
  unfold fillL
  rw [List.set_append_right _ _ (by simp [toI]), show n - k = (n - (k + 1)) + 1 by omega, List.replicate_succ]
  simp [toI, List.range_succ]
theorem fillL_all (n : Nat) : fillL n n = toI (List.range n) := by simp [fillL]
set_option maxRecDepth 100000 in
set_option maxHeartbeats 2000000 in
theorem carsDown_any (A : Option Addr) (n c : Nat) (cs : List C4) (w : World) (hn : n ≤ c ∧ c ≤ 9223372036854775807) (hx : CarsAt w A n cs) :
    Calls Tryd.prog 21 #[.slice A n c] w (OwnR w (downL cs)) := by
  have HL := Lib.hid hx.len
  have HN := Lib.hid hn
  obtain ⟨i0, hi, hz0, hz1, hz2⟩ := info_parts int_info
  have hb1 : Below w.heap.size w (w.alloc (.cells #[.slice A n c] 23)) := (Below.refl _ _).alloc (Nat.le_refl _) _
  have hK1 : Whole (w.alloc (.cells #[.slice A n c] 23)) w.heap.size 23 [.slice A n c] := Whole.new w _ _
  have hx1 := hx.below hb1
  cases hC : carsB cs
  · have HC := Lib.hid hC
    go_enter Tryd.func21, Tryd.ntmps21
    go_wp2_with fail
    refine (carsValid_any A n c cs _ HN.out hx1).mono ?_; rintro e w2 ⟨rfl, hb2⟩
    rw [HC.out]
    go_wp2
    go_ret
    exact ownR_nil (below_next hb1 hb2) (downL_no HC.out)
  have HC := Lib.hid hC
  clear hC
  have hn6 : n ≤ 6 := by have := carsB_len HC.out; have := HL.out; omega
  have hmf : ∀ (fn : Fn) (first cap : Array Value) (w : World), (Instr.makeFunc fn first cap).run Tryd.prog w = .ok (.func fn first cap) w := fun _ _ _ _ => rfl
  go_enter Tryd.func21, Tryd.ntmps21
  go_wp2_with fail
  generalize w.alloc (.cells #[.slice A n c] 23) = w1 at hb1 hK1 hx1 ⊢
  obtain ⟨kb, HKB⟩ : ∃ kb, Hid (kb = w.heap.size) := ⟨_, rfl⟩
  rw [← HKB.out] at hK1 ⊢
  refine (carsValid_any A n c cs _ HN.out hx1).mono ?_; rintro e w2 ⟨rfl, hb2⟩
  rw [HC.out]
  have hb0 := below_next hb1 hb2
  have hK2 := hK1.below hb2
  have hx2 := hx1.below hb2
  have hk0 : w2.cell? ⟨kb, 0, none⟩ = some (.slice A n c) := hK2.cell 0
  have hkl := hK2.lt
  clear hb1 hK1 hx1 hb2
  go_wp2_with (at_make; refine wpList_make_full _ rfl _ _ 27 rfl w2.heap.size 3 i0 _ 1 Tryd.underlying27 hi hz0 hz1 .i64 .i64 _ _ n rfl rfl rfl rfl (by rw [hz2]; omega) (by unfold maxLen; omega) (Nat.le_refl _) ?_; intro w3 hown hg)
  rw [made_zeros] at hown
  have hb3 : Below w2.heap.size w2 w3 := Joins.below_le (B' := w2.heap.size) (Below.grown (Below.refl _ w2) hg (Nat.le_refl _) (by simp)) (Nat.le_refl _)
  have hown0 : w3.ownsRow w2.heap.size 3 1 (.slice (some ⟨w2.heap.size, 0, none⟩) n n) n ((fillL n 0).map (Value.int .i64)) := hown
  clear hown hg
  go_loopw [4, 13] (fun _ vi wr => ∃ k : Nat, k ≤ n ∧ vi = .int .i64 k ∧ wr.ownsRow w2.heap.size 3 1 (.slice (some ⟨w2.heap.size, 0, none⟩) n n) n ((fillL n k).map (Value.int .i64)) ∧ Below w2.heap.size w2 wr) (fun _ i _ => n - (intOf i).toNat)
  case atStart => exact ⟨0, by omega, rfl, hown0, hb3⟩
  case round =>
    obtain ⟨k, hkn, rfl, hO, hbr⟩ := hrel
    clear hown0 hb3
    by_cases hlt : k < n
    · obtain ⟨⟨u, hu⟩, hf, -, -⟩ := own_cell hO hlt
      have hO2 := own_set (i := k) hO (k : Int)
      rw [fillL_step hlt] at hO2
      go_wp2
      go_roundw
      case rel => exact ⟨k + 1, by omega, by go_num, hO2, hbr.setCell (Nat.le_refl _) _⟩
      case measure => simp [intOf]; omega
    · obtain rfl : k = n := by omega
      rw [fillL_all, ← rowO_one cs] at hO
      have hxr := hx2.below hbr
      have hkr : wr.cell? ⟨kb, 0, none⟩ = some (.slice A k c) := (hbr.cell (p := ⟨kb, 0, none⟩) hkl).trans hk0
      go_wp2_with fail
      refine (sortStable_any kb A k c _ _ w2.heap.size cs wr hxr HC.out hkr (fun h0 x hA => ?_) hkl hbr.size hO).mono ?_
      · obtain ⟨x0, b, off, -, hA2, hbl, -⟩ := hx2.get h0
        rw [hA] at hA2; injection hA2 with hA2; subst hA2; exact hbl
      rintro e w5 ⟨rfl, hO5, hb5⟩
      go_wp2
      go_ret
      have hlen := HL.out
      rw [downL_yes HC.out (l := downK cs k) (by rw [hlen]; exact downK_is cs k)]
      exact ownR_row hO5 hb0 (hbr.trans hb5)
end Go.Proofs.YtmmaeninlhbaaaaDoor
