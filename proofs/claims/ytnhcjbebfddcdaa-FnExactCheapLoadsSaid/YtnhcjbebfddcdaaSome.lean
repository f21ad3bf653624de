/-
  A feed that has only the hours of a set: l4Some of the reference.
-/
import Derived.Test.YtnhcjbebfddcdaaMost
import Derived.Deep.AppendLies
import Derived.Deep.RegionLaw
namespace Go.Proofs.Ytnhcjbebfddcdaa
open Go.ChangeShapes Go.WideShapes Go.ChangeAt Go.RowKit

/-- The feed in the hours of S, and nothing else. -/
def someL (feed : List Int) (S : Nat → Bool) (k : Nat) : List Int := (List.range k).map fun h => if S h then feed.getD h 0 else 0
theorem someL_len (feed : List Int) (S : Nat → Bool) (k : Nat) : (someL feed S k).length = k := by simp [someL]
theorem someL_next (feed : List Int) (S : Nat → Bool) (k : Nat) : someL feed S (k + 1) = someL feed S k ++ [if S k then feed.getD k 0 else 0] := by
  simp [someL, List.range_succ]
theorem someL_small {feed : List Int} (h : small feed) (S : Nat → Bool) (k : Nat) : small (someL feed S k) := by
  intro x hx
  simp only [someL, List.mem_map] at hx
  obtain ⟨i, _, rfl⟩ := hx
  split
  · exact small_get h i
  · omega
theorem someL_congr {feed : List Int} {S S' : Nat → Bool} {k : Nat} (h : ∀ j, j < k → S j = S' j) : someL feed S k = someL feed S' k := by
  unfold someL
  exact List.map_congr_left fun j hj => by rw [h j (List.mem_range.1 hj)]

theorem bit_mul (s k : Nat) (x : Int) (hs : s < 64) (hk : k < 6) : x * (((s : Int) / 2 ^ k).tmod 2) = if s.testBit k then x else 0 := by
  have h := bit_shr s k hs hk
  have h0 := bit_shr0 s k hs hk
  cases hb : s.testBit k
  · rw [hb] at h0
    have : ((s : Int) / 2 ^ k).tmod 2 = 0 := by simpa using h0
    rw [this]; simp
  · rw [hb] at h
    have : ((s : Int) / 2 ^ k).tmod 2 = 1 := by simpa using h
    rw [this]; simp

set_option maxHeartbeats 2000000 in
theorem l4Some_any (F : Option Addr) (fc : Nat) (feed : List Int) (s : Nat) (w : World) (hs : s < 64) (hf : IntsAt w F 6 feed) (hfs : small feed) :
    Calls Try.prog 65 #[.slice F 6 fc, .int .i64 (s : Int)] w fun e w' => ∃ A c, e = .returned (.slice A 6 c) ∧ OwnAt w' w.heap.size 3 1 (.slice A 6 c) 6 (ic (someL feed s.testBit 6)) ∧ Below w.heap.size w w' := by
  obtain ⟨i0, hi, hz0, hz1, hz2⟩ := info_parts int_info
  have hbs : ∀ w : World, (Instr.buildSlice 22 0 #[]).run Try.prog w = .ok (.slice (some ⟨w.heap.size, 0, none⟩) 0 0) (w.alloc (.cells #[] 3)) := fun _ => by kernel_rfl
  have hbs1 : ∀ (x : Int) (w : World), (Instr.buildSlice 22 1 #[(0, .int .i64 x)]).run Try.prog w = .ok (.slice (some ⟨w.heap.size, 0, none⟩) 1 1) (w.alloc (.cells #[.int .i64 x] 3)) := fun _ _ => by kernel_rfl
  go_enter Try.func65, Try.ntmps65
  go_wp2
  go_loopw [5, 6] (fun v i wr => ∃ k : Nat, k ≤ 6 ∧ i = .int .i64 k ∧ wr.ownsRow w.heap.size 3 1 v k ((someL feed s.testBit k).map (Value.int .i64)) ∧ Below w.heap.size w wr) (fun _ i _ => 6 - (intOf i).toNat)
  case atStart => exact ⟨0, Nat.zero_le _, rfl, ⟨rfl, .inr ⟨w.heap.size, 0, #[], rfl, Nat.le_refl _, Whole.new w 3 [], Nat.le_refl _, by unfold maxLen; omega, rfl, rfl⟩⟩, (Below.refl _ _).alloc (Nat.le_refl _) _⟩
  case round =>
    obtain ⟨k, hk, rfl, hown, hbw⟩ := hrel
    by_cases hlt : k < 6
    · obtain ⟨x, b, off, HX, rfl, hb, hc⟩ := (hf.below hbw).get hlt
      have hx30 := small_at hfs HX
      have hi0 : (0 : Int) ≤ (k : Int) := by omega
      have hi1 : (k : Int) < 6 := by omega
      go_wp2
      have HYB : Hid (IntKind.i64.wrap (x * (((s : Int) / 2 ^ k).tmod 2)) = if s.testBit k then x else 0) := by
        rw [bit_mul s k x hs (by omega)]
        exact IntWalk.i64_in _ (by split <;> omega)
      go_region_law (first
        | (refine step_append_lies _ rfl (.tmp 14) (.tmp 24) 22 rfl w.heap.size 3 i0 (.int .i64 0) 1 8 Try.underlying22 hi hz0 hz1 hz2 rfl (by decide) _ _ _ rfl (hown.alloc _).drew ⟨wr.heap.size, 0, none⟩ 1 1 [.int .i64 (IntKind.i64.wrap (x * (((s : Int) / 2 ^ k).tmod 2)))] rfl rfl (new_cells wr _ [.int .i64 (IntKind.i64.wrap (x * (((s : Int) / 2 ^ k).tmod 2)))]) (one_cells _) (by omega) (by unfold maxLen; omega) (by omega) (by have := hbw.size; simp; omega) _ rfl ?_; intro g cap w1 hown' hgrow hgg hgl))
      have hown2 : w1.ownsRow w.heap.size 3 1 (.slice (some ⟨g, 0, none⟩) (k + 1) cap) (k + 1) ((someL feed s.testBit (k + 1)).map (Value.int .i64)) := by
        rw [someL_next]
        have hg : feed.getD k 0 = x := by have h := HX.out; simp [List.getD_eq_getElem?_getD, h]
        rw [hg, ← HYB.out]
        simpa using hown'
      have hbw2 : Below w.heap.size w w1 := ((hbw.alloc hbw.size _).drew).grown hgrow (by have := hbw.size; simp; omega) (fun q hq => (hown.lt q hq).1)
      clear hown' hgrow hown
      go_wp2
      go_roundw
      case rel => exact ⟨k + 1, by omega, by go_num, hown2, hbw2⟩
      case measure => simp [intOf]; omega
    · obtain rfl : k = 6 := by omega
      have ho := own_ints hown
      obtain ⟨A, c, rfl, _, _⟩ := ho.form
      go_wp2
      go_ret
      exact ⟨A, c, rfl, ho, hbw⟩
end Go.Proofs.Ytnhcjbebfddcdaa
