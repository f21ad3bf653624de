/-
  The law FnFeedValid: with one number more a feed is not valid; a feed of nothing is.
-/
import Derived.Test.YtobkljhbmeglpaaDoorDrFeed
import Derived.Test.YtobkljhbmeglpaaDoorAlive
import Derived.Test.YtobkljhbmeglpaaDoorSum
namespace Go.Proofs.YtobkljhbmeglpaaDoor
open Go.ChangeShapes Go.WideShapes Go.ChangeAt Go.RowKit

def DrawFR (w : World) (e : Ending) (w' : World) : Prop :=
  ∃ (g off m d : Nat) (xs : List Int), e = .returned (.slice (some ⟨g, off, none⟩) m d) ∧ IntsAt w' (some ⟨g, off, none⟩) m xs ∧ (m ≤ d ∧ d ≤ maxLen) ∧ m ≤ 7 ∧ feedR xs ∧ Below w.heap.size w w'
set_option maxHeartbeats 1000000 in
theorem drawFeedValid_any (w : World) (A : Option Addr) (n c : Nat) (bs : List Int) (hn : n ≤ c ∧ c ≤ 9223372036854775807) (hb : BytesAt w A n bs) :
    Calls Tryd.prog 17 #[.slice A n c] w (DrawFR w) := by
  go_enter Tryd.func17, Tryd.ntmps17
  go_wp2_with fail
  refine (open_any w A n c bs hn hb).mono ?_; rintro e w2 ⟨R, A1, n1, c1, bs1, rfl, hR2⟩
  go_wp2_with fail
  refine (l20Feed_any w w2 R A1 n1 c1 bs1 0 2 hR2 (by omega) (by omega) (by omega)).mono ?_; rintro e w3 ⟨g, off, m, d, xs, rfl, hI, hm, hX, hR3, hf3⟩
  go_wp2
  go_ret
  exact ⟨g, off, m, d, xs, rfl, hI.ints, hI.cap, hm, hX, hR3.bw⟩

set_option maxRecDepth 100000 in
set_option maxHeartbeats 4000000 in
theorem lawFeedValid (A : Option Addr) (n c : Nat) (bs : List Int) (w : World) (hn : n ≤ c ∧ c ≤ 9223372036854775807) (hb : BytesAt w A n bs) :
    Calls Tryd.prog 4 #[.slice A n c] w (RV w (.bool true)) := by
  obtain ⟨hn1, hn2⟩ := hn
  by_cases hbig : 1048576 < n
  · have hd : decide (1048576 < n) = true := by simpa using hbig
    go_enter Tryd.func4, Tryd.ntmps4
    go_wp2
    go_ret
    exact ⟨rfl, Below.refl _ _⟩
  have hd : decide (1048576 < n) = false := by simpa using hbig
  have HB := Lib.hid hb
  clear hb
  have hbs : ∀ w : World, (Instr.buildSlice 29 0 #[]).run Tryd.prog w = .ok (.slice (some ⟨w.heap.size, 0, none⟩) 0 0) (w.alloc (.cells #[] 3)) := fun _ => by kernel_rfl
  have hmk : ∀ w : World, (Instr.makeSlice 29 (.int .i64 6) (.int .i64 6)).run Tryd.prog w = .ok (.slice (some ⟨w.heap.size, 0, none⟩) 6 6) (w.alloc (.cells #[.int .i64 0, .int .i64 0, .int .i64 0, .int .i64 0, .int .i64 0, .int .i64 0] 3)) := fun _ => by kernel_rfl
  go_enter Tryd.func4, Tryd.ntmps4
  go_wp2_with fail
  refine (drawFeedValid_any w A n c bs ⟨hn1, hn2⟩ HB.out).mono ?_; rintro e w1 ⟨g, off, m, d, xs, rfl, hI, ⟨hm1, hm2⟩, hm7, hX, hb1⟩
  unfold maxLen at hm2
  clear HB
  go_wp2_with fail
  refine (feedValid_any _ m d xs w1 (by omega) hI).mono ?_; rintro e w2 ⟨rfl, rfl⟩
  go_wp2_with fail
  refine (specFeedValid_any _ m d xs w1 (by omega) hI).mono ?_; rintro e w2 ⟨rfl, rfl⟩
  have hsame : (feedB xs == feedB xs) = true := by simp
  by_cases hv : feedB xs = true
  · rw [hv] at hsame ⊢
    have HV := Lib.hid hv
    clear hv
    go_wp2_with (first
      | (at_builtin; refine wpList_on rfl ?_; refine wpList_copyF rfl (.tmp 19) (.tmp 20) rfl hI rfl rfl (by omega) ?_; intro v2 w2 hO2 hb2)
      | (at_builtin; refine wpList_on rfl ?_; refine wpList_more (base := w1.heap.size) rfl (.tmp 21) (.tmp 22) rfl hb2.size hO2 _ rfl rfl (by omega) ?_; intro g3 cap3 w3 hO3 hb3))
    have hB3 : Below w.heap.size w w3 := hb1.trans ((hb2.trans hb3).mono hb1.size)
    have hlong : feedB (xs ++ [0]) = false := by
      have h6 : xs.length = 6 := by have h := HV.out; simp [feedB] at h; exact h.1
      simp [feedB, h6]
    refine (feedValid_any _ (m + 1) cap3 (xs ++ [0]) w3 (by omega) ((OwnAt.farInts hO3).ints)).mono ?_; rintro e w4 ⟨rfl, rfl⟩
    rw [hlong]
    clear hbs hO2 hb2 hO3 hb3
    go_wp2_with fail
    have hG4 : Whole (w3.alloc (.cells #[.int .i64 0, .int .i64 0, .int .i64 0, .int .i64 0, .int .i64 0, .int .i64 0] 3)) w3.heap.size 3 ([0, 0, 0, 0, 0, 0].map (Value.int .i64)) := Whole.new w3 _ _
    have hB4 : Below w.heap.size w (w3.alloc (.cells #[.int .i64 0, .int .i64 0, .int .i64 0, .int .i64 0, .int .i64 0, .int .i64 0] 3)) := hB3.alloc hB3.size _
    generalize w3.alloc (.cells #[.int .i64 0, .int .i64 0, .int .i64 0, .int .i64 0, .int .i64 0, .int .i64 0] 3) = wz at hG4 hB4 ⊢
    refine (feedValid_any _ 6 6 [0, 0, 0, 0, 0, 0] wz (by omega) (ints_at_whole hG4)).mono ?_; rintro e w5 ⟨rfl, rfl⟩
    rw [show feedB [0, 0, 0, 0, 0, 0] = true from by decide]
    go_wp2_with fail
    refine (alive_any _).mono ?_; rintro e w6 ⟨rfl, hb6⟩
    have hB6 := below_next hB4 hb6
    go_wp2
    go_ret
    exact ⟨rfl, hB6⟩
  · replace hv : feedB xs = false := by simpa using hv
    rw [hv] at hsame ⊢
    clear hv hbs
    go_wp2_with fail
    have hG4 : Whole (w1.alloc (.cells #[.int .i64 0, .int .i64 0, .int .i64 0, .int .i64 0, .int .i64 0, .int .i64 0] 3)) w1.heap.size 3 ([0, 0, 0, 0, 0, 0].map (Value.int .i64)) := Whole.new w1 _ _
    have hB4 : Below w.heap.size w (w1.alloc (.cells #[.int .i64 0, .int .i64 0, .int .i64 0, .int .i64 0, .int .i64 0, .int .i64 0] 3)) := hb1.alloc hb1.size _
    generalize w1.alloc (.cells #[.int .i64 0, .int .i64 0, .int .i64 0, .int .i64 0, .int .i64 0, .int .i64 0] 3) = wz at hG4 hB4 ⊢
    refine (feedValid_any _ 6 6 [0, 0, 0, 0, 0, 0] wz (by omega) (ints_at_whole hG4)).mono ?_; rintro e w5 ⟨rfl, rfl⟩
    rw [show feedB [0, 0, 0, 0, 0, 0] = true from by decide]
    go_wp2_with fail
    refine (alive_any _).mono ?_; rintro e w6 ⟨rfl, hb6⟩
    have hB6 := below_next hB4 hb6
    go_wp2
    go_ret
    exact ⟨rfl, hB6⟩
end Go.Proofs.YtobkljhbmeglpaaDoor
