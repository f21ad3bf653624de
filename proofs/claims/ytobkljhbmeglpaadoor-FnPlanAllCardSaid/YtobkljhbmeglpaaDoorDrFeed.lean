/-
  The reference's draw of a feed: a list of five to seven numbers from -1 to 31, made by the call.
-/
import Derived.Test.YtobkljhbmeglpaaDoorPush
namespace Go.Proofs.YtobkljhbmeglpaaDoor
open Go.ChangeShapes Go.WideShapes Go.ChangeAt Go.RowKit

def feedR (xs : List Int) : Prop := ∀ x ∈ xs, -1 ≤ x ∧ x ≤ 31
def DrawF (w0 w : World) (R : Nat) (A : Option Addr) (n c : Nat) (bs : List Int) (K : Nat) (e : Ending) (w' : World) : Prop :=
  ∃ (g off m d : Nat) (xs : List Int), e = .returned (.slice (some ⟨g, off, none⟩) m d) ∧ FarInts w' w.heap.size (some ⟨g, off, none⟩) m d xs ∧ m ≤ 7 ∧ feedR xs ∧ Rd w0 w' R A n c bs K ∧ Fr1 R w w'
theorem feedR_push {xs : List Int} {z : Int} (h : feedR xs) (h1 : -1 ≤ z) (h2 : z ≤ 31) : feedR (xs ++ [z]) := by
  intro x hx
  rcases List.mem_append.1 hx with h3 | h3
  · exact h x h3
  · simp at h3; omega

set_option maxRecDepth 100000 in
set_option maxHeartbeats 4000000 in
theorem l20Feed_any (w0 w : World) (R : Nat) (A : Option Addr) (n c : Nat) (bs : List Int) (J : Nat) (q : Int) (h : Rd w0 w R A n c bs J) (hJ : J ≤ 900000) (hq : 0 ≤ q) (hq2 : q ≤ 1000) :
    Calls Tryd.prog 51 #[.pointer (some ⟨R, 0, none⟩), .int .i64 q] w (DrawF w0 w R A n c bs (J + 10)) := by
  have hRl := h.lt
  have hbs : ∀ w : World, (Instr.buildSlice 29 0 #[]).run Tryd.prog w = .ok (.slice (some ⟨w.heap.size, 0, none⟩) 0 0) (w.alloc (.cells #[] 3)) := fun _ => by kernel_rfl
  go_enter Tryd.func51, Tryd.ntmps51
  go_wp2_with fail
  clear hbs
  have hR1 := h.below ((Below.refl w.heap.size w).alloc (Nat.le_refl _) (.cells #[] 3))
  have hO1 := own0 (w1 := w) (Nat.le_refl w.heap.size)
  have hF1 : Fr1 R w (w.alloc (.cells #[] 3)) := (Fr1.refl R w).below ((Below.refl _ _).alloc (Nat.le_refl _) _)
  generalize hw1 : w.alloc (.cells #[] 3) = w1 at hR1 hO1 hF1 ⊢
  clear hw1
  refine (pick_any w0 _ R A n c bs J 8 hR1 (by omega)).mono ?_; rintro e w2 ⟨a, rfl, ha0, ha1, -, hR2, hf2⟩
  replace ha1 := ha1 (by omega)
  have hO2 := ownsRow_fr1 hO1 hf2 hRl
  have hF2 := hF1.trans hf2
  clear hR1 hO1 hF1 hf2
  go_wp2
  go_loopw [5, 7] (fun v i wr => ∃ (k : Nat) (xs : List Int), k ≤ 6 ∧ i = .int .i64 k ∧ wr.ownsRow w.heap.size 3 1 v k (xs.map (Value.int .i64)) ∧ feedR xs ∧ Rd w0 wr R A n c bs (J + 1 + k) ∧ Fr1 R w wr) (fun _ i _ => 6 - (intOf i).toNat)
  case atStart => exact ⟨0, [], by omega, rfl, hO2, by intro x hx; simp at hx, hR2, hF2⟩
  case round =>
    obtain ⟨k, xs, hk, rfl, hO3, hX3, hR3, hF3⟩ := hrel
    clear hO2 hR2 hF2
    by_cases hlt : k < 6
    · go_wp2_with fail
      refine (pick_any w0 _ R A n c bs (J + 1 + k) (2 + a) hR3 (by omega)).mono ?_; rintro e w4 ⟨z, rfl, hz0, hz1, -, hR4, hf4⟩
      replace hz1 := hz1 (by omega)
      have hO4 := ownsRow_fr1 hO3 hf4 hRl
      have hF4 := hF3.trans hf4
      clear hO3 hR3 hF3 hf4
      go_wp2_with (at_builtin; refine wpList_more (base := w.heap.size) rfl (.tmp 16) (.tmp 20) rfl hF4.size hO4 _ rfl rfl (by omega) ?_; intro g cap w5 hO5 hb5)
      go_roundw
      case rel => exact ⟨k + 1, xs ++ [z], by omega, by go_num, hO5, feedR_push hX3 (by omega) (by omega), (hR4.belowB hb5 hRl).more (by omega), hF4.belowB hb5 (Nat.le_refl _)⟩
      case measure => simp [intOf]; omega
    · obtain rfl : k = 6 := by omega
      obtain ⟨A5, c5, rfl, hc5, hc6⟩ := (own_ints hO3).form
      go_wp2_with fail
      refine (odd_any w0 _ R A n c bs (J + 1 + 6) q hR3 (by omega) (by omega) (by omega)).mono ?_; rintro e w4 ⟨o, rfl, -, hR4, hf4⟩
      have hO4 := ownsRow_fr1 hO3 hf4 hRl
      have hF4 := hF3.trans hf4
      clear hO3 hR3 hF3 hf4
      cases o
      · obtain ⟨g, rfl⟩ := own_block hO4 (by omega)
        go_wp2
        go_ret
        exact ⟨_, _, _, _, _, rfl, OwnAt.farInts hO4, by omega, hX3, hR4.more (by omega), hF4⟩
      · go_wp2_with fail
        refine (pick_any w0 _ R A n c bs (J + 1 + 6 + 1) 3 hR4 (by omega)).mono ?_; rintro e w5 ⟨z, rfl, hz0, hz1, -, hR5, hf5⟩
        replace hz1 := hz1 (by omega)
        have hO5 := ownsRow_fr1 hO4 hf5 hRl
        have hF5 := hF4.trans hf5
        clear hO4 hR4 hF4 hf5
        have hz : z = 0 ∨ z = 1 ∨ z = 2 := by omega
        rcases hz with rfl | rfl | rfl
        · go_wp2_with (at_builtin; refine wpList_more (base := w.heap.size) rfl (.tmp 36) (.tmp 37) rfl hF5.size hO5 _ rfl rfl (by omega) ?_; intro g cap w6 hO6 hb6)
          go_ret
          exact ⟨_, _, _, _, _, rfl, OwnAt.farInts hO6, by omega, feedR_push hX3 (by omega) (by omega), (hR5.belowB hb6 hRl).more (by omega), hF5.belowB hb6 (Nat.le_refl _)⟩
        · obtain ⟨g, rfl⟩ := own_block hO5 (by omega)
          have hf := (OwnAt.farInts hO5).dropN (k := 1) (by omega)
          go_wp2
          go_ret
          exact ⟨_, _, _, _, _, rfl, hf, by omega, fun x hx => hX3 x (List.mem_of_mem_drop hx), hR5.more (by omega), hF5⟩
        · obtain ⟨g, rfl⟩ := own_block hO5 (by omega)
          go_wp2_with fail
          have hG6 : Whole (w5.alloc (.cells #[.int .i64 (-1), .int .i64 31] 3)) w5.heap.size 3 [.int .i64 (-1), .int .i64 31] := Whole.new w5 _ _
          have hb6 : Below w5.heap.size w5 (w5.alloc (.cells #[.int .i64 (-1), .int .i64 31] 3)) := (Below.refl _ _).alloc (Nat.le_refl _) _
          generalize w5.alloc (.cells #[.int .i64 (-1), .int .i64 31] 3) = wa at hG6 hb6 ⊢
          refine (pick_any w0 _ R A n c bs (J + 1 + 6 + 1 + 1) 2 (hR5.below hb6) (by omega)).mono ?_; rintro e w6 ⟨v, rfl, hv0, hv1, -, hR6, hf6⟩
          replace hv1 := hv1 (by omega)
          have hGR : w5.heap.size ≠ R := by have := hR5.lt; omega
          have hG7 := hG6.fr1 hf6 hGR
          have hO6 := ownsRow_fr1 (own_keep hO5 hb6) hf6 hRl
          have hF6 := (hF5.below hb6).trans hf6
          obtain ⟨G, HG⟩ : ∃ G, Hid (G = w5.heap.size) := ⟨_, rfl⟩
          rw [← HG.out] at hG7 ⊢
          clear hGR hG6 hb6 hO5 hR5 hF5 hf6
          obtain ⟨⟨u, hu⟩, hfz, hgb, hgl⟩ := own_cell hO6 (i := 0) (by omega)
          have hv : v = 0 ∨ v = 1 := by omega
          rcases hv with rfl | rfl
          · have hc0 : w6.cell? ⟨G, 0, none⟩ = some (.int .i64 (-1)) := hG7.cell 0
            go_wp2
            go_ret
            refine ⟨_, _, _, _, _, rfl, OwnAt.farInts (own_set (i := 0) hO6 (-1)), by omega, ?_, (hR6.set (p := ⟨g, 0, none⟩) (by simp; omega) _).more (by omega), hF6.far (p := ⟨g, 0, none⟩) hgb _⟩
            intro x hx
            rcases List.mem_or_eq_of_mem_set hx with h1 | h1
            · exact hX3 x h1
            · omega
          · have hc0 : w6.cell? ⟨G, 1, none⟩ = some (.int .i64 31) := hG7.cell 1
            go_wp2
            go_ret
            refine ⟨_, _, _, _, _, rfl, OwnAt.farInts (own_set (i := 0) hO6 31), by omega, ?_, (hR6.set (p := ⟨g, 0, none⟩) (by simp; omega) _).more (by omega), hF6.far (p := ⟨g, 0, none⟩) hgb _⟩
            intro x hx
            rcases List.mem_or_eq_of_mem_set hx with h1 | h1
            · exact hX3 x h1
            · omega
end Go.Proofs.YtobkljhbmeglpaaDoor
