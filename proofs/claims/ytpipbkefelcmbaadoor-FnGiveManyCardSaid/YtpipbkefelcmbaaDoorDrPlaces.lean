/-
  The reference's draw of places: a list of structs that the call has made.
-/
import Derived.Test.YtpipbkefelcmbaaDoorPushC
namespace Go.Proofs.YtpipbkefelcmbaaDoor
open Go.ChangeShapes Go.WideShapes Go.ChangeAt Go.RowKit

def DrawP (w0 w : World) (R : Nat) (A : Option Addr) (n c : Nat) (bs : List Int) (K : Nat) (e : Ending) (w' : World) : Prop :=
  ∃ (g m d : Nat) (ns : List P3), e = .returned (.slice (some ⟨g, 0, none⟩) m d) ∧ OwnAt w' w.heap.size 26 3 (.slice (some ⟨g, 0, none⟩) m d) m (pc ns) ∧ m ≤ 7 ∧ Rd w0 w' R A n c bs K ∧ Fr1 R w w'

set_option maxRecDepth 100000 in
set_option maxHeartbeats 4000000 in
theorem l20Places_any (w0 w : World) (R : Nat) (A : Option Addr) (n c : Nat) (bs : List Int) (J : Nat) (q : Int) (h : Rd w0 w R A n c bs J) (hJ : J ≤ 800000) (hq : 0 ≤ q) (hq2 : q ≤ 1000) :
    Calls Tryd.prog 45 #[.pointer (some ⟨R, 0, none⟩), .int .i64 q] w (DrawP w0 w R A n c bs (J + 100)) := by
  have hRl := h.lt
  have hbs : ∀ w : World, (Instr.buildSlice 34 0 #[]).run Tryd.prog w = .ok (.slice (some ⟨w.heap.size, 0, none⟩) 0 0) (w.alloc (.cells #[] 26)) := fun _ => by kernel_rfl
  have hmk : ∀ w : World, (Instr.makeSlice 34 (.int .i64 7) (.int .i64 7)).run Tryd.prog w = .ok (.slice (some ⟨w.heap.size, 0, none⟩) 7 7) (w.alloc (.cells (pc (List.replicate 7 ⟨0, 0, 0⟩)).flatten.toArray 26)) := fun _ => by kernel_rfl
  go_enter Tryd.func45, Tryd.ntmps45
  go_wp2_with fail
  clear hbs
  have hR1 := h.below ((Below.refl w.heap.size w).alloc (Nat.le_refl _) (.cells #[] 26))
  have hO1 := ownP0 (w1 := w) (Nat.le_refl w.heap.size)
  have hF1 : Fr1 R w (w.alloc (.cells #[] 26)) := (Fr1.refl R w).below ((Below.refl _ _).alloc (Nat.le_refl _) _)
  generalize hw1 : w.alloc (.cells #[] 26) = w1 at hR1 hO1 hF1 ⊢
  clear hw1
  refine (pick_any w0 _ R A n c bs J 6 hR1 (by omega)).mono ?_; rintro e w2 ⟨a, rfl, ha0, ha1, -, hR2, hf2⟩
  replace ha1 := ha1 (by omega)
  have hO2 := ownsRow_fr1 hO1 hf2 hRl
  have hF2 := hF1.trans hf2
  obtain ⟨p, rfl⟩ : ∃ p : Nat, a = p := ⟨a.toNat, by omega⟩
  clear hR1 hO1 hF1 hf2 ha0
  go_wp2
  go_loopw [5, 6] (fun v i wr => ∃ (k l : Nat) (g cc : Nat) (ns : List P3), k + l = p ∧ i = .int .i64 l ∧ v = .slice (some ⟨g, 0, none⟩) k cc ∧ ns.length = k ∧ wr.ownsRow w.heap.size 26 3 (.slice (some ⟨g, 0, none⟩) k cc) k (pc ns).flatten ∧ Rd w0 wr R A n c bs (J + 1 + 3 * k) ∧ Fr1 R w wr) (fun _ i _ => (intOf i).toNat)
  case atStart => exact ⟨0, p, _, _, [], by omega, rfl, rfl, rfl, hO2, hR2, hF2⟩
  case round =>
    obtain ⟨k, l, g, cc, ns, hkl, rfl, rfl, hnl, hO3, hR3, hF3⟩ := hrel
    have HNL := Lib.hid hnl
    clear hO2 hR2 hF2 hnl
    by_cases hlt : 0 < l
    · go_wp2_with fail
      refine (pick_any w0 _ R A n c bs (J + 1 + 3 * k) 8 hR3 (by omega)).mono ?_; rintro e w4 ⟨z0, rfl, hz00, hz01, -, hR4, hf4⟩
      replace hz01 := hz01 (by omega)
      have hO4 := ownsRow_fr1 hO3 hf4 hRl
      have hF4 := hF3.trans hf4
      clear hO3 hR3 hF3 hf4
      go_wp2_with fail
      refine (pick_any w0 _ R A n c bs (J + 1 + 3 * k + 1) 7 hR4 (by omega)).mono ?_; rintro e w5 ⟨z1, rfl, hz10, hz11, -, hR5, hf5⟩
      replace hz11 := hz11 (by omega)
      have hO5 := ownsRow_fr1 hO4 hf5 hRl
      have hF5 := hF4.trans hf5
      clear hO4 hR4 hF4 hf5
      go_wp2_with fail
      refine (pick_any w0 _ R A n c bs (J + 1 + 3 * k + 1 + 1) 8 hR5 (by omega)).mono ?_; rintro e w6 ⟨z2, rfl, hz20, hz21, -, hR6, hf6⟩
      replace hz21 := hz21 (by omega)
      have hO6 := ownsRow_fr1 hO5 hf6 hRl
      have hF6 := hF5.trans hf6
      clear hO5 hR5 hF5 hf6
      have hx0 : IntKind.i64.wrap (1 + z0) = 1 + z0 := IntWalk.i64_in _ (by omega)
      have hx1 : IntKind.i64.wrap (1 + z1) = 1 + z1 := IntWalk.i64_in _ (by omega)
      have hx2 : IntKind.i64.wrap (1 + z2) = 1 + z2 := IntWalk.i64_in _ (by omega)
      go_wp2_with (at_builtin; refine wpList_moreP (base := w.heap.size) rfl (.tmp 14) (.tmp 25) rfl hF6.size hO6 ⟨1 + z0, 1 + z1, 1 + z2⟩ rfl rfl (by omega) ?_; intro g7 cap7 w7 hO7 hb7)
      go_roundw
      case rel => exact ⟨k + 1, l - 1, g7, cap7, ns ++ [⟨1 + z0, 1 + z1, 1 + z2⟩], by omega, by go_num, rfl, by rw [List.length_append, HNL.out]; rfl, hO7, (hR6.belowB hb7 hRl).more (by omega), hF6.belowB hb7 (Nat.le_refl _)⟩
      case measure => simp [intOf]; omega
    · obtain rfl : l = 0 := by omega
      go_wp2_with fail
      refine (odd_any w0 _ R A n c bs (J + 1 + 3 * k) q hR3 (by omega) (by omega) (by omega)).mono ?_; rintro e w4 ⟨o, rfl, -, hR4, hf4⟩
      have hO4 := ownsRow_fr1 hO3 hf4 hRl
      have hF4 := hF3.trans hf4
      clear hO3 hR3 hF3 hf4
      cases o
      · go_wp2
        go_ret
        exact ⟨_, _, _, _, rfl, own_places hO4 HNL.out, by omega, hR4.more (by omega), hF4⟩
      · go_wp2_with fail
        refine (pick_any w0 _ R A n c bs (J + 1 + 3 * k + 1) 2 hR4 (by omega)).mono ?_; rintro e w5 ⟨z, rfl, hz0, hz1, -, hR5, hf5⟩
        replace hz1 := hz1 (by omega)
        have hO5 := ownsRow_fr1 hO4 hf5 hRl
        have hF5 := hF4.trans hf5
        clear hO4 hR4 hF4 hf5
        have hz : z = 0 ∨ z = 1 := by omega
        rcases hz with rfl | rfl
        · go_wp2
          go_ret
          have hW : Whole (w5.alloc (.cells (pc (List.replicate 7 ⟨0, 0, 0⟩)).flatten.toArray 26)) w5.heap.size 26 (pc (List.replicate 7 ⟨0, 0, 0⟩)).flatten := Whole.new w5 _ _
          have ho : OwnAt (w5.alloc (.cells (pc (List.replicate 7 ⟨0, 0, 0⟩)).flatten.toArray 26)) w.heap.size 26 3 (.slice (some ⟨w5.heap.size, 0, none⟩) 7 7) 7 (pc (List.replicate 7 ⟨0, 0, 0⟩)) :=
            hW.own (by simp [pc]) (by intro r hr; simp [pc] at hr; subst hr; rfl) hF5.size (by unfold maxLen; omega)
          have hb : Below w5.heap.size w5 (w5.alloc (.cells (pc (List.replicate 7 ⟨0, 0, 0⟩)).flatten.toArray 26)) := (Below.refl _ _).alloc (Nat.le_refl _) _
          exact ⟨_, _, _, _, rfl, ho, by omega, (hR5.below hb).more (by omega), hF5.below hb⟩
        · clear hmk
          go_wp2_with fail
          have hG9 : Whole (w5.alloc (.cells #[.int .i64 (-1), .int .i64 10] 3)) w5.heap.size 3 [.int .i64 (-1), .int .i64 10] := Whole.new w5 _ _
          have hb9 : Below w5.heap.size w5 (w5.alloc (.cells #[.int .i64 (-1), .int .i64 10] 3)) := (Below.refl _ _).alloc (Nat.le_refl _) _
          generalize w5.alloc (.cells #[.int .i64 (-1), .int .i64 10] 3) = wa at hG9 hb9 ⊢
          refine (pick_any w0 _ R A n c bs (J + 1 + 3 * k + 1 + 1) 2 (hR5.below hb9) (by omega)).mono ?_; rintro e w6 ⟨v10, rfl, hv100, hv101, -, hR6, hf6⟩
          replace hv101 := hv101 (by omega)
          have hGR : w5.heap.size ≠ R := by have := hR5.lt; omega
          have hG6 := hG9.fr1 hf6 hGR
          have hO6 := ownsRow_fr1 (own_keep hO5 hb9) hf6 hRl
          have hF6 := (hF5.below hb9).trans hf6
          obtain ⟨G, HG⟩ : ∃ G, Hid (G = w5.heap.size) := ⟨_, rfl⟩
          rw [← HG.out] at hG6 ⊢
          clear hGR hG9 hO5 hR5 hF5 hf6
          have hv : v10 = 0 ∨ v10 = 1 := by omega
          rcases hv with rfl | rfl
          · have hc0 : w6.cell? ⟨G, 0, none⟩ = some (.int .i64 (-1)) := hG6.cell 0
            go_wp2_with (at_builtin; refine wpList_moreP (base := w.heap.size) rfl (.tmp 34) (.tmp 41) rfl hF6.size hO6 ⟨-1, 0, 0⟩ rfl rfl (by omega) ?_; intro g7 cap7 w7 hO7 hb7)
            go_ret
            exact ⟨_, _, _, _, rfl, own_places hO7 (by rw [List.length_append, HNL.out]; rfl), by omega, (hR6.belowB hb7 hRl).more (by omega), hF6.belowB hb7 (Nat.le_refl _)⟩
          · have hc0 : w6.cell? ⟨G, 1, none⟩ = some (.int .i64 10) := hG6.cell 1
            go_wp2_with (at_builtin; refine wpList_moreP (base := w.heap.size) rfl (.tmp 34) (.tmp 41) rfl hF6.size hO6 ⟨10, 0, 0⟩ rfl rfl (by omega) ?_; intro g7 cap7 w7 hO7 hb7)
            go_ret
            exact ⟨_, _, _, _, rfl, own_places hO7 (by rw [List.length_append, HNL.out]; rfl), by omega, (hR6.belowB hb7 hRl).more (by omega), hF6.belowB hb7 (Nat.le_refl _)⟩
end Go.Proofs.YtpipbkefelcmbaaDoor
