/-
  The reference's draw of cars, places and a list of places.
-/
import Derived.Test.YtpipbkefelcmbaaDoorDrBest
import Derived.Test.YtpipbkefelcmbaaDoorPlFor
import Derived.Test.YtpipbkefelcmbaaDoorHas
import Derived.Test.YtpipbkefelcmbaaDoorSel
namespace Go.Proofs.YtpipbkefelcmbaaDoor
open Go.ChangeShapes Go.WideShapes Go.ChangeAt Go.RowKit

def DrawG (w0 w : World) (R : Nat) (A : Option Addr) (n c : Nat) (bs : List Int) (K : Nat) (e : Ending) (w' : World) : Prop :=
  ∃ (g m d : Nat) (cs : List C4) (g2 m2 d2 : Nat) (ps : List P3) (g3 m3 d3 : Nat) (gs : List Int), e = .returned (.tuple #[.slice (some ⟨g, 0, none⟩) m d, .slice (some ⟨g2, 0, none⟩) m2 d2, .slice (some ⟨g3, 0, none⟩) m3 d3]) ∧
    OwnAt w' w.heap.size 24 4 (.slice (some ⟨g, 0, none⟩) m d) m (cc cs) ∧ m ≤ 7 ∧ OwnAt w' w.heap.size 26 3 (.slice (some ⟨g2, 0, none⟩) m2 d2) m2 (pc ps) ∧ m2 ≤ 7 ∧
    w'.ownsRow w.heap.size 3 1 (.slice (some ⟨g3, 0, none⟩) m3 d3) m3 (gs.map (Value.int .i64)) ∧ m3 ≤ 8 ∧ Rd w0 w' R A n c bs K ∧ Fr1 R w w'

theorem own_lower {w : World} {base base' sz n : Nat} {e : TypeId} {v : Value} {xs : List Value} (h : w.ownsRow base e sz v n xs) (hb : base' ≤ base) : w.ownsRow base' e sz v n xs := by
  refine ⟨h.1, ?_⟩
  rcases h.2 with h2 | ⟨g, cap, cur, h2, h3, h4⟩
  · exact .inl h2
  · exact .inr ⟨g, cap, cur, h2, Nat.le_trans hb h3, h4⟩

set_option maxRecDepth 100000 in
set_option maxHeartbeats 4000000 in
theorem l20Give_any (w0 w : World) (R : Nat) (A : Option Addr) (n c : Nat) (bs : List Int) (J : Nat) (h : Rd w0 w R A n c bs J) (hJ : J ≤ 700000) :
    Calls Tryd.prog 50 #[.pointer (some ⟨R, 0, none⟩)] w (DrawG w0 w R A n c bs (J + 300)) := by
  have hRl := h.lt
  have hbs : ∀ w : World, (Instr.buildSlice 42 0 #[]).run Tryd.prog w = .ok (.slice (some ⟨w.heap.size, 0, none⟩) 0 0) (w.alloc (.cells #[] 3)) := fun _ => by kernel_rfl
  go_enter Tryd.func50, Tryd.ntmps50
  go_wp2_with fail
  refine (l20Cars_any w0 w R A n c bs J 14 h (by omega) (by omega) (by omega)).mono ?_; rintro e w1 ⟨g, m, d, cs, rfl, hO1, hm, hR1, hf1⟩
  go_wp2_with fail
  refine (l20Places_any w0 w1 R A n c bs (J + 100) 14 hR1 (by omega) (by omega) (by omega)).mono ?_; rintro e w2 ⟨g2, m2, d2, ps, rfl, hP2, hm2, hR2, hf2⟩
  have hO2 := hO1.fr1 hf2 hRl
  replace hP2 := hP2.base hf1.size
  have hF2 := hf1.trans hf2
  have hR2l : R < w2.heap.size := hR2.lt
  clear hO1 hR1 hf1 hf2 h
  go_wp2
  clear hbs
  have hO3 := own0 (base := w2.heap.size) (w1 := w2) (Nat.le_refl _)
  have hb3 : Below w2.heap.size w2 (w2.alloc (.cells #[] 3)) := (Below.refl _ _).alloc (Nat.le_refl _) _
  have hR3 := hR2.below hb3
  have hF3 : Fr1 R w2 (w2.alloc (.cells #[] 3)) := (Fr1.refl R w2).below hb3
  generalize w2.alloc (.cells #[] 3) = w3 at hO3 hR3 hF3 ⊢
  clear hR2 hb3
  go_loopw [7, 8, 9, 10] (fun vg vk _ _ wr => ∃ (k g3 cap : Nat) (gs : List Int), k ≤ m ∧ vk = .int .i64 k ∧ vg = .slice (some ⟨g3, 0, none⟩) k cap ∧ wr.ownsRow w2.heap.size 3 1 (.slice (some ⟨g3, 0, none⟩) k cap) k (gs.map (Value.int .i64)) ∧ Rd w0 wr R A n c bs (J + 200 + 3 * k) ∧ Fr1 R w2 wr) (fun _ k _ _ _ => m - (intOf k).toNat)
  case atStart => exact ⟨0, _, _, [], by omega, rfl, rfl, hO3, hR3, hF3⟩
  case round =>
    obtain ⟨k, g3, cap, gs, hkm, rfl, rfl, hG4, hR4, hF4⟩ := hrel
    clear hO3 hR3 hF3
    by_cases hlt : k < m
    · obtain ⟨x, b0, off0, HX, he0, -, p0, p1, p2, p3⟩ := CarsAt.get (hO2.fr1 hF4 hRl).slAt hlt
      injection he0 with he0; injection he0 with e1 e2; subst e1; subst e2
      simp only [Nat.zero_add] at p0 p1 p2 p3
      have hP4 := hP2.fr1 hF4 hRl
      clear HX
      go_wp2_with fail
      refine (specPlacesFor_any x _ m2 d2 ps wr (by omega) hP4.slAt).mono ?_; rintro e w5 ⟨X, q, xc, rfl, hq, hX5, hb5⟩
      have hq6 : q ≤ 6 := by rw [hq]; exact forL_short _ _
      have hX6 : FarInts w5 wr.heap.size X q xc (forL x ps) := OwnAt.farInts (by rw [← ic_flat]; exact hX5.own)
      have hRw : R < wr.heap.size := hR4.lt
      have hG5 := own_keep hG4 hb5
      have hR5 := hR4.below hb5
      have hF5 := hF4.below hb5
      clear hP4 p0 p1 p2 p3 hq hX5 hG4 hR4 hF4 hb5
      by_cases hq0 : 0 < q
      · have hd : decide (0 < (q : Int)) = true := by simp; omega
        go_wp2_with fail
        refine (pick_any w0 _ R A n c bs (J + 200 + 3 * k) 5 hR5 (by omega)).mono ?_; rintro e w6 ⟨y, rfl, hy0, -, -, hR6, hf6⟩
        have hX7 := hX6.fr1 hf6 hRw
        have hG6 := ownsRow_fr1 hG5 hf6 hR2l
        have hF6 := hF5.trans hf6
        clear hX6 hG5 hR5 hF5 hf6
        by_cases hy : 0 < y
        · have hd6 : decide (0 < y) = true := by simpa using hy
          go_wp2_with fail
          refine (pick_any w0 _ R A n c bs (J + 200 + 3 * k + 1) (q : Int) hR6 (by omega)).mono ?_; rintro e w7 ⟨v, rfl, hv0, hv1, -, hR7, hf7⟩
          replace hv1 := hv1 (by omega)
          obtain ⟨v, rfl⟩ : ∃ v' : Nat, v = v' := ⟨v.toNat, by omega⟩
          have hvq : v < q := by omega
          have hG7 := ownsRow_fr1 hG6 hf7 hR2l
          have hF7 := hF6.trans hf7
          obtain ⟨z, bX, oX, HZ, rfl, hbX, hcX⟩ := (hX7.fr1 hf7 hRw).ints.get hvq
          have hvq' : (v : Int) < (q : Int) := by omega
          clear hX7 hG6 hR6 hF6 hf7 HZ
          have hl7 : IntsAt _ (some ⟨g3, 0, none⟩) k gs := (OwnAt.farInts hG7).ints
          go_wp2_with fail
          refine (l1Has_any _ k cap gs z _ (by omega) hl7).mono ?_; rintro e w8 ⟨rfl, rfl⟩
          clear hl7
          cases hasB gs z
          · have hG8 := hG7
            have hR8 := hR7
            have hF8 := hF7
            clear hG7 hR7 hF7
            go_wp2_with (at_builtin; refine wpList_more (base := w2.heap.size) rfl (.tmp 51) (.tmp 53) rfl hF8.size hG8 z rfl rfl (by omega) ?_; intro ga capa wa hGa hba)
            go_roundw
            case rel => exact ⟨k + 1, ga, capa, _, by omega, by go_num, rfl, hGa, (hR8.belowB hba hR2l).more (by omega), hF8.belowB hba (Nat.le_refl _)⟩
            case measure => simp [intOf]; omega
          · go_wp2_with fail
            refine (pick_any w0 _ R A n c bs (J + 200 + 3 * k + 1 + 1) 9 hR7 (by omega)).mono ?_; rintro e w8 ⟨v, rfl, hv0, -, -, hR8, hf8⟩
            have hG8 := ownsRow_fr1 hG7 hf8 hR2l
            have hF8 := hF7.trans hf8
            clear hG7 hR7 hF7 hf8
            by_cases hv : 0 < v
            · have hd8 : decide (0 < v) = true := by simpa using hv
              go_wp2_with (at_builtin; refine wpList_more (base := w2.heap.size) rfl (.tmp 51) (.tmp 53) rfl hF8.size hG8 (-1) rfl rfl (by omega) ?_; intro ga capa wa hGa hba)
              go_roundw
              case rel => exact ⟨k + 1, ga, capa, _, by omega, by go_num, rfl, hGa, (hR8.belowB hba hR2l).more (by omega), hF8.belowB hba (Nat.le_refl _)⟩
              case measure => simp [intOf]; omega
            · obtain rfl : v = 0 := by omega
              go_wp2_with (at_builtin; refine wpList_more (base := w2.heap.size) rfl (.tmp 51) (.tmp 53) rfl hF8.size hG8 z rfl rfl (by omega) ?_; intro ga capa wa hGa hba)
              go_roundw
              case rel => exact ⟨k + 1, ga, capa, _, by omega, by go_num, rfl, hGa, (hR8.belowB hba hR2l).more (by omega), hF8.belowB hba (Nat.le_refl _)⟩
              case measure => simp [intOf]; omega
        · obtain rfl : y = 0 := by omega
          have hG7 := hG6
          have hR7 := hR6
          have hF7 := hF6
          clear hG6 hR6 hF6 hX7
          have hl7 : IntsAt _ (some ⟨g3, 0, none⟩) k gs := (OwnAt.farInts hG7).ints
          go_wp2_with fail
          refine (l1Has_any _ k cap gs (-1) _ (by omega) hl7).mono ?_; rintro e w8 ⟨rfl, rfl⟩
          clear hl7
          cases hasB gs (-1)
          · have hG8 := hG7
            have hR8 := hR7
            have hF8 := hF7
            clear hG7 hR7 hF7
            go_wp2_with (at_builtin; refine wpList_more (base := w2.heap.size) rfl (.tmp 51) (.tmp 53) rfl hF8.size hG8 (-1) rfl rfl (by omega) ?_; intro ga capa wa hGa hba)
            go_roundw
            case rel => exact ⟨k + 1, ga, capa, _, by omega, by go_num, rfl, hGa, (hR8.belowB hba hR2l).more (by omega), hF8.belowB hba (Nat.le_refl _)⟩
            case measure => simp [intOf]; omega
          · go_wp2_with fail
            refine (pick_any w0 _ R A n c bs (J + 200 + 3 * k + 1) 9 hR7 (by omega)).mono ?_; rintro e w8 ⟨v, rfl, hv0, -, -, hR8, hf8⟩
            have hG8 := ownsRow_fr1 hG7 hf8 hR2l
            have hF8 := hF7.trans hf8
            clear hG7 hR7 hF7 hf8
            by_cases hv : 0 < v
            · have hd8 : decide (0 < v) = true := by simpa using hv
              go_wp2_with (at_builtin; refine wpList_more (base := w2.heap.size) rfl (.tmp 51) (.tmp 53) rfl hF8.size hG8 (-1) rfl rfl (by omega) ?_; intro ga capa wa hGa hba)
              go_roundw
              case rel => exact ⟨k + 1, ga, capa, _, by omega, by go_num, rfl, hGa, (hR8.belowB hba hR2l).more (by omega), hF8.belowB hba (Nat.le_refl _)⟩
              case measure => simp [intOf]; omega
            · obtain rfl : v = 0 := by omega
              go_wp2_with (at_builtin; refine wpList_more (base := w2.heap.size) rfl (.tmp 51) (.tmp 53) rfl hF8.size hG8 (-1) rfl rfl (by omega) ?_; intro ga capa wa hGa hba)
              go_roundw
              case rel => exact ⟨k + 1, ga, capa, _, by omega, by go_num, rfl, hGa, (hR8.belowB hba hR2l).more (by omega), hF8.belowB hba (Nat.le_refl _)⟩
              case measure => simp [intOf]; omega
      · obtain rfl : q = 0 := by omega
        have hG7 := hG5
        have hR7 := hR5
        have hF7 := hF5
        clear hG5 hR5 hF5 hX6
        have hl7 : IntsAt _ (some ⟨g3, 0, none⟩) k gs := (OwnAt.farInts hG7).ints
        go_wp2_with fail
        refine (l1Has_any _ k cap gs (-1) _ (by omega) hl7).mono ?_; rintro e w8 ⟨rfl, rfl⟩
        clear hl7
        cases hasB gs (-1)
        · have hG8 := hG7
          have hR8 := hR7
          have hF8 := hF7
          clear hG7 hR7 hF7
          go_wp2_with (at_builtin; refine wpList_more (base := w2.heap.size) rfl (.tmp 51) (.tmp 53) rfl hF8.size hG8 (-1) rfl rfl (by omega) ?_; intro ga capa wa hGa hba)
          go_roundw
          case rel => exact ⟨k + 1, ga, capa, _, by omega, by go_num, rfl, hGa, (hR8.belowB hba hR2l).more (by omega), hF8.belowB hba (Nat.le_refl _)⟩
          case measure => simp [intOf]; omega
        · go_wp2_with fail
          refine (pick_any w0 _ R A n c bs (J + 200 + 3 * k) 9 hR7 (by omega)).mono ?_; rintro e w8 ⟨v, rfl, hv0, -, -, hR8, hf8⟩
          have hG8 := ownsRow_fr1 hG7 hf8 hR2l
          have hF8 := hF7.trans hf8
          clear hG7 hR7 hF7 hf8
          by_cases hv : 0 < v
          · have hd8 : decide (0 < v) = true := by simpa using hv
            go_wp2_with (at_builtin; refine wpList_more (base := w2.heap.size) rfl (.tmp 51) (.tmp 53) rfl hF8.size hG8 (-1) rfl rfl (by omega) ?_; intro ga capa wa hGa hba)
            go_roundw
            case rel => exact ⟨k + 1, ga, capa, _, by omega, by go_num, rfl, hGa, (hR8.belowB hba hR2l).more (by omega), hF8.belowB hba (Nat.le_refl _)⟩
            case measure => simp [intOf]; omega
          · obtain rfl : v = 0 := by omega
            go_wp2_with (at_builtin; refine wpList_more (base := w2.heap.size) rfl (.tmp 51) (.tmp 53) rfl hF8.size hG8 (-1) rfl rfl (by omega) ?_; intro ga capa wa hGa hba)
            go_roundw
            case rel => exact ⟨k + 1, ga, capa, _, by omega, by go_num, rfl, hGa, (hR8.belowB hba hR2l).more (by omega), hF8.belowB hba (Nat.le_refl _)⟩
            case measure => simp [intOf]; omega
    · obtain rfl : k = m := by omega
      clear hlt
      go_wp2_with fail
      refine (odd_any w0 _ R A n c bs (J + 200 + 3 * k) 14 hR4 (by omega) (by omega) (by omega)).mono ?_; rintro e w5 ⟨o, rfl, -, hR5, hf5⟩
      have hG5 := ownsRow_fr1 hG4 hf5 hR2l
      have hF5 := hF4.trans hf5
      clear hG4 hR4 hF4 hf5
      cases o
      · go_wp2
        exact bodyPost_ret (v := .tuple #[.slice (some ⟨g, 0, none⟩) k d, .slice (some ⟨g2, 0, none⟩) m2 d2, .slice (some ⟨g3, 0, none⟩) k cap]) (by simp [results, Tryd.results50, go_sem]) rfl ⟨_, _, _, _, _, _, _, _, _, _, _, _, rfl, hO2.fr1 hF5 hRl, hm, hP2.fr1 hF5 hRl, hm2, own_lower hG5 hF2.size, by omega, hR5.more (by omega), hF2.trans hF5⟩
      · go_wp2_with fail
        refine (pick_any w0 _ R A n c bs (J + 200 + 3 * k + 1) 4 hR5 (by omega)).mono ?_; rintro e w6 ⟨y, rfl, hy0, hy1, -, hR6, hf6⟩
        replace hy1 := hy1 (by omega)
        have hxy : IntKind.i64.wrap (y - 1) = y - 1 := IntWalk.i64_in _ (by omega)
        have hG6 := ownsRow_fr1 hG5 hf6 hR2l
        have hF6 := hF5.trans hf6
        clear hG5 hR5 hF5 hf6
        go_wp2_with (at_builtin; refine wpList_more (base := w2.heap.size) rfl (.tmp 57) (.tmp 61) rfl hF6.size hG6 (y - 1) rfl rfl (by omega) ?_; intro ga capa wa hGa hba)
        have hFa := hF6.belowB hba (Nat.le_refl _)
        exact bodyPost_ret (v := .tuple #[.slice (some ⟨g, 0, none⟩) k d, .slice (some ⟨g2, 0, none⟩) m2 d2, .slice (some ⟨ga, 0, none⟩) (k + 1) capa]) (by simp [results, Tryd.results50, go_sem]) rfl ⟨_, _, _, _, _, _, _, _, _, _, _, _, rfl, hO2.fr1 hFa hRl, hm, hP2.fr1 hFa hRl, hm2, own_lower hGa hF2.size, by omega, (hR6.belowB hba hR2l).more (by omega), hF2.trans hFa⟩
def DrawG3 (w : World) (e : Ending) (w' : World) : Prop :=
  ∃ (g m d : Nat) (cs : List C4) (g2 m2 d2 : Nat) (ps : List P3) (g3 m3 d3 : Nat) (gs : List Int), e = .returned (.tuple #[.slice (some ⟨g, 0, none⟩) m d, .slice (some ⟨g2, 0, none⟩) m2 d2, .slice (some ⟨g3, 0, none⟩) m3 d3]) ∧
    OwnAt w' w.heap.size 24 4 (.slice (some ⟨g, 0, none⟩) m d) m (cc cs) ∧ m ≤ 7 ∧ OwnAt w' w.heap.size 26 3 (.slice (some ⟨g2, 0, none⟩) m2 d2) m2 (pc ps) ∧ m2 ≤ 7 ∧
    w'.ownsRow w.heap.size 3 1 (.slice (some ⟨g3, 0, none⟩) m3 d3) m3 (gs.map (Value.int .i64)) ∧ m3 ≤ 8 ∧ Below w.heap.size w w'
end Go.Proofs.YtpipbkefelcmbaaDoor
