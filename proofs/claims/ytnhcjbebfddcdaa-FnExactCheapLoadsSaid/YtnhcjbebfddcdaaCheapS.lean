/-
  CheapLoads of the reference.
-/
import Derived.Test.YtnhcjbebfddcdaaCheap
import Derived.Test.YtnhcjbebfddcdaaEnough
namespace Go.Proofs.Ytnhcjbebfddcdaa
open Go.ChangeShapes Go.WideShapes Go.ChangeAt Go.RowKit

/-- The best hour so far that is not in s: none yet (-1), or the first one of the first h. -/
def BestR (p : List Int) (s h : Nat) (z : Int) : Prop := (z = -1 ∧ ∀ j, j < h → s.testBit j = true) ∨ ∃ b : Nat, z = b ∧ b < h ∧ s.testBit b = false ∧ ∀ j, j < h → s.testBit j = false → j = b ∨ lx p b j = true
theorem bestR_skip {p : List Int} {s h : Nat} {z : Int} (H : BestR p s h z) (hb : s.testBit h = true) : BestR p s (h + 1) z := by
  rcases H with ⟨rfl, h1⟩ | ⟨b, rfl, h1, h2, h3⟩
  · refine .inl ⟨rfl, fun j hj => ?_⟩
    by_cases he : j = h
    · subst he; exact hb
    · exact h1 j (by omega)
  · refine .inr ⟨b, rfl, by omega, h2, fun j hj hs => ?_⟩
    by_cases he : j = h
    · subst he; rw [hb] at hs; cases hs
    · exact h3 j (by omega) hs
theorem bestR_first {p : List Int} {s h : Nat} (H : BestR p s h (-1)) (hb : s.testBit h = false) : BestR p s (h + 1) (h : Int) := by
  rcases H with ⟨_, h1⟩ | ⟨b, he, _, _, _⟩
  · refine .inr ⟨h, rfl, by omega, hb, fun j hj hs => ?_⟩
    by_cases he : j = h
    · exact .inl he
    · have := h1 j (by omega); rw [this] at hs; cases hs
  · omega
theorem bestR_keep {p : List Int} {s h b : Nat} (H : BestR p s h (b : Int)) (hb : p.getD b 0 ≤ p.getD h 0) : BestR p s (h + 1) (b : Int) := by
  rcases H with ⟨he, _⟩ | ⟨b', he, h1, h2, h3⟩
  · omega
  · obtain rfl : b = b' := by omega
    refine .inr ⟨b, rfl, by omega, h2, fun j hj hs => ?_⟩
    by_cases he : j = h
    · subst he; right; rw [lx_iff]; omega
    · exact h3 j (by omega) hs
theorem bestR_new {p : List Int} {s h b : Nat} (H : BestR p s h (b : Int)) (hh : s.testBit h = false) (hb : p.getD h 0 < p.getD b 0) : BestR p s (h + 1) (h : Int) := by
  rcases H with ⟨he, _⟩ | ⟨b', he, h1, h2, h3⟩
  · omega
  · obtain rfl : b = b' := by omega
    refine .inr ⟨h, rfl, by omega, hh, fun j hj hs => ?_⟩
    by_cases he : j = h
    · exact .inl he
    · right
      rw [lx_iff]; left
      rcases h3 j (by omega) hs with rfl | h4
      · exact hb
      · rw [lx_iff] at h4; omega
theorem bestR_end {p : List Int} {s k : Nat} {z : Int} (H : BestR p s 6 z) (hs : s < 64) (hc : cnt6 s = k) (hk : k < 6) : ∃ b : Nat, z = b ∧ IsNext p s b := by
  rcases H with ⟨_, h1⟩ | ⟨b, rfl, h1, h2, h3⟩
  · have := (cnt6_all s hs).1 h1; omega
  · exact ⟨b, rfl, h1, h2, h3⟩
theorem gain_next {ns : List N4} {feed p : List Int} {s b : Nat} (hs : s < 64) (hc : Closed p s) (hb : IsNext p s b) :
    gainI ns feed p b = mostI ns (someL feed (s + 2 ^ b).testBit 6) - mostI ns (someL feed s.testBit 6) := by
  unfold gainI
  have ha := (bit_add s b hs hb.1 hb.2.1).2
  rw [someL_congr (S := (s + 2 ^ b).testBit) (S' := withH (bef p b) b) (fun j hj => by rw [ha j hj]; unfold withH; rw [next_bef hc hb j hj]),
    someL_congr (S := s.testBit) (S' := bef p b) (fun j hj => next_bef hc hb j hj)]
theorem shl_int (b : Nat) (hb : b < 6) : wrap64 (2 ^ b) = ((2 ^ b : Nat) : Int) := by
  have h : ∀ b : Nat, b < 6 → wrap64 (2 ^ b) = ((2 ^ b : Nat) : Int) := by decide +kernel
  exact h b hb

theorem set_next (s b : Nat) (hs : s < 64) (hb : b < 6) (h : s.testBit b = false) : wrap64 ((s : Int) + 2 ^ b) = ((s + 2 ^ b : Nat) : Int) := by
  have h' : ∀ s : Nat, s < 64 → ∀ b : Nat, b < 6 → s.testBit b = false → wrap64 ((s : Int) + 2 ^ b) = ((s + 2 ^ b : Nat) : Int) := by decide +kernel
  exact h' s hs b hb h

set_option maxHeartbeats 4000000 in
theorem specCheapLoads_any (A : Option Addr) (n c : Nat) (ns : List N4) (F : Option Addr) (m fc : Nat) (feed : List Int) (P : Option Addr) (l pc : Nat) (p : List Int) (w : World)
    (hn : n ≤ 9223372036854775807) (hx : NeedsAt w A n ns) (hm : m ≤ 9223372036854775807) (hf : IntsAt w F m feed) (hl : l ≤ 9223372036854775807) (hp : IntsAt w P l p) :
    Calls Try.prog 43 #[.slice A n c, .slice F m fc, .slice P l pc] w fun e w' => ∃ A' n' c', e = .returned (.slice A' n' c') ∧ OwnAt w' w.heap.size 3 1 (.slice A' n' c') n' (ic (cheapL ns feed p)) ∧ Below w.heap.size w w' := by
  have hbs : ∀ w : World, (Instr.buildSlice 22 0 #[]).run Try.prog w = .ok (.slice (some ⟨w.heap.size, 0, none⟩) 0 0) (w.alloc (.cells #[] 3)) := fun _ => by kernel_rfl
  have hnil : ∀ w1 : World, Below w.heap.size w w1 → cheapB ns feed p = false → OwnAt (w1.alloc (.cells #[] 3)) w.heap.size 3 1 (.slice (some ⟨w1.heap.size, 0, none⟩) 0 0) 0 (ic (cheapL ns feed p)) := by
    intro w1 hb h; rw [cheapL_no h]
    exact whole_ints (Whole.new w1 3 []) rfl hb.size (by unfold maxLen; omega)
  have HNil := Lib.hid hnil
  clear hnil
  cases hN : needsB ns
  · have HN := Lib.hid hN
    go_enter Try.func43, Try.ntmps43
    go_wp2_with fail
    refine (specNeedsValid_any A n c ns _ hn hx).mono ?_; rintro e w1 ⟨rfl, hb1⟩
    go_wp2
    go_ret
    have hno : cheapB ns feed p = false := by unfold cheapB; rw [HN.out]; rfl
    exact ⟨_, _, _, rfl, HNil.out _ hb1 hno, hb1.alloc hb1.size _⟩
  have HN := Lib.hid hN
  cases hF : feedB feed
  · have HF := Lib.hid hF
    go_enter Try.func43, Try.ntmps43
    go_wp2_with fail
    refine (specNeedsValid_any A n c ns _ hn hx).mono ?_; rintro e w1 ⟨rfl, hb1⟩
    go_wp2_with fail
    refine (specFeedValid_any F m fc feed _ hm (hf.below hb1)).mono ?_; rintro e w2 ⟨rfl, rfl⟩
    go_wp2
    go_ret
    have hno : cheapB ns feed p = false := by unfold cheapB; rw [HF.out, Bool.and_false]; rfl
    exact ⟨_, _, _, rfl, HNil.out _ hb1 hno, hb1.alloc hb1.size _⟩
  have HF := Lib.hid hF
  cases hP : feedB p
  · have HP := Lib.hid hP
    go_enter Try.func43, Try.ntmps43
    go_wp2_with fail
    refine (specNeedsValid_any A n c ns _ hn hx).mono ?_; rintro e w1 ⟨rfl, hb1⟩
    go_wp2_with fail
    refine (specFeedValid_any F m fc feed _ hm (hf.below hb1)).mono ?_; rintro e w2 ⟨rfl, rfl⟩
    go_wp2_with fail
    refine (specFeedValid_any P l pc p _ hl (hp.below hb1)).mono ?_; rintro e w2 ⟨rfl, rfl⟩
    go_wp2
    go_ret
    have hno : cheapB ns feed p = false := by unfold cheapB; rw [HP.out, Bool.and_false]
    exact ⟨_, _, _, rfl, HNil.out _ hb1 hno, hb1.alloc hb1.size _⟩
  · have HP := Lib.hid hP
    clear HNil hbs
    have HOK : Hid (cheapB ns feed p = true) := by
      have h1 := HN.out
      have h2 := HF.out
      have h3 := HP.out
      show cheapB ns feed p = true
      unfold cheapB; rw [h1, h2, h3]; rfl
    have hf6 := feedB_small HF.out
    have hp6 := feedB_small HP.out
    have hm6 : m = 6 := by have := hf.len; omega
    have hl6 : l = 6 := by have := hp.len; omega
    have hfs := hf6.2
    have hps := hp6.2
    clear hf6 hp6
    subst hm6
    subst hl6
    have hmk : ∀ w : World, (Instr.makeSlice 22 (.int .i64 6) (.int .i64 6)).run Try.prog w = .ok (.slice (some ⟨w.heap.size, 0, none⟩) 6 6) (w.alloc (.cells #[.int .i64 0, .int .i64 0, .int .i64 0, .int .i64 0, .int .i64 0, .int .i64 0] 3)) := fun _ => by kernel_rfl
    go_enter Try.func43, Try.ntmps43
    go_wp2_with fail
    refine (specNeedsValid_any A n c ns _ hn hx).mono ?_; rintro e w1 ⟨rfl, hb1⟩
    go_wp2_with fail
    refine (specFeedValid_any F _ fc feed _ hm (hf.below hb1)).mono ?_; rintro e w2 ⟨rfl, rfl⟩
    go_wp2_with fail
    refine (specFeedValid_any P _ pc p _ hl (hp.below hb1)).mono ?_; rintro e w2 ⟨rfl, rfl⟩
    go_wp2
    clear hN hF hP
    obtain ⟨L, HL⟩ : ∃ L, Hid (L = w1.heap.size) := ⟨_, rfl⟩
    have hsz := hb1.size
    rw [← HL.out] at hsz ⊢
    have hW0 := Whole.new w1 3 [.int .i64 0, .int .i64 0, .int .i64 0, .int .i64 0, .int .i64 0, .int .i64 0]
    rw [← HL.out] at hW0
    go_loopw [8, 9] (fun t i wr => ∃ k s : Nat, k ≤ 6 ∧ i = .int .i64 k ∧ t = .int .i64 s ∧ s < 64 ∧ Closed p s ∧ cnt6 s = k ∧ Whole wr L 3 ((loadL ns feed p s.testBit).map (Value.int .i64)) ∧ Below w.heap.size w wr) (fun _ i _ => 6 - (intOf i).toNat)
    case atStart =>
      exact ⟨0, 0, Nat.zero_le _, rfl, rfl, by omega, fun j _ h => by simp at h, by decide, hW0, hb1.alloc hb1.size _⟩
    case round =>
      obtain ⟨k, s, hk, rfl, rfl, hs, hcl, hct, hwl, hbw⟩ := hrel
      obtain ⟨wo, rfl⟩ : ∃ wo : World, wo = wr := ⟨_, rfl⟩
      clear hW0
      have HCL := Lib.hid hcl
      have HCT := Lib.hid hct
      clear hcl hct
      by_cases hlt : k < 6
      · have hdk : decide ((k : Int) < 6) = true := by simp; omega
        go_wp2
        try rw [hdk]
        clear hdk
        go_loopw [10, 11] (fun t i wr => ∃ (h : Nat) (z : Int) (d : Nat), h ≤ 6 ∧ i = .int .i64 h ∧ t = .int .i64 z ∧ BestR p s h z ∧ wr = wo.drewN d) (fun _ i _ => 6 - (intOf i).toNat)
        case atStart => exact ⟨0, -1, 0, Nat.zero_le _, rfl, rfl, .inl ⟨rfl, fun j h => by omega⟩, rfl⟩
        case round =>
          obtain ⟨hj, z, d, hh, rfl, rfl, hbest, rfl⟩ := hrel
          have HB := Lib.hid hbest
          clear hbest
          by_cases hh6 : hj < 6
          · obtain ⟨x, b, off, HX, hPe, hb, hc⟩ := (hp.below hbw).get hh6
            subst hPe
            have hi0 : (0 : Int) ≤ (hj : Int) := by omega
            have hi1 : (hj : Int) < 6 := by omega
            cases hbit : s.testBit hj
            · have HBit := Lib.hid hbit
              have hbn : (((s : Int) / 2 ^ hj).tmod 2 == 0) = true := by rw [bit_shr0 s hj hs (by omega), hbit]; rfl
              clear hbit
              by_cases hz : z < 0
              · have hz1 : z = -1 := by rcases HB.out with ⟨h, _⟩ | ⟨b, h, _⟩ <;> omega
                subst hz1
                go_wp2
                go_quiet (fail)
                go_wp2
                go_roundw
                case rel => exact ⟨hj + 1, hj, _, by omega, by go_num, rfl, bestR_first HB.out HBit.out, rfl⟩
                case measure => simp [intOf]; omega
              · obtain ⟨bb, hzb, hbh⟩ : ∃ b : Nat, z = b ∧ b < hj := by
                  rcases HB.out with ⟨h, _⟩ | ⟨b, h, h1, _⟩
                  · omega
                  · exact ⟨b, h, h1⟩
                subst hzb
                obtain ⟨y, b2, off2, HY, hPe2, hb2, hc2⟩ := (hp.below hbw).get (k := bb) (by omega)
                cases hPe2
                have hi2 : (0 : Int) ≤ (bb : Int) := by omega
                have hi3 : (bb : Int) < 6 := by omega
                by_cases hxy : x < y
                · go_wp2
                  go_quiet (fail)
                  go_wp2
                  go_roundw
                  case rel => exact ⟨hj + 1, hj, _, by omega, by go_num, rfl, bestR_new HB.out HBit.out (by rw [getD_of HX, getD_of HY]; exact hxy), rfl⟩
                  case measure => simp [intOf]; omega
                · go_wp2
                  go_quiet (fail)
                  go_wp2
                  go_roundw
                  case rel => exact ⟨hj + 1, bb, _, by omega, by go_num, rfl, bestR_keep HB.out (by rw [getD_of HX, getD_of HY]; omega), rfl⟩
                  case measure => simp [intOf]; omega
            · have HBit := Lib.hid hbit
              have hbn : (((s : Int) / 2 ^ hj).tmod 2 == 0) = false := by rw [bit_shr0 s hj hs (by omega), hbit]; rfl
              clear hbit
              go_wp2
              go_quiet (fail)
              go_wp2
              go_roundw
              case rel => exact ⟨hj + 1, z, _, by omega, by go_num, rfl, bestR_skip HB.out HBit.out, rfl⟩
              case measure => simp [intOf]; omega
          · obtain rfl : hj = 6 := by omega
            obtain ⟨bb, rfl, hnx⟩ := bestR_end HB.out hs HCT.out hlt
            have HNX := Lib.hid hnx
            have hbb6 : bb < 6 := hnx.1
            clear hnx
            have hbd := below_drewN hbw d
            have hm1 := mostI_bd HN.out (some_feedB hfs s.testBit)
            have HM := Lib.hid (mostR_yes HN.out (some_feedB hfs s.testBit))
            go_wp2_with fail
            refine (l4Some_any F fc feed s _ hs (hf.below hbd) hfs).mono ?_; rintro e w3 ⟨A3, c3, rfl, ho3, hb3⟩
            go_wp2_with fail
            refine (specMostUnits_any A n c ns A3 6 c3 (someL feed s.testBit 6) _ hn (hx.below (below_next hbd hb3)) (by omega) ho3.slAt).mono ?_; rintro e w4 ⟨rfl, hb4⟩
            rw [HM.out]
            have hs2 := bit_add s bb hs hbb6 HNX.out.2.1
            have hs64 := hs2.1
            have hsh := shl_int bb hbb6
            have hcc : (((2 ^ bb : Nat) : Int)) = (2 : Int) ^ bb := by norm_cast
            have hbb0 : (0 : Int) ≤ (bb : Int) := by omega
            obtain ⟨m1, HM1⟩ : ∃ z, Hid (z = mostI ns (someL feed s.testBit 6)) := ⟨_, rfl⟩
            rw [← HM1.out] at hm1 ⊢
            go_wp2_with fail
            have hset : wrap64 ((s : Int) + 2 ^ bb) = ((s + 2 ^ bb : Nat) : Int) := by
              rw [set_next s bb hs hbb6 HNX.out.2.1]
            rw [hset]
            have HG := Lib.hid (gain_next (ns := ns) (feed := feed) hs HCL.out HNX.out)
            have HC2 := Lib.hid (closed_next hs HCL.out HNX.out)
            have HK2 := Lib.hid (cnt6_add s bb hs hbb6 HNX.out.2.1)
            have HS2 := Lib.hid hs2.2
            clear hset hs2 hsh hcc
            have hlr : Hid (((loadL ns feed p s.testBit).map (Value.int .i64)).set bb (.int .i64 (gainI ns feed p bb)) = (loadL ns feed p (s + 2 ^ bb).testBit).map (Value.int .i64)) := by
              show _ = _
              rw [← List.map_set, loadL_set hbb6, loadL_congr (S' := (s + 2 ^ bb).testBit) (fun j hj => (HS2.out j hj).symm)]
            obtain ⟨s2, HS2'⟩ : ∃ z, Hid (z = s + 2 ^ bb) := ⟨_, rfl⟩
            rw [← HS2'.out] at hs64 HG HC2 HK2 hlr ⊢
            have hbd4 := below_next (below_next hbd hb3) hb4
            have hm2 := mostI_bd HN.out (some_feedB hfs s2.testBit)
            have HM2 := Lib.hid (mostR_yes HN.out (some_feedB hfs s2.testBit))
            refine (l4Some_any F fc feed s2 _ hs64 (hf.below hbd4) hfs).mono ?_; rintro e w5 ⟨A5, c5, rfl, ho5, hb5⟩
            go_wp2_with fail
            refine (specMostUnits_any A n c ns A5 6 c5 (someL feed s2.testBit 6) _ hn (hx.below (below_next hbd4 hb5)) (by omega) ho5.slAt).mono ?_; rintro e w6 ⟨rfl, hb6⟩
            rw [HM2.out]
            obtain ⟨m2, HM2'⟩ : ∃ z, Hid (z = mostI ns (someL feed s2.testBit 6)) := ⟨_, rfl⟩
            rw [← HM2'.out] at hm2 HG ⊢
            rw [← HM1.out] at HG
            have hwd : Whole (wo.drewN d) L 3 ((loadL ns feed p s.testBit).map (Value.int .i64)) := hwl
            have hwl6 := (((hwd.below hb3).below hb4).below hb5).below hb6
            have hbd6 := below_next (below_next hbd4 hb5) hb6
            have hu3 := hwl6.cell bb
            have hz3 := hwl6.free bb
            obtain ⟨uu, huu⟩ : ∃ u, ((loadL ns feed p s.testBit).map (Value.int .i64))[bb]? = some u := ⟨_, List.getElem?_eq_getElem (by simp [loadL_len]; exact hbb6)⟩
            rw [huu] at hu3
            clear huu
            have hset := hwl6.set_ bb (.int .i64 (m2 - m1))
            rw [← HG.out, hlr.out, HG.out] at hset
            go_wp2
            go_roundw
            case rel => exact ⟨k + 1, s2, by omega, by go_num, rfl, hs64, HC2.out, by rw [HK2.out, HCT.out], hset, hbd6.setCell (by simp; omega) _⟩
            case measure => simp [intOf]; omega
      · obtain rfl : k = 6 := by omega
        go_wp2
        go_ret
        refine ⟨_, _, _, rfl, ?_, hbw⟩
        rw [cheapL_yes HOK.out, ← loadL_congr (S := s.testBit) (fun j hj => (cnt6_all s hs).2 HCT.out j hj)]
        exact whole_ints hwl (loadL_len _ _ _ _) hsz (by unfold maxLen; omega)
end Go.Proofs.Ytnhcjbebfddcdaa
