/-
  CutUnits and MostUnits of the program and of the reference.
-/
import Derived.Test.YtecjhomfoakaeaaNeedLists
namespace Go.Proofs.Ytecjhomfoakaeaa
open Go.ChangeShapes Go.WideShapes Go.ChangeAt Go.RowKit

theorem Fill.intsAt {w : World} {g n : Nat} {xs : List Int} (h : Fill w g 3 1 n n (ic xs)) (hn : n ≤ maxLen) : IntsAt w (some ⟨g, 0, none⟩) n xs := (h.done rfl (Nat.le_refl _) hn).slAt
theorem rates_len {ns : List N4} {n : Nat} (h : ns.length = n) : (rates ns).length = n := by simp [rates, h]
theorem wants_len {ns : List N4} {n : Nat} (h : ns.length = n) : (wants ns).length = n := by simp [wants, h]
theorem rates_short (ns : List N4) : ∀ r ∈ rates ns, r.length ≤ 9223372036854775807 := by
  intro r hr
  simp only [rates, List.mem_map] at hr
  obtain ⟨n, _, rfl⟩ := hr
  rw [ratesOf_len]; omega
theorem cutR_no {ns : List N4} {feed : List Int} {z : Int} (h : needsB ns = false ∨ feedB feed = false ∨ z < 0 ∨ 63 < z) : cutR ns feed z = -1 := by
  unfold cutR; rw [if_neg]
  simp only [Bool.and_eq_true, decide_eq_true_eq]
  rcases h with h | h | h | h
  · rw [h]; simp
  · rw [h]; simp
  · omega
  · omega
theorem cutR_yes {ns : List N4} {feed : List Int} {z : Int} (hN : needsB ns = true) (hF : feedB feed = true) (h0 : 0 ≤ z) (h1 : z ≤ 63) : cutR ns feed z = cutI ns feed z.toNat := by
  unfold cutR; rw [if_pos]; simp [hN, hF, h0, h1]
theorem mostR_no {ns : List N4} {feed : List Int} (h : needsB ns = false ∨ feedB feed = false) : mostR ns feed = -1 := by
  unfold mostR; rw [if_neg]
  rcases h with h | h <;> rw [h] <;> simp
theorem mostR_yes {ns : List N4} {feed : List Int} (hN : needsB ns = true) (hF : feedB feed = true) : mostR ns feed = mostI ns feed := by
  unfold mostR; rw [if_pos]; simp [hN, hF]

set_option maxHeartbeats 2000000 in
theorem mostUnits_any (A : Option Addr) (n c : Nat) (ns : List N4) (F : Option Addr) (m fc : Nat) (feed : List Int) (w : World)
    (hn : n ≤ 9223372036854775807) (hx : NeedsAt w A n ns) (hm : m ≤ 9223372036854775807) (hf : IntsAt w F m feed) :
    Calls Try.prog 20 #[.slice A n c, .slice F m fc] w (RV w (.int .i64 (mostR ns feed))) := by
  cases hN : needsB ns
  · have HN := Lib.hid hN
    go_enter Try.func20, Try.ntmps20
    go_wp2_with fail
    refine (needsValid_any A n c ns _ hn hx).mono ?_; rintro e w1 ⟨rfl, hb1⟩
    go_wp2
    go_ret
    exact ⟨ret_int (mostR_no (.inl HN.out)).symm, hb1⟩
  have HN := Lib.hid hN
  cases hF : feedB feed
  · have HF := Lib.hid hF
    go_enter Try.func20, Try.ntmps20
    go_wp2_with fail
    refine (needsValid_any A n c ns _ hn hx).mono ?_; rintro e w1 ⟨rfl, hb1⟩
    go_wp2_with fail
    refine (feedValid_any F m fc feed _ hm (hf.below hb1)).mono ?_; rintro e w2 ⟨rfl, rfl⟩
    go_wp2
    go_ret
    exact ⟨ret_int (mostR_no (.inr HF.out)).symm, hb1⟩
  · have HF := Lib.hid hF
    have hn5 : n ≤ 5 := by have := (needsB_ok HN.out).1; have := hx.len; omega
    have hm6 : m ≤ 6 := by have := (feedB_small HF.out).1; have := hf.len; omega
    go_enter Try.func20, Try.ntmps20
    go_wp2_with fail
    refine (needsValid_any A n c ns _ hn hx).mono ?_; rintro e w1 ⟨rfl, hb1⟩
    go_wp2_with fail
    refine (feedValid_any F m fc feed _ hm (hf.below hb1)).mono ?_; rintro e w2 ⟨rfl, rfl⟩
    go_wp2_with fail
    refine (needLists_any A n c ns _ hn5 (hx.below hb1)).mono ?_; rintro e w2 ⟨R, gs, rfl, hR, hFw, hFr, hRo, hb2⟩
    simp only [slv]
    go_wp2_with fail
    refine (leastCut_any _ _ F n n n m fc (wants ns) (rates ns) feed _ hn5 hm6 (wants_small HN.out) (rates_small HN.out) (feedB_small HF.out).2 (hFw.intsAt (by unfold maxLen; omega))
      (hRo.rowsAt (hFr.done rfl (Nat.le_refl _) (by unfold maxLen; omega)).slAt (rates_short ns)) ((hf.below hb1).below hb2)).mono ?_; rintro e w3 ⟨rfl, rfl⟩
    go_wp2
    go_ret
    exact ⟨ret_int (by rw [mostR_yes HN.out HF.out]; rfl), below_next hb1 hb2⟩

theorem bit_shr (s k : Nat) (hs : s < 64) (hk : k < 6) : (((s : Int) / 2 ^ k).tmod 2 == 1) = s.testBit k := by
  have h : ∀ s : Nat, s < 64 → ∀ k : Nat, k < 6 → (((s : Int) / 2 ^ k).tmod 2 == 1) = s.testBit k := by decide +kernel
  exact h s hs k hk
theorem bit_shr0 (s k : Nat) (hs : s < 64) (hk : k < 6) : (((s : Int) / 2 ^ k).tmod 2 == 0) = !s.testBit k := by
  have h : ∀ s : Nat, s < 64 → ∀ k : Nat, k < 6 → (((s : Int) / 2 ^ k).tmod 2 == 0) = !s.testBit k := by decide +kernel
  exact h s hs k hk

set_option maxHeartbeats 4000000 in
theorem specCutUnits_any (A : Option Addr) (n c : Nat) (ns : List N4) (F : Option Addr) (m fc : Nat) (feed : List Int) (z : Int) (w : World)
    (hn : n ≤ 9223372036854775807) (hx : NeedsAt w A n ns) (hm : m ≤ 9223372036854775807) (hf : IntsAt w F m feed) :
    Calls Try.prog 25 #[.slice A n c, .slice F m fc, .int .i64 z] w (RV w (.int .i64 (cutR ns feed z))) := by
  cases hN : needsB ns
  · have HN := Lib.hid hN
    go_enter Try.func25, Try.ntmps25
    go_wp2_with fail
    refine (specNeedsValid_any A n c ns _ hn hx).mono ?_; rintro e w1 ⟨rfl, hb1⟩
    go_wp2
    go_ret
    exact ⟨ret_int (cutR_no (.inl HN.out)).symm, hb1⟩
  have HN := Lib.hid hN
  cases hF : feedB feed
  · have HF := Lib.hid hF
    go_enter Try.func25, Try.ntmps25
    go_wp2_with fail
    refine (specNeedsValid_any A n c ns _ hn hx).mono ?_; rintro e w1 ⟨rfl, hb1⟩
    go_wp2_with fail
    refine (specFeedValid_any F m fc feed _ hm (hf.below hb1)).mono ?_; rintro e w2 ⟨rfl, rfl⟩
    go_wp2
    go_ret
    exact ⟨ret_int (cutR_no (.inr (.inl HF.out))).symm, hb1⟩
  have HF := Lib.hid hF
  by_cases h01 : 0 ≤ z ∧ z ≤ 63
  · obtain ⟨s, rfl⟩ := Int.eq_ofNat_of_zero_le h01.1
    have hs : s < 64 := by omega
    have hn5 : n ≤ 5 := by have := (needsB_ok HN.out).1; have := hx.len; omega
    have HL := Lib.hid hx.len
    have hl6 := hf.len
    have hf6 := feedB_small HF.out
    have hm6 : m = 6 := by omega
    have hfs := hf6.2
    clear hl6 hf6
    subst hm6
    have HLf := Lib.hid hf.len
    have h0b : (decide (0 ≤ (s : Int)) && decide ((s : Int) ≤ 63)) = true := by simp; omega
    go_enter Try.func25, Try.ntmps25
    go_wp2_with fail
    refine (specNeedsValid_any A n c ns _ hn hx).mono ?_; rintro e w1 ⟨rfl, hb1⟩
    go_wp2_with fail
    refine (specFeedValid_any F _ fc feed _ hm (hf.below hb1)).mono ?_; rintro e w2 ⟨rfl, rfl⟩
    go_wp2_with fail
    refine (l1In_any _ _ _ _).mono ?_; rintro e w2 ⟨rfl, rfl⟩
    clear hN hF
    go_wp2
    go_loop [7, 8] (fun t i => ∃ k : Nat, k ≤ 6 ∧ i = .int .i64 k ∧ t = .int .i64 (selS true s feed k)) (fun _ i => 6 - (intOf i).toNat)
    case atStart => exact ⟨0, Nat.zero_le _, rfl, rfl⟩
    case round =>
      obtain ⟨k, hk, rfl, rfl⟩ := hrel
      have hb := selS_bd hfs true s k
      by_cases hlt : k < 6
      · obtain ⟨x, b, off, HX, rfl, hbl, hc⟩ := (hf.below hb1).get hlt
        have hx30 := small_at hfs HX
        cases hbit : s.testBit k
        all_goals
          have HBit := Lib.hid hbit
          have hbn := (bit_shr s k hs (by omega)).trans hbit
          clear hbit
          go_wp2
          go_round
          case rel => exact ⟨k + 1, by omega, by go_num, by rw [selS_next HX, HBit.out]; simp⟩
          case measure => simp [intOf]; omega
      · obtain rfl : k = 6 := by omega
        obtain ⟨q, HQ⟩ : ∃ q, Hid (q = selS true s feed 6) := ⟨_, rfl⟩
        rw [← HQ.out] at hb ⊢
        go_wp2
        go_loopw [7, 9] (fun t i wr => ∃ j : Nat, j ≤ n ∧ i = .int .i64 j ∧ t = .int .i64 (q + cutW s (wants ns) (rates ns) j) ∧ Below w.heap.size w wr) (fun _ i _ => n - (intOf i).toNat)
        case atStart => exact ⟨0, Nat.zero_le _, rfl, by simp [cutW], hb1⟩
        case round =>
          obtain ⟨j, hj, rfl, rfl, hbw⟩ := hrel
          obtain ⟨wo, rfl⟩ : ∃ wo : World, wo = wr := ⟨_, rfl⟩
          have hcb := cutW_bd (wants_small HN.out) (rates_small HN.out) s j
          by_cases hjn : j < n
          · obtain ⟨x, b, off, HX, hA, hbl, hc0, hc1, hc2, hc3⟩ := (hx.below hbw).get hjn
            have hxok : x.ok = true := (needsB_ok HN.out).2 x (List.mem_of_getElem? HX.out)
            have hxu := nvB_spec hxok
            have hrs := ratesOf_small hxok
            have HXO := Lib.hid hxok
            clear hxok
            subst hA
            go_wp2
            go_loopw [10, 11] (fun t i wr => ∃ h : Nat, h ≤ 6 ∧ i = .int .i64 h ∧ t = .int .i64 (selS false s (ratesOf x) h) ∧ Below wo.heap.size wo wr) (fun _ i _ => 6 - (intOf i).toNat)
            case atStart => exact ⟨0, Nat.zero_le _, rfl, rfl, Below.refl _ _⟩
            case round =>
              obtain ⟨h, hh, rfl, rfl, hbi⟩ := hrel
              have hob := selS_bd hrs false s h
              have hd0 := (hbi.cell (p := ⟨b, off + j * 4, none⟩) hbl).trans hc0
              have hd1 := (hbi.cell (p := ⟨b, off + j * 4 + 1, none⟩) hbl).trans hc1
              have hd2 := (hbi.cell (p := ⟨b, off + j * 4 + 2, none⟩) hbl).trans hc2
              have hd3 := (hbi.cell (p := ⟨b, off + j * 4 + 3, none⟩) hbl).trans hc3
              by_cases hh6 : h < 6
              · have hrb := rateI_bd HXO.out (h : Int)
                have HRG : Hid ((ratesOf x)[h]? = some (rateI x.f x.t x.r x.u (h : Int))) := ratesOf_get x hh6
                generalize hrt : rateI x.f x.t x.r x.u (h : Int) = y at *
                have HRT := Lib.hid hrt
                clear hrt
                cases hbit : s.testBit h
                · have HBit := Lib.hid hbit
                  have hbn : (((s : Int) / 2 ^ h).tmod 2 == 0) = true := by rw [bit_shr0 s h hs (by omega), hbit]; rfl
                  clear hbit
                  go_wp2_with fail
                  refine (specRateIn_any _ _ _ _ _ _).mono ?_; rintro e w3 ⟨rfl, hb3⟩
                  rw [HRT.out]
                  go_wp2
                  go_roundw
                  case rel => exact ⟨h + 1, by omega, by go_num, by rw [selS_next HRG, HBit.out]; simp, below_next hbi hb3⟩
                  case measure => simp [intOf]; omega
                · have HBit := Lib.hid hbit
                  have hbn : (((s : Int) / 2 ^ h).tmod 2 == 0) = false := by rw [bit_shr0 s h hs (by omega), hbit]; rfl
                  clear hbit
                  go_wp2
                  go_roundw
                  case rel => exact ⟨h + 1, by omega, by go_num, by rw [selS_next HRG, HBit.out]; simp, hbi⟩
                  case measure => simp [intOf]; omega
              · obtain rfl : h = 6 := by omega
                have HC := Lib.hid (cutW_next (ws := wants ns) (rs := rates ns) (k := j) (x := x.u) (r := ratesOf x) (by have h := HX.out; simp [wants, Hid, h]) (by have h := HX.out; simp [rates, Hid, h]) s)
                rw [ratesOf_len] at HC
                obtain ⟨y, HY⟩ : ∃ y, Hid (y = selS false s (ratesOf x) 6) := ⟨_, rfl⟩
                rw [← HY.out] at hob HC ⊢
                by_cases hzu : x.u < y
                all_goals
                  go_wp2
                  go_roundw
                  case rel => exact ⟨j + 1, by omega, by go_num, by rw [HC.out]; go_num, hbw.trans (hbi.mono hbw.size)⟩
                  case measure => simp [intOf]; omega
          · go_wp2
            go_ret
            refine ⟨ret_int ?_, hbw⟩
            obtain rfl : j = n := by omega
            rw [cutR_yes HN.out HF.out h01.1 h01.2, Int.toNat_natCast]
            unfold cutI cutOfI
            rw [HLf.out, wants_len HL.out, HQ.out]
  · have h0b : (decide (0 ≤ z) && decide (z ≤ 63)) = false := by rw [Bool.and_eq_false_iff]; simp; omega
    go_enter Try.func25, Try.ntmps25
    go_wp2_with fail
    refine (specNeedsValid_any A n c ns _ hn hx).mono ?_; rintro e w1 ⟨rfl, hb1⟩
    go_wp2_with fail
    refine (specFeedValid_any F m fc feed _ hm (hf.below hb1)).mono ?_; rintro e w2 ⟨rfl, rfl⟩
    go_wp2_with fail
    refine (l1In_any _ _ _ _).mono ?_; rintro e w2 ⟨rfl, rfl⟩
    go_wp2
    go_ret
    exact ⟨ret_int (cutR_no (by omega)).symm, hb1⟩
end Go.Proofs.Ytecjhomfoakaeaa
