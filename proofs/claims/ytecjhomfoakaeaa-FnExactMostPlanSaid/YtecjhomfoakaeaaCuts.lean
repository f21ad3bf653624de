/-
  What a set of hours lets through: cutOf and leastCut of the program.
-/
import Derived.Test.YtecjhomfoakaeaaNeeds
import Derived.Test.YtecjhomfoakaeaaPlans
namespace Go.Proofs.Ytecjhomfoakaeaa
open Go.ChangeShapes Go.WideShapes Go.ChangeAt Go.RowKit

theorem bit_ne (s k : Nat) (hs : s < 64) (hk : k < 6) : (bits .and .i64 (s : Int) (wrap64 (2 ^ k)) != 0) = s.testBit k := by
  have h : ∀ s : Nat, s < 64 → ∀ k : Nat, k < 6 → (bits .and .i64 (s : Int) (wrap64 (2 ^ k)) != 0) = s.testBit k := by decide +kernel
  exact h s hs k hk
theorem bit_eq (s k : Nat) (hs : s < 64) (hk : k < 6) : (bits .and .i64 (s : Int) (wrap64 (2 ^ k)) == 0) = !s.testBit k := by
  have h : ∀ s : Nat, s < 64 → ∀ k : Nat, k < 6 → (bits .and .i64 (s : Int) (wrap64 (2 ^ k)) == 0) = !s.testBit k := by decide +kernel
  exact h s hs k hk

set_option maxHeartbeats 2000000 in
theorem cutOf_any (A R F : Option Addr) (n c rc m fc : Nat) (ws : List Int) (rs : List (List Int)) (feed : List Int) (s : Nat) (w : World)
    (hn : n ≤ 5) (hm : m ≤ 6) (hs : s < 64) (hw : small ws) (hr : rowsSmall rs) (hf : small feed) (ha : IntsAt w A n ws) (hR : RowsAt w R n rs) (hF : IntsAt w F m feed) :
    Calls Try.prog 30 #[.slice A n c, .slice R n rc, .slice F m fc, .int .i64 (s : Int)] w (RS w (.int .i64 (cutOfI ws rs feed s))) := by
  have HLf := Lib.hid hF.len
  have HLw := Lib.hid ha.len
  go_enter Try.func30, Try.ntmps30
  go_wp2
  go_loop [9, 19] (fun t i => ∃ k : Nat, k ≤ m ∧ i = .int .i64 k ∧ t = .int .i64 (selS true s feed k)) (fun _ i => m - (intOf i).toNat)
  case atStart => exact ⟨0, Nat.zero_le _, rfl, rfl⟩
  case round =>
    obtain ⟨k, hk, rfl, rfl⟩ := hrel
    have hb := selS_bd hf true s k
    by_cases hlt : k < m
    · obtain ⟨x, b, off, HX, rfl, hbl, hc⟩ := hF.get hlt
      have hx := small_at hf HX
      cases hbit : s.testBit k
      all_goals
        have HBit := Lib.hid hbit
        have hbn := (bit_ne s k hs (by omega)).trans hbit
        clear hbit
        go_wp2
        go_round
        case rel => exact ⟨k + 1, by omega, by go_num, by rw [selS_next HX, HBit.out]; simp⟩
        case measure => simp [intOf]; omega
    · obtain rfl : k = m := by omega
      obtain ⟨q, HQ⟩ : ∃ q, Hid (q = selS true s feed k) := ⟨_, rfl⟩
      rw [← HQ.out] at hb ⊢
      go_wp2
      go_loop [9, 35] (fun t i => ∃ j : Nat, j ≤ n ∧ i = .int .i64 j ∧ t = .int .i64 (q + cutW s ws rs j)) (fun _ i => n - (intOf i).toNat)
      case atStart => exact ⟨0, Nat.zero_le _, rfl, by simp [cutW]⟩
      case round =>
        obtain ⟨j, hj, rfl, rfl⟩ := hrel
        have hcb := cutW_bd hw hr s j
        by_cases hjn : j < n
        · obtain ⟨u, b, off, HU, rfl, hbl, hc⟩ := ha.get hjn
          obtain ⟨r, b2, off2, A', c', l, HR, Hl, rfl, hb2, hc2, hi, hm2⟩ := hR.get hjn
          have hu := small_at hw HU
          have hrl := hr r (List.mem_of_getElem? HR.out)
          have hl6 : l = 6 := by rw [← Hl.out]; exact hrl.1
          have hrs := hrl.2
          clear hrl
          subst hl6
          go_wp2
          go_loop [14, 45] (fun t i => ∃ h : Nat, h ≤ 6 ∧ i = .int .i64 h ∧ t = .int .i64 (selS false s r h)) (fun _ i => 6 - (intOf i).toNat)
          case atStart => exact ⟨0, Nat.zero_le _, rfl, rfl⟩
          case round =>
            obtain ⟨h, hh, rfl, rfl⟩ := hrel
            have hob := selS_bd hrs false s h
            by_cases hh6 : h < 6
            · obtain ⟨x, b3, off3, HX, rfl, hbl3, hc3⟩ := hi.get hh6
              have hx := small_at hrs HX
              cases hbit : s.testBit h
              all_goals
                have HBit := Lib.hid hbit
                have hbn := (bit_eq s h hs (by omega)).trans (congrArg (!·) hbit)
                clear hbit
                simp only [Bool.not_true, Bool.not_false] at hbn
                go_wp2
                go_round
                case rel => exact ⟨h + 1, by omega, by go_num, by rw [selS_next HX, HBit.out]; simp⟩
                case measure => simp [intOf]; omega
            · obtain rfl : h = 6 := by omega
              have HC := Lib.hid (cutW_next HU HR s)
              rw [Hl.out] at HC
              obtain ⟨z, HZ⟩ : ∃ z, Hid (z = selS false s r 6) := ⟨_, rfl⟩
              rw [← HZ.out] at hob HC ⊢
              by_cases hzu : z < u
              all_goals
                go_wp2
                go_round
                case rel => exact ⟨j + 1, by omega, by go_num, by rw [HC.out]; go_num⟩
                case measure => simp [intOf]; omega
        · go_wp2
          go_ret
          refine ⟨ret_int ?_, rfl⟩
          obtain rfl : j = n := by omega
          unfold cutOfI
          rw [HLf.out, HLw.out, HQ.out]
theorem cutOf_int (A R F : Option Addr) (n c rc m fc : Nat) (ws : List Int) (rs : List (List Int)) (feed : List Int) (z : Int) (w : World) (h0 : 0 ≤ z) (h1 : z < 64)
    (hn : n ≤ 5) (hm : m ≤ 6) (hw : small ws) (hr : rowsSmall rs) (hf : small feed) (ha : IntsAt w A n ws) (hR : RowsAt w R n rs) (hF : IntsAt w F m feed) :
    Calls Try.prog 30 #[.slice A n c, .slice R n rc, .slice F m fc, .int .i64 z] w (RS w (.int .i64 (cutOfI ws rs feed z.toNat))) := by
  obtain ⟨s, rfl⟩ := Int.eq_ofNat_of_zero_le h0
  rw [Int.toNat_natCast]
  exact cutOf_any A R F n c rc m fc ws rs feed s w hn hm (by omega) hw hr hf ha hR hF

set_option maxHeartbeats 2000000 in
theorem leastCut_any (A R F : Option Addr) (n c rc m fc : Nat) (ws : List Int) (rs : List (List Int)) (feed : List Int) (w : World)
    (hn : n ≤ 5) (hm : m ≤ 6) (hw : small ws) (hr : rowsSmall rs) (hf : small feed) (ha : IntsAt w A n ws) (hR : RowsAt w R n rs) (hF : IntsAt w F m feed) :
    Calls Try.prog 22 #[.slice A n c, .slice R n rc, .slice F m fc] w (RS w (.int .i64 (leastI (cutOfI ws rs feed) 63))) := by
  go_enter Try.func22, Try.ntmps22
  go_wp2_with fail
  refine (cutOf_int A R F n c rc m fc ws rs feed 0 _ (by omega) (by omega) hn hm hw hr hf ha hR hF).mono ?_; rintro e w1 ⟨rfl, rfl⟩
  go_wp2
  go_loop [7, 8] (fun t i => ∃ k : Nat, k ≤ 63 ∧ i = .int .i64 ((k : Int) + 1) ∧ t = .int .i64 (leastI (cutOfI ws rs feed) k)) (fun _ i => 64 - (intOf i).toNat)
  case atStart => exact ⟨0, by omega, rfl, rfl⟩
  case round =>
    obtain ⟨k, hk, rfl, rfl⟩ := hrel
    by_cases hk3 : k < 63
    · go_wp2_with fail
      refine (cutOf_int A R F n c rc m fc ws rs feed ((k : Int) + 1) _ (by omega) (by omega) hn hm hw hr hf ha hR hF).mono ?_; rintro e w1 ⟨rfl, rfl⟩
      have HC : Hid (leastI (cutOfI ws rs feed) (k + 1) = min (leastI (cutOfI ws rs feed) k) (cutOfI ws rs feed ((k : Int) + 1).toNat)) := by
        rw [show ((k : Int) + 1).toNat = k + 1 by omega]; rfl
      generalize cutOfI ws rs feed ((k : Int) + 1).toNat = x at *
      obtain ⟨l, HL⟩ : ∃ l, Hid (l = leastI (cutOfI ws rs feed) k) := ⟨_, rfl⟩
      rw [← HL.out] at HC ⊢
      by_cases hx : x < l
      all_goals
        go_wp2
        go_round
        case rel => exact ⟨k + 1, by omega, by go_num, by rw [HC.out]; go_num⟩
        case measure => simp [intOf]; omega
    · obtain rfl : k = 63 := by omega
      go_wp2
      go_ret
      exact ⟨rfl, rfl⟩
end Go.Proofs.Ytecjhomfoakaeaa
