/-
  l4Most of the reference: the least that a set of hours lets through.
-/
import Derived.Test.YtecjhomfoakaeaaMost
namespace Go.Proofs.Ytecjhomfoakaeaa
open Go.ChangeShapes Go.WideShapes Go.ChangeAt Go.RowKit

set_option maxHeartbeats 4000000 in
theorem l4Most_any (A R F : Option Addr) (n c rc fc : Nat) (ws : List Int) (rs : List (List Int)) (feed : List Int) (w : World)
    (hn : n ≤ 5) (hw : small ws) (hr : rowsSmall rs) (hf : small feed) (ha : IntsAt w A n ws) (hR : RowsAt w R n rs) (hF : IntsAt w F 6 feed) :
    Calls Try.prog 18 #[.slice A n c, .slice R n rc, .slice F 6 fc] w (RS w (.int .i64 (leastI (cutOfI ws rs feed) 63))) := by
  have HLf := Lib.hid hF.len
  have HLw := Lib.hid ha.len
  go_enter Try.func18, Try.ntmps18
  go_wp2
  go_loop [7, 8] (fun t i => ∃ s : Nat, s ≤ 64 ∧ i = .int .i64 s ∧ t = .int .i64 (if s = 0 then -1 else leastI (cutOfI ws rs feed) (s - 1))) (fun _ i => 64 - (intOf i).toNat)
  case atStart => exact ⟨0, Nat.zero_le _, rfl, rfl⟩
  case round =>
    obtain ⟨s, hs, rfl, rfl⟩ := hrel
    by_cases hlt : s < 64
    · obtain ⟨be, HBE⟩ : ∃ be, Hid (be = if s = 0 then -1 else leastI (cutOfI ws rs feed) (s - 1)) := ⟨_, rfl⟩
      rw [← HBE.out]
      have hds : decide ((s : Int) < 64) = true := by simp; omega
      go_wp2
      try rw [hds]
      go_loop [9, 10] (fun t i => ∃ k : Nat, k ≤ 6 ∧ i = .int .i64 k ∧ t = .int .i64 (selS true s feed k)) (fun _ i => 6 - (intOf i).toNat)
      case atStart => exact ⟨0, Nat.zero_le _, rfl, rfl⟩
      case round =>
        obtain ⟨k, hk, rfl, rfl⟩ := hrel
        have hb := selS_bd hf true s k
        by_cases hk6 : k < 6
        · obtain ⟨x, b, off, HX, rfl, hbl, hc⟩ := hF.get hk6
          have hx30 := small_at hf HX
          cases hbit : s.testBit k
          all_goals
            have HBit := Lib.hid hbit
            have hbn := (bit_shr s k hlt (by omega)).trans hbit
            clear hbit
            go_wp2
            go_round
            case rel => exact ⟨k + 1, by omega, by go_num, by rw [selS_next HX, HBit.out]; simp⟩
            case measure => simp [intOf]; omega
        · obtain rfl : k = 6 := by omega
          obtain ⟨q, HQ⟩ : ∃ q, Hid (q = selS true s feed 6) := ⟨_, rfl⟩
          rw [← HQ.out] at hb ⊢
          go_wp2
          go_loop [9, 11] (fun t i => ∃ j : Nat, j ≤ n ∧ i = .int .i64 j ∧ t = .int .i64 (q + cutW s ws rs j)) (fun _ i => n - (intOf i).toNat)
          case atStart => exact ⟨0, Nat.zero_le _, rfl, by simp [cutW]⟩
          case round =>
            obtain ⟨j, hj, rfl, rfl⟩ := hrel
            have hcb := cutW_bd hw hr s j
            by_cases hjn : j < n
            · obtain ⟨u, b, off, HU, rfl, hbl, hc⟩ := ha.get hjn
              obtain ⟨r, b2, off2, A', c', l, HR, Hl, rfl, hb2, hc2, hi, hm2⟩ := hR.get hjn
              have hu := small_at hw HU
              have hrl := hr r (List.mem_of_getElem? HR.out)
              have hl6 : l = 6 := by rw [← Hl.out]; exact hrl.1
              have hrs := hrl.2
              clear hrl
              subst hl6
              have hdj : decide ((j : Int) < (n : Int)) = true := by simp; omega
              go_wp2
              try rw [hdj]
              go_loop [12, 13] (fun t i => ∃ h : Nat, h ≤ 6 ∧ i = .int .i64 h ∧ t = .int .i64 (selS false s r h)) (fun _ i => 6 - (intOf i).toNat)
              case atStart => exact ⟨0, Nat.zero_le _, rfl, rfl⟩
              case round =>
                obtain ⟨h, hh, rfl, rfl⟩ := hrel
                have hob := selS_bd hrs false s h
                by_cases hh6 : h < 6
                · obtain ⟨x, b3, off3, HX, rfl, hbl3, hc3⟩ := hi.get hh6
                  have hx := small_at hrs HX
                  cases hbit : s.testBit h
                  · have HBit := Lib.hid hbit
                    have hbn : (((s : Int) / 2 ^ h).tmod 2 == 0) = true := by rw [bit_shr0 s h hlt (by omega), hbit]; rfl
                    clear hbit
                    go_wp2
                    go_round
                    case rel => exact ⟨h + 1, by omega, by go_num, by rw [selS_next HX, HBit.out]; simp⟩
                    case measure => simp [intOf]; omega
                  · have HBit := Lib.hid hbit
                    have hbn : (((s : Int) / 2 ^ h).tmod 2 == 0) = false := by rw [bit_shr0 s h hlt (by omega), hbit]; rfl
                    clear hbit
                    go_wp2
                    go_round
                    case rel => exact ⟨h + 1, by omega, by go_num, by rw [selS_next HX, HBit.out]; simp⟩
                    case measure => simp [intOf]; omega
                · obtain rfl : h = 6 := by omega
                  have HC := Lib.hid (cutW_next HU HR s)
                  rw [Hl.out] at HC
                  obtain ⟨z, HZ⟩ : ∃ z, Hid (z = selS false s r 6) := ⟨_, rfl⟩
                  rw [← HZ.out] at hob HC ⊢
                  by_cases hzu : u < z
                  all_goals
                    go_wp2
                    go_round
                    case rel => exact ⟨j + 1, by omega, by go_num, by rw [HC.out]; go_num⟩
                    case measure => simp [intOf]; omega
            · obtain rfl : j = n := by omega
              have HG : Hid (q + cutW s ws rs j = cutOfI ws rs feed s) := by
                show _ = _
                unfold cutOfI; rw [HLf.out, HLw.out, HQ.out]
              have hgb := cutOfI_bd hw hr hf s
              rw [HLf.out, HLw.out] at hgb
              rw [HG.out]
              obtain ⟨g, HGG⟩ : ∃ g, Hid (g = cutOfI ws rs feed s) := ⟨_, rfl⟩
              rw [← HGG.out] at hgb ⊢
              by_cases hs0 : s = 0
              · subst hs0
                obtain rfl : be = -1 := by rw [HBE.out]; rfl
                go_wp2
                go_round
                case rel => exact ⟨1, by omega, rfl, by rw [HGG.out]; rfl⟩
                case measure => simp [intOf]
              · have hbb : 0 ≤ be ∧ be ≤ 100000 := by
                  rw [HBE.out, if_neg hs0]
                  obtain ⟨p, _, he⟩ := leastI_at (cutOfI ws rs feed) (s - 1)
                  have h1 := cutOfI_bd hw hr hf p
                  rw [HLf.out, HLw.out] at h1
                  omega
                have HS : Hid (leastI (cutOfI ws rs feed) s = min be g) := by
                  have h1 := HBE.out
                  have h2 := HGG.out
                  show _ = _
                  rw [h1, h2, if_neg hs0]
                  obtain ⟨p, rfl⟩ : ∃ p, s = p + 1 := ⟨s - 1, by omega⟩
                  rfl
                have hd0 : decide (be < 0) = false := by simp; omega
                by_cases hgl : g < be
                all_goals
                  go_wp2
                  go_round
                  case rel => exact ⟨s + 1, by omega, by go_num, by rw [if_neg (by omega), Nat.add_sub_cancel, HS.out]; go_num⟩
                  case measure => simp [intOf]; omega
    · obtain rfl : s = 64 := by omega
      go_wp2
      go_ret
      exact ⟨rfl, rfl⟩
end Go.Proofs.Ytecjhomfoakaeaa
