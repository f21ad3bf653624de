/-
  readNumber: the number of a text of at most two digits, and whether it is one.
-/
import Derived.Test.YtecjhomfoakaeaaDoorRead1
namespace Go.Proofs.YtecjhomfoakaeaaDoor
open Go.ChangeShapes Go.WideShapes Go.ChangeAt Go.RowKit

def okN (t : List UInt8) : Bool := decide (1 ≤ t.length) && decide (t.length ≤ 2) && !(decide (1 < t.length) && decide (t.head? = some 48)) && t.all digB
theorem okN_no {t : List UInt8} (h : t.length < 1 ∨ 2 < t.length ∨ (1 < t.length ∧ t[0]? = some 48) ∨ ∃ (k : Nat) (b : UInt8), t[k]? = some b ∧ digB b = false) : okN t = false := by
  rw [Bool.eq_false_iff]
  unfold okN
  simp only [ne_eq, Bool.and_eq_true, decide_eq_true_eq, Bool.not_eq_true', Bool.and_eq_false_iff, decide_eq_false_iff_not, List.all_eq_true]
  rintro ⟨⟨⟨h1, h2⟩, h3⟩, h4⟩
  rcases h with h | h | ⟨h, h5⟩ | ⟨k, b, h, h5⟩
  · omega
  · omega
  · rcases h3 with h3 | h3
    · omega
    · apply h3; rw [List.head?_eq_getElem?]; exact h5
  · have := h4 b (List.mem_of_getElem? h); rw [h5] at this; cases this
theorem okN_yes {t : List UInt8} (h1 : 1 ≤ t.length) (h2 : t.length ≤ 2) (h3 : ¬ (1 < t.length ∧ t[0]? = some 48)) (h4 : ∀ b ∈ t, digB b = true) : okN t = true := by
  unfold okN
  simp only [Bool.and_eq_true, decide_eq_true_eq, Bool.not_eq_true', Bool.and_eq_false_iff, decide_eq_false_iff_not, List.all_eq_true]
  refine ⟨⟨⟨h1, h2⟩, ?_⟩, h4⟩
  by_cases h : 1 < t.length
  · right; intro h5; exact h3 ⟨h, by rw [← List.head?_eq_getElem?]; exact h5⟩
  · exact .inl h
/-- what readNumber answers -/
def NumRes (w : World) (t : List UInt8) (e : Ending) (w' : World) : Prop := w' = w ∧ ((okN t = true ∧ e = .returned (.tuple #[.int .i64 (numV t), .bool true])) ∨ (okN t = false ∧ e = .returned (.tuple #[.int .i64 0, .bool false])))

set_option maxHeartbeats 2000000 in
theorem readNumber_any (t : List UInt8) (w : World) (hl : t.length ≤ 1048576) : Calls Tryd.prog 19 #[.string ⟨t.toArray⟩, .int .i64 2] w (NumRes w t) := by
  by_cases hlen : 1 ≤ t.length ∧ t.length ≤ 2
  case neg =>
    have HR := Lib.hid (okN_no (t := t) (by omega))
    rcases (show t.length < 1 ∨ 2 < t.length by omega) with hs | hs
    all_goals
      clear hlen
      go_enter Tryd.func19, Tryd.ntmps19
      go_wp2
      exact bodyPost_ret (v := .tuple #[.int .i64 0, .bool false]) (by simp [results, Tryd.results19, go_sem]) rfl ⟨rfl, .inr ⟨HR.out, rfl⟩⟩
  obtain ⟨b0, hb0⟩ : ∃ b, t[0]? = some b := ⟨_, List.getElem?_eq_getElem (by omega)⟩
  have hv0 := str_at hb0
  have h48 := b48 b0
  by_cases hz : 1 < t.length ∧ b0 = 48
  · have HR := Lib.hid (okN_no (t := t) (.inr (.inr (.inl ⟨hz.1, by rw [hb0, hz.2]⟩))))
    have h48t : ((b0.toNat : Int) == 48) = true := by rw [h48]; simpa using hz.2
    have hg := hz.1
    clear hz h48 hb0
    go_enter Tryd.func19, Tryd.ntmps19
    go_wp2
    exact bodyPost_ret (v := .tuple #[.int .i64 0, .bool false]) (by simp [results, Tryd.results19, go_sem]) rfl ⟨rfl, .inr ⟨HR.out, rfl⟩⟩
  have HZ : Hid (¬ (1 < t.length ∧ t[0]? = some 48)) := Lib.hid fun h => hz ⟨h.1, by have := h.2; rw [hb0] at this; injection this⟩
  have hl1 := hlen.1
  have hl2 := hlen.2
  have HL : Hid (1 ≤ t.length ∧ t.length ≤ 2) := Lib.hid hlen
  have key : ∀ (hsplit : t.length ≤ 1 ∨ (1 < t.length ∧ ((b0.toNat : Int) == 48) = false)), Calls Tryd.prog 19 #[.string ⟨t.toArray⟩, .int .i64 2] w (NumRes w t) := by
    intro hsplit
    clear hz hb0 h48
    rcases hsplit with h1 | ⟨h1, h2⟩
    all_goals
      go_enter Tryd.func19, Tryd.ntmps19
      go_wp2
      go_loop [6, 7] (fun v i => ∃ k : Nat, k ≤ t.length ∧ i = .int .i64 k ∧ v = .int .i64 (numV (t.take k)) ∧ Hid (∀ b ∈ t.take k, digB b = true) ∧ 0 ≤ numV (t.take k) ∧ numV (t.take k) + 1 ≤ ((10 ^ k : Nat) : Int)) (fun _ i => t.length - (intOf i).toNat)
      case atStart => exact ⟨0, by omega, rfl, rfl, Lib.hid (by simp), by simp [numV], by simp [numV]⟩
      case round =>
        obtain ⟨k, hk, rfl, rfl, HA, hn0, hn1⟩ := hrel
        have hpk : 10 ^ k ≤ 10 ^ 2 := Nat.pow_le_pow_right (by omega) (by omega)
        have hpw : (10 ^ (k + 1) : Nat) = 10 ^ k * 10 := Nat.pow_succ 10 k
        obtain ⟨p, HP⟩ : ∃ p : Nat, Hid (p = 10 ^ k) := ⟨_, rfl⟩
        rw [← HP.out] at hpk hn1 hpw
        have HPW := Lib.hid hpw
        have hp4 : p ≤ 100 := hpk
        clear hpk hpw
        by_cases hlt : k < t.length
        · obtain ⟨b, hb⟩ : ∃ b, t[k]? = some b := ⟨_, List.getElem?_eq_getElem hlt⟩
          have HB := Lib.hid hb
          have hbv := str_at hb
          have HNX := Lib.hid (numV_next (show Hid _ from hb))
          clear hb
          obtain ⟨v, HV⟩ : ∃ v, Hid (v = numV (t.take k)) := ⟨_, rfl⟩
          rw [← HV.out] at hn0 hn1 HNX ⊢
          have hb256 : b.toNat < 256 := b.toNat_lt
          by_cases hlo : b.toNat < 48
          · have HR := Lib.hid (okN_no (t := t) (.inr (.inr (.inr ⟨k, b, HB.out, by unfold digB; simp; omega⟩))))
            go_wp2
            exact bodyPost_ret (v := .tuple #[.int .i64 0, .bool false]) (by simp [results, Tryd.results19, go_sem]) rfl ⟨rfl, .inr ⟨HR.out, rfl⟩⟩
          · by_cases hhi : 57 < b.toNat
            · have HR := Lib.hid (okN_no (t := t) (.inr (.inr (.inr ⟨k, b, HB.out, by unfold digB; simp; omega⟩))))
              go_wp2
              exact bodyPost_ret (v := .tuple #[.int .i64 0, .bool false]) (by simp [results, Tryd.results19, go_sem]) rfl ⟨rfl, .inr ⟨HR.out, rfl⟩⟩
            · have HDB : Hid (digB b = true) := Lib.hid (by unfold digB; simp; omega)
              go_wp2
              go_round
              case rel =>
                refine ⟨k + 1, by omega, by go_num, by rw [HNX.out, Int.mul_comm], ?_, by rw [HNX.out]; omega, by rw [HNX.out, HPW.out]; omega⟩
                refine Lib.hid fun y hy => ?_
                rw [take_next HB] at hy
                rcases List.mem_append.1 hy with hy | hy
                · exact HA.out y hy
                · simp at hy; subst hy; exact HDB.out
              case measure => simp [intOf]; omega
        · obtain rfl : k = t.length := by omega
          have HA2 := HA.out
          rw [List.take_of_length_le (Nat.le_refl _)] at HA2
          have HR := Lib.hid (okN_yes HL.out.1 HL.out.2 HZ.out HA2)
          have e : t.take t.length = t := List.take_of_length_le (Nat.le_refl _)
          rw [e] at hn0 hn1 ⊢
          clear HA2 e
          go_wp2
          exact bodyPost_ret (v := .tuple #[.int .i64 (numV t), .bool true]) (by simp [results, Tryd.results19, go_sem]) rfl ⟨rfl, .inl ⟨HR.out, rfl⟩⟩
  by_cases h1 : 1 < t.length
  · refine key (.inr ⟨h1, ?_⟩)
    rw [h48]
    simp
    intro h; exact hz ⟨h1, h⟩
  · exact key (.inl (by omega))
end Go.Proofs.YtecjhomfoakaeaaDoor
