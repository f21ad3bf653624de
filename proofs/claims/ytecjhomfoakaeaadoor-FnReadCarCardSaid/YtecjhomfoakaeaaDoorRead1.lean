/-
  l1Read of the reference: the number of a text of one to four digits.
-/
import Derived.Test.YtecjhomfoakaeaaDoorCut1
import Derived.Test.YtecjhomfoakaeaaDoorL1
namespace Go.Proofs.YtecjhomfoakaeaaDoor
open Go.ChangeShapes Go.WideShapes Go.ChangeAt Go.RowKit

def digB (b : UInt8) : Bool := decide (48 ≤ b.toNat) && decide (b.toNat ≤ 57)
def numV (t : List UInt8) : Int := t.foldl (fun n b => 10 * n + ((b.toNat : Int) - 48)) 0
def readN (t : List UInt8) : Int := if decide (1 ≤ t.length) && decide (t.length ≤ 4) && !(decide (1 < t.length) && decide (t.head? = some 48)) && t.all digB then numV t else -1
theorem numV_next {t : List UInt8} {k : Nat} {b : UInt8} (h : Hid (t[k]? = some b)) : numV (t.take (k + 1)) = 10 * numV (t.take k) + ((b.toNat : Int) - 48) := by
  rw [take_next h]; simp [numV]
theorem readN_no {t : List UInt8} (h : t.length < 1 ∨ 4 < t.length ∨ (1 < t.length ∧ t[0]? = some 48) ∨ ∃ (k : Nat) (b : UInt8), t[k]? = some b ∧ digB b = false) : readN t = -1 := by
  unfold readN
  rw [if_neg]
  simp only [Bool.and_eq_true, decide_eq_true_eq, Bool.not_eq_true', Bool.and_eq_false_iff, decide_eq_false_iff_not, List.all_eq_true]
  rintro ⟨⟨⟨h1, h2⟩, h3⟩, h4⟩
  rcases h with h | h | ⟨h, h5⟩ | ⟨k, b, h, h5⟩
  · omega
  · omega
  · rcases h3 with h3 | h3
    · omega
    · apply h3; rw [List.head?_eq_getElem?]; exact h5
  · have := h4 b (List.mem_of_getElem? h); rw [h5] at this; cases this
theorem readN_yes {t : List UInt8} (h1 : 1 ≤ t.length) (h2 : t.length ≤ 4) (h3 : ¬ (1 < t.length ∧ t[0]? = some 48)) (h4 : ∀ b ∈ t, digB b = true) : readN t = numV t := by
  unfold readN
  rw [if_pos]
  simp only [Bool.and_eq_true, decide_eq_true_eq, Bool.not_eq_true', Bool.and_eq_false_iff, decide_eq_false_iff_not, List.all_eq_true]
  refine ⟨⟨⟨h1, h2⟩, ?_⟩, h4⟩
  by_cases h : 1 < t.length
  · right; intro h5; exact h3 ⟨h, by rw [← List.head?_eq_getElem?]; exact h5⟩
  · exact .inl h
theorem str_at {s : List UInt8} {k : Nat} {b : UInt8} (hb : s[k]? = some b) : ∀ (h : k < (⟨s.toArray⟩ : ByteArray).size), (⟨s.toArray⟩ : ByteArray)[k]'h = b := fun h => by
  show s.toArray[k] = b
  simpa using (List.getElem?_eq_some_iff.1 hb).2
theorem b48 (b : UInt8) : ((b.toNat : Int) == 48) = decide (b = 48) := by
  rw [Bool.eq_iff_iff]; simp; constructor
  · intro h; exact UInt8.toNat_inj.1 (by show b.toNat = 48; omega)
  · intro h; rw [h]; rfl

set_option maxHeartbeats 2000000 in
theorem l1Read_any (t : List UInt8) (w : World) (hl : t.length ≤ 1048576) : Calls Tryd.prog 16 #[.string ⟨t.toArray⟩] w (RS w (.int .i64 (readN t))) := by
  by_cases hlen : 1 ≤ t.length ∧ t.length ≤ 4
  case neg =>
    have hd : (decide ((1 : Int) ≤ (t.length : Int)) && decide ((t.length : Int) ≤ 4)) = false := by rw [Bool.and_eq_false_iff]; simp; omega
    have HR := Lib.hid (readN_no (t := t) (by omega))
    clear hlen
    go_enter Tryd.func16, Tryd.ntmps16
    go_wp2_with fail
    refine (l1In_any _ _ _ _).mono ?_; rintro e w1 ⟨rfl, rfl⟩
    rw [hd]
    go_wp2
    go_ret
    exact ⟨ret_int HR.out.symm, rfl⟩
  obtain ⟨b0, hb0⟩ : ∃ b, t[0]? = some b := ⟨_, List.getElem?_eq_getElem (by omega)⟩
  have hv0 := str_at hb0
  have hd : (decide ((1 : Int) ≤ (t.length : Int)) && decide ((t.length : Int) ≤ 4)) = true := by simp; omega
  have h48 := b48 b0
  by_cases hz : 1 < t.length ∧ b0 = 48
  · have HR := Lib.hid (readN_no (t := t) (.inr (.inr (.inl ⟨hz.1, by rw [hb0, hz.2]⟩))))
    have h48t : ((b0.toNat : Int) == 48) = true := by rw [h48]; simpa using hz.2
    have hg := hz.1
    clear hz h48 hb0
    go_enter Tryd.func16, Tryd.ntmps16
    go_wp2_with fail
    refine (l1In_any _ _ _ _).mono ?_; rintro e w1 ⟨rfl, rfl⟩
    rw [hd]
    go_wp2
    go_ret
    exact ⟨ret_int HR.out.symm, rfl⟩
  have HZ : Hid (¬ (1 < t.length ∧ t[0]? = some 48)) := Lib.hid fun h => hz ⟨h.1, by have := h.2; rw [hb0] at this; injection this⟩
  have hl1 := hlen.1
  have hl4 := hlen.2
  have HL : Hid (1 ≤ t.length ∧ t.length ≤ 4) := Lib.hid hlen
  have key : ∀ (hsplit : t.length ≤ 1 ∨ (1 < t.length ∧ ((b0.toNat : Int) == 48) = false)), Calls Tryd.prog 16 #[.string ⟨t.toArray⟩] w (RS w (.int .i64 (readN t))) := by
    intro hsplit
    clear hz hb0 h48
    rcases hsplit with h1 | ⟨h1, h2⟩
    all_goals
      go_enter Tryd.func16, Tryd.ntmps16
      go_wp2_with fail
      refine (l1In_any _ _ _ _).mono ?_; rintro e w1 ⟨rfl, rfl⟩
      rw [hd]
      go_wp2
      go_loop [3, 4] (fun v i => ∃ k : Nat, k ≤ t.length ∧ i = .int .i64 k ∧ v = .int .i64 (numV (t.take k)) ∧ Hid (∀ b ∈ t.take k, digB b = true) ∧ 0 ≤ numV (t.take k) ∧ numV (t.take k) + 1 ≤ ((10 ^ k : Nat) : Int)) (fun _ i => t.length - (intOf i).toNat)
      case atStart => exact ⟨0, by omega, rfl, rfl, Lib.hid (by simp), by simp [numV], by simp [numV]⟩
      case round =>
        obtain ⟨k, hk, rfl, rfl, HA, hn0, hn1⟩ := hrel
        have hpk : 10 ^ k ≤ 10 ^ 4 := Nat.pow_le_pow_right (by omega) (by omega)
        have hpw : (10 ^ (k + 1) : Nat) = 10 ^ k * 10 := Nat.pow_succ 10 k
        obtain ⟨p, HP⟩ : ∃ p : Nat, Hid (p = 10 ^ k) := ⟨_, rfl⟩
        rw [← HP.out] at hpk hn1 hpw
        have HPW := Lib.hid hpw
        have hp4 : p ≤ 10000 := hpk
        clear hpk hpw
        by_cases hlt : k < t.length
        · obtain ⟨b, hb⟩ : ∃ b, t[k]? = some b := ⟨_, List.getElem?_eq_getElem hlt⟩
          have HB := Lib.hid hb
          have hbv := str_at hb
          have HNX := Lib.hid (numV_next (show Hid _ from hb))
          clear hb
          obtain ⟨v, HV⟩ : ∃ v, Hid (v = numV (t.take k)) := ⟨_, rfl⟩
          rw [← HV.out] at hn0 hn1 HNX ⊢
          have hb256 : b.toNat < 256 := b.toNat_lt
          by_cases hlo : b.toNat < 48
          · have HR := Lib.hid (readN_no (t := t) (.inr (.inr (.inr ⟨k, b, HB.out, by unfold digB; simp; omega⟩))))
            go_wp2
            go_ret
            exact ⟨ret_int HR.out.symm, rfl⟩
          · by_cases hhi : 57 < b.toNat
            · have HR := Lib.hid (readN_no (t := t) (.inr (.inr (.inr ⟨k, b, HB.out, by unfold digB; simp; omega⟩))))
              go_wp2
              go_ret
              exact ⟨ret_int HR.out.symm, rfl⟩
            · have HDB : Hid (digB b = true) := Lib.hid (by unfold digB; simp; omega)
              go_wp2
              go_round
              case rel =>
                refine ⟨k + 1, by omega, by go_num, by rw [HNX.out], ?_, by rw [HNX.out]; omega, by rw [HNX.out, HPW.out]; omega⟩
                refine Lib.hid fun y hy => ?_
                rw [take_next HB] at hy
                rcases List.mem_append.1 hy with hy | hy
                · exact HA.out y hy
                · simp at hy; subst hy; exact HDB.out
              case measure => simp [intOf]; omega
        · obtain rfl : k = t.length := by omega
          have HA2 := HA.out
          rw [List.take_of_length_le (Nat.le_refl _)] at HA2
          have HR := Lib.hid (readN_yes HL.out.1 HL.out.2 HZ.out HA2)
          have e : t.take t.length = t := List.take_of_length_le (Nat.le_refl _)
          rw [e] at hn0 hn1 ⊢
          clear HA2 e
          go_wp2
          go_ret
          exact ⟨ret_int HR.out.symm, rfl⟩
  by_cases h1 : 1 < t.length
  · refine key (.inr ⟨h1, ?_⟩)
    rw [h48]
    simp
    intro h; exact hz ⟨h1, h⟩
  · exact key (.inl (by omega))
end Go.Proofs.YtecjhomfoakaeaaDoor
