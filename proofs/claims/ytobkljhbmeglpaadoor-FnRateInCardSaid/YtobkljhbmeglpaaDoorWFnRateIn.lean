/-
  The law FnRateIn: in all hours together a car can take its Rate times the hours of its stay.
-/
import Derived.Test.YtobkljhbmeglpaaDoorDrNeed
import Derived.Test.YtobkljhbmeglpaaDoorAlive
import Derived.Test.YtobkljhbmeglpaaDoorNeed1
namespace Go.Proofs.YtobkljhbmeglpaaDoor
open Go.ChangeShapes Go.WideShapes Go.ChangeAt Go.RowKit

def DrawRR (w : World) (e : Ending) (w' : World) : Prop :=
  ∃ f t r u h : Int, e = .returned (.tuple #[.agg #[.int .i64 f, .int .i64 t, .int .i64 r, .int .i64 u], .int .i64 h]) ∧ Below w.heap.size w w'
set_option maxHeartbeats 1000000 in
theorem drawRateIn_any (w : World) (A : Option Addr) (n c : Nat) (bs : List Int) (hn : n ≤ c ∧ c ≤ 9223372036854775807) (hb : BytesAt w A n bs) :
    Calls Tryd.prog 20 #[.slice A n c] w (DrawRR w) := by
  have hQ1 : Whole (w.alloc (.cells #[.int .i64 0, .int .i64 0, .int .i64 0, .int .i64 0] 24)) w.heap.size 24 [.int .i64 0, .int .i64 0, .int .i64 0, .int .i64 0] := Whole.new w _ _
  have hB1 : Below w.heap.size w (w.alloc (.cells #[.int .i64 0, .int .i64 0, .int .i64 0, .int .i64 0] 24)) := (Below.refl _ _).alloc (Nat.le_refl _) _
  go_enter Tryd.func20, Tryd.ntmps20
  go_wp2_with fail
  generalize w.alloc (.cells #[.int .i64 0, .int .i64 0, .int .i64 0, .int .i64 0] 24) = w1 at hQ1 hB1 ⊢
  refine (open_any w1 A n c bs hn (hb.below hB1)).mono ?_; rintro e w2 ⟨R, A1, n1, c1, bs1, rfl, hR2⟩
  go_wp2_with fail
  refine (l20Need_any w1 w2 R A1 n1 c1 bs1 0 9 hR2 (by omega) (by omega) (by omega)).mono ?_; rintro e w3 ⟨f, t, r, u, rfl, hR3, hf3⟩
  clear hR2 hf3
  go_wp2_with fail
  refine (pick_any w1 _ R A1 n1 c1 bs1 (0 + 10) 8 hR3 (by omega)).mono ?_; rintro e w4 ⟨h, rfl, hh0, hh1, -, hR4, hf4⟩
  replace hh1 := hh1 (by omega)
  have hQ4 := hQ1.below hR4.bw
  have hB4 := below_next hB1 hR4.bw
  obtain ⟨Q, HQ⟩ : ∃ Q, Hid (Q = w.heap.size) := ⟨_, rfl⟩
  rw [← HQ.out] at hQ4 ⊢
  have hQw : w.heap.size ≤ Q := Nat.le_of_eq HQ.out.symm
  have hq0 := hQ4.cell 0
  have hq1 := hQ4.cell 1
  have hq2 := hQ4.cell 2
  have hq3 := hQ4.cell 3
  simp only [List.getElem?_cons_zero, List.getElem?_cons_succ] at hq0 hq1 hq2 hq3
  have hz0 := hQ4.free 0
  have hz1 := hQ4.free 1
  have hz2 := hQ4.free 2
  have hz3 := hQ4.free 3
  have HB4 := Lib.hid hB4
  clear hQ1 hB1 hR3 hR4 hB4 hf4 hb
  go_wp2
  have hW := (((hQ4.set_ 0 (.int .i64 f)).set_ 1 (.int .i64 t)).set_ 2 (.int .i64 r)).set_ 3 (.int .i64 u)
  have hG : Below w.heap.size w ((((w4.setCell ⟨Q, 0, none⟩ (.int .i64 f)).setCell ⟨Q, 1, none⟩ (.int .i64 t)).setCell ⟨Q, 2, none⟩ (.int .i64 r)).setCell ⟨Q, 3, none⟩ (.int .i64 u)) := (((HB4.out.setCell hQw _).setCell hQw _).setCell hQw _).setCell hQw _
  generalize ((((w4.setCell ⟨Q, 0, none⟩ (.int .i64 f)).setCell ⟨Q, 1, none⟩ (.int .i64 t)).setCell ⟨Q, 2, none⟩ (.int .i64 r)).setCell ⟨Q, 3, none⟩ (.int .i64 u)) = wz at hW hG ⊢
  have e0 : wz.cell? ⟨Q, 0, none⟩ = some (.int .i64 f) := hW.cell 0
  have e1 : wz.cell? ⟨Q, 1, none⟩ = some (.int .i64 t) := hW.cell 1
  have e2 : wz.cell? ⟨Q, 2, none⟩ = some (.int .i64 r) := hW.cell 2
  have e3 : wz.cell? ⟨Q, 3, none⟩ = some (.int .i64 u) := hW.cell 3
  exact bodyPost_ret (v := .tuple #[.agg #[.int .i64 f, .int .i64 t, .int .i64 r, .int .i64 u], .int .i64 (h - 1)]) (by simp [results, Tryd.results20, go_sem, e0, e1, e2, e3]) rfl ⟨f, t, r, u, h - 1, rfl, hG⟩

/-- The hours of the stay before hour k. -/
def stay (a b : Int) (k : Nat) : Int := if (k : Int) ≤ a then 0 else if (k : Int) ≤ b then k - a else b - a
theorem nvB_facts {a b c d : Int} (h : nvB a b c d = true) : 0 ≤ a ∧ a < 6 ∧ a < b ∧ b ≤ 6 ∧ 1 ≤ c ∧ c ≤ 30 ∧ 1 ≤ d ∧ d ≤ 30 := by
  simp [nvB] at h; omega
theorem stay_next {a b c d : Int} (k : Nat) (h : nvB a b c d = true) : c * stay a b (k + 1) = c * stay a b k + rateI a b c d k := by
  have hf := nvB_facts h
  by_cases h1 : (k : Int) < a
  · have e1 : stay a b (k + 1) = 0 := by unfold stay; rw [if_pos (by omega)]
    have e2 : stay a b k = 0 := by unfold stay; rw [if_pos (by omega)]
    have e3 : rateI a b c d k = 0 := by unfold rateI; rw [if_pos h, if_neg (by omega)]
    rw [e1, e2, e3]; simp
  · by_cases h2 : (k : Int) < b
    · have e1 : stay a b (k + 1) = (k - a) + 1 := by unfold stay; rw [if_neg (by omega), if_pos (by omega)]; omega
      have e2 : stay a b k = k - a := by
        unfold stay
        by_cases h3 : (k : Int) ≤ a
        · rw [if_pos h3]; omega
        · rw [if_neg h3, if_pos (by omega)]
      have e3 : rateI a b c d k = c := by unfold rateI; rw [if_pos h, if_pos (by omega)]
      rw [e1, e2, e3, Int.mul_add]; simp
    · have e1 : stay a b (k + 1) = b - a := by unfold stay; rw [if_neg (by omega), if_neg (by omega)]
      have e2 : stay a b k = b - a := by
        unfold stay
        rw [if_neg (by omega)]
        by_cases h3 : (k : Int) ≤ b
        · rw [if_pos h3]; omega
        · rw [if_neg h3]
      have e3 : rateI a b c d k = 0 := by unfold rateI; rw [if_pos h, if_neg (by omega)]
      rw [e1, e2, e3]; simp
theorem stay_all {a b c d : Int} (h : nvB a b c d = true) : stay a b 6 = b - a := by
  have hf := nvB_facts h
  unfold stay
  rw [if_neg (by omega)]
  by_cases h3 : ((6 : Nat) : Int) ≤ b
  · rw [if_pos h3]; omega
  · rw [if_neg h3]
theorem rateI_range {a b c d : Int} (k : Int) (h : nvB a b c d = true) : 0 ≤ rateI a b c d k ∧ rateI a b c d k ≤ 30 := by
  have hf := nvB_facts h
  unfold rateI; rw [if_pos h]; split <;> omega

set_option maxRecDepth 100000 in
set_option maxHeartbeats 4000000 in
theorem lawRateIn (A : Option Addr) (n c : Nat) (bs : List Int) (w : World) (hn : n ≤ c ∧ c ≤ 9223372036854775807) (hb : BytesAt w A n bs) :
    Calls Tryd.prog 5 #[.slice A n c] w (RV w (.bool true)) := by
  obtain ⟨hn1, hn2⟩ := hn
  by_cases hbig : 1048576 < n
  · have hd : decide (1048576 < n) = true := by simpa using hbig
    go_enter Tryd.func5, Tryd.ntmps5
    go_wp2
    go_ret
    exact ⟨rfl, Below.refl _ _⟩
  have hd : decide (1048576 < n) = false := by simpa using hbig
  have HB := Lib.hid hb
  clear hb
  go_enter Tryd.func5, Tryd.ntmps5
  go_wp2_with fail
  refine (drawRateIn_any w A n c bs ⟨hn1, hn2⟩ HB.out).mono ?_; rintro e w1 ⟨f, t, r, u, hr, rfl, hb1⟩
  go_wp2_with fail
  have hN2 : Whole (w1.alloc (.cells #[.int .i64 f, .int .i64 t, .int .i64 r, .int .i64 u] 24)) w1.heap.size 24 [.int .i64 f, .int .i64 t, .int .i64 r, .int .i64 u] := Whole.new w1 _ _
  have hB2 : Below w.heap.size w (w1.alloc (.cells #[.int .i64 f, .int .i64 t, .int .i64 r, .int .i64 u] 24)) := hb1.alloc (by have := hb1.size; omega) _
  generalize w1.alloc (.cells #[.int .i64 f, .int .i64 t, .int .i64 r, .int .i64 u] 24) = w2 at hN2 hB2 ⊢
  obtain ⟨N, HN⟩ : ∃ N, Hid (N = w1.heap.size) := ⟨_, rfl⟩
  rw [← HN.out] at hN2 ⊢
  clear HB hb1
  refine (rateIn_any f t r u hr w2).mono ?_; rintro e w3 ⟨rfl, hb3⟩
  have hN3 := hN2.below hb3
  have hB3 := below_next hB2 hb3
  clear hN2 hB2 hb3
  have hc0 := hN3.cell 0
  have hc1 := hN3.cell 1
  have hc2 := hN3.cell 2
  have hc3 := hN3.cell 3
  simp only [List.getElem?_cons_zero, List.getElem?_cons_succ] at hc0 hc1 hc2 hc3
  go_wp2_with fail
  refine (specRateIn_any f t r u hr w3).mono ?_; rintro e w4 ⟨rfl, hb4⟩
  have hN4 := hN3.below hb4
  have hB4 := below_next hB3 hb4
  clear hN3 hB3 hb4 hc0 hc1 hc2 hc3
  have hc0 := hN4.cell 0
  have hc1 := hN4.cell 1
  have hc2 := hN4.cell 2
  have hc3 := hN4.cell 3
  simp only [List.getElem?_cons_zero, List.getElem?_cons_succ] at hc0 hc1 hc2 hc3
  obtain ⟨x, hx⟩ : ∃ x, Hid (rateI f t r u hr = x) := ⟨_, rfl⟩
  rw [hx.out]
  by_cases hv : nvB f t r u = true
  · have hx0 : 0 ≤ x ∧ x ≤ 30 := hx.out ▸ rateI_range hr hv
    have hxv : x = if f ≤ hr ∧ hr < t then r else 0 := by rw [← hx.out]; simp [rateI, hv]
    obtain ⟨hx1, hx2⟩ := hx0
    have hs0 : ¬ x < 0 := by omega
    have HXV := Lib.hid hxv
    clear hxv
    go_wp2
    go_loopw [6, 7] (fun s i w' => ∃ k : Nat, k ≤ 6 ∧ i = .int .i64 k ∧ s = .int .i64 (r * stay f t k) ∧ 0 ≤ r * stay f t k ∧ r * stay f t k ≤ 30 * k ∧ Whole w' N 24 [.int .i64 f, .int .i64 t, .int .i64 r, .int .i64 u] ∧ Below w.heap.size w w') (fun _ i _ => 6 - (intOf i).toNat)
    case atStart => exact ⟨0, by omega, rfl, by simp [stay, (nvB_facts hv).1], by simp [stay, (nvB_facts hv).1], by simp [stay, (nvB_facts hv).1], hN4, hB4⟩
    case round =>
      obtain ⟨k, hk, rfl, rfl, hs1, hs2, hNr, hBr⟩ := hrel
      clear hc0 hc1 hc2 hc3 hN4 hB4
      have hc0 := hNr.cell 0
      have hc1 := hNr.cell 1
      have hc2 := hNr.cell 2
      have hc3 := hNr.cell 3
      simp only [List.getElem?_cons_zero, List.getElem?_cons_succ] at hc0 hc1 hc2 hc3
      by_cases hlt : k < 6
      · have hnext := stay_next k hv
        have hrr := rateI_range (k : Int) hv
        obtain ⟨y, hy⟩ : ∃ y, Hid (rateI f t r u (k : Int) = y) := ⟨_, rfl⟩
        rw [hy.out] at hnext hrr
        obtain ⟨hr1, hr2⟩ := hrr
        have HNX := Lib.hid hnext
        have HV := Lib.hid hv
        obtain ⟨s, hs⟩ : ∃ s, Hid (r * stay f t k = s) := ⟨_, rfl⟩
        rw [hs.out] at hs1 hs2 hnext ⊢
        clear hnext hv
        go_wp2_with fail
        refine (rateIn_any f t r u k _).mono ?_; rintro e w5 ⟨rfl, hb5⟩
        rw [hy.out]
        have hN5 := hNr.below hb5
        have hB5 := below_next hBr hb5
        clear hc0 hc1 hc2 hc3 hNr hBr hb5
        go_wp2
        go_roundw
        case rel => exact ⟨k + 1, by omega, by go_num, by rw [HNX.out, hs.out], by rw [HNX.out, hs.out]; omega, by rw [HNX.out, hs.out]; omega, hN5, hB5⟩
        case measure => simp [intOf]; omega
      · obtain rfl : k = 6 := by omega
        have hall := stay_all hv
        rw [hall] at hs1 hs2 ⊢
        have hf := nvB_facts hv
        obtain ⟨f0, f1, f2, f3, f4, f5, -, -⟩ := hf
        obtain ⟨m, hm⟩ : ∃ m, r * (t - f) = m := ⟨_, rfl⟩
        rw [hm] at hs1 hs2 ⊢
        clear hall hv
        have hmm : (m == m) = true := by simp
        by_cases hin : f ≤ hr ∧ hr < t
        · have hxr : x = r := by have := HXV.out; rw [if_pos hin] at this; exact this
          subst hxr
          go_wp2
          go_ret
          exact ⟨rfl, hBr⟩
        · have hxr : x = 0 := by have := HXV.out; rw [if_neg hin] at this; exact this
          subst hxr
          have hne : ((0 : Int) == r) = false := by simp; omega
          by_cases hlo : hr < f
          · go_wp2
            go_ret
            exact ⟨rfl, hBr⟩
          · have hhi : t ≤ hr := by omega
            go_wp2
            go_ret
            exact ⟨rfl, hBr⟩
  · have hx1 : x = -1 := by rw [← hx.out]; simp [rateI, hv]
    replace hv : nvB f t r u = false := by simpa using hv
    subst hx1
    go_wp2_with fail
    refine (needValid_any f t r u w4).mono ?_; rintro e w5 ⟨rfl, hb5⟩
    rw [hv]
    have hB5 := below_next hB4 hb5
    go_wp2_with fail
    refine (alive_any w5).mono ?_; rintro e w6 ⟨rfl, hb6⟩
    have hB6 := below_next hB5 hb6
    go_wp2
    go_ret
    exact ⟨rfl, hB6⟩
end Go.Proofs.YtobkljhbmeglpaaDoor
