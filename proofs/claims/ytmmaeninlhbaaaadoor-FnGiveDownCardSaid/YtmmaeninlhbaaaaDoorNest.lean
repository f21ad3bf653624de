/-
  Nested of the program and of the reference.
-/
import Derived.Test.YtmmaeninlhbaaaaDoorCars
import Derived.Deep.RegionLaw
import Derived.BigRegion
namespace Go.Proofs.YtmmaeninlhbaaaaDoor
open Go.ChangeShapes Go.WideShapes Go.ChangeAt Go.RowKit

def under (a b : C4) : Bool := decide (a.t ≤ b.t) && decide (a.r ≤ b.r) && decide (a.u ≤ b.u)
def pairOk (a b : C4) : Bool := under a b || under b a
theorem pairOk_comm (a b : C4) : pairOk a b = pairOk b a := by unfold pairOk; exact Bool.or_comm _ _
/-- Of any two cars one is under the other one. -/
def PairsTo (cs : List C4) (k : Nat) : Prop := ∀ a, a < k → ∀ b, b < a → ∀ x y, cs[a]? = some x → cs[b]? = some y → pairOk x y = true
def nestedR (cs : List C4) (v : Bool) : Prop := v = true ↔ (carsB cs = true ∧ PairsTo cs cs.length)
theorem nestedR_same {cs : List C4} {a b : Bool} (h1 : nestedR cs a) (h2 : nestedR cs b) : a = b := by
  rw [Bool.eq_iff_iff]; exact h1.trans h2.symm
theorem pairs_bad {cs : List C4} {a b n : Nat} {x y : C4} (hl : cs.length = n) (ha : a < n) (hb : b < a) (hx : Hid (cs[a]? = some x)) (hy : Hid (cs[b]? = some y)) (h : pairOk x y = false) : ¬ PairsTo cs cs.length := by
  intro hp
  have := hp a (by omega) b hb x y hx.out hy.out
  rw [h] at this; cases this
theorem pairs_next {cs : List C4} {k : Nat} {x : C4} (h : PairsTo cs k) (hx : Hid (cs[k]? = some x)) (hp : ∀ b, b < k → ∀ y, cs[b]? = some y → pairOk x y = true) : PairsTo cs (k + 1) := by
  intro a ha b hb x' y hx' hy
  by_cases he : a = k
  · subst he
    have h1 := hx.out
    rw [h1] at hx'; injection hx' with hx'; subst hx'
    exact hp b hb y hy
  · exact h a (by omega) b hb x' y hx' hy

set_option maxHeartbeats 1000000 in
theorem notGreater_any (x y : C4) (w : World) :
    Calls Tryd.prog 44 #[.agg #[.int .i64 x.f, .int .i64 x.t, .int .i64 x.r, .int .i64 x.u], .agg #[.int .i64 y.f, .int .i64 y.t, .int .i64 y.r, .int .i64 y.u]] w (RV w (.bool (under x y))) := by
  go_enter Tryd.func44, Tryd.ntmps44
  go_wp2
  all_goals
    go_ret
    refine ⟨ret_bool ?_, ((Below.refl _ _).alloc (Nat.le_refl _) _).alloc (by simp) _⟩
    rw [Bool.eq_iff_iff]; simp [under]; omega
theorem notGreater_yes (x y : C4) (w : World) (h : under x y = true) :
    Calls Tryd.prog 44 #[.agg #[.int .i64 x.f, .int .i64 x.t, .int .i64 x.r, .int .i64 x.u], .agg #[.int .i64 y.f, .int .i64 y.t, .int .i64 y.r, .int .i64 y.u]] w (RV w (.bool true)) := by rw [← h]; exact notGreater_any x y w
theorem notGreater_no (x y : C4) (w : World) (h : under x y = false) :
    Calls Tryd.prog 44 #[.agg #[.int .i64 x.f, .int .i64 x.t, .int .i64 x.r, .int .i64 x.u], .agg #[.int .i64 y.f, .int .i64 y.t, .int .i64 y.r, .int .i64 y.u]] w (RV w (.bool false)) := by rw [← h]; exact notGreater_any x y w
set_option maxHeartbeats 4000000 in
theorem nested_any (A : Option Addr) (n c : Nat) (ns : List C4) (w : World) (hn : n ≤ c ∧ c ≤ 9223372036854775807) (hx : CarsAt w A n ns) :
    Calls Tryd.prog 17 #[.slice A n c] w fun e w' => ∃ v, e = .returned (.bool v) ∧ nestedR ns v ∧ Below w.heap.size w w' := by
  have HL := Lib.hid hx.len
  have HN := Lib.hid hn
  obtain ⟨hnc, hcm⟩ := hn
  cases hC : carsB ns
  · have HC := Lib.hid hC
    go_enter Tryd.func17, Tryd.ntmps17
    go_wp2_with fail
    refine (carsValid_any A n c ns _ HN.out hx).mono ?_; rintro e w1 ⟨rfl, hb1⟩
    go_wp2
    go_ret
    refine ⟨false, rfl, ?_, hb1⟩
    unfold nestedR
    exact ⟨(fun h => by cases h), fun h => by rw [HC.out] at h; cases h.1⟩
  have HC := Lib.hid hC
  go_enter Tryd.func17, Tryd.ntmps17
  go_wp2_with fail
  refine (carsValid_any A n c ns _ HN.out hx).mono ?_; rintro e w1 ⟨rfl, hb1⟩
  go_wp2
  clear hC
  go_loopw [12] (fun i wr => ∃ k : Nat, k ≤ n ∧ i = .int .i64 k ∧ PairsTo ns k ∧ Below w.heap.size w wr) (fun i _ => n - (intOf i).toNat)
  case atStart => exact ⟨0, Nat.zero_le _, rfl, fun a h => by omega, hb1⟩
  case round =>
    obtain ⟨k, hk, rfl, hp, hbw⟩ := hrel
    have HP := Lib.hid hp
    clear hp hb1
    obtain ⟨wo, rfl⟩ : ∃ wo : World, wo = wr := ⟨_, rfl⟩
    by_cases hlt : k < n
    · obtain ⟨x, b, off, HX, rfl, hb, hc0, hc1, hc2, hc3⟩ := (hx.below hbw).get hlt
      go_wp2
      have hcp : Whole (wo.alloc (.cells #[.int .i64 x.f, .int .i64 x.t, .int .i64 x.r, .int .i64 x.u] 40)) wo.heap.size 40 [.int .i64 x.f, .int .i64 x.t, .int .i64 x.r, .int .i64 x.u] := Whole.new wo _ _
      have hbo : Below wo.heap.size wo (wo.alloc (.cells #[.int .i64 x.f, .int .i64 x.t, .int .i64 x.r, .int .i64 x.u] 40)) := (Below.refl _ _).alloc (Nat.le_refl _) _
      have hbw1 := below_next hbw hbo
      generalize wo.alloc (.cells #[.int .i64 x.f, .int .i64 x.t, .int .i64 x.r, .int .i64 x.u] 40) = w2 at hcp hbo hbw1 ⊢
      obtain ⟨L, HLo⟩ : ∃ L, Hid (L = wo.heap.size) := ⟨_, rfl⟩
      rw [← HLo.out] at hcp ⊢
      go_loopw [21] (fun i wr => ∃ j : Nat, j ≤ k ∧ i = .int .i64 j ∧ (∀ b, b < j → ∀ y, ns[b]? = some y → pairOk x y = true) ∧ Below w2.heap.size w2 wr) (fun i _ => k - (intOf i).toNat)
      case atStart => exact ⟨0, Nat.zero_le _, rfl, fun i h => by omega, Below.refl _ _⟩
      case round =>
        obtain ⟨j, hj, rfl, hq, hbi⟩ := hrel
        have HQ := Lib.hid hq
        clear hq
        by_cases hjk : j < k
        · have hbwi := below_next hbw1 hbi
          obtain ⟨y, b2, off2, HY, hA2, hb2, hd0, hd1, hd2, hd3⟩ := (hx.below hbwi).get (k := j) (by omega)
          cases hA2
          have hcr := hcp.below hbi
          have hLr := hcr.lt
          have hne : L ≠ wr.heap.size := by omega
          have hbe2 : b ≠ wr.heap.size := by omega
          have hg0 := (hcr.alloc (.cells #[.int .i64 y.f, .int .i64 y.t, .int .i64 y.r, .int .i64 y.u] 40)).cell 0
          have hg1 := (hcr.alloc (.cells #[.int .i64 y.f, .int .i64 y.t, .int .i64 y.r, .int .i64 y.u] 40)).cell 1
          have hg2 := (hcr.alloc (.cells #[.int .i64 y.f, .int .i64 y.t, .int .i64 y.r, .int .i64 y.u] 40)).cell 2
          have hg3 := (hcr.alloc (.cells #[.int .i64 y.f, .int .i64 y.t, .int .i64 y.r, .int .i64 y.u] 40)).cell 3
          simp only [List.getElem?_cons_zero, List.getElem?_cons_succ] at hg0 hg1 hg2 hg3
          have HO : Hid (pairOk x y = (under x y || under y x)) := rfl
          have hbr : Below wr.heap.size wr (wr.alloc (.cells #[.int .i64 y.f, .int .i64 y.t, .int .i64 y.r, .int .i64 y.u] 40)) := (Below.refl _ _).alloc (Nat.le_refl _) _
          have hyw := Whole.new wr 40 [.int .i64 y.f, .int .i64 y.t, .int .i64 y.r, .int .i64 y.u]
          cases h1 : under x y
          · have hU := Lib.hid h1
            go_wp2_with fail
            refine (notGreater_no _ _ _ hU.out).mono ?_; rintro e w3 ⟨rfl, hb3⟩
            have hy3 := hyw.below hb3
            have hc3 := (hcr.alloc _).below hb3
            have hq0 := hy3.cell 0
            have hq1 := hy3.cell 1
            have hq2 := hy3.cell 2
            have hq3 := hy3.cell 3
            have hr0 := hc3.cell 0
            have hr1 := hc3.cell 1
            have hr2 := hc3.cell 2
            have hr3 := hc3.cell 3
            simp only [List.getElem?_cons_zero, List.getElem?_cons_succ] at hq0 hq1 hq2 hq3 hr0 hr1 hr2 hr3
            rw [h1, Bool.false_or] at HO
            clear hg0 hg1 hg2 hg3
            cases h2 : under y x
            · have hV := Lib.hid h2
              rw [h2] at HO
              clear h1 h2
              go_wp2_with fail
              refine (notGreater_no _ _ _ hV.out).mono ?_; rintro e w4 ⟨rfl, hb4⟩
              go_wp2
              go_ret
              refine ⟨false, rfl, ?_, (below_next (below_next (below_next hbwi hbr) hb3) hb4)⟩
              unfold nestedR
              exact ⟨(fun h => by cases h), fun h => absurd h.2 (pairs_bad HL.out hlt hjk HX HY HO.out)⟩
            · have hV := Lib.hid h2
              rw [h2] at HO
              clear h1 h2
              go_wp2_with fail
              refine (notGreater_yes _ _ _ hV.out).mono ?_; rintro e w4 ⟨rfl, hb4⟩
              go_wp2
              go_roundw
              case rel =>
                refine ⟨j + 1, by omega, by go_num, fun b' hb' y' hy' => ?_, (below_next (below_next (below_next hbi hbr) hb3) hb4)⟩
                by_cases he : b' = j
                · subst he
                  have h2 := HY.out
                  rw [h2] at hy'; injection hy' with hy'; subst hy'
                  exact HO.out
                · exact HQ.out b' (by omega) y' hy'
              case measure => simp [intOf]; omega
          · have hU := Lib.hid h1
            rw [h1, Bool.true_or] at HO
            clear h1
            go_wp2_with fail
            refine (notGreater_yes _ _ _ hU.out).mono ?_; rintro e w3 ⟨rfl, hb3⟩
            go_wp2
            go_roundw
            case rel =>
              refine ⟨j + 1, by omega, by go_num, fun b' hb' y' hy' => ?_, below_next (below_next hbi hbr) hb3⟩
              by_cases he : b' = j
              · subst he
                have h2 := HY.out
                rw [h2] at hy'; injection hy' with hy'; subst hy'
                exact HO.out
              · exact HQ.out b' (by omega) y' hy'
            case measure => simp [intOf]; omega
        · obtain rfl : j = k := by omega
          go_wp2
          go_roundw
          case rel =>
            exact ⟨j + 1, by omega, by go_num, pairs_next HP.out HX HQ.out, below_next hbw1 hbi⟩
          case measure => simp [intOf]; omega
    · have hkn : n ≤ k := by omega
      go_wp2
      go_ret
      refine ⟨true, rfl, ?_, hbw⟩
      unfold nestedR
      rw [HL.out]
      obtain rfl : k = n := by omega
      exact ⟨fun _ => ⟨HC.out, HP.out⟩, fun _ => rfl⟩
end Go.Proofs.YtmmaeninlhbaaaaDoor
