/-
  One need: NeedValid, RateIn of the program and of the reference, and its copy.
-/
import Derived.Test.YtobkljhbmeglpaaDoorL1
import Derived.Test.YtobkljhbmeglpaaDoorLib
namespace Go.Proofs.YtobkljhbmeglpaaDoor
open Go.ChangeShapes Go.WideShapes Go.ChangeAt Go.RowKit

def nvB (a b c d : Int) : Bool := decide (0 ≤ a) && decide (a < 6) && decide (a < b) && decide (b ≤ 6) && decide (1 ≤ c) && decide (c ≤ 30) && decide (1 ≤ d) && decide (d ≤ 30)
set_option maxHeartbeats 1000000 in
theorem needValid_any (a b c d : Int) (w : World) :
    Calls Tryd.prog 14 #[.agg #[.int .i64 a, .int .i64 b, .int .i64 c, .int .i64 d]] w (RV w (.bool (nvB a b c d))) := by
  go_enter Tryd.func14, Tryd.ntmps14
  go_wp2
  all_goals
    go_ret
    refine ⟨ret_bool ?_, (Below.refl _ _).alloc (Nat.le_refl _) _⟩
    rw [Bool.eq_iff_iff]; simp [nvB]; omega
set_option maxHeartbeats 1000000 in
theorem specNeedValid_any (a b c d : Int) (w : World) :
    Calls Tryd.prog 15 #[.agg #[.int .i64 a, .int .i64 b, .int .i64 c, .int .i64 d]] w (RV w (.bool (nvB a b c d))) := by
  go_enter Tryd.func15, Tryd.ntmps15
  go_wp2_with (go_at_call 49; refine (l1In_any _ _ _ _).mono ?_; rintro e w1 ⟨rfl, rfl⟩)
  all_goals
    go_ret
    refine ⟨ret_bool ?_, (Below.refl _ _).alloc (Nat.le_refl _) _⟩
    rw [Bool.eq_iff_iff]; simp [nvB]; omega
/-- RateIn of a need. -/
def rateI (a b c d h : Int) : Int := if nvB a b c d then (if a ≤ h ∧ h < b then c else 0) else -1
set_option maxHeartbeats 1000000 in
theorem rateIn_any (a b c d h : Int) (w : World) :
    Calls Tryd.prog 21 #[.agg #[.int .i64 a, .int .i64 b, .int .i64 c, .int .i64 d], .int .i64 h] w (RV w (.int .i64 (rateI a b c d h))) := by
  by_cases hv : nvB a b c d = true
  all_goals
    go_enter Tryd.func21, Tryd.ntmps21
    go_wp2_with (go_at_call 14; refine (needValid_any _ _ _ _ _).mono ?_; rintro e w1 ⟨rfl, hb⟩; obtain ⟨hc, hf, hz⟩ := bcell (N := w.heap.size + 1) hb (by first | omega | (simp; done) | (simp; omega)))
    all_goals
      go_ret
      refine ⟨ret_int ?_, ?_⟩
      · unfold rateI; simp only [hv, if_true, if_false, Bool.false_eq_true]; try first | rfl | (rw [if_neg (by omega)]) | (rw [if_pos (by omega)])
      · repeat first | exact Below.refl _ _ | refine below_next ?_ (by assumption) | refine Below.alloc ?_ (by first | omega | (simp; done) | (simp; omega)) _
set_option maxHeartbeats 1000000 in
theorem specRateIn_any (a b c d h : Int) (w : World) :
    Calls Tryd.prog 22 #[.agg #[.int .i64 a, .int .i64 b, .int .i64 c, .int .i64 d], .int .i64 h] w (RV w (.int .i64 (rateI a b c d h))) := by
  by_cases hv : nvB a b c d = true
  all_goals
    go_enter Tryd.func22, Tryd.ntmps22
    go_wp2_with (go_at_call 15; refine (specNeedValid_any _ _ _ _ _).mono ?_; rintro e w1 ⟨rfl, hb⟩; obtain ⟨hc, hf, hz⟩ := bcell (N := w.heap.size + 1) hb (by first | omega | (simp; done) | (simp; omega)))
    all_goals
      go_ret
      refine ⟨ret_int ?_, ?_⟩
      · unfold rateI; simp only [hv, if_true, if_false, Bool.false_eq_true]; try first | rfl | (rw [if_neg (by omega)]) | (rw [if_pos (by omega)])
      · repeat first | exact Below.refl _ _ | refine below_next ?_ (by assumption) | refine Below.alloc ?_ (by first | omega | (simp; done) | (simp; omega)) _
end Go.Proofs.YtobkljhbmeglpaaDoor
