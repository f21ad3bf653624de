/-
  One need: NeedValid, RateIn of the program and of the reference, and its copy.
-/
import Derived.Test.YtecjhomfoakaeaaL1
import Derived.Test.YtecjhomfoakaeaaLib
namespace Go.Proofs.Ytecjhomfoakaeaa
open Go.ChangeShapes Go.WideShapes Go.ChangeAt Go.RowKit

def nvB (a b c d : Int) : Bool := decide (0 ≤ a) && decide (a < 6) && decide (a < b) && decide (b ≤ 6) && decide (1 ≤ c) && decide (c ≤ 30) && decide (1 ≤ d) && decide (d ≤ 30)
set_option maxHeartbeats 1000000 in
theorem needValid_any (a b c d : Int) (w : World) :
    Calls Try.prog 34 #[.agg #[.int .i64 a, .int .i64 b, .int .i64 c, .int .i64 d]] w (RV w (.bool (nvB a b c d))) := by
  go_enter Try.func34, Try.ntmps34
  go_wp2
  all_goals
    go_ret
    refine ⟨ret_bool ?_, (Below.refl _ _).alloc (Nat.le_refl _) _⟩
    rw [Bool.eq_iff_iff]; simp [nvB]; omega
set_option maxHeartbeats 1000000 in
theorem toNeed_any (a b c d : Int) (w : World) :
    Calls Try.prog 19 #[.agg #[.int .i64 a, .int .i64 b, .int .i64 c, .int .i64 d]] w (RV w (.agg #[.int .i64 a, .int .i64 b, .int .i64 c, .int .i64 d])) := by
  go_enter Try.func19, Try.ntmps19
  go_wp2
  refine bodyPost_ret (v := .agg #[.int .i64 a, .int .i64 b, .int .i64 c, .int .i64 d]) (by simp [results, Try.results19, go_sem]) rfl ⟨rfl, ?_⟩
  exact (((Below.refl _ _).alloc (Nat.le_refl _) _).alloc (by simp) _).alloc (by simp; omega) _
set_option maxHeartbeats 1000000 in
theorem specNeedValid_any (a b c d : Int) (w : World) :
    Calls Try.prog 26 #[.agg #[.int .i64 a, .int .i64 b, .int .i64 c, .int .i64 d]] w (RV w (.bool (nvB a b c d))) := by
  go_enter Try.func26, Try.ntmps26
  go_wp2_with (go_at_call 33; refine (l1In_any _ _ _ _).mono ?_; rintro e w1 ⟨rfl, rfl⟩)
  all_goals
    go_ret
    refine ⟨ret_bool ?_, (Below.refl _ _).alloc (Nat.le_refl _) _⟩
    rw [Bool.eq_iff_iff]; simp [nvB]; omega
/-- RateIn of a need. -/
def rateI (a b c d h : Int) : Int := if nvB a b c d then (if a ≤ h ∧ h < b then c else 0) else -1
set_option maxHeartbeats 1000000 in
theorem rateIn_any (a b c d h : Int) (w : World) :
    Calls Try.prog 29 #[.agg #[.int .i64 a, .int .i64 b, .int .i64 c, .int .i64 d], .int .i64 h] w (RV w (.int .i64 (rateI a b c d h))) := by
  by_cases hv : nvB a b c d = true
  all_goals
    go_enter Try.func29, Try.ntmps29
    go_wp2_with (go_at_call 34; refine (needValid_any _ _ _ _ _).mono ?_; rintro e w1 ⟨rfl, hb⟩; obtain ⟨hc, hf, hz⟩ := bcell (N := w.heap.size + 1) hb (by first | omega | (simp; done) | (simp; omega)))
    all_goals
      go_ret
      refine ⟨ret_int ?_, ?_⟩
      · unfold rateI; simp only [hv, if_true, if_false, Bool.false_eq_true]; try first | rfl | (rw [if_neg (by omega)]) | (rw [if_pos (by omega)])
      · repeat first | exact Below.refl _ _ | refine below_next ?_ (by assumption) | refine Below.alloc ?_ (by first | omega | (simp; done) | (simp; omega)) _
set_option maxHeartbeats 1000000 in
theorem specRateIn_any (a b c d h : Int) (w : World) :
    Calls Try.prog 17 #[.agg #[.int .i64 a, .int .i64 b, .int .i64 c, .int .i64 d], .int .i64 h] w (RV w (.int .i64 (rateI a b c d h))) := by
  by_cases hv : nvB a b c d = true
  all_goals
    go_enter Try.func17, Try.ntmps17
    go_wp2_with (go_at_call 26; refine (specNeedValid_any _ _ _ _ _).mono ?_; rintro e w1 ⟨rfl, hb⟩; obtain ⟨hc, hf, hz⟩ := bcell (N := w.heap.size + 1) hb (by first | omega | (simp; done) | (simp; omega)))
    all_goals
      go_ret
      refine ⟨ret_int ?_, ?_⟩
      · unfold rateI; simp only [hv, if_true, if_false, Bool.false_eq_true]; try first | rfl | (rw [if_neg (by omega)]) | (rw [if_pos (by omega)])
      · repeat first | exact Below.refl _ _ | refine below_next ?_ (by assumption) | refine Below.alloc ?_ (by first | omega | (simp; done) | (simp; omega)) _
end Go.Proofs.Ytecjhomfoakaeaa
