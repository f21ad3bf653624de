/-
  The walks of the first seven statements: each law returns true, whatever comes in.
-/
import Derived.Test.YtipnaaeclnahfaaSum
import Derived.Test.YtipnaaeclnahfaaInts
namespace Go.Proofs.Ytipnaaeclnahfaa
open Go.ChangeShapes Go.WideShapes Go.ChangeAt Go.RowKit

set_option maxHeartbeats 1000000 in
theorem l1In_any (x l g : Int) (w : World) :
    Calls Try.prog 29 #[.int .i64 x, .int .i64 l, .int .i64 g] w (RS w (.bool (decide (l ≤ x) && decide (x ≤ g)))) := by
  go_enter Try.func29, Try.ntmps29
  go_wp2
  all_goals
    go_ret
    refine ⟨ret_bool ?_, rfl⟩
    simp; try omega

set_option maxHeartbeats 1000000 in
theorem sizeIn_any (x l : Int) (w : World) :
    Calls Try.prog 30 #[.int .i64 x, .int .i64 l] w (RS w (.bool (decide (l ≤ x) && decide (x ≤ 9)))) := by
  go_enter Try.func30, Try.ntmps30
  go_wp2
  all_goals
    go_ret
    refine ⟨ret_bool ?_, rfl⟩
    simp; try omega

def nvB (a b c d : Int) : Bool := decide (0 ≤ a) && decide (a < 6) && decide (a < b) && decide (b ≤ 6) && decide (1 ≤ c) && decide (c ≤ 30) && decide (1 ≤ d) && decide (d ≤ 30)
set_option maxHeartbeats 1000000 in
theorem needValid_any (a b c d : Int) (w : World) :
    Calls Try.prog 12 #[.agg #[.int .i64 a, .int .i64 b, .int .i64 c, .int .i64 d]] w (RV w (.bool (nvB a b c d))) := by
  go_enter Try.func12, Try.ntmps12
  go_wp2
  all_goals
    go_ret
    refine ⟨ret_bool ?_, (Below.refl _ _).alloc (Nat.le_refl _) _⟩
    rw [Bool.eq_iff_iff]; simp [nvB]; omega
set_option maxHeartbeats 1000000 in
theorem toNeed_any (a b c d : Int) (w : World) :
    Calls Try.prog 11 #[.agg #[.int .i64 a, .int .i64 b, .int .i64 c, .int .i64 d]] w (RV w (.agg #[.int .i64 a, .int .i64 b, .int .i64 c, .int .i64 d])) := by
  go_enter Try.func11, Try.ntmps11
  go_wp2
  refine bodyPost_ret (v := .agg #[.int .i64 a, .int .i64 b, .int .i64 c, .int .i64 d]) (by simp [results, Try.results11, go_sem]) rfl ⟨rfl, ?_⟩
  exact (((Below.refl _ _).alloc (Nat.le_refl _) _).alloc (by simp) _).alloc (by simp; omega) _
set_option maxHeartbeats 1000000 in
theorem specNeedValid_any (a b c d : Int) (w : World) :
    Calls Try.prog 10 #[.agg #[.int .i64 a, .int .i64 b, .int .i64 c, .int .i64 d]] w (RV w (.bool (nvB a b c d))) := by
  go_enter Try.func10, Try.ntmps10
  go_wp2_with (go_at_call 29; refine (l1In_any _ _ _ _).mono ?_; rintro e w1 ⟨rfl, rfl⟩)
  all_goals
    go_ret
    refine ⟨ret_bool ?_, (Below.refl _ _).alloc (Nat.le_refl _) _⟩
    rw [Bool.eq_iff_iff]; simp [nvB]; omega
set_option maxHeartbeats 1000000 in
theorem law_needValid (a b c d : Int) (w : World) :
    Calls Try.prog 3 #[.agg #[.int .i64 a, .int .i64 b, .int .i64 c, .int .i64 d]] w (RV w (.bool true)) := by
  go_enter Try.func3, Try.ntmps3
  go_wp2_with (first
    | (go_at_call 10; refine (specNeedValid_any _ _ _ _ _).mono ?_; rintro e w1 ⟨rfl, hb⟩; obtain ⟨hc, hf, hz⟩ := bcell (N := w.heap.size + 1) hb (by first | omega | (simp; done) | (simp; omega)))
    | (go_at_call 11; refine (toNeed_any _ _ _ _ _).mono ?_; rintro e w1 ⟨rfl, hb⟩; obtain ⟨hc, hf, hz⟩ := bcell (N := w.heap.size + 1) hb (by first | omega | (simp; done) | (simp; omega)))
    | (go_at_call 12; refine (needValid_any _ _ _ _ _).mono ?_; rintro e w1 ⟨rfl, hb⟩; obtain ⟨hc, hf, hz⟩ := bcell (N := w.heap.size + 1) hb (by first | omega | (simp; done) | (simp; omega))))
  go_ret
  refine ⟨rfl, ?_⟩
  repeat first | exact Below.refl _ _ | refine below_next ?_ (by assumption) | refine Below.alloc ?_ (by first | omega | (simp; done) | (simp; omega)) _
end Go.Proofs.Ytipnaaeclnahfaa
