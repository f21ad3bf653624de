/-
  The walks of the first seven statements: each law returns true, whatever comes in.
-/
import Derived.Test.YtipnaaeclnahfaaSum
import Derived.Test.YtipnaaeclnahfaaInts
import Derived.Deep.RegionWith
import Derived.Deep.RegionHeld3
namespace Go.Proofs.Ytipnaaeclnahfaa
open Go.ChangeShapes Go.WideShapes Go.ChangeAt Go.RowKit

set_option maxHeartbeats 1000000 in
theorem l1In_any (x l g : Int) (w : World) :
    Calls Try.prog 29 #[.int .i64 x, .int .i64 l, .int .i64 g] w (RS w (.bool (decide (l ≤ x) && decide (x ≤ g)))) := by
  go_enter Try.func29, Try.ntmps29
  go_wp2
  all_goals
    go_ret
    refine ⟨ret_bool ?_, rfl⟩
    simp; try omega

set_option maxHeartbeats 1000000 in
theorem sizeIn_any (x l : Int) (w : World) :
    Calls Try.prog 30 #[.int .i64 x, .int .i64 l] w (RS w (.bool (decide (l ≤ x) && decide (x ≤ 9)))) := by
  go_enter Try.func30, Try.ntmps30
  go_wp2
  all_goals
    go_ret
    refine ⟨ret_bool ?_, rfl⟩
    simp; try omega

def nvB (a b c d : Int) : Bool := decide (0 ≤ a) && decide (a < 6) && decide (a < b) && decide (b ≤ 6) && decide (1 ≤ c) && decide (c ≤ 30) && decide (1 ≤ d) && decide (d ≤ 30)
set_option maxHeartbeats 1000000 in
theorem needValid_any (a b c d : Int) (w : World) :
    Calls Try.prog 12 #[.agg #[.int .i64 a, .int .i64 b, .int .i64 c, .int .i64 d]] w (RV w (.bool (nvB a b c d))) := by
  go_enter Try.func12, Try.ntmps12
  go_wp2
  all_goals
    go_ret
    refine ⟨ret_bool ?_, (Below.refl _ _).alloc (Nat.le_refl _) _⟩
    rw [Bool.eq_iff_iff]; simp [nvB]; omega
set_option maxHeartbeats 1000000 in
theorem toNeed_any (a b c d : Int) (w : World) :
    Calls Try.prog 11 #[.agg #[.int .i64 a, .int .i64 b, .int .i64 c, .int .i64 d]] w (RV w (.agg #[.int .i64 a, .int .i64 b, .int .i64 c, .int .i64 d])) := by
  go_enter Try.func11, Try.ntmps11
  go_wp2
  refine bodyPost_ret (v := .agg #[.int .i64 a, .int .i64 b, .int .i64 c, .int .i64 d]) (by simp [results, Try.results11, go_sem]) rfl ⟨rfl, ?_⟩
  exact (((Below.refl _ _).alloc (Nat.le_refl _) _).alloc (by simp) _).alloc (by simp; omega) _
set_option maxHeartbeats 1000000 in
theorem specNeedValid_any (a b c d : Int) (w : World) :
    Calls Try.prog 10 #[.agg #[.int .i64 a, .int .i64 b, .int .i64 c, .int .i64 d]] w (RV w (.bool (nvB a b c d))) := by
  go_enter Try.func10, Try.ntmps10
  go_wp2_with (go_at_call 29; refine (l1In_any _ _ _ _).mono ?_; rintro e w1 ⟨rfl, rfl⟩)
  all_goals
    go_ret
    refine ⟨ret_bool ?_, (Below.refl _ _).alloc (Nat.le_refl _) _⟩
    rw [Bool.eq_iff_iff]; simp [nvB]; omega
set_option maxHeartbeats 1000000 in
theorem law_needValid (a b c d : Int) (w : World) :
    Calls Try.prog 3 #[.agg #[.int .i64 a, .int .i64 b, .int .i64 c, .int .i64 d]] w (RV w (.bool true)) := by
  go_enter Try.func3, Try.ntmps3
  go_wp2_with (first
    | (go_at_call 10; refine (specNeedValid_any _ _ _ _ _).mono ?_; rintro e w1 ⟨rfl, hb⟩; obtain ⟨hc, hf, hz⟩ := bcell (N := w.heap.size + 1) hb (by first | omega | (simp; done) | (simp; omega)))
    | (go_at_call 11; refine (toNeed_any _ _ _ _ _).mono ?_; rintro e w1 ⟨rfl, hb⟩; obtain ⟨hc, hf, hz⟩ := bcell (N := w.heap.size + 1) hb (by first | omega | (simp; done) | (simp; omega)))
    | (go_at_call 12; refine (needValid_any _ _ _ _ _).mono ?_; rintro e w1 ⟨rfl, hb⟩; obtain ⟨hc, hf, hz⟩ := bcell (N := w.heap.size + 1) hb (by first | omega | (simp; done) | (simp; omega))))
  go_ret
  refine ⟨rfl, ?_⟩
  repeat first | exact Below.refl _ _ | refine below_next ?_ (by assumption) | refine Below.alloc ?_ (by first | omega | (simp; done) | (simp; omega)) _


/-- RateIn of a need. -/
def rateI (a b c d h : Int) : Int := if nvB a b c d then (if a ≤ h ∧ h < b then c else 0) else -1
set_option maxHeartbeats 1000000 in
theorem rateIn_any (a b c d h : Int) (w : World) :
    Calls Try.prog 26 #[.agg #[.int .i64 a, .int .i64 b, .int .i64 c, .int .i64 d], .int .i64 h] w (RV w (.int .i64 (rateI a b c d h))) := by
  by_cases hv : nvB a b c d = true
  all_goals
    go_enter Try.func26, Try.ntmps26
    go_wp2_with (go_at_call 12; refine (needValid_any _ _ _ _ _).mono ?_; rintro e w1 ⟨rfl, hb⟩; obtain ⟨hc, hf, hz⟩ := bcell (N := w.heap.size + 1) hb (by first | omega | (simp; done) | (simp; omega)))
    all_goals
      go_ret
      refine ⟨ret_int ?_, ?_⟩
      · unfold rateI; simp only [hv, if_true, if_false, Bool.false_eq_true]; try first | rfl | (rw [if_neg (by omega)]) | (rw [if_pos (by omega)])
      · repeat first | exact Below.refl _ _ | refine below_next ?_ (by assumption) | refine Below.alloc ?_ (by first | omega | (simp; done) | (simp; omega)) _
set_option maxHeartbeats 1000000 in
theorem specRateIn_any (a b c d h : Int) (w : World) :
    Calls Try.prog 25 #[.agg #[.int .i64 a, .int .i64 b, .int .i64 c, .int .i64 d], .int .i64 h] w (RV w (.int .i64 (rateI a b c d h))) := by
  by_cases hv : nvB a b c d = true
  all_goals
    go_enter Try.func25, Try.ntmps25
    go_wp2_with (go_at_call 10; refine (specNeedValid_any _ _ _ _ _).mono ?_; rintro e w1 ⟨rfl, hb⟩; obtain ⟨hc, hf, hz⟩ := bcell (N := w.heap.size + 1) hb (by first | omega | (simp; done) | (simp; omega)))
    all_goals
      go_ret
      refine ⟨ret_int ?_, ?_⟩
      · unfold rateI; simp only [hv, if_true, if_false, Bool.false_eq_true]; try first | rfl | (rw [if_neg (by omega)]) | (rw [if_pos (by omega)])
      · repeat first | exact Below.refl _ _ | refine below_next ?_ (by assumption) | refine Below.alloc ?_ (by first | omega | (simp; done) | (simp; omega)) _
set_option maxHeartbeats 1000000 in
theorem law_rateIn (a b c d h : Int) (w : World) :
    Calls Try.prog 8 #[.agg #[.int .i64 a, .int .i64 b, .int .i64 c, .int .i64 d], .int .i64 h] w (RV w (.bool true)) := by
  go_enter Try.func8, Try.ntmps8
  go_wp2_with (first
    | (go_at_call 25; refine (specRateIn_any _ _ _ _ _ _).mono ?_; rintro e w1 ⟨rfl, hb⟩; obtain ⟨hc, hf, hz⟩ := bcell (N := w.heap.size + 1) hb (by first | omega | (simp; done) | (simp; omega)))
    | (go_at_call 11; refine (toNeed_any _ _ _ _ _).mono ?_; rintro e w1 ⟨rfl, hb⟩; obtain ⟨hc, hf, hz⟩ := bcell (N := w.heap.size + 1) hb (by first | omega | (simp; done) | (simp; omega)))
    | (go_at_call 26; refine (rateIn_any _ _ _ _ _ _).mono ?_; rintro e w1 ⟨rfl, hb⟩; obtain ⟨hc, hf, hz⟩ := bcell (N := w.heap.size + 1) hb (by first | omega | (simp; done) | (simp; omega))))
  go_ret
  refine ⟨rfl, ?_⟩
  repeat first | exact Below.refl _ _ | refine below_next ?_ (by assumption) | refine Below.drew ?_ | refine Below.alloc ?_ (by first | omega | (simp; done) | (simp; omega)) _

def carB (a b c d : Int) : Bool := decide (1 ≤ a) && decide (a ≤ 99) && decide (1 ≤ b) && decide (b ≤ 9) && decide (1 ≤ c) && decide (c ≤ 9) && decide (1 ≤ d) && decide (d ≤ 9)
set_option maxHeartbeats 1000000 in
theorem carValid_any (a b c d : Int) (w : World) :
    Calls Try.prog 15 #[.agg #[.int .i64 a, .int .i64 b, .int .i64 c, .int .i64 d]] w (RV w (.bool (carB a b c d))) := by
  go_enter Try.func15, Try.ntmps15
  go_wp2_with (go_at_call 30; refine (sizeIn_any _ _ _).mono ?_; rintro e w1 ⟨rfl, rfl⟩)
  all_goals
    go_ret
    refine ⟨ret_bool ?_, (Below.refl _ _).alloc (Nat.le_refl _) _⟩
    rw [Bool.eq_iff_iff]; simp [carB]; omega
set_option maxHeartbeats 1000000 in
theorem specCarValid_any (a b c d : Int) (w : World) :
    Calls Try.prog 13 #[.agg #[.int .i64 a, .int .i64 b, .int .i64 c, .int .i64 d]] w (RV w (.bool (carB a b c d))) := by
  go_enter Try.func13, Try.ntmps13
  go_wp2_with (go_at_call 29; refine (l1In_any _ _ _ _).mono ?_; rintro e w1 ⟨rfl, rfl⟩)
  all_goals
    go_ret
    refine ⟨ret_bool ?_, (Below.refl _ _).alloc (Nat.le_refl _) _⟩
    rw [Bool.eq_iff_iff]; simp [carB]; omega
set_option maxHeartbeats 1000000 in
theorem toCar_any (a b c d : Int) (w : World) :
    Calls Try.prog 14 #[.agg #[.int .i64 a, .int .i64 b, .int .i64 c, .int .i64 d]] w (RV w (.agg #[.int .i64 a, .int .i64 b, .int .i64 c, .int .i64 d])) := by
  go_enter Try.func14, Try.ntmps14
  go_wp2
  refine bodyPost_ret (v := .agg #[.int .i64 a, .int .i64 b, .int .i64 c, .int .i64 d]) (by simp [results, Try.results14, go_sem]) rfl ⟨rfl, ?_⟩
  exact (((Below.refl _ _).alloc (Nat.le_refl _) _).alloc (by simp) _).alloc (by simp; omega) _
set_option maxHeartbeats 1000000 in
theorem toPlace_any (a b c : Int) (w : World) :
    Calls Try.prog 17 #[.agg #[.int .i64 a, .int .i64 b, .int .i64 c]] w (RV w (.agg #[.int .i64 a, .int .i64 b, .int .i64 c])) := by
  go_enter Try.func17, Try.ntmps17
  go_wp2
  refine bodyPost_ret (v := .agg #[.int .i64 a, .int .i64 b, .int .i64 c]) (by simp [results, Try.results17, go_sem]) rfl ⟨rfl, ?_⟩
  exact (((Below.refl _ _).alloc (Nat.le_refl _) _).alloc (by simp) _).alloc (by simp; omega) _
set_option maxHeartbeats 1000000 in
theorem law_carValid (a b c d : Int) (w : World) :
    Calls Try.prog 4 #[.agg #[.int .i64 a, .int .i64 b, .int .i64 c, .int .i64 d]] w (RV w (.bool true)) := by
  go_enter Try.func4, Try.ntmps4
  go_wp2_with (first
    | (go_at_call 13; refine (specCarValid_any _ _ _ _ _).mono ?_; rintro e w1 ⟨rfl, hb⟩; obtain ⟨hc, hf, hz⟩ := bcell (N := w.heap.size + 1) hb (by first | omega | (simp; done) | (simp; omega)))
    | (go_at_call 14; refine (toCar_any _ _ _ _ _).mono ?_; rintro e w1 ⟨rfl, hb⟩; obtain ⟨hc, hf, hz⟩ := bcell (N := w.heap.size + 1) hb (by first | omega | (simp; done) | (simp; omega)))
    | (go_at_call 15; refine (carValid_any _ _ _ _ _).mono ?_; rintro e w1 ⟨rfl, hb⟩; obtain ⟨hc, hf, hz⟩ := bcell (N := w.heap.size + 1) hb (by first | omega | (simp; done) | (simp; omega))))
  go_ret
  refine ⟨rfl, ?_⟩
  repeat first | exact Below.refl _ _ | refine below_next ?_ (by assumption) | refine Below.drew ?_ | refine Below.alloc ?_ (by first | omega | (simp; done) | (simp; omega)) _

def fitsB (b c d p q r : Int) : Bool := decide (b ≤ p) && decide (c ≤ q) && decide (d ≤ r)
set_option maxHeartbeats 1000000 in
theorem fits_any (a b c d p q r : Int) (w : World) :
    Calls Try.prog 18 #[.agg #[.int .i64 a, .int .i64 b, .int .i64 c, .int .i64 d], .agg #[.int .i64 p, .int .i64 q, .int .i64 r]] w (RV w (.bool (fitsB b c d p q r))) := by
  go_enter Try.func18, Try.ntmps18
  go_wp2
  all_goals
    go_ret
    refine ⟨ret_bool ?_, ((Below.refl _ _).alloc (Nat.le_refl _) _).alloc (by simp) _⟩
    rw [Bool.eq_iff_iff]; simp [fitsB]; omega
set_option maxHeartbeats 1000000 in
theorem specFits_any (a b c d p q r : Int) (w : World) :
    Calls Try.prog 16 #[.agg #[.int .i64 a, .int .i64 b, .int .i64 c, .int .i64 d], .agg #[.int .i64 p, .int .i64 q, .int .i64 r]] w (RV w (.bool (fitsB b c d p q r))) := by
  go_enter Try.func16, Try.ntmps16
  go_wp2
  all_goals
    go_ret
    refine ⟨ret_bool ?_, ((Below.refl _ _).alloc (Nat.le_refl _) _).alloc (by simp) _⟩
    rw [Bool.eq_iff_iff]; simp [fitsB]; omega
set_option maxHeartbeats 4000000 in
theorem law_fits (a b c d p q r : Int) (w : World) :
    Calls Try.prog 5 #[.agg #[.int .i64 a, .int .i64 b, .int .i64 c, .int .i64 d], .agg #[.int .i64 p, .int .i64 q, .int .i64 r]] w (RV w (.bool true)) := by
  go_enter Try.func5, Try.ntmps5
  go_wp2_with fail
  go_region_held3 (fun w' => (∀ bb oo, bb < w.heap.size + 2 → w'.cell? ⟨bb, oo, none⟩ = ((w.alloc (.cells #[.int .i64 a, .int .i64 b, .int .i64 c, .int .i64 d] 29)).alloc (.cells #[.int .i64 p, .int .i64 q, .int .i64 r] 35)).cell? ⟨bb, oo, none⟩) ∧ Below (w.heap.size + 2) ((w.alloc (.cells #[.int .i64 a, .int .i64 b, .int .i64 c, .int .i64 d] 29)).alloc (.cells #[.int .i64 p, .int .i64 q, .int .i64 r] 35)) w' ∧ w.heap.size + 2 ≤ w'.heap.size)
    (first | exact keep_next (by assumption) (by assumption) | exact keep_drew (keep_start (by simp)) | exact keep_start (by simp))
    (first
      | (go_at_call 16; refine (specFits_any _ _ _ _ _ _ _ _).mono ?_; rintro e w1 ⟨rfl, hb⟩)
      | (go_at_call 14; refine (toCar_any _ _ _ _ _).mono ?_; rintro e w1 ⟨rfl, hb⟩)
      | (go_at_call 17; refine (toPlace_any _ _ _ _).mono ?_; rintro e w1 ⟨rfl, hb⟩))
  have hK : Keep (w.heap.size + 2) ((w.alloc (.cells #[.int .i64 a, .int .i64 b, .int .i64 c, .int .i64 d] 29)).alloc (.cells #[.int .i64 p, .int .i64 q, .int .i64 r] 35)) w1 := by assumption
  go_wp2_with fail
  go_region_held3 (fun w' => (∀ bb oo, bb < w.heap.size + 2 → w'.cell? ⟨bb, oo, none⟩ = ((w.alloc (.cells #[.int .i64 a, .int .i64 b, .int .i64 c, .int .i64 d] 29)).alloc (.cells #[.int .i64 p, .int .i64 q, .int .i64 r] 35)).cell? ⟨bb, oo, none⟩) ∧ Below (w.heap.size + 2) ((w.alloc (.cells #[.int .i64 a, .int .i64 b, .int .i64 c, .int .i64 d] 29)).alloc (.cells #[.int .i64 p, .int .i64 q, .int .i64 r] 35)) w' ∧ w.heap.size + 2 ≤ w'.heap.size)
    (first | exact keep_next (by assumption) (by assumption) | exact keep_drew (by assumption))
    (first
      | (go_at_call 18; refine (fits_any _ _ _ _ _ _ _ _).mono ?_; rintro e w2 ⟨rfl, hb2⟩)
      | (go_at_call 14; refine (toCar_any _ _ _ _ _).mono ?_; rintro e w2 ⟨rfl, hb2⟩)
      | (go_at_call 17; refine (toPlace_any _ _ _ _).mono ?_; rintro e w2 ⟨rfl, hb2⟩))
  have hK2 : Keep (w.heap.size + 2) ((w.alloc (.cells #[.int .i64 a, .int .i64 b, .int .i64 c, .int .i64 d] 29)).alloc (.cells #[.int .i64 p, .int .i64 q, .int .i64 r] 35)) w2 := by assumption
  go_wp2
  go_ret
  exact ⟨rfl, (((Below.refl _ _).alloc (Nat.le_refl _) _).alloc (by simp) _).trans (hK2.2.1.mono (by omega))⟩
end Go.Proofs.Ytipnaaeclnahfaa
