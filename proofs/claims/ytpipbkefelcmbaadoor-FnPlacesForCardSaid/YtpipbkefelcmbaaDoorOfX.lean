/-
  What lists of places have to do with one another. No program is in sight here.
-/
import Derived.Test.YtpipbkefelcmbaaDoorOfP
import Derived.Test.YtpipbkefelcmbaaDoorSameI
namespace Go.Proofs.YtpipbkefelcmbaaDoor
open Go.ChangeShapes Go.WideShapes Go.ChangeAt Go.RowKit

theorem hasB_selK {f : Nat → Bool} {n k : Nat} (h : k < n) : hasB (selK f n) (k : Int) = f k := by
  rw [Bool.eq_iff_iff, hasB_iff, mem_selK]
  constructor
  · rintro ⟨i, hi, _, hf⟩
    obtain rfl : k = i := by omega
    exact hf
  · intro hf; exact ⟨k, rfl, h, hf⟩
theorem selK_get_lt {f : Nat → Bool} : ∀ {n : Nat} {i : Nat} {a : Int}, (selK f n)[i]? = some a → a < n := by
  intro n i a h
  obtain ⟨j, rfl, hj, _⟩ := mem_selK.1 (List.mem_of_getElem? h)
  omega
theorem asc_selK (f : Nat → Bool) : ∀ n, Asc (selK f n)
  | 0 => fun i a b h => by simp [selK] at h
  | n + 1 => by
    have ih := asc_selK f n
    cases hf : f n
    · rw [selK_no hf]; exact ih
    · rw [selK_yes hf]
      intro i a b ha hb
      by_cases hi : i + 1 < (selK f n).length
      · rw [List.getElem?_append_left (by omega)] at ha
        rw [List.getElem?_append_left hi] at hb
        exact ih i a b ha hb
      · have hl : i + 1 < (selK f n ++ [(n : Int)]).length := (List.getElem?_eq_some_iff.1 hb).1
        simp at hl
        have e : i + 1 = (selK f n).length := by omega
        rw [List.getElem?_append_left (by omega)] at ha
        rw [List.getElem?_append_right (by omega), show i + 1 - (selK f n).length = 0 by omega] at hb
        simp at hb
        have := selK_get_lt ha
        omega
theorem asc_nil : Asc [] := fun i a b h => by simp at h
theorem asc_ofL (cs : List C4) (ps : List P3) (g : List Int) : Asc (ofL cs ps g) := by
  unfold ofL; split
  · exact asc_selK _ _
  · exact asc_nil
theorem asc_forL (x : C4) (ps : List P3) : Asc (forL x ps) := by
  unfold forL; split
  · exact asc_selK _ _
  · exact asc_nil
theorem ofL_some {cs : List C4} {ps : List P3} {g : List Int} (h : 0 < (ofL cs ps g).length) : ofB cs ps g = true := by
  cases hb : ofB cs ps g
  · rw [ofL_no hb] at h; simp at h
  · rfl
theorem ofL_none {cs : List C4} {ps : List P3} : ofL cs ps [] = [] := by
  unfold ofL
  split
  · exact selK_none fun i _ => rfl
  · rfl
theorem ofB_parts {cs : List C4} {ps : List P3} {g : List Int} (h : ofB cs ps g = true) : carsB cs = true ∧ placesB ps = true ∧ g.all (idxB cs.length) = true := by
  simp only [ofB, Bool.and_eq_true] at h
  exact ⟨h.1.1, h.1.2, h.2⟩
/-- The places for the cars: those for the first one and those for the others. -/
theorem ofL_split {cs : List C4} {ps : List P3} {g : List Int} {q : Nat} {x : C4} (h : ofB cs ps g = true) (hz : g[0]? = some (q : Int)) (hx : cs[q]? = some x) (hok : x.ok = true) {k : Nat} (hk : k < ps.length) :
    hasB (ofL cs ps g) (k : Int) = (hasB (ofL cs ps (g.drop 1)) (k : Int) || hasB (forL x ps) (k : Int)) := by
  obtain ⟨h1, h2, h3⟩ := ofB_parts h
  cases g with
  | nil => simp at hz
  | cons z rest =>
    simp at hz
    subst hz
    have hr : ofB cs ps rest = true := by
      simp only [List.all_cons, Bool.and_eq_true] at h3
      simp [ofB, h1, h2, h3.2]
    have hf : forB x ps = true := by simp [forB, hok, h2]
    rw [List.drop_succ_cons, List.drop_zero, ofL_yes h, ofL_yes hr, forL_yes hf, hasB_selK hk, hasB_selK hk, hasB_selK hk]
    show (fitZ cs ps k (q : Int) || ofAt cs ps rest k) = _
    have e : fitZ cs ps k (q : Int) = fitAt x ps k := by
      unfold fitZ; rw [show ((q : Int)).toNat = q by omega, hx]
    rw [e, Bool.or_comm]
end Go.Proofs.YtpipbkefelcmbaaDoor
