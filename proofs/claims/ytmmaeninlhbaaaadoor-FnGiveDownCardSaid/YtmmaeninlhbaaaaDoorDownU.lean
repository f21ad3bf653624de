/-
  The reference gives a car the first place of its list that is not used: the same one. No program is in sight here.
-/
import Derived.Test.YtmmaeninlhbaaaaDoorDownQ
namespace Go.Proofs.YtmmaeninlhbaaaaDoor
open Go.ChangeShapes Go.WideShapes Go.ChangeAt Go.RowKit

theorem selK_pw (f : Nat → Bool) (m : Nat) : (selK f m).Pairwise (· < ·) := by
  unfold selK
  rw [List.pairwise_map]
  exact (List.pairwise_lt_range.filter _).imp (by intro a b h; omega)
/-- The places used are those that have been given. -/
def Used (U G : List Int) : Prop := ∀ p : Nat, hasB U (p : Int) = hasB G (p : Int)
theorem Used.place {U G : List Int} {c p : Nat} (h : Used U G) (hc : c < G.length) (h1 : gM G c = -1) : Used (U ++ [(p : Int)]) (G.set c (p : Int)) := by
  intro q
  rw [hasB_place hc h1, ← h q]
  unfold hasB
  rw [contains_snoc]
  congr 1
  rw [Bool.eq_iff_iff]; simp only [decide_eq_true_eq]; omega
theorem used_nil (n : Nat) : Used [] (List.replicate n (-1)) := fun p => by
  have h2 : hasB (List.replicate n (-1)) (p : Int) = false := by rw [hasB_not, List.mem_replicate]; omega
  rw [h2]; rfl
/-- The car's list, and what has been looked at. -/
theorem forL_list {cs : List C4} {ps : List P3} {d : Nat} {x : C4} (hx : cs[d]? = some x) (h1 : x.ok = true) (h2 : placesB ps = true) : forL x ps = selK (adjC cs ps d) ps.length := by
  rw [forL_yes (by unfold forB; rw [h1, h2]; rfl)]
  exact selK_congr fun i _ => by simp only [adjC, hx]
theorem first_found {cs : List C4} {ps : List P3} {U G : List Int} {d j p : Nat} (hU : Used U G) (hj : (selK (adjC cs ps d) ps.length)[j]? = some (p : Int)) (hn : hasB U (p : Int) = false)
    (hb : ∀ (i : Nat) (z : Int), i < j → (selK (adjC cs ps d) ps.length)[i]? = some z → hasB U z = true) : firstP cs ps G d = some p := by
  obtain ⟨i0, he, hp, hf⟩ := mem_selK.1 (List.mem_of_getElem? hj)
  obtain rfl : p = i0 := by omega
  refine firstP_at hp (by rw [hf, ← hU p, hn]; rfl) fun q hq => ?_
  cases hfq : adjC cs ps d q
  · rfl
  · obtain ⟨i, hi⟩ := List.getElem?_of_mem (mem_selK.2 ⟨q, rfl, by omega, hfq⟩ : (q : Int) ∈ selK (adjC cs ps d) ps.length)
    by_cases hij : i < j
    · rw [← hU q, hb i q hij hi]; rfl
    · exfalso
      obtain ⟨h1, e1⟩ := List.getElem?_eq_some_iff.1 hi
      obtain ⟨h2, e2⟩ := List.getElem?_eq_some_iff.1 hj
      by_cases he2 : i = j
      · subst he2; rw [e1] at e2; omega
      · have := List.pairwise_iff_getElem.1 (selK_pw (adjC cs ps d) ps.length) j i h2 h1 (by omega)
        rw [e1, e2] at this; omega
theorem first_none {cs : List C4} {ps : List P3} {U G : List Int} {d : Nat} (hU : Used U G) (hb : ∀ (i : Nat) (z : Int), (selK (adjC cs ps d) ps.length)[i]? = some z → hasB U z = true) : firstP cs ps G d = none := by
  refine firstP_no fun q hq => ?_
  cases hfq : adjC cs ps d q
  · rfl
  · obtain ⟨i, hi⟩ := List.getElem?_of_mem (mem_selK.2 ⟨q, rfl, hq, hfq⟩ : (q : Int) ∈ selK (adjC cs ps d) ps.length)
    rw [← hU q, hb i q hi]; rfl
end Go.Proofs.YtmmaeninlhbaaaaDoor
