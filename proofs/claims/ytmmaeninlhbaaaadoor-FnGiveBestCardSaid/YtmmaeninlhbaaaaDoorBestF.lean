/-
  Of the best list: no car without a place fits into one that nobody has, and an exchange of two places wastes no less. No program is in sight here.
-/
import Derived.Test.YtmmaeninlhbaaaaDoorHallP
namespace Go.Proofs.YtmmaeninlhbaaaaDoor
open Go.ChangeShapes Go.WideShapes Go.ChangeAt Go.RowKit

theorem best_free {cs : List C4} {ps : List P3} (h1 : carsB cs = true) (h2 : placesB ps = true) {a p : Nat} {z : Int} {x : C4} {y : P3} (hz : (bestAll cs ps)[a]? = some z) (h0 : z < 0) (hp : hasB (bestAll cs ps) (p : Int) = false)
    (hx : cs[a]? = some x) (hy : ps[p]? = some y) : fitP x y = false := by
  cases hf : fitP x y
  · rfl
  exfalso
  have hg := bestAll_giveB h1 h2
  obtain ⟨_, _, h3, _⟩ := giveB_parts hg
  have hV := gM_val hg
  have hal : a < cs.length := (List.getElem?_eq_some_iff.1 hx).1
  have hMa : gM (bestAll cs ps) a = z := by simp [gM, List.getD_eq_getElem?_getD, hz]
  have hM1 : gM (bestAll cs ps) a = -1 := by rcases hV.fit a hal with h | h <;> omega
  have hadj : adjC cs ps a p = true := by simp only [adjC, hx, fitAt, hy]; exact hf
  have hno : ∀ c, c < cs.length → c ≠ a → gM (bestAll cs ps) c ≠ p := fun c hc _ e => by
    rw [hasB_not] at hp
    have hcz : (bestAll cs ps)[c]? = some (bestAll cs ps)[c] := List.getElem?_eq_getElem (by omega)
    rw [gM, List.getD_eq_getElem?_getD, hcz] at e
    exact hp (List.mem_of_getElem? (i := c) (by rw [hcz]; simpa using e))
  have hm := bestAll_many (val_giveB h1 h2 (hV.give hadj hno))
  rw [manyL_cnt, manyL_cnt, h3] at hm
  simp only [List.length_map, List.length_range] at hm
  rw [gM_map, has_give hal hM1 (by omega)] at hm
  omega
theorem many_swap {xs : List Int} {a b : Nat} {za zb : Int} (ha : xs[a]? = some za) (hb : xs[b]? = some zb) : manyL ((xs.set a zb).set b za) = manyL xs := by
  obtain ⟨h1, e1⟩ := List.getElem?_eq_some_iff.1 ha
  obtain ⟨h2, e2⟩ := List.getElem?_eq_some_iff.1 hb
  subst e1; subst e2
  unfold manyL
  rw [((List.set_set_perm h1 h2).filter _).length_eq]
theorem best_swap {cs : List C4} {ps : List P3} {a b : Nat} {za zb : Int} (ha : (bestAll cs ps)[a]? = some za) (hb : (bestAll cs ps)[b]? = some zb) (h : giveB cs ps (((bestAll cs ps).set a zb).set b za) = true) :
    wasteL cs ps (bestAll cs ps) ≤ wasteL cs ps (((bestAll cs ps).set a zb).set b za) := bestAll_waste h (by rw [many_swap ha hb]; exact Int.le_refl _)
end Go.Proofs.YtmmaeninlhbaaaaDoor
