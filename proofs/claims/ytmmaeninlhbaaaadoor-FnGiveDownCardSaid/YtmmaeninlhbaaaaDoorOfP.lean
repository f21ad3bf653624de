/-
  PlacesOf in plain words. No program is in sight here.
-/
import Derived.Test.YtmmaeninlhbaaaaDoorGive
namespace Go.Proofs.YtmmaeninlhbaaaaDoor
open Go.ChangeShapes Go.WideShapes Go.ChangeAt Go.RowKit

def idxB (n : Nat) (z : Int) : Bool := decide (0 ≤ z) && decide (z < n)
def ofB (cs : List C4) (ps : List P3) (g : List Int) : Bool := carsB cs && placesB ps && g.all (idxB cs.length)
/-- Does the car with number z fit into place i? -/
def fitZ (cs : List C4) (ps : List P3) (i : Nat) (z : Int) : Bool := match cs[z.toNat]? with | some x => fitAt x ps i | none => false
def ofAt (cs : List C4) (ps : List P3) (g : List Int) (i : Nat) : Bool := g.any (fitZ cs ps i)
def ofL (cs : List C4) (ps : List P3) (g : List Int) : List Int := if ofB cs ps g then selK (ofAt cs ps g) ps.length else []
theorem ofL_no {cs : List C4} {ps : List P3} {g : List Int} (h : ofB cs ps g = false) : ofL cs ps g = [] := by simp [ofL, h]
theorem ofL_yes {cs : List C4} {ps : List P3} {g : List Int} (h : ofB cs ps g = true) : ofL cs ps g = selK (ofAt cs ps g) ps.length := by simp [ofL, h]
theorem ofB_cars {cs : List C4} {ps : List P3} {g : List Int} (h : carsB cs = false) : ofB cs ps g = false := by simp [ofB, h]
theorem ofB_places {cs : List C4} {ps : List P3} {g : List Int} (h : placesB ps = false) : ofB cs ps g = false := by simp [ofB, h]
theorem ofB_bad {cs : List C4} {ps : List P3} {g : List Int} {k n : Nat} {z : Int} (hn : cs.length = n) (hz : Hid (g[k]? = some z)) (h : idxB n z = false) : ofB cs ps g = false := by
  have : g.all (idxB cs.length) = false := by rw [List.all_eq_false]; exact ⟨z, List.mem_of_getElem? hz.out, by rw [hn, h]; simp⟩
  simp only [ofB, this, Bool.and_false]
theorem ofB_all {cs : List C4} {ps : List P3} {g : List Int} {n k l : Nat} (hc : carsB cs = true) (hp : placesB ps = true) (hn : cs.length = n) (hl : g.length = l) (hk : l ≤ k) (h : (g.take k).all (idxB n) = true) : ofB cs ps g = true := by
  rw [take_all hl hk] at h
  unfold ofB; rw [hc, hp, hn, h]; rfl
theorem all_next {g : List Int} {k : Nat} {z : Int} {f : Int → Bool} (hz : Hid (g[k]? = some z)) (h : (g.take k).all f = true) (hf : f z = true) : (g.take (k + 1)).all f = true := by
  rw [take_next hz, List.all_append, h]; simp [hf]
theorem any_next {g : List Int} {k : Nat} {z : Int} {f : Int → Bool} (hz : Hid (g[k]? = some z)) : (g.take (k + 1)).any f = ((g.take k).any f || f z) := by
  rw [take_next hz]; simp
theorem any_here {g : List Int} {k : Nat} {z : Int} {f : Int → Bool} (hz : Hid (g[k]? = some z)) (h : f z = true) : g.any f = true := by
  rw [List.any_eq_true]; exact ⟨z, List.mem_of_getElem? hz.out, h⟩
theorem ofB_get {cs : List C4} {ps : List P3} {g : List Int} {k n : Nat} {z : Int} (h : ofB cs ps g = true) (hn : cs.length = n) (hz : Hid (g[k]? = some z)) : ∃ q : Nat, z = q ∧ q < n := by
  simp only [ofB, Bool.and_eq_true, List.all_eq_true] at h
  have h1 := h.2 z (List.mem_of_getElem? hz.out)
  simp only [idxB, Bool.and_eq_true, decide_eq_true_eq] at h1
  exact ⟨z.toNat, by omega, by omega⟩
theorem fitZ_get {cs : List C4} {ps : List P3} {k q : Nat} {x : C4} {y : P3} (hx : Hid (cs[q]? = some x)) (hy : Hid (ps[k]? = some y)) : fitZ cs ps k (q : Int) = fitP x y := by
  have h1 := hx.out
  unfold fitZ
  rw [show ((q : Int)).toNat = q by omega, h1]
  exact fitAt_get hy
theorem ofL_short (cs : List C4) (ps : List P3) (g : List Int) : (ofL cs ps g).length ≤ 6 := by
  cases h : ofB cs ps g
  · rw [ofL_no h]; simp
  · rw [ofL_yes h]
    have h1 := selK_len (ofAt cs ps g) ps.length
    simp only [ofB, Bool.and_eq_true] at h
    have := placesB_len h.1.2; omega
end Go.Proofs.YtmmaeninlhbaaaaDoor
